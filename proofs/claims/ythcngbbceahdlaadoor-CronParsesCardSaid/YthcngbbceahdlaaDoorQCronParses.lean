/- The row of the law CronParses: for every input that the row speaks of the law returns true; each argument reads behind the call as it read before. -/
import Derived.Test.YthcngbbceahdlaaDoorQCronParsesE
import Derived.Test.YthcngbbceahdlaaDoorQCronParsesB
import Derived.Lib.Bytealg
import Derived.Test.YthcngbbceahdlaaDoorQCronParsesC
import Derived.Below
import Derived.OwnWalk
import Derived.Orders
import Derived.WalkKit
import Derived.Laws.Slices
import Derived.LaidMore
import Derived.FnData
import Derived.Test.YthcngbbceahdlaaDoorRows
import Derived.Test.YthcngbbceahdlaaDoorTie
import Derived.Test.YthcngbbceahdlaaDoorCards
import Derived.ProofKit
import Derived.OpenShut
import Derived.ShutString
import Derived.ChangeOld
import Derived.SizedLaws
import Derived.SliceStrings
import Derived.Carry
import Derived.KernelRfl
import Derived.Stop.Joined
import Derived.SevenTiedAt
import Derived.Test.YthcngbbceahdlaaDoorWSized
section
/- Bits, whether a schedule fires, and the next tick. -/
namespace Go.Proofs.YthcngbbceahdlaaDoor.V.M
set_option linter.unusedVariables false
set_option linter.unusedSimpArgs false
open Go Go.RowKit
def bitB (b n : Int) : Bool := decide ((b / ((2 ^ n.toNat : Nat) : Int)) % 2 = 1)
theorem and_one (x : Nat) (h : x < 18446744073709551616) : (BitVec.ofInt 64 (x : Int) &&& BitVec.ofInt 64 1).toNat = x % 2 := by
  rw [BitVec.toNat_and, show BitVec.ofInt 64 (x : Int) = BitVec.ofNat 64 x from BitVec.ofInt_natCast .., BitVec.toNat_ofNat, show (BitVec.ofInt 64 1).toNat = 1 from rfl, Nat.and_one_is_mod, Nat.mod_eq_of_lt (a := x) (b := 2 ^ 64) h]
theorem set_ok (b n : Int) (hb : 0 ≤ b) (hb2 : b < 18446744073709551616) (h0 : 0 ≤ n) (h1 : n ≤ 63) : f_cron_set b n = some (bitB b n) := by
  obtain ⟨b, rfl⟩ := Int.eq_ofNat_of_zero_le hb
  obtain ⟨n, rfl⟩ := Int.eq_ofNat_of_zero_le h0
  unfold f_cron_set
  rw [gd_t _ h0]
  have e1 : min ((n : Nat) : Int).toNat IntKind.u64.bits = n := by show min ((n : Nat) : Int).toNat 64 = n; omega
  have e2 : ((b : Nat) : Int).fdiv (2 ^ n) = ((b / 2 ^ n : Nat) : Int) := by
    rw [show ((2 : Int) ^ n) = ((2 ^ n : Nat) : Int) by rw [Int.natCast_pow]; rfl, Int.fdiv_eq_ediv_of_nonneg _ (Int.natCast_nonneg _)]; rfl
  have e3 : b / 2 ^ n < 18446744073709551616 := Nat.lt_of_le_of_lt (Nat.div_le_self _ _) (by omega)
  rw [e1, e2]
  show some (IntKind.u64.wrap (((BitVec.ofInt 64 ((b / 2 ^ n : Nat) : Int) &&& BitVec.ofInt 64 1).toNat : Nat) : Int) == 1) = _
  rw [and_one _ e3, w_u64 (by omega) (by omega)]
  unfold bitB
  congr 1

theorem rset5_ok (n : Int) : ∀ (k : Nat) (m : Nat) (b i : Int), i + k = n → k < m → 0 ≤ b → b < 18446744073709551616 → 0 ≤ i → n ≤ 1000 → f_ref08_set_l5 n m b i = some (b / ((2 ^ k : Nat) : Int), n)
  | k, 0, b, i, h0, h1, h2, h3, h4, h5 => by omega
  | 0, m + 1, b, i, h0, h1, h2, h3, h4, h5 => by
    rw [f_ref08_set_l5, if_neg (by simp; omega)]
    have : i = n := by omega
    subst this
    simp
  | k + 1, m + 1, b, i, h0, h1, h2, h3, h4, h5 => by
    have hd : b.tdiv 2 = b / 2 := Int.tdiv_eq_ediv_of_nonneg h2
    rw [f_ref08_set_l5, if_pos (by simp; omega), hd, w_u64 (by omega) (by omega), w_i64 (by omega) (by omega), rset5_ok n k m (b / 2) (i + 1) (by omega) (by omega) (by omega) (by omega) (by omega) h5]
    congr 2
    obtain ⟨b, rfl⟩ := Int.eq_ofNat_of_zero_le h2
    have : b / 2 / 2 ^ k = b / 2 ^ (k + 1) := by rw [Nat.div_div_eq_div_mul, Nat.pow_succ, Nat.mul_comm]
    exact congrArg Int.ofNat this
theorem rset_ok (b n : Int) (hb : 0 ≤ b) (hb2 : b < 18446744073709551616) (h0 : 0 ≤ n) (h1 : n ≤ 63) : f_ref08_set b n = some (bitB b n) := by
  unfold f_ref08_set
  rw [rset5_ok n n.toNat _ b 0 (by omega) (by omega) hb hb2 (by omega) (by omega), Option.bind_some]
  have hq : 0 ≤ b / ((2 ^ n.toNat : Nat) : Int) := Int.ediv_nonneg hb (Int.natCast_nonneg _)
  rw [show ((b / ((2 ^ n.toNat : Nat) : Int), n).fst).tmod 2 = b / ((2 ^ n.toNat : Nat) : Int) % 2 from Int.tmod_eq_emod_of_nonneg hq]
  unfold bitB
  rfl
def CW (c : api_Cron) : Prop := (0 ≤ c.Minutes ∧ c.Minutes < 18446744073709551616) ∧ (0 ≤ c.Hours ∧ c.Hours < 18446744073709551616) ∧ (0 ≤ c.Days ∧ c.Days < 18446744073709551616) ∧ (0 ≤ c.Months ∧ c.Months < 18446744073709551616) ∧ (0 ≤ c.Week ∧ c.Week < 18446744073709551616)
def CkOk (t : api_Clock) : Prop := (0 ≤ t.Minute ∧ t.Minute ≤ 59) ∧ (0 ≤ t.Hour ∧ t.Hour ≤ 23) ∧ (1 ≤ t.Day ∧ t.Day ≤ 31) ∧ (1 ≤ t.Month ∧ t.Month ≤ 12) ∧ (0 ≤ t.Week ∧ t.Week ≤ 6)
def clk (t : Int) : api_Clock := match f_cron_At t with | some r => r.1 | none => ⟨0, 0, 0, 0, 0, 0⟩
theorem clk_at (t : Int) (h0 : 0 ≤ t) (h1 : t ≤ 1099511627776) : f_cron_At t = some (clk t, 0) ∧ CkOk (clk t) := by
  obtain ⟨D, q, Y, e, k1, k2, k3, k4, k5, k6⟩ := At_ok t h0 h1
  have hb := dOf_b ((q : Int) + 1) Y
  unfold clk
  rw [e]
  refine ⟨rfl, ?_, ?_, ?_, ?_, ?_⟩ <;> dsimp only <;> omega
def firesB (c : api_Cron) (t : api_Clock) : Bool :=
  bitB c.Minutes t.Minute && bitB c.Hours t.Hour && bitB c.Months t.Month && (if c.AnyDay && c.AnyWeek then true else if c.AnyDay then bitB c.Week t.Week else if c.AnyWeek then bitB c.Days t.Day else bitB c.Days t.Day || bitB c.Week t.Week)
def firesT (c : api_Cron) (t : Int) : Bool := firesB c (clk t)
theorem Fires_ok (c : api_Cron) (hc : CW c) (t : Int) (h0 : 0 ≤ t) (h1 : t ≤ 1099511627776) : f_cron_Fires c t = some (firesT c t) := by
  obtain ⟨e, q1, q2, q3, q4, q5⟩ := clk_at t h0 h1
  obtain ⟨c1, c2, c3, c4, c5⟩ := hc
  unfold f_cron_Fires firesT firesB
  rw [e, Option.bind_some]
  dsimp only
  rw [set_ok _ _ c1.1 c1.2 (by omega) (by omega), set_ok _ _ c2.1 c2.2 (by omega) (by omega), set_ok _ _ c3.1 c3.2 (by omega) (by omega), set_ok _ _ c4.1 c4.2 (by omega) (by omega), set_ok _ _ c5.1 c5.2 (by omega) (by omega)]
  generalize bitB c.Minutes (clk t).Minute = a
  generalize bitB c.Hours (clk t).Hour = b
  generalize bitB c.Months (clk t).Month = d
  generalize bitB c.Days (clk t).Day = u
  generalize bitB c.Week (clk t).Week = v
  generalize c.AnyDay = x
  generalize c.AnyWeek = y
  cases a <;> cases b <;> cases d <;> cases u <;> cases v <;> cases x <;> cases y <;> rfl
theorem Fires_bad (c : api_Cron) (t : Int) (h : t < 0 ∨ 1099511627776 < t) : f_cron_Fires c t = some false := by
  unfold f_cron_Fires
  rw [At_bad t h]
  rfl
theorem rFires_ok (c : api_Cron) (hc : CW c) (t : api_Clock) (ht : CkOk t) : f_ref08_Fires c t = some (firesB c t) := by
  obtain ⟨q1, q2, q3, q4, q5⟩ := ht
  obtain ⟨c1, c2, c3, c4, c5⟩ := hc
  unfold f_ref08_Fires firesB
  rw [rset_ok _ _ c1.1 c1.2 (by omega) (by omega), rset_ok _ _ c2.1 c2.2 (by omega) (by omega), rset_ok _ _ c3.1 c3.2 (by omega) (by omega), rset_ok _ _ c4.1 c4.2 (by omega) (by omega), rset_ok _ _ c5.1 c5.2 (by omega) (by omega)]
  generalize bitB c.Minutes t.Minute = a
  generalize bitB c.Hours t.Hour = b
  generalize bitB c.Months t.Month = d
  generalize bitB c.Days t.Day = u
  generalize bitB c.Week t.Week = v
  generalize c.AnyDay = x
  generalize c.AnyWeek = y
  cases a <;> cases b <;> cases d <;> cases u <;> cases v <;> cases x <;> cases y <;> rfl
/-- What Next tells. -/
def NextR (c : api_Cron) (tick most : Int) (r : Int × Int) : Prop :=
  (r.2 = 0 ∧ tick < r.1 ∧ r.1 ≤ tick + most ∧ r.1 ≤ 1099511627776 ∧ firesT c r.1 = true ∧ ∀ j, tick < j → j < r.1 → firesT c j = false) ∨
  (r = (0, 9) ∧ ∀ j, tick < j → j ≤ tick + most → j ≤ 1099511627776 → firesT c j = false)
theorem next8_ok (c : api_Cron) (hc : CW c) (tick most : Int) (h0 : 0 ≤ tick) (h1 : tick ≤ 1099511627776) (h2 : 0 ≤ most) (h3 : most ≤ 100000) : ∀ (m : Nat) (t : Int), tick < t → tick + most + 1 - t < m → t ≤ tick + most + 1 → (∀ j, tick < j → j < t → firesT c j = false) →
    ∃ s, f_cron_Next_l8 c tick most m t = some s ∧ NextR c tick most (match s with | .inr z => z | .inl _ => (0, 9))
  | 0, t, k0, k1, k2, k3 => by omega
  | m + 1, t, k0, k1, k2, k3 => by
    rw [f_cron_Next_l8, w_i64 (by omega) (by omega)]
    by_cases hh : t ≤ tick + most ∧ t ≤ 1099511627776
    · rw [if_pos (by simpa using hh), Fires_ok c hc t (by omega) hh.2, Option.bind_some]
      cases hf : firesT c t with
      | true =>
        rw [if_pos rfl]
        exact ⟨_, rfl, .inl ⟨rfl, k0, hh.1, hh.2, hf, k3⟩⟩
      | false =>
        rw [if_neg (by decide), w_i64 (by omega) (by omega)]
        exact next8_ok c hc tick most h0 h1 h2 h3 m (t + 1) (by omega) (by omega) (by omega) fun j j0 j1 => by
          by_cases hj : j = t
          · rw [hj]; exact hf
          · exact k3 j j0 (by omega)
    · rw [if_neg (by simpa using hh)]
      exact ⟨_, rfl, .inr ⟨rfl, fun j j0 j1 j2 => k3 j j0 (by omega)⟩⟩
theorem next_ok (c : api_Cron) (hc : CW c) (tick most : Int) (h0 : 0 ≤ tick) (h1 : tick ≤ 1099511627776) (h2 : 0 ≤ most) (h3 : most ≤ 100000) : ∃ r, f_cron_Next c tick most = some r ∧ NextR c tick most r := by
  unfold f_cron_Next
  rw [if_neg (by simp; omega), w_i64 (n := tick + most) (by omega) (by omega), w_i64 (n := tick + 1) (by omega) (by omega)]
  obtain ⟨s, e, hs⟩ := next8_ok c hc tick most h0 h1 h2 h3 ((tick + most - (tick + 1)).toNat + 2) (tick + 1) (by omega) (by omega) (by omega) fun j j0 j1 => by omega
  rw [e, Option.bind_some]
  cases s with
  | inl z => exact ⟨_, rfl, hs⟩
  | inr z => exact ⟨_, rfl, hs⟩
theorem next_bad (c : api_Cron) (tick most : Int) (h : tick < 0 ∨ 1099511627776 < tick ∨ most < 0 ∨ 100000 < most) : f_cron_Next c tick most = some (0, 1) := by
  unfold f_cron_Next
  rw [if_pos (by simp; omega)]
end Go.Proofs.YthcngbbceahdlaaDoor.V.M
end

section
/- CronTimes, CronFires, CronNext. -/
namespace Go.Proofs.YthcngbbceahdlaaDoor.V.M
set_option linter.unusedVariables false
set_option linter.unusedSimpArgs false
open Go Go.RowKit
theorem tm_b (a k : Int) (hk : 0 < k) : -k < a.tmod k ∧ a.tmod k < k := by
  rcases (by omega : a < 0 ∨ 0 ≤ a) with h | h
  · have e : a.tmod k = -((-a) % k) := by
      rw [← Int.tmod_eq_emod_of_nonneg (by omega : 0 ≤ -a), Int.neg_tmod]; omega
    have h1 := Int.emod_nonneg (-a) (by omega : k ≠ 0)
    have h2 := Int.emod_lt_of_pos (-a) hk
    omega
  · rw [Int.tmod_eq_emod_of_nonneg h]
    have h1 := Int.emod_nonneg a (by omega : k ≠ 0)
    have h2 := Int.emod_lt_of_pos a hk
    omega
/-- Go's way to a number of 0 to k - 1. -/
theorem tm_up (a k : Int) (hk : 0 < k) (hk2 : k ≤ 1000000000) : IntKind.i64.wrap (a.tmod k + k) = a.tmod k + k ∧ 0 ≤ (a.tmod k + k).tmod k ∧ (a.tmod k + k).tmod k < k := by
  have h := tm_b a k hk
  refine ⟨w_i64 (by omega) (by omega), ?_⟩
  rw [Int.tmod_eq_emod_of_nonneg (by omega)]
  exact ⟨Int.emod_nonneg _ (by omega), Int.emod_lt_of_pos _ hk⟩
theorem rDays_ok (q : Nat) (hq : q < 12) (y : Int) : f_ref08_Days ((q : Int) + 1) y = some (dOf ((q : Int) + 1) y) := by
  have hl : f_ref08_Long y = some (lpB y) := by
    unfold f_ref08_Long lpB
    congr 1
    cases h4 : (y.tmod 4 == 0) with
    | true => simp
    | false =>
      cases h400 : (y.tmod 400 == 0) with
      | false => simp
      | true =>
        exfalso
        have a : y.tmod 400 = 0 := by simpa using h400
        have b : y.tmod 4 ≠ 0 := by simpa using h4
        obtain ⟨z, hz⟩ := Int.dvd_of_tmod_eq_zero a
        exact b (Int.tmod_eq_zero_of_dvd ⟨100 * z, by omega⟩)
  unfold f_ref08_Days
  rw [w_i64 (by omega) (by omega), hl, show (q : Int) + 1 - 1 = q by omega, ix_nat]
  match q, hq with
  | 0, _ => rfl
  | 1, _ => cases h : lpB y <;> simp [dOf, h, gx]
  | 2, _ => rfl
  | 3, _ => rfl
  | 4, _ => rfl
  | 5, _ => rfl
  | 6, _ => rfl
  | 7, _ => rfl
  | 8, _ => rfl
  | 9, _ => rfl
  | 10, _ => rfl
  | 11, _ => rfl
theorem tick8_ok (c : api_Clock) (q : Nat) (hq : q < 12) (hm : c.Month = (q : Int) + 1) : ∀ (j k m : Nat) (n : Int), k + j = q → j < m → -1000000000000 < n → n < 1000000000000 + 40 * (k : Int) → f_ref08_Tick_l8 c m n ((k : Int) + 1) = some (n + cumD c.Year q - cumD c.Year k, (q : Int) + 1)
  | j, k, 0, n, h0, h1, h2, h3 => by omega
  | 0, k, m + 1, n, h0, h1, h2, h3 => by
    have : k = q := by omega
    subst this
    rw [f_ref08_Tick_l8, if_neg (by simp; omega), show n + cumD c.Year k - cumD c.Year k = n by omega]
  | j + 1, k, m + 1, n, h0, h1, h2, h3 => by
    have hb := dOf_b ((k : Int) + 1) c.Year
    rw [f_ref08_Tick_l8, if_pos (by simp; omega), rDays_ok k (by omega), Option.bind_some, w_i64 (n := n + dOf ((k : Int) + 1) c.Year) (by omega) (by omega), w_i64 (by omega) (by omega)]
    have hc : cumD c.Year (k + 1) = cumD c.Year k + dOf ((k : Int) + 1) c.Year := rfl
    have := tick8_ok c q hq hm j (k + 1) m (n + dOf ((k : Int) + 1) c.Year) (by omega) (by omega) (by omega) (by omega)
    rw [show (((k + 1 : Nat) : Int) + 1) = (k : Int) + 1 + 1 by omega] at this
    rw [this]
    congr 2
    omega
theorem cumD_b (y : Int) : ∀ q : Nat, 0 ≤ cumD y q ∧ cumD y q ≤ 31 * (q : Int)
  | 0 => by simp [cumD]
  | q + 1 => by
    have := cumD_b y q
    have hb := dOf_b ((q : Int) + 1) y
    show 0 ≤ cumD y q + dOf ((q : Int) + 1) y ∧ cumD y q + dOf ((q : Int) + 1) y ≤ _
    omega
theorem Tick_ok (c : api_Clock) (q : Nat) (hq : q < 12) (hm : c.Month = (q : Int) + 1) (hy : 1970 ≤ c.Year) (hy2 : c.Year ≤ 3000000) (hd : 1 ≤ c.Day ∧ c.Day ≤ 31) (hh : 0 ≤ c.Hour ∧ c.Hour ≤ 23) (hi : 0 ≤ c.Minute ∧ c.Minute ≤ 59) :
    f_ref08_Tick c = some (1440 * (dB c.Year - 719527 + cumD c.Year q + c.Day - 1) + 60 * c.Hour + c.Minute) := by
  have hc := cumD_b c.Year q
  unfold f_ref08_Tick
  have e1 : (c.Year - 1).tdiv 4 = (c.Year - 1) / 4 := Int.tdiv_eq_ediv_of_nonneg (by omega)
  have e2 : (c.Year - 1).tdiv 100 = (c.Year - 1) / 100 := Int.tdiv_eq_ediv_of_nonneg (by omega)
  have e3 : (c.Year - 1).tdiv 400 = (c.Year - 1) / 400 := Int.tdiv_eq_ediv_of_nonneg (by omega)
  rw [w_i64 (n := c.Year - 1) (by omega) (by omega), e1, e2, e3, w_i64 (n := 365 * c.Year) (by omega) (by omega), w_i64 (n := (c.Year - 1) / 4) (by omega) (by omega), w_i64 (n := (c.Year - 1) / 100) (by omega) (by omega), w_i64 (n := (c.Year - 1) / 400) (by omega) (by omega), w_i64 (n := 365 * c.Year + (c.Year - 1) / 4) (by omega) (by omega), w_i64 (n := 365 * c.Year + (c.Year - 1) / 4 - (c.Year - 1) / 100) (by omega) (by omega), w_i64 (n := 365 * c.Year + (c.Year - 1) / 4 - (c.Year - 1) / 100 + (c.Year - 1) / 400) (by omega) (by omega), Option.bind_some]
  show Option.bind (f_ref08_Tick_l8 c _ (IntKind.i64.wrap (dB c.Year - 719527)) 1) _ = _
  have hdB : 719527 ≤ dB c.Year ∧ dB c.Year ≤ 1100000000 := by unfold dB; omega
  have h8 : f_ref08_Tick_l8 c ((c.Month - 1).toNat + 1) (dB c.Year - 719527) 1 = some (dB c.Year - 719527 + cumD c.Year q - 0, (q : Int) + 1) := tick8_ok c q hq hm q 0 _ (dB c.Year - 719527) (by omega) (by omega) (by omega) (by omega)
  rw [w_i64 (n := dB c.Year - 719527) (by omega) (by omega), h8, Option.bind_some]
  dsimp only
  generalize dB c.Year = u at *
  generalize cumD c.Year q = v at *
  rw [w_i64 (n := u - 719527 + v - 0 + c.Day) (by omega) (by omega), w_i64 (n := u - 719527 + v - 0 + c.Day - 1) (by omega) (by omega), w_i64 (n := 1440 * (u - 719527 + v - 0 + c.Day - 1)) (by omega) (by omega), w_i64 (n := 60 * c.Hour) (by omega) (by omega), w_i64 (n := 1440 * (u - 719527 + v - 0 + c.Day - 1) + 60 * c.Hour) (by omega) (by omega), w_i64 (by omega) (by omega)]
  congr 1
  omega
theorem cronTimes_true (tick : Int) (hw : (Lit.int .i64 tick).wf = true) : f_law08_CronTimes tick = some true := by
  unfold f_law08_CronTimes
  by_cases h : tick < 0 ∨ tick > 1099511627776
  · rw [At_bad tick (by omega), Option.bind_some, if_pos (by simpa using h), alive08]
    rfl
  · obtain ⟨D, q, Y, e, k1, k2, k3, k4, k5, k6⟩ := At_ok tick (by omega) (by omega)
    have hb := dOf_b ((q : Int) + 1) Y
    have e1 : tick.tdiv 1440 = tick / 1440 := Int.tdiv_eq_ediv_of_nonneg (by omega)
    have e7 : (tick / 1440 + 4).tmod 7 = (tick / 1440 + 4) % 7 := Int.tmod_eq_emod_of_nonneg (by omega)
    have ht := Tick_ok ⟨tick % 60, tick % 1440 / 60, D, (q : Int) + 1, Y, (tick / 1440 + 4) % 7⟩ q k1 rfl k4 k5 ⟨k2, by dsimp only; omega⟩ ⟨by dsimp only; omega, by dsimp only; omega⟩ ⟨by dsimp only; omega, by dsimp only; omega⟩
    rw [e, Option.bind_some, if_neg (by simpa using h), alive08, ht]
    dsimp only
    rw [rDays_ok q k1, e1, w_i64 (n := tick / 1440) (by omega) (by omega), w_i64 (n := tick / 1440 + 4) (by omega) (by omega), e7]
    have g : ((((((((((((0 : Int) != 0) || (decide (tick % 60 < 0))) || (decide (tick % 60 > 59))) || (decide (tick % 1440 / 60 < 0))) || (decide (tick % 1440 / 60 > 23))) || (decide ((q : Int) + 1 < 1))) || (decide ((q : Int) + 1 > 12))) || (decide (Y < 1970))) || (decide (Y > 3000000))) || (decide (D < 1)))) = false := by
      simp; omega
    rw [g]
    simp only [gx, Bool.not_false, if_true, Option.bind_some, Bool.false_or]
    rw [if_neg (by simp; omega)]
    have h2 : 1440 * (dB Y - 719527 + cumD Y q + D - 1) + 60 * (tick % 1440 / 60) + tick % 60 = tick := by omega
    rw [h2]
    simp
theorem cronFires_loop (c : api_Cron) (hc : CW c) (tick most : Int) (h0 : 0 ≤ tick) (h1 : tick ≤ 1099511627776) (h2 : 0 ≤ most) (h3 : most ≤ 400) (r : Int × Int) (hr : NextR c tick most r) : ∀ (m : Nat) (t : Int), tick < t → tick + most + 1 - t < m → t ≤ tick + most + 1 → (∀ j, tick < j → j < t → firesT c j = false) →
    f_law08_CronFires_l17 c tick most r m t = some (.inr true) ∨ ∃ x, f_law08_CronFires_l17 c tick most r m t = some (.inl x) ∧ r = (0, 9)
  | 0, t, k0, k1, k2, k3 => by omega
  | m + 1, t, k0, k1, k2, k3 => by
    rw [f_law08_CronFires_l17, w_i64 (by omega) (by omega)]
    by_cases hh : t ≤ tick + most ∧ t ≤ 1099511627776
    · obtain ⟨e, hk⟩ := clk_at t (by omega) hh.2
      rw [if_pos (by simpa using hh), e, Option.bind_some]
      dsimp only
      rw [if_neg (by decide), rFires_ok c hc _ hk, Option.bind_some]
      cases hf : firesB c (clk t) with
      | true =>
        rw [if_pos rfl]
        refine .inl ?_
        rcases hr with ⟨r1, r2, r3, r4, r5, r6⟩ | ⟨rfl, r1⟩
        · have : r.1 = t := by
            rcases Int.lt_trichotomy r.1 t with h | h | h
            · have := k3 r.1 r2 h
              rw [r5] at this; cases this
            · exact h
            · have := r6 t k0 h
              have hf' : firesT c t = true := hf
              rw [hf'] at this; cases this
          rw [this, r1]; simp
        · have := r1 t k0 hh.1 hh.2
          have hf' : firesT c t = true := hf
          rw [hf'] at this; cases this
      | false =>
        rw [if_neg (by decide), w_i64 (by omega) (by omega)]
        exact cronFires_loop c hc tick most h0 h1 h2 h3 r hr m (t + 1) (by omega) (by omega) (by omega) fun j j0 j1 => by
          by_cases hj : j = t
          · rw [hj]; exact hf
          · exact k3 j j0 (by omega)
    · rw [if_neg (by simpa using hh)]
      refine .inr ⟨_, rfl, ?_⟩
      rcases hr with ⟨r1, r2, r3, r4, r5, r6⟩ | ⟨hr, r1⟩
      · have := k3 r.1 r2 (by omega)
        rw [r5] at this; cases this
      · exact hr
theorem cronFires_true (c : api_Cron) (tick most : Int) (hc : CW c) (hw : (Lit.int .i64 tick).wf = true) (hw2 : (Lit.int .i64 most).wf = true) : f_law08_CronFires c tick most = some true := by
  unfold f_law08_CronFires
  by_cases h : tick < 0 ∨ tick > 1099511627776
  · rw [At_bad tick (by omega), Option.bind_some, next_bad c tick most (by omega), Option.bind_some, Fires_bad c tick (by omega), Option.bind_some, alive08]
    rfl
  · obtain ⟨e, hk⟩ := clk_at tick (by omega) (by omega)
    rw [e, Option.bind_some]
    by_cases hm : most < 0 ∨ most > 100000
    · rw [next_bad c tick most (by omega), Option.bind_some, Fires_ok c hc tick (by omega) (by omega), Option.bind_some, rFires_ok c hc _ hk, alive08]
      show Option.bind (gx true (some (firesB c (clk tick))) default) _ = _
      simp only [gx, if_true, Option.bind_some]
      have hh : (!(firesT c tick == ((((0 : Int) == 0)) && firesB c (clk tick)))) = false := by
        unfold firesT; cases firesB c (clk tick) <;> rfl
      rw [hh]
      simp only [Bool.not_false, if_true, Option.bind_some]
      rw [if_neg (by decide), if_pos (by simp; omega)]
      rfl
    · obtain ⟨r, hr, hR⟩ := next_ok c hc tick most (by omega) (by omega) (by omega) (by omega)
      rw [hr, Option.bind_some, Fires_ok c hc tick (by omega) (by omega), Option.bind_some, rFires_ok c hc _ hk, alive08]
      show Option.bind (gx true (some (firesB c (clk tick))) default) _ = _
      simp only [gx, if_true, Option.bind_some]
      have hh : (!(firesT c tick == ((((0 : Int) == 0)) && firesB c (clk tick)))) = false := by
        unfold firesT; cases firesB c (clk tick) <;> rfl
      rw [hh]
      simp only [Bool.not_false, if_true, Option.bind_some]
      rw [if_neg (by decide), if_neg (by simp; omega), w_i64 (n := tick + most) (by omega) (by omega)]
      by_cases h4 : most > 400
      · rw [if_pos (by simpa using h4)]
        rcases hR with ⟨r1, r2, r3, r4, r5, r6⟩ | ⟨rfl, r1⟩
        · rw [r1]; simp [r2, r3]
        · simp
      · rw [if_neg (by simpa using h4), w_i64 (n := tick + 1) (by omega) (by omega)]
        rcases cronFires_loop c hc tick most (by omega) (by omega) (by omega) (by omega) r hR ((tick + most - (tick + 1)).toNat + 2) (tick + 1) (by omega) (by omega) (by omega) (fun j j0 j1 => by omega) with h5 | ⟨x, h5, rfl⟩
        · rw [h5, Option.bind_some]
        · rw [h5, Option.bind_some]; rfl
theorem cronNext_loop (c : api_Cron) (hc : CW c) (tick most : Int) (h0 : 0 ≤ tick) (r : Int × Int) (r4 : r.1 ≤ 1099511627776) (r6 : ∀ j, tick < j → j < r.1 → firesT c j = false) : ∀ (m : Nat) (t : Int), tick < t → r.1 - t < m → t ≤ r.1 → ∃ x, f_law08_CronNext_l10 c tick most r m t = some (.inl x)
  | 0, t, k0, k1, k2 => by omega
  | m + 1, t, k0, k1, k2 => by
    rw [f_law08_CronNext_l10]
    by_cases hh : t < r.1
    · rw [if_pos (by simpa using hh), Fires_ok c hc t (by omega) (by omega), Option.bind_some, r6 t k0 hh, if_neg (by decide), w_i64 (by omega) (by omega)]
      exact cronNext_loop c hc tick most h0 r r4 r6 m (t + 1) (by omega) (by omega) (by omega)
    · rw [if_neg (by simpa using hh)]
      exact ⟨_, rfl⟩
theorem cronNext_true (c : api_Cron) (tick most : Int) (hc : CW c) (hw : (Lit.int .i64 tick).wf = true) (hw2 : (Lit.int .i64 most).wf = true) : f_law08_CronNext c tick most = some true := by
  unfold f_law08_CronNext
  have b2 := bounds_i64 hw2
  have b1 := bounds_i64 hw
  obtain ⟨e1, e2⟩ := tm_up most 300 (by omega) (by omega)
  rw [e1]
  generalize (most.tmod 300 + 300).tmod 300 = M at e2 ⊢
  by_cases h : tick < 0 ∨ tick > 1099511627776
  · rw [next_bad c tick M (by omega), Option.bind_some, alive08]
    rfl
  · obtain ⟨r, hr, hR⟩ := next_ok c hc tick M (by omega) (by omega) (by omega) (by omega)
    rw [hr, Option.bind_some]
    rcases hR with ⟨r1, r2, r3, r4, r5, r6⟩ | ⟨rfl, r1⟩
    · obtain ⟨x, hx⟩ := cronNext_loop c hc tick most (by omega) r r4 r6 ((r.1 - (tick + 1)).toNat + 1) (tick + 1) (by omega) (by omega) (by omega)
      rw [r1, if_neg (by decide), w_i64 (n := tick + 1) (by omega) (by omega), hx, Option.bind_some, w_i64 (n := r.1 - 1) (by omega) (by omega), w_i64 (n := tick + M) (by omega) (by omega)]
      obtain ⟨q, hq, hQ⟩ := next_ok c hc (r.1 - 1) 1 (by omega) (by omega) (by omega) (by omega)
      have hq2 : q = (r.1, 0) := by
        rcases hQ with ⟨q1, q2, q3, q4, q5, q6⟩ | ⟨rfl, q1⟩
        · exact Prod.ext (by show q.1 = r.1; omega) q1
        · have := q1 r.1 (by omega) (by omega) r4
          rw [r5] at this; cases this
      dsimp only
      rw [hq, Option.bind_some, alive08, Option.bind_some, Fires_ok c hc r.1 (by omega) r4, r5, hq2]
      have g : ((true && (decide (r.1 > tick))) && (decide (r.1 ≤ tick + M))) = true := by simp [r2, r3]
      rw [g]
      simp [gx]
    · rw [if_pos (by decide), alive08]
      rfl
end Go.Proofs.YthcngbbceahdlaaDoor.V.M
end

section
/- CronEvery, CronDays. -/
namespace Go.Proofs.YthcngbbceahdlaaDoor.V.M
set_option linter.unusedVariables false
set_option linter.unusedSimpArgs false
open Go Go.RowKit
def cAll : api_Cron := ⟨1152921504606846975, 16777215, 4294967294, 8190, 127, true, true⟩
def cMin (k : Nat) : api_Cron := ⟨((2 ^ k : Nat) : Int), 16777215, 4294967294, 8190, 127, true, true⟩
def cDay (k : Nat) : api_Cron := ⟨1152921504606846975, 16777215, 4294967294, 8190, ((2 ^ k : Nat) : Int), true, false⟩
theorem parse_all : f_cron_Parse ([42, 32, 42, 32, 42, 32, 42, 32, 42] : Str) = some (cAll, 0) := by kernel_rfl
def mIx (m : Int) : Int := (if 1 < (if (IntKind.i64.wrap (10 - m)) < 0 then 0 else (IntKind.i64.wrap (10 - m))) then 1 else (if (IntKind.i64.wrap (10 - m)) < 0 then 0 else (IntKind.i64.wrap (10 - m))))
def mTx (m : Int) : Str := cut (([(IntKind.u8.wrap (IntKind.i64.wrap (48 + (IntKind.i64.wrap (m.tdiv 10))))), (IntKind.u8.wrap (IntKind.i64.wrap (48 + (m.tmod 10))))] : List Int).map nb) (mIx m) 2
theorem parse_min (k : Nat) (h : k < 60) : (0 ≤ mIx (k : Int) ∧ mIx (k : Int) ≤ 2) ∧ (mTx (k : Int)).length + 8 ≤ 9223372036854775807 ∧ f_cron_Parse (mTx (k : Int) ++ ([32, 42, 32, 42, 32, 42, 32, 42] : Str)) = some (cMin k, 0) := by
  have h1 : (List.range 60).all (fun k => decide ((0 ≤ mIx (k : Int) ∧ mIx (k : Int) ≤ 2) ∧ (mTx (k : Int)).length + 8 ≤ 9223372036854775807 ∧ f_cron_Parse (mTx (k : Int) ++ ([32, 42, 32, 42, 32, 42, 32, 42] : Str)) = some (cMin k, 0))) = true := by kernel_rfl
  exact of_decide_eq_true (List.all_eq_true.1 h1 k (List.mem_range.2 h))
theorem parse_day (k : Nat) (h : k < 7) : f_cron_Parse (([42, 32, 42, 32, 42, 32, 42, 32] : Str) ++ (([(IntKind.u8.wrap (IntKind.i64.wrap (48 + (k : Int))))] : List Int).map nb)) = some (cDay k, 0) := by
  have h1 : (List.range 7).all (fun k => decide (f_cron_Parse (([42, 32, 42, 32, 42, 32, 42, 32] : Str) ++ (([(IntKind.u8.wrap (IntKind.i64.wrap (48 + (k : Int))))] : List Int).map nb)) = some (cDay k, 0))) = true := by kernel_rfl
  exact of_decide_eq_true (List.all_eq_true.1 h1 k (List.mem_range.2 h))
theorem bit_one (k j : Nat) (hk : k < 60) (hj : j < 60) : bitB ((2 ^ k : Nat) : Int) (j : Int) = decide (j = k) := by
  have h1 : (List.range 60).all (fun k => (List.range 60).all fun j => bitB ((2 ^ k : Nat) : Int) (j : Int) == decide (j = k)) = true := by kernel_rfl
  exact beq_iff_eq.1 (List.all_eq_true.1 (List.all_eq_true.1 h1 k (List.mem_range.2 hk)) j (List.mem_range.2 hj))
theorem bit_min (j : Nat) (hj : j < 60) : bitB 1152921504606846975 (j : Int) = true := by
  have h1 : (List.range 60).all (fun j => bitB 1152921504606846975 (j : Int)) = true := by kernel_rfl
  exact List.all_eq_true.1 h1 j (List.mem_range.2 hj)
theorem bit_hour (j : Nat) (hj : j < 24) : bitB 16777215 (j : Int) = true := by
  have h1 : (List.range 24).all (fun j => bitB 16777215 (j : Int)) = true := by kernel_rfl
  exact List.all_eq_true.1 h1 j (List.mem_range.2 hj)
theorem bit_month (j : Nat) (hj : j < 12) : bitB 8190 ((j : Int) + 1) = true := by
  have h1 : (List.range 12).all (fun j => bitB 8190 ((j : Int) + 1)) = true := by kernel_rfl
  exact List.all_eq_true.1 h1 j (List.mem_range.2 hj)
theorem clk_is (t : Int) (h0 : 0 ≤ t) (h1 : t ≤ 1099511627776) : ∃ (D : Int) (q : Nat) (Y : Int), clk t = ⟨t % 60, t % 1440 / 60, D, (q : Int) + 1, Y, (t / 1440 + 4) % 7⟩ ∧
    q < 12 ∧ 1 ≤ D ∧ D ≤ dOf ((q : Int) + 1) Y ∧ 1970 ≤ Y ∧ Y ≤ 3000000 ∧ t / 1440 + 719527 = dB Y + cumD Y q + D - 1 := by
  obtain ⟨D, q, Y, e, k⟩ := At_ok t h0 h1
  refine ⟨D, q, Y, ?_, k⟩
  unfold clk
  rw [e]
theorem fires_all (t : Int) (h0 : 0 ≤ t) (h1 : t ≤ 1099511627776) : firesT cAll t = true := by
  obtain ⟨D, q, Y, e, k1, k⟩ := clk_is t h0 h1
  obtain ⟨a, ha⟩ := Int.eq_ofNat_of_zero_le (by omega : 0 ≤ t % 60)
  obtain ⟨b, hb⟩ := Int.eq_ofNat_of_zero_le (by omega : 0 ≤ t % 1440 / 60)
  unfold firesT firesB
  rw [e]
  show (bitB 1152921504606846975 (t % 60) && bitB 16777215 (t % 1440 / 60) && bitB 8190 ((q : Int) + 1) && true) = true
  rw [ha, hb, bit_min a (by omega), bit_hour b (by omega), bit_month q k1]
  rfl
theorem fires_min (k : Nat) (hk : k < 60) (t : Int) (h0 : 0 ≤ t) (h1 : t ≤ 1099511627776) : firesT (cMin k) t = decide (t % 60 = k) := by
  obtain ⟨D, q, Y, e, k1, k2⟩ := clk_is t h0 h1
  obtain ⟨a, ha⟩ := Int.eq_ofNat_of_zero_le (by omega : 0 ≤ t % 60)
  obtain ⟨b, hb⟩ := Int.eq_ofNat_of_zero_le (by omega : 0 ≤ t % 1440 / 60)
  unfold firesT firesB
  rw [e]
  show (bitB ((2 ^ k : Nat) : Int) (t % 60) && bitB 16777215 (t % 1440 / 60) && bitB 8190 ((q : Int) + 1) && true) = _
  rw [ha, hb, bit_one k a hk (by omega), bit_hour b (by omega), bit_month q k1]
  simp; omega
theorem fires_day (k : Nat) (hk : k < 7) (t : Int) (h0 : 0 ≤ t) (h1 : t ≤ 1099511627776) : firesT (cDay k) t = decide ((t / 1440 + 4) % 7 = k) := by
  obtain ⟨D, q, Y, e, k1, k2⟩ := clk_is t h0 h1
  obtain ⟨a, ha⟩ := Int.eq_ofNat_of_zero_le (by omega : 0 ≤ t % 60)
  obtain ⟨b, hb⟩ := Int.eq_ofNat_of_zero_le (by omega : 0 ≤ t % 1440 / 60)
  obtain ⟨c, hc⟩ := Int.eq_ofNat_of_zero_le (by omega : 0 ≤ (t / 1440 + 4) % 7)
  unfold firesT firesB
  rw [e]
  show (bitB 1152921504606846975 (t % 60) && bitB 16777215 (t % 1440 / 60) && bitB 8190 ((q : Int) + 1) && bitB ((2 ^ k : Nat) : Int) ((t / 1440 + 4) % 7)) = _
  rw [ha, hb, hc, bit_min a (by omega), bit_one k c (by omega) (by omega), bit_hour b (by omega), bit_month q k1]
  simp; omega
theorem CW_all : CW cAll := by unfold CW cAll; dsimp only; omega
theorem CW_min (k : Nat) (hk : k < 60) : CW (cMin k) := by
  have h : 2 ^ k ≤ 2 ^ 60 := Nat.pow_le_pow_right (by omega) (by omega)
  have h2 : (2 : Nat) ^ 60 = 1152921504606846976 := rfl
  unfold CW cMin
  generalize 2 ^ k = z at h ⊢
  dsimp only; omega
theorem CW_day (k : Nat) (hk : k < 7) : CW (cDay k) := by
  have h : 2 ^ k ≤ 2 ^ 60 := Nat.pow_le_pow_right (by omega) (by omega)
  have h2 : (2 : Nat) ^ 60 = 1152921504606846976 := rfl
  unfold CW cDay
  generalize 2 ^ k = z at h ⊢
  dsimp only; omega
theorem every_loop (tick : Int) (k : Nat) (hk : k < 60) (T : Int) (hT : (tick.tmod 1000000000 + 1000000000).tmod 1000000000 = T) (t0 : 0 ≤ T) (t1 : T < 1000000000) : ∀ (j : Nat) (v m : Nat) (n : Int), v + j = 60 → j < m → n = (if (k - T) % 60 < v then 1 else 0) →
    f_law08_CronEvery_l16 tick (cMin k, 0) (cAll, 0) m n v = some (.inl (1, 60))
  | j, v, 0, n, h0, h1, h2 => by omega
  | 0, v, m + 1, n, h0, h1, h2 => by
    have : v = 60 := by omega
    subst this
    rw [f_law08_CronEvery_l16, if_neg (by decide), h2, if_pos (by omega)]
    rfl
  | j + 1, v, m + 1, n, h0, h1, h2 => by
    rw [f_law08_CronEvery_l16, if_pos (by simp; omega), (tm_up tick 1000000000 (by omega) (by omega)).1, hT, w_i64 (n := T + v) (by omega) (by omega)]
    dsimp only
    rw [Fires_ok _ (CW_min k hk) _ (by omega) (by omega), Fires_ok _ CW_all _ (by omega) (by omega), fires_all _ (by omega) (by omega), fires_min k hk _ (by omega) (by omega), Option.bind_some]
    have e : (if decide ((T + v) % 60 = k) = true then some (IntKind.i64.wrap (n + 1)) else some n) = some (if (k - T) % 60 < ((v + 1 : Nat) : Int) then 1 else 0) := by
      by_cases hq : (T + v) % 60 = k
      · rw [if_pos (by simpa using hq), h2, if_neg (by omega), if_pos (by omega)]; rfl
      · rw [if_neg (by simpa using hq), h2]
        by_cases hr : (k - T) % 60 < v
        · rw [if_pos hr, if_pos (by omega)]
        · rw [if_neg hr, if_neg (by omega)]
    rw [e, Option.bind_some, Option.bind_some, if_neg (by decide), w_i64 (by omega) (by omega)]
    exact every_loop tick k hk T hT t0 t1 j (v + 1) m _ (by omega) (by omega) rfl
theorem cronEvery_true (tick minute : Int) (hw : (Lit.int .i64 tick).wf = true) (hw2 : (Lit.int .i64 minute).wf = true) : f_law08_CronEvery tick minute = some true := by
  obtain ⟨u1, u2⟩ := tm_up minute 60 (by omega) (by omega)
  obtain ⟨v1, v2⟩ := tm_up tick 1000000000 (by omega) (by omega)
  unfold f_law08_CronEvery
  rw [u1]
  generalize (minute.tmod 60 + 60).tmod 60 = m at u2 ⊢
  obtain ⟨k, rfl⟩ := Int.eq_ofNat_of_zero_le u2.1
  have hk : k < 60 := by omega
  obtain ⟨p1, p2, p3⟩ := parse_min k hk
  unfold mIx at p1
  unfold mTx mIx at p2
  rw [gd_t _ p1, gd_t _ p2]
  have p3' := p3
  unfold mTx mIx at p3'
  rw [p3', Option.bind_some, parse_all, Option.bind_some, alive08]
  show Option.bind (some true) _ = _
  rw [Option.bind_some, if_neg (show ¬ ((((0 : Int) != 0) || ((0 : Int) != 0) || !true) = true) by decide)]
  have hl := every_loop tick k hk _ rfl v2.1 v2.2 60 0 61 0 (by omega) (by omega) (by rw [if_neg]; omega)
  rw [show (((60 : Int) - 0).toNat + 1) = 61 from rfl]
  rw [show f_law08_CronEvery_l16 tick (cMin k, 0) (cAll, 0) 61 0 0 = some (.inl (1, 60)) from hl, Option.bind_some, v1]
  generalize (tick.tmod 1000000000 + 1000000000).tmod 1000000000 = T at v2 ⊢
  obtain ⟨r, hr, hR⟩ := next_ok cAll CW_all T 1 (by omega) (by omega) (by omega) (by omega)
  dsimp only
  rw [hr, Option.bind_some, w_i64 (by omega) (by omega)]
  have hf := fires_all (T + 1) (by omega) (by omega)
  rcases hR with ⟨r1, r2, r3, r4, r5, r6⟩ | ⟨rfl, r1⟩
  · have : r.1 = T + 1 := by omega
    rw [r1, this]; simp
  · have := r1 (T + 1) (by omega) (by omega) (by omega)
    rw [hf] at this; cases this
/-- Days ahead of a month, months counted from year 0 on. -/
def pM (k : Nat) : Int := dB ((k / 12 : Nat) : Int) + cumD ((k / 12 : Nat) : Int) (k % 12)
theorem pM_succ (k : Nat) (h : 12 ≤ k) : pM (k + 1) = pM k + dOf (((k % 12 : Nat) : Int) + 1) ((k / 12 : Nat) : Int) := by
  unfold pM
  by_cases h1 : k % 12 = 11
  · rw [show (k + 1) / 12 = k / 12 + 1 by omega, show (k + 1) % 12 = 0 by omega, show (((k / 12 + 1 : Nat)) : Int) = ((k / 12 : Nat) : Int) + 1 from rfl, dB_succ (by omega), ← cumD_year, h1]
    show _ + (cumD _ 11 + dOf ((11 : Nat) + 1 : Int) _) + 0 = _
    omega
  · rw [show (k + 1) / 12 = k / 12 by omega, show (k + 1) % 12 = k % 12 + 1 by omega]
    show _ + (cumD _ (k % 12) + dOf _ _) = _
    omega
theorem pM_mono (a : Nat) (ha : 12 ≤ a) : ∀ j : Nat, pM a ≤ pM (a + j)
  | 0 => Int.le_refl _
  | j + 1 => by
    have h1 := pM_mono a ha j
    have h2 := pM_succ (a + j) (by omega)
    have h3 := dOf_b ((((a + j) % 12 : Nat) : Int) + 1) (((a + j) / 12 : Nat) : Int)
    rw [show a + (j + 1) = a + j + 1 by omega]
    omega
theorem pM_le {a b : Nat} (ha : 12 ≤ a) (h : a ≤ b) : pM a ≤ pM b := by
  have := pM_mono a ha (b - a)
  rw [show a + (b - a) = b by omega] at this
  exact this
theorem clk_month (t : Int) (h0 : 0 ≤ t) (h1 : t ≤ 1099511627776) : ∃ k : Nat, 12 ≤ k ∧ t / 1440 + 719527 = pM k + (clk t).Day - 1 ∧ 1 ≤ (clk t).Day ∧ pM k + (clk t).Day - 1 < pM (k + 1) := by
  obtain ⟨D, q, Y, e, k1, k2, k3, k4, k5, k6⟩ := clk_is t h0 h1
  obtain ⟨y, rfl⟩ := Int.eq_ofNat_of_zero_le (by omega : 0 ≤ Y)
  have hp : pM (12 * y + q) = dB (y : Int) + cumD (y : Int) q := by
    unfold pM
    rw [show (12 * y + q) / 12 = y by omega, show (12 * y + q) % 12 = q by omega]
  have hs := pM_succ (12 * y + q) (by omega)
  rw [show (12 * y + q) / 12 = y by omega, show (12 * y + q) % 12 = q by omega] at hs
  refine ⟨12 * y + q, by omega, ?_, ?_, ?_⟩ <;> rw [e] <;> dsimp only <;> omega
theorem day_next (t : Int) (h0 : 0 ≤ t) (h1 : t + 1440 ≤ 1099511627776) : (clk (t + 1440)).Day = (clk t).Day + 1 ∨ (clk (t + 1440)).Day = 1 := by
  obtain ⟨a, a0, a1, a2, a3⟩ := clk_month t h0 (by omega)
  obtain ⟨b, b0, b1, b2, b3⟩ := clk_month (t + 1440) (by omega) h1
  have hd : (t + 1440) / 1440 = t / 1440 + 1 := by omega
  rw [hd] at b1
  rcases Nat.lt_trichotomy b a with h | h | h
  · have := pM_le (a := b + 1) (b := a) (by omega) (by omega)
    omega
  · subst h; left; omega
  · right
    have h2 := pM_le (a := a + 1) (b := b) (by omega) (by omega)
    omega
theorem days_loop (tick : Int) (k : Nat) (hk : k < 7) (T : Int) (hT : (tick.tmod 1000000000 + 1000000000).tmod 1000000000 = T) (t0 : 0 ≤ T) (t1 : T < 1000000000) : ∀ (j : Nat) (v m : Nat) (n : Int), v + j = 7 → j < m → n = (if (k - (T / 1440 + 4)) % 7 < v then 1 else 0) →
    f_law08_CronDays_l17 tick (cDay k, 0) m n v = some (.inl (1, 7))
  | j, v, 0, n, h0, h1, h2 => by omega
  | 0, v, m + 1, n, h0, h1, h2 => by
    have : v = 7 := by omega
    subst this
    rw [f_law08_CronDays_l17, if_neg (by decide), h2, if_pos (by omega)]
    rfl
  | j + 1, v, m + 1, n, h0, h1, h2 => by
    rw [f_law08_CronDays_l17, if_pos (by simp; omega), (tm_up tick 1000000000 (by omega) (by omega)).1, hT, w_i64 (n := (v : Int) + 1) (by omega) (by omega), w_i64 (n := 1440 * (v : Int)) (by omega) (by omega), w_i64 (n := 1440 * ((v : Int) + 1)) (by omega) (by omega), w_i64 (n := T + 1440 * (v : Int)) (by omega) (by omega), w_i64 (n := T + 1440 * ((v : Int) + 1)) (by omega) (by omega)]
    have ea : f_cron_At (T + 1440 * (v : Int)) = some (clk (T + 1440 * (v : Int)), 0) := (clk_at _ (by omega) (by omega)).1
    have eb : f_cron_At (T + 1440 * ((v : Int) + 1)) = some (clk (T + 1440 * ((v : Int) + 1)), 0) := (clk_at _ (by omega) (by omega)).1
    have hd := day_next (T + 1440 * (v : Int)) (by omega) (by omega)
    rw [show T + 1440 * (v : Int) + 1440 = T + 1440 * ((v : Int) + 1) by omega] at hd
    obtain ⟨D, q, Y, e, k1, k2⟩ := clk_is (T + 1440 * (v : Int)) (by omega) (by omega)
    obtain ⟨D', q', Y', e', k1', k2'⟩ := clk_is (T + 1440 * ((v : Int) + 1)) (by omega) (by omega)
    have hb := dOf_b ((q : Int) + 1) Y
    rw [ea, eb, e, e'] 
    rw [e, e'] at hd
    dsimp only at hd ⊢
    rw [Option.bind_some, Option.bind_some]
    dsimp only
    have ew : ((T + 1440 * (v : Int)) / 1440 + 4) % 7 + 1 < 9223372036854775807 ∧ 0 ≤ ((T + 1440 * (v : Int)) / 1440 + 4) % 7 + 1 := by omega
    have e6 : (((T + 1440 * (v : Int)) / 1440 + 4) % 7 + 1).tmod 7 = (((T + 1440 * (v : Int)) / 1440 + 4) % 7 + 1) % 7 := Int.tmod_eq_emod_of_nonneg ew.2
    rw [w_i64 (n := ((T + 1440 * (v : Int)) / 1440 + 4) % 7 + 1) (by omega) (by omega), e6, w_i64 (n := D + 1) (by omega) (by omega)]
    rw [if_neg (by intro hh; simp at hh; omega)]
    rw [Fires_ok _ (CW_day k hk) _ (by omega) (by omega), fires_day k hk _ (by omega) (by omega), Option.bind_some]
    by_cases hq : ((T + 1440 * (v : Int)) / 1440 + 4) % 7 = k
    · rw [if_pos (by simpa using hq), h2, if_neg (by omega)]
      exact days_loop tick k hk T hT t0 t1 j (v + 1) m _ (by omega) (by omega) (by rw [if_pos (by omega)]; rfl)
    · rw [if_neg (by simpa using hq)]
      refine days_loop tick k hk T hT t0 t1 j (v + 1) m _ (by omega) (by omega) ?_
      rw [h2]
      by_cases hr : (k - (T / 1440 + 4)) % 7 < v
      · rw [if_pos hr, if_pos (by omega)]
      · rw [if_neg hr, if_neg (by omega)]
theorem cronDays_true (tick day : Int) (hw : (Lit.int .i64 tick).wf = true) (hw2 : (Lit.int .i64 day).wf = true) : f_law08_CronDays tick day = some true := by
  obtain ⟨u1, u2⟩ := tm_up day 7 (by omega) (by omega)
  obtain ⟨v1, v2⟩ := tm_up tick 1000000000 (by omega) (by omega)
  unfold f_law08_CronDays
  rw [u1]
  generalize (day.tmod 7 + 7).tmod 7 = m at u2 ⊢
  obtain ⟨k, rfl⟩ := Int.eq_ofNat_of_zero_le u2.1
  have hk : k < 7 := by omega
  rw [gd_t _ (by omega), parse_day k hk, Option.bind_some, alive08]
  show Option.bind (some true) _ = _
  rw [Option.bind_some, if_neg (show ¬ ((((0 : Int) != 0) || !true) = true) by decide)]
  have hl := days_loop tick k hk _ rfl v2.1 v2.2 7 0 8 0 (by omega) (by omega) (by rw [if_neg]; omega)
  rw [show (((7 : Int) - 0).toNat + 1) = 8 from rfl]
  rw [show f_law08_CronDays_l17 tick (cDay k, 0) 8 0 0 = some (.inl (1, 7)) from hl, Option.bind_some]
  rfl
end Go.Proofs.YthcngbbceahdlaaDoor.V.M
end

section
/- Texts that are cut and parted, as Cron's need them (the words of GA and NC, without what these lean on). -/
namespace Go.Proofs.YthcngbbceahdlaaDoor.V.M.Cr
set_option linter.unusedVariables false
set_option linter.unusedSimpArgs false
open Go Go.RowKit Go.Proofs.YthcngbbceahdlaaDoor.V.M
theorem wG_nat {n : Nat} (h : n < 9223372036854775808) : IntKind.i64.wrap (n : Int) = n := w_i64 (by omega) (by omega)
theorem wG_s {n : Nat} (h : n + 1 < 9223372036854775808) : IntKind.i64.wrap ((n : Int) + 1) = ((n + 1 : Nat) : Int) := by rw [w_i64 (by omega) (by omega)]; rfl
theorem index_ok (s : Str) (c : UInt8) : f_strings_Index s [c] = some (Lib.indexByte s c) := rfl
theorem indexByte_mem (s : Str) (c : UInt8) : 0 ≤ Lib.indexByte s c ↔ c ∈ s := by
  induction s with
  | nil => simp [Lib.indexByte]
  | cons x l ih =>
    have g := Lib.indexByte_ge l c
    unfold Lib.indexByte
    by_cases hx : x = c
    · subst hx; simp
    · rw [if_neg (by simpa using hx)]
      by_cases h1 : Lib.indexByte l c = -1
      · rw [if_pos (by simpa using h1)]
        have : ¬ c ∈ l := by rw [← ih]; omega
        simp [this]; exact fun h => hx h.symm
      · rw [if_neg (by simpa using h1)]
        have : c ∈ l := by rw [← ih]; omega
        simp [this]; omega
theorem indexByte_at {s : Str} {c : UInt8} (h : 0 ≤ Lib.indexByte s c) : ∃ i : Nat, Lib.indexByte s c = i ∧ i < s.length ∧ s = s.take i ++ c :: s.drop (i + 1) ∧ c ∉ s.take i := by
  induction s with
  | nil => exact absurd h (by simp [Lib.indexByte])
  | cons x l ih =>
    have g := Lib.indexByte_ge l c
    unfold Lib.indexByte at h ⊢
    by_cases hx : x = c
    · subst hx; exact ⟨0, by simp, by simp, by simp, by simp⟩
    · rw [if_neg (by simpa using hx)] at h ⊢
      by_cases h1 : Lib.indexByte l c = -1
      · rw [if_pos (by simpa using h1)] at h; exact absurd h (by decide)
      · rw [if_neg (by simpa using h1)] at h ⊢
        obtain ⟨i, e1, e2, e3, e4⟩ := ih (by omega)
        refine ⟨i + 1, by omega, by simp; omega, ?_, ?_⟩
        · rw [List.take_succ_cons, List.drop_succ_cons, List.cons_append, ← e3]
        · rw [List.take_succ_cons, List.mem_cons]; rintro (h2 | h2); exact hx h2.symm; exact e4 h2
def cutS (s : Str) (c : UInt8) : Str × Str × Bool := if 0 ≤ Lib.indexByte s c then (s.take (Lib.indexByte s c).toNat, s.drop ((Lib.indexByte s c).toNat + 1), true) else (s, [], false)
theorem cut_ok (s : Str) (c : UInt8) (hs : s.length < 4611686018427387904) : f_strings_Cut s [c] = some (cutS s c) := by
  unfold f_strings_Cut f_internal_stringslite_Cut cutS
  rw [show f_internal_stringslite_Index s [c] = some (Lib.indexByte s c) from rfl, Option.bind_some]
  by_cases h : 0 ≤ Lib.indexByte s c
  · obtain ⟨i, e1, e2, e3, _⟩ := indexByte_at h
    rw [if_pos h, e1, if_pos (by simp), gd_t _ (by omega)]
    have w : IntKind.i64.wrap ((i : Int) + (([c] : Str).length : Int)) = ((i + 1 : Nat) : Int) := wG_s (by omega)
    rw [w, gd_t _ (by omega), cut_zero, cut_all, Int.toNat_natCast]; rfl
  · rw [if_neg h, if_neg (by simpa using h)]; rfl
theorem count_split (c : UInt8) : ∀ s : Str, (splitOnB c s).length = s.count c + 1
  | [] => rfl
  | x :: l => by
    unfold splitOnB
    by_cases hx : x = c
    · subst hx; rw [if_pos rfl, List.length_cons, count_split x l, List.count_cons_self]
    · rw [if_neg hx, List.count_cons_of_ne hx, ← count_split c l]
      have := splitOnB_ne c l
      split
      · rename_i h t e; rw [e]; rfl
      · rename_i e; exact absurd e this
theorem split17_ok (s0 : Str) (c : UInt8) (n2 : Int) (N : Nat) (hn : n2 = ((N + 1 : Nat) : Int)) (hN : N < 1000000) (k : Nat) : ∀ (i m : Nat) (s : Str) (a : List Str), i + k = N → k < m → s.count c = k → s.length ≤ 1000000 → a.length = N + 1 →
    ∃ s3 a2, f_strings_genSplit_l17 s0 [c] 0 n2 m s (i : Int) a = some (s3, (N : Int), a2) ∧ a2.length = N + 1 ∧ a.take i ++ splitOnB c s = a2.take N ++ [s3] := by
  subst hn
  induction k with
  | zero =>
    intro i m s a hi hm hc hs ha
    obtain ⟨m, rfl⟩ : ∃ k, m = k + 1 := ⟨m - 1, by omega⟩
    rw [f_strings_genSplit_l17, w_i64 (n := (((N + 1 : Nat) : Int) - 1)) (by omega) (by omega), if_neg (by simp; omega)]
    refine ⟨s, a, by rw [show i = N by omega], ha, ?_⟩
    have hneg : Lib.indexByte s c < 0 := by
      rw [← Int.not_le, indexByte_mem]
      exact List.count_eq_zero.mp hc
    rw [splitOnB_none hneg, show i = N by omega]
  | succ k ih =>
    intro i m s a hi hm hc hs ha
    obtain ⟨m, rfl⟩ : ∃ k, m = k + 1 := ⟨m - 1, by omega⟩
    have hpos : 0 ≤ Lib.indexByte s c := by
      rw [indexByte_mem, ← List.count_pos_iff]; omega
    obtain ⟨j, e1, e2, e3⟩ := splitOnB_some (c := c) (s := s) (by omega)
    have hcount : (s.drop (j + 1)).count c = k := by
      have h2 := count_split c s
      rw [e3, List.length_cons, count_split] at h2
      omega
    have w1 : IntKind.i64.wrap ((j : Int) + 0) = (j : Int) := by rw [Int.add_zero, wG_nat (by omega)]
    have w2 : IntKind.i64.wrap ((j : Int) + (([c] : Str).length : Int)) = ((j + 1 : Nat) : Int) := wG_s (by omega)
    rw [f_strings_genSplit_l17, w_i64 (n := (((N + 1 : Nat) : Int) - 1)) (by omega) (by omega), if_pos (by simp; omega), index_ok, Option.bind_some, e1, if_neg (by simp), w1, w2, gd_t _ (by omega), ix_nat, List.getElem?_eq_getElem (by omega), Option.bind_some, gd_t _ (by omega), cut_zero, cut_all, wG_s (by omega), Int.toNat_natCast]
    obtain ⟨s3, a2, q1, q2, q3⟩ := ih (i + 1) m (s.drop (j + 1)) (a.set i (s.take j)) (by omega) (by omega) hcount (by rw [List.length_drop]; omega) (by rw [List.length_set]; exact ha)
    refine ⟨s3, a2, q1, q2, ?_⟩
    rw [← q3, e3, List.take_add_one, List.getElem?_set_self (by omega), List.take_set_of_le (Nat.le_refl i)]
    simp
theorem split_ok (s : Str) (c : UInt8) (hs : s.length < 1000000) : f_strings_Split s [c] = some (splitOnB c s) := by
  unfold f_strings_Split f_strings_genSplit
  have hc : s.count c ≤ s.length := List.count_le_length
  rw [if_neg (by decide), if_neg (by simp), if_pos (by decide), show f_strings_Count s [c] = some ((s.count c : Nat) : Int) from rfl, Option.bind_some, wG_s (by omega), Option.bind_some, wG_s (by omega), if_neg (by omega), Option.bind_some, gd_t _ (by omega)]
  obtain ⟨s3, a2, q1, q2, q3⟩ := split17_ok s c ((s.count c + 1 : Nat) : Int) (s.count c) rfl (by omega) (s.count c) 0 (((IntKind.i64.wrap (((s.count c + 1 : Nat) : Int) - 1)) - 0).toNat + 1) s (List.replicate ((s.count c + 1 : Nat) : Int).toNat []) (by omega) (by rw [w_i64 (by omega) (by omega)]; omega) rfl (by omega) (by simp)
  rw [show ((0 : Nat) : Int) = 0 from rfl] at q1
  rw [q1, Option.bind_some]
  dsimp only
  rw [ix_nat, List.getElem?_eq_getElem (by omega), Option.bind_some, wG_s (by omega), gd_t _ (by omega), cut_zero, Int.toNat_natCast, Option.bind_some]
  rw [List.take_zero, List.nil_append] at q3
  rw [q3, List.take_add_one, List.getElem?_set_self (by omega), List.take_set_of_le (Nat.le_refl _)]; rfl
theorem ix_app {α : Type} (pre : List α) (c : α) (l : List α) (n : Nat) (hn : n = pre.length) : ix (pre ++ c :: l) (n : Int) = some c := by subst hn; rw [ix_nat]; simp
theorem w_s {n : Nat} (h : n + 1 < 9223372036854775808) : IntKind.i64.wrap ((n : Int) + 1) = ((n + 1 : Nat) : Int) := by rw [w_i64 (by omega) (by omega)]; rfl
theorem splitOnB_len (c : UInt8) : ∀ (s : Str), (splitOnB c s).length ≤ s.length + 1 ∧ ∀ x ∈ splitOnB c s, x.length ≤ s.length
  | [] => ⟨by simp [splitOnB], by simp [splitOnB]⟩
  | x :: l => by
    obtain ⟨h1, h2⟩ := splitOnB_len c l
    unfold splitOnB
    by_cases h : x = c
    · rw [if_pos h]
      refine ⟨by simp; omega, fun y hy => ?_⟩
      rcases List.mem_cons.1 hy with rfl | hy
      · simp
      · have := h2 y hy; simp; omega
    · rw [if_neg h]
      split
      · rename_i y t e
        rw [e] at h1 h2
        simp only [List.length_cons] at h1
        refine ⟨by simp; omega, fun z hz => ?_⟩
        rcases List.mem_cons.1 hz with rfl | hz
        · have := h2 y (List.mem_cons_self ..); simp; omega
        · have := h2 z (List.mem_cons_of_mem _ hz); simp; omega
      · simp
def glue (now : Str) : List Str → List Str
  | [] => [now]
  | h :: t => (now ++ h) :: t
theorem glue_nil (c : UInt8) (s : Str) : glue [] (splitOnB c s) = splitOnB c s := by
  cases h : splitOnB c s with
  | nil => exact absurd h (splitOnB_ne c s)
  | cons x l => rfl
theorem glue_cons (c x : UInt8) (now l : Str) (h : x ≠ c) : glue now (splitOnB c (x :: l)) = glue (now ++ [x]) (splitOnB c l) := by
  rw [splitOnB, if_neg h]
  cases e : splitOnB c l with
  | nil => exact absurd e (splitOnB_ne c l)
  | cons y t => simp [glue]
theorem glue_hit (c : UInt8) (now l : Str) : glue now (splitOnB c (c :: l)) = now :: splitOnB c l := by
  rw [splitOnB, if_pos rfl]; simp [glue]
theorem split10_ok (b : UInt8) (s : Str) (hb : s.length < 1000000000000) : ∀ (suf pre now : Str) (out : List Str) (m : Nat), s = pre ++ suf → now.length ≤ pre.length → out.length ≤ pre.length → suf.length < m →
    ∃ q now' out', f_ref03_Split_l10 s (bn b) m now (pre.length : Int) out = some (now', q, out') ∧ out'.length ≤ s.length ∧ out' ++ [now'] = out ++ glue now (splitOnB b suf) := by
  intro suf
  induction suf with
  | nil =>
    intro pre now out m hs hn ho hm
    obtain ⟨m, rfl⟩ : ∃ k, m = k + 1 := ⟨m - 1, by omega⟩
    have hl : s.length = pre.length := by rw [hs]; simp
    rw [f_ref03_Split_l10.eq_2, if_neg (by simp; omega)]
    exact ⟨_, _, _, rfl, by omega, by simp [splitOnB, glue]⟩
  | cons c l ih =>
    intro pre now out m hs hn ho hm
    obtain ⟨m, rfl⟩ : ∃ k, m = k + 1 := ⟨m - 1, by omega⟩
    have hl : s.length = pre.length + 1 + l.length := by rw [hs]; simp; omega
    simp only [List.length_cons] at hm
    have e1 : ix s (pre.length : Int) = some c := by rw [hs]; exact ix_app _ _ _ _ rfl
    have e2 : cut s (pre.length : Int) ((pre.length + 1 : Nat) : Int) = [c] := by
      unfold cut; rw [hs, show pre ++ c :: l = (pre ++ [c]) ++ l by simp, Int.toNat_natCast, Int.toNat_natCast, List.take_append_of_le_length (by simp), List.take_of_length_le (by simp)]; simp
    have key := fun (n : Str) (o : List Str) (h : n.length ≤ pre.length + 1) (h2 : o.length ≤ pre.length + 1) => ih (pre ++ [c]) n o m (by rw [hs]; simp) (by simpa using h) (by simpa using h2) (by omega)
    simp only [List.length_append, List.length_singleton] at key
    rw [f_ref03_Split_l10.eq_2, if_pos (by simp; omega), e1, Option.bind_some, w_s (by omega), e2]
    by_cases h : c = b
    · subst h
      rw [if_pos (by simp), gd_t _ (by omega)]
      obtain ⟨q, n', o', h1, h2, h3⟩ := key [] (out ++ [now]) (by simp) (by simp; omega)
      refine ⟨q, n', o', h1, h2, ?_⟩
      rw [h3, glue_nil, glue_hit]; simp
    · rw [if_neg (by
        intro e
        apply h
        have : bn c = bn b := by simpa using e
        unfold bn at this
        exact UInt8.toNat_inj.1 (by omega)), gd_t _ (by omega), gd_t _ (by simp; omega)]
      obtain ⟨q, n', o', h1, h2, h3⟩ := key (now ++ [c]) out (by simp; omega) (by omega)
      refine ⟨q, n', o', h1, h2, ?_⟩
      rw [h3, glue_cons _ _ _ _ h]
theorem rsplit_ok (b : UInt8) (s : Str) (hb : s.length < 1000000000000) : f_ref03_Split s (bn b) = some (splitOnB b s) := by
  obtain ⟨q, n', o', h1, h2, h3⟩ := split10_ok b s hb s [] [] [] (((s.length : Int) - 0).toNat + 1) rfl (by simp) (by simp) (by omega)
  unfold f_ref03_Split
  simp only [List.length_nil] at h1
  rw [show (0 : Int) = ((0 : Nat) : Int) from rfl] at *
  rw [h1, Option.bind_some, gd_t _ (by dsimp only; omega)]
  dsimp only
  rw [h3, glue_nil]; rfl
end Go.Proofs.YthcngbbceahdlaaDoor.V.M.Cr
end

section
/- Numbers of a schedule, by both. -/
namespace Go.Proofs.YthcngbbceahdlaaDoor.V.M.Cr
set_option linter.unusedVariables false
set_option linter.unusedSimpArgs false
open Go Go.RowKit Go.Proofs.YthcngbbceahdlaaDoor.V.M
def digB (c : UInt8) : Bool := decide (48 ≤ c.toNat ∧ c.toNat ≤ 57)
def digits : Str := [48, 49, 50, 51, 52, 53, 54, 55, 56, 57]
def chk (lo hi n : Nat) : Option Nat := if lo ≤ n ∧ n ≤ hi then some n else none
def numS (lo hi : Nat) : Str → Option Nat
  | [a] => if digB a then chk lo hi (a.toNat - 48) else none
  | [a, b] => if digB a = true ∧ digB b = true ∧ a ≠ 48 then chk lo hi (10 * (a.toNat - 48) + (b.toNat - 48)) else none
  | _ => none
theorem numS_one (lo hi : Nat) (a : UInt8) : numS lo hi [a] = if digB a then chk lo hi (a.toNat - 48) else none := rfl
theorem numS_two (lo hi : Nat) (a b : UInt8) : numS lo hi [a, b] = if digB a = true ∧ digB b = true ∧ a ≠ 48 then chk lo hi (10 * (a.toNat - 48) + (b.toNat - 48)) else none := rfl
theorem chk_b {lo hi n m : Nat} (h : chk lo hi n = some m) : lo ≤ m ∧ m ≤ hi ∧ m = n := by
  unfold chk at h
  split at h
  · cases h; omega
  · cases h
theorem numS_b {lo hi : Nat} {x : Str} {n : Nat} (h : numS lo hi x = some n) : lo ≤ n ∧ n ≤ hi := by
  unfold numS at h
  split at h
  · split at h
    · have := chk_b h; omega
    · cases h
  · split at h
    · have := chk_b h; omega
    · cases h
  · cases h
theorem numS_mem {lo hi : Nat} {x : Str} {n : Nat} (h : numS lo hi x = some n) {c : UInt8} (hc : c ∈ x) : digB c = true := by
  unfold numS at h
  split at h
  · split at h
    · rename_i hd
      rw [List.mem_singleton.1 hc]; exact hd
    · cases h
  · split at h
    · rename_i hd
      rcases List.mem_cons.1 hc with rfl | hc
      · exact hd.1
      · rw [List.mem_singleton.1 hc]; exact hd.2.1
    · cases h
  · cases h
theorem dig_has (c : UInt8) : digits.contains c = digB c := by
  have h : (List.range 256).all (fun k => digits.contains (UInt8.ofNat k) == digB (UInt8.ofNat k)) = true := by kernel_rfl
  have h1 := beq_iff_eq.1 (List.all_eq_true.1 h c.toNat (List.mem_range.2 c.toNat_lt))
  simpa using h1
theorem trim_one (a : UInt8) : Lib.trimS [a] digits = if digB a then [] else [a] := by
  unfold Lib.trimS Lib.trimLeftS Lib.trimRightS
  rw [← dig_has]
  cases h : digits.contains a <;> simp only [List.contains_eq_mem, decide_eq_true_eq, decide_eq_false_iff_not] at h <;> simp [List.dropWhile, h]
theorem trim_two (a b : UInt8) : (Lib.trimS [a, b] digits == []) = (digB a && digB b) := by
  unfold Lib.trimS Lib.trimLeftS Lib.trimRightS
  rw [← dig_has, ← dig_has]
  cases h : digits.contains a <;> cases h2 : digits.contains b <;> simp only [List.contains_eq_mem, decide_eq_true_eq, decide_eq_false_iff_not] at h h2 <;> simp [List.dropWhile, h, h2]
theorem trim_f (x : Str) (hx : x.length ≤ 140737488355328) : f_strings_Trim x digits = some (Lib.trimS x digits) := by
  unfold f_strings_Trim
  exact gd_t _ ⟨hx, by decide, by decide⟩
theorem dig_of {a : UInt8} (h : digB a = true) : ∃ k : Nat, k < 10 ∧ a = UInt8.ofNat (48 + k) := by
  have h1 := of_decide_eq_true h
  exact ⟨a.toNat - 48, by omega, by rw [show 48 + (a.toNat - 48) = a.toNat by omega]; simp⟩
theorem l9_one (b : cron_bounds) (a : UInt8) (h : digB a = true) : f_cron_number_l9 [a] b 2 0 0 = some (((a.toNat - 48 : Nat) : Int), 1) := by
  obtain ⟨k, hk, rfl⟩ := dig_of h
  have h1 : (List.range 10).all (fun k => decide (f_cron_number_l9 [UInt8.ofNat (48 + k)] b 2 0 0 = some ((((UInt8.ofNat (48 + k)).toNat - 48 : Nat) : Int), 1))) = true := by kernel_rfl
  exact of_decide_eq_true (List.all_eq_true.1 h1 k (List.mem_range.2 hk))
theorem l9_two (d : cron_bounds) (a b : UInt8) (h : digB a = true) (h2 : digB b = true) : f_cron_number_l9 [a, b] d 3 0 0 = some (((10 * (a.toNat - 48) + (b.toNat - 48) : Nat) : Int), 2) := by
  obtain ⟨k, hk, rfl⟩ := dig_of h
  obtain ⟨j, hj, rfl⟩ := dig_of h2
  have h1 : (List.range 10).all (fun k => (List.range 10).all fun j => decide (f_cron_number_l9 [UInt8.ofNat (48 + k), UInt8.ofNat (48 + j)] d 3 0 0 = some (((10 * ((UInt8.ofNat (48 + k)).toNat - 48) + ((UInt8.ofNat (48 + j)).toNat - 48) : Nat) : Int), 2))) = true := by kernel_rfl
  exact of_decide_eq_true (List.all_eq_true.1 (List.all_eq_true.1 h1 k (List.mem_range.2 hk)) j (List.mem_range.2 hj))
abbrev nilE : Sc := Sc.z Zk.nilIface
abbrev partE : Sc := .ifc tyPart true []
def numR (r : Option Nat) : Int × Sc := match r with | some n => ((n : Int), nilE) | none => (0, partE)
theorem number_ok (lo hi : Nat) (x : Str) (hx : x.length ≤ 140737488355328) : f_cron_number x ⟨(lo : Int), (hi : Int)⟩ = some (numR (numS lo hi x)) := by
  unfold f_cron_number
  match x, hx with
  | [], _ => rfl
  | [a], hx =>
    rw [show ([48, 49, 50, 51, 52, 53, 54, 55, 56, 57] : Str) = digits from rfl, trim_f _ hx, trim_one]
    show Option.bind (some (if digB a = true then [] else [a])) _ = _
    rw [Option.bind_some]
    cases h : digB a with
    | false =>
      rw [if_neg (by decide), gd_t _ (by intro q; simp at q), if_pos (by simp)]
      rw [numS_one, h]; rfl
    | true =>
      rw [if_pos rfl, gd_t _ (by intro q; simp at q), if_neg (by simp)]
      rw [show ((([a] : Str).length : Int) - 0).toNat + 1 = 2 from rfl, l9_one _ a h, Option.bind_some]
      rw [numS_one, h, if_pos rfl]; unfold chk
      by_cases hc : lo ≤ a.toNat - 48 ∧ a.toNat - 48 ≤ hi
      · rw [if_pos hc, if_neg (by simp; omega)]; rfl
      · rw [if_neg hc, if_pos (by simp; omega)]; rfl
  | [a, b], hx =>
    rw [show ([48, 49, 50, 51, 52, 53, 54, 55, 56, 57] : Str) = digits from rfl, trim_f _ hx]
    show Option.bind (some (Lib.trimS [a, b] digits)) _ = _
    rw [Option.bind_some, trim_two]
    by_cases h : digB a = true ∧ digB b = true
    · rw [h.1, h.2, gd_t _ (by intro q; simp)]
      by_cases h0 : a = 48
      · subst h0
        rw [if_pos (by simp [bn])]
        rw [numS_two, if_neg (by simp)]
        rfl
      · rw [if_neg (by
          intro q
          simp [bn] at q
          apply h0
          exact UInt8.toNat_inj.1 (by have : (48 : UInt8).toNat = 48 := rfl; omega))]
        rw [show ((([a, b] : Str).length : Int) - 0).toNat + 1 = 3 from rfl, l9_two _ a b h.1 h.2, Option.bind_some]
        rw [show numS lo hi [a, b] = chk lo hi (10 * (a.toNat - 48) + (b.toNat - 48)) from (numS_two ..).trans (if_pos ⟨h.1, h.2, h0⟩)]; unfold chk
        generalize 10 * (a.toNat - 48) + (b.toNat - 48) = v
        by_cases hc : lo ≤ v ∧ v ≤ hi
        · rw [if_pos hc, if_neg (by simp; omega)]; rfl
        · rw [if_neg hc, if_pos (by simp; omega)]; rfl
    · have hf : (digB a && digB b) = false := by
        cases h1 : digB a <;> cases h2 : digB b <;> simp_all
      rw [hf, gd_t _ (by intro q; simp at q), if_pos (by simp)]
      rw [numS_two, if_neg (show ¬ (digB a = true ∧ digB b = true ∧ a ≠ 48) from fun q => h ⟨q.1, q.2.1⟩)]
      rfl
  | a :: b :: c :: l, hx =>
    have h1 : ((decide ((((a :: b :: c :: l) : Str).length : Int) < 1)) || (decide ((((a :: b :: c :: l) : Str).length : Int) > 2))) = true := by simp; omega
    rw [h1]
    show Option.bind (some default) _ = _
    rw [Option.bind_some, gd_t _ (by intro q; simp at q), if_pos (by simp)]
    rfl
theorem r8_one (lo hi : Int) (a : UInt8) : f_ref08_number_l8 [a] lo hi 2 0 0 = some (if digB a then .inl (((a.toNat - 48 : Nat) : Int), 1) else .inr (-1)) := by
  have h1 : (List.range 256).all (fun k => decide (f_ref08_number_l8 [UInt8.ofNat k] lo hi 2 0 0 = some (if digB (UInt8.ofNat k) then .inl ((((UInt8.ofNat k).toNat - 48 : Nat) : Int), 1) else .inr (-1)))) = true := by kernel_rfl
  have h2 := of_decide_eq_true (List.all_eq_true.1 h1 a.toNat (List.mem_range.2 a.toNat_lt))
  simpa using h2
theorem r8_gen (lo hi : Int) (x : Str) (hx : x.length ≤ 1000000) : ∀ (k m i : Nat) (n : Int), i + k = x.length → k < m →
    (f_ref08_number_l8 x lo hi m n (i : Int) = some (.inr (-1)) ∧ ∃ c ∈ x.drop i, digB c = false) ∨ ∃ z, f_ref08_number_l8 x lo hi m n (i : Int) = some (.inl (z, (x.length : Int))) ∧ ∀ c ∈ x.drop i, digB c = true
  | k, 0, i, n, h0, h1 => by omega
  | 0, m + 1, i, n, h0, h1 => by
    right
    have : i = x.length := by omega
    rw [f_ref08_number_l8, if_neg (by simp; omega), this]
    exact ⟨n, rfl, by simp⟩
  | k + 1, m + 1, i, n, h0, h1 => by
    have hlt : i < x.length := by omega
    have hd : x.drop i = x[i] :: x.drop (i + 1) := List.drop_eq_getElem_cons hlt
    have e1 : ix x (i : Int) = some x[i] := by rw [ix_nat]; exact List.getElem?_eq_getElem hlt
    rw [f_ref08_number_l8, if_pos (by simp; omega), e1, Option.bind_some]
    have hg : x.getD ((i : Nat) : Int).toNat 0 = x[i] := by simp [hlt]
    rw [gd_t _ (by intro _; omega), hg]
    by_cases hq : digB x[i] = true
    · have hq' := of_decide_eq_true hq
      rw [if_neg (by
        intro hh
        rw [Bool.or_eq_true, decide_eq_true_eq, decide_eq_true_eq, show bn x[i] = (x[i].toNat : Int) from rfl] at hh
        omega), Option.bind_some, Option.bind_some, w_s (by omega)]
      rcases r8_gen lo hi x hx k m (i + 1) (IntKind.i64.wrap ((IntKind.i64.wrap (10 * n)) + (IntKind.i64.wrap (IntKind.u8.wrap ((bn x[i]) - 48))))) (by omega) (by omega) with ⟨g1, c, g2, g3⟩ | ⟨z, g1, g2⟩
      · exact .inl ⟨g1, c, by rw [hd]; exact List.mem_cons_of_mem _ g2, g3⟩
      · refine .inr ⟨z, g1, fun c hc => ?_⟩
        rw [hd] at hc
        rcases List.mem_cons.1 hc with rfl | hc
        · exact hq
        · exact g2 c hc
    · have hq' : ¬ (48 ≤ x[i].toNat ∧ x[i].toNat ≤ 57) := fun q => hq (decide_eq_true q)
      rw [if_pos (by
        rw [Bool.or_eq_true, decide_eq_true_eq, decide_eq_true_eq, show bn x[i] = (x[i].toNat : Int) from rfl]
        omega)]
      exact .inl ⟨rfl, x[i], by rw [hd]; exact List.mem_cons_self .., by simpa using hq⟩
theorem r8_two (lo hi : Int) (a b : UInt8) (h : digB a = true) (h2 : digB b = true) : f_ref08_number_l8 [a, b] lo hi 3 0 0 = some (.inl (((10 * (a.toNat - 48) + (b.toNat - 48) : Nat) : Int), 2)) := by
  obtain ⟨k, hk, rfl⟩ := dig_of h
  obtain ⟨j, hj, rfl⟩ := dig_of h2
  have h1 : (List.range 10).all (fun k => (List.range 10).all fun j => decide (f_ref08_number_l8 [UInt8.ofNat (48 + k), UInt8.ofNat (48 + j)] lo hi 3 0 0 = some (.inl (((10 * ((UInt8.ofNat (48 + k)).toNat - 48) + ((UInt8.ofNat (48 + j)).toNat - 48) : Nat) : Int), 2)))) = true := by kernel_rfl
  exact of_decide_eq_true (List.all_eq_true.1 (List.all_eq_true.1 h1 k (List.mem_range.2 hk)) j (List.mem_range.2 hj))
def numI (r : Option Nat) : Int := match r with | some n => (n : Int) | none => -1
theorem rnumber_ok (lo hi : Nat) (x : Str) (hx : x.length ≤ 1000000) : f_ref08_number x (lo : Int) (hi : Int) = some (numI (numS lo hi x)) := by
  unfold f_ref08_number
  match x, hx with
  | [], _ => rfl
  | [a], hx =>
    rw [show ((([a] : Str).length : Int) - 0).toNat + 1 = 2 from rfl, r8_one, Option.bind_some]
    rw [numS_one]
    cases h : digB a with
    | false => rfl
    | true =>
      rw [if_pos rfl, if_pos rfl]
      dsimp only
      unfold chk
      by_cases hc : lo ≤ a.toNat - 48 ∧ a.toNat - 48 ≤ hi
      · rw [if_pos hc, if_neg (by simp; omega)]; rfl
      · rw [if_neg hc, if_pos (by simp; omega)]; rfl
  | [a, b], hx =>
    rw [show ((([a, b] : Str).length : Int) - 0).toNat + 1 = 3 from rfl]
    by_cases h : digB a = true ∧ digB b = true
    · rw [r8_two _ _ a b h.1 h.2, Option.bind_some]
      dsimp only
      have ha := of_decide_eq_true h.1
      have hb := of_decide_eq_true h.2
      have h48 : a = 48 ↔ a.toNat = 48 := ⟨fun q => by rw [q]; rfl, fun q => UInt8.toNat_inj.1 (by rw [q]; rfl)⟩
      rw [numS_two]; unfold chk
      have hv0 : 10 * (a.toNat - 48) + (b.toNat - 48) < 10 ↔ a.toNat = 48 := by omega
      generalize 10 * (a.toNat - 48) + (b.toNat - 48) = v at hv0
      by_cases h0 : a.toNat = 48
      · rw [if_neg (show ¬ (digB a = true ∧ digB b = true ∧ a ≠ 48) from fun q => q.2.2 (h48.2 h0)), if_pos (by simp; omega)]; rfl
      · rw [if_pos (show digB a = true ∧ digB b = true ∧ a ≠ 48 from ⟨h.1, h.2, fun q => h0 (h48.1 q)⟩)]
        by_cases hc : lo ≤ v ∧ v ≤ hi
        · rw [if_pos hc, if_neg (by simp; omega)]; rfl
        · rw [if_neg hc, if_pos (by simp; omega)]; rfl
    · have hn : numS lo hi [a, b] = none := by
        rw [numS_two]
        exact if_neg (by rintro ⟨h1, h2, _⟩; exact h ⟨h1, h2⟩)
      rw [hn]
      rcases r8_gen (lo : Int) (hi : Int) [a, b] hx 2 3 0 0 rfl (by omega) with ⟨g1, _⟩ | ⟨z, g1, g2⟩
      · rw [show f_ref08_number_l8 [a, b] (lo : Int) (hi : Int) 3 0 0 = some (.inr (-1)) from g1]; rfl
      · exact absurd ⟨g2 a (by simp), g2 b (by simp)⟩ h
  | a :: b :: c :: l, hx =>
    have hn : numS lo hi (a :: b :: c :: l) = none := rfl
    rw [hn]
    rcases r8_gen (lo : Int) (hi : Int) (a :: b :: c :: l) hx (a :: b :: c :: l).length ((((a :: b :: c :: l) : Str).length : Int) - 0).toNat.succ 0 0 (by simp) (by rw [Int.sub_zero, Int.toNat_natCast]; exact Nat.lt_succ_self _) with ⟨g1, _⟩ | ⟨z, g1, g2⟩
    · rw [show f_ref08_number_l8 (a :: b :: c :: l) (lo : Int) (hi : Int) _ 0 0 = some (.inr (-1)) from g1]; rfl
    · rw [show f_ref08_number_l8 (a :: b :: c :: l) (lo : Int) (hi : Int) _ 0 0 = some (.inl (z, ((a :: b :: c :: l).length : Int))) from g1, Option.bind_some]
      dsimp only
      rw [if_pos (by simp; omega)]; rfl
end Go.Proofs.YthcngbbceahdlaaDoor.V.M.Cr
end

section
/- Parts of a field, by both: from, to, step; their bits. -/
namespace Go.Proofs.YthcngbbceahdlaaDoor.V.M.Cr
set_option linter.unusedVariables false
set_option linter.unusedSimpArgs false
open Go Go.RowKit Go.Proofs.YthcngbbceahdlaaDoor.V.M
def spanS (lo hi : Nat) (x : Str) : Option (Nat × Nat × Bool) :=
  if x = [42] then some (lo, hi, true) else match splitOnB 45 x with
    | [a] => (numS lo hi a).map fun n => (n, n, false)
    | [a, b] => (numS lo hi a).bind fun n => (numS lo hi b).bind fun m => if n ≤ m then some (n, m, true) else none
    | _ => none
def partS (lo hi : Nat) (x : Str) : Option (Nat × Nat × Nat) := match splitOnB 47 x with
  | [a] => (spanS lo hi a).map fun r => (r.1, r.2.1, 1)
  | [a, b] => (spanS lo hi a).bind fun r => (numS 1 59 b).bind fun s => if r.2.2 then some (r.1, r.2.1, s) else none
  | _ => none
theorem split_has {c : UInt8} {b : Str} (h : ¬ Lib.indexByte b c < 0) : (∃ p q l, splitOnB c b = p :: q :: l) ∧ c ∈ b := by
  obtain ⟨i, e1, e2, e3⟩ := splitOnB_some h
  refine ⟨?_, (indexByte_mem b c).1 (by omega)⟩
  rw [e3]
  cases hq : splitOnB c (b.drop (i + 1)) with
  | nil => exact absurd hq (splitOnB_ne _ _)
  | cons y t => exact ⟨_, y, t, rfl⟩
theorem numS_not {lo hi : Nat} {b : Str} {c : UInt8} (hc : digB c = false) (h : c ∈ b) : numS lo hi b = none := by
  cases h1 : numS lo hi b with
  | none => rfl
  | some n => have := numS_mem h1 h; rw [hc] at this; cases this
/-- What is cut at a byte that is no digit, where what is behind is read as a number. -/
theorem cut_split (c : UInt8) (x : Str) : (cutS x c = (x, [], false) ∧ splitOnB c x = [x]) ∨ ∃ a b, cutS x c = (a, b, true) ∧ a.length ≤ x.length ∧ b.length ≤ x.length ∧ ((splitOnB c x = [a, b]) ∨ ((∃ p q l, splitOnB c x = a :: p :: q :: l) ∧ c ∈ b)) := by
  by_cases h : Lib.indexByte x c < 0
  · left
    refine ⟨?_, splitOnB_none h⟩
    unfold cutS
    rw [if_neg (by omega)]
  · right
    obtain ⟨i, e1, e2, e3⟩ := splitOnB_some h
    refine ⟨x.take i, x.drop (i + 1), ?_, by simp; omega, by simp, ?_⟩
    · unfold cutS
      rw [if_pos (by omega), e1]; rfl
    · by_cases h2 : Lib.indexByte (x.drop (i + 1)) c < 0
      · left; rw [e3, splitOnB_none h2]
      · right
        obtain ⟨⟨p, q, l, e4⟩, h4⟩ := split_has h2
        exact ⟨⟨p, q, l, by rw [e3, e4]⟩, h4⟩
theorem numR_some {n : Nat} : numR (some n) = ((n : Int), nilE) := rfl
/-- span: what it hands back says spanS; where it is none, a part's error. -/
theorem span_ok (lo hi : Nat) (x : Str) (hx : x.length ≤ 140737488355328) : ∃ r : cron_bounds × Bool × Sc, f_cron_span x ⟨(lo : Int), (hi : Int)⟩ = some r ∧ match spanS lo hi x with
    | some p => r = (⟨(p.1 : Int), (p.2.1 : Int)⟩, p.2.2, nilE)
    | none => r.2.2 = partE := by
  unfold f_cron_span
  by_cases h : x = [42]
  · subst h
    rw [if_pos (by decide)]
    exact ⟨_, rfl, rfl⟩
  · have hs : spanS lo hi x = match splitOnB 45 x with
      | [a] => (numS lo hi a).map fun n => (n, n, false)
      | [a, b] => (numS lo hi a).bind fun n => (numS lo hi b).bind fun m => if n ≤ m then some (n, m, true) else none
      | _ => none := if_neg h
    rw [if_neg (by simpa using h), cut_ok _ _ (by omega), Option.bind_some, hs]
    rcases cut_split 45 x with ⟨e1, e2⟩ | ⟨a, b, e1, ha, hb, e2⟩
    · rw [e1, e2]
      dsimp only
      rw [number_ok lo hi x hx, Option.bind_some]
      cases hn : numS lo hi x with
      | none =>
        rw [gd_t _ (by intro _; rfl), if_pos (by simp)]
        exact ⟨_, rfl, rfl⟩
      | some n =>
        rw [gd_t _ (by intro _; rfl), if_pos (by simp)]
        exact ⟨_, rfl, rfl⟩
    · rw [e1]
      dsimp only
      rw [number_ok lo hi a (by omega), Option.bind_some, number_ok lo hi b (by omega)]
      cases hn : numS lo hi a with
      | none =>
        rw [gd_t _ (by intro _; rfl), if_pos (by simp [numR, nilI])]
        refine ⟨_, rfl, ?_⟩
        rcases e2 with e2 | ⟨⟨p, q, l, e2⟩, hc⟩
        · rw [e2]; dsimp only; rw [hn]; rfl
        · rw [e2]; rfl
      | some n =>
        rw [gd_t _ (by intro _; rfl), if_neg (by simp [numR, nilI, nilE]), Option.bind_some]
        rcases e2 with e2 | ⟨⟨p, q, l, e2⟩, hc⟩
        · rw [e2]; dsimp only; rw [hn]
          cases hm : numS lo hi b with
          | none =>
            rw [gd_t _ (by rfl), if_neg (by simp [numR, nilI, partE])]
            exact ⟨_, rfl, rfl⟩
          | some m =>
            rw [gd_t _ (by rfl)]
            by_cases hnm : n ≤ m
            · rw [if_neg (by simp [numR]; omega)]
              refine ⟨_, rfl, ?_⟩
              rw [Option.bind_some, Option.bind_some, if_pos hnm]; rfl
            · rw [if_pos (by simp [numR, nilI, nilE]; omega)]
              refine ⟨_, rfl, ?_⟩
              rw [Option.bind_some, Option.bind_some, if_neg hnm]
        · rw [e2, numS_not (by decide) hc]
          rw [gd_t _ (by rfl), if_neg (by simp [numR, nilI, partE])]
          exact ⟨_, rfl, rfl⟩
theorem spanS_b {lo hi : Nat} {x : Str} {p : Nat × Nat × Bool} (hl : lo ≤ hi) (h : spanS lo hi x = some p) : lo ≤ p.1 ∧ p.1 ≤ p.2.1 ∧ p.2.1 ≤ hi := by
  unfold spanS at h
  split at h
  · cases h; exact ⟨Nat.le_refl _, hl, Nat.le_refl _⟩
  · split at h
    · obtain ⟨n, hn, rfl⟩ := Option.map_eq_some_iff.1 h
      have := numS_b hn
      exact ⟨this.1, Nat.le_refl _, this.2⟩
    · obtain ⟨n, hn, h⟩ := Option.bind_eq_some_iff.1 h
      obtain ⟨m, hm, h⟩ := Option.bind_eq_some_iff.1 h
      have h1 := numS_b hn
      have h2 := numS_b hm
      split at h
      · cases h; dsimp only; omega
      · cases h
    · cases h
theorem partS_b {lo hi : Nat} {x : Str} {p : Nat × Nat × Nat} (hl : lo ≤ hi) (h : partS lo hi x = some p) : lo ≤ p.1 ∧ p.1 ≤ p.2.1 ∧ p.2.1 ≤ hi ∧ 1 ≤ p.2.2 ∧ p.2.2 ≤ 59 := by
  unfold partS at h
  split at h
  · obtain ⟨r, hr, rfl⟩ := Option.map_eq_some_iff.1 h
    have := spanS_b hl hr
    dsimp only; omega
  · obtain ⟨r, hr, h⟩ := Option.bind_eq_some_iff.1 h
    obtain ⟨s, hs, h⟩ := Option.bind_eq_some_iff.1 h
    have h1 := spanS_b hl hr
    have h2 := numS_b hs
    split at h
    · cases h; dsimp only; omega
    · cases h
  · cases h
/-- Whether a part has a value. -/
def hitB (p : Nat × Nat × Nat) (u : Nat) : Bool := decide (p.1 ≤ u ∧ u ≤ p.2.1 ∧ (u - p.1) % p.2.2 = 0)
theorem or_one (n v : Nat) (hn : n < 18446744073709551616) (hv : v ≤ 63) : IntKind.u64.wrap (((BitVec.ofInt IntKind.u64.bits ((n : Nat) : Int) ||| BitVec.ofInt IntKind.u64.bits (IntKind.u64.wrap (1 * 2 ^ (min ((v : Nat) : Int).toNat IntKind.u64.bits)))).toNat : Nat) : Int) = ((n ||| 2 ^ v : Nat) : Int) ∧ n ||| 2 ^ v < 18446744073709551616 := by
  have h2 : 2 ^ v < 2 ^ 64 := Nat.pow_lt_pow_right (by omega) (by omega)
  have h3 : n ||| 2 ^ v < 2 ^ 64 := Nat.or_lt_two_pow hn h2
  refine ⟨?_, h3⟩
  have e1 : min ((v : Nat) : Int).toNat IntKind.u64.bits = v := by show min ((v : Nat) : Int).toNat 64 = v; omega
  rw [e1, Int.one_mul, show ((2 : Int) ^ v) = ((2 ^ v : Nat) : Int) by rw [Int.natCast_pow]; rfl]
  have h4 : 2 ^ v < 18446744073709551616 := h2
  rw [w_u64 (n := ((2 ^ v : Nat) : Int)) (Int.natCast_nonneg _) (show ((2 ^ v : Nat) : Int) < ((18446744073709551616 : Nat) : Int) from Int.ofNat_lt.2 h4)]
  show IntKind.u64.wrap (((BitVec.ofInt 64 ((n : Nat) : Int) ||| BitVec.ofInt 64 ((2 ^ v : Nat) : Int)).toNat : Nat) : Int) = _
  rw [BitVec.toNat_or, show BitVec.ofInt 64 ((n : Nat) : Int) = BitVec.ofNat 64 n from BitVec.ofInt_natCast .., show BitVec.ofInt 64 ((2 ^ v : Nat) : Int) = BitVec.ofNat 64 (2 ^ v) from BitVec.ofInt_natCast .., BitVec.toNat_ofNat, BitVec.toNat_ofNat, Nat.mod_eq_of_lt hn, Nat.mod_eq_of_lt h2]
  exact w_u64 (Int.natCast_nonneg _) (show ((n ||| 2 ^ v : Nat) : Int) < ((18446744073709551616 : Nat) : Int) from Int.ofNat_lt.2 h3)
theorem values_loop (s : Str) (b : cron_bounds) (t2 : cron_bounds × Bool × Sc) (e : Sc) (hi st : Nat) (hh : t2.1.high = (hi : Int)) (hhi : hi ≤ 59) (h1 : 1 ≤ st) (h59 : st ≤ 59) : ∀ (m v n : Nat), n < 18446744073709551616 → hi + 1 - v < m → v ≤ 200 →
    ∃ (N : Nat) (z : Int), f_cron_values_l15 s b t2 (e, (st : Int)) m (n : Int) (v : Int) = some ((N : Int), z) ∧ N < 18446744073709551616 ∧ ∀ u, N.testBit u = (n.testBit u || decide (v ≤ u ∧ u ≤ hi ∧ (u - v) % st = 0))
  | 0, v, n, k0, k1, k2 => absurd k1 (Nat.not_lt_zero _)
  | m + 1, v, n, k0, k1, k2 => by
    rw [f_cron_values_l15, hh]
    by_cases hv : v ≤ hi
    · obtain ⟨q1, q2⟩ := or_one n v k0 (by omega)
      rw [if_pos (by simp; omega), gd_t _ (by omega), Option.bind_some, q1, w_i64 (n := (v : Int) + ((e, (st : Int)) : Sc × Int).2) (by dsimp only; omega) (by dsimp only; omega)]
      obtain ⟨N, z, g1, g2, g3⟩ := values_loop s b t2 e hi st hh hhi h1 h59 m (v + st) (n ||| 2 ^ v) q2 (by omega) (by omega)
      refine ⟨N, z, g1, g2, fun u => ?_⟩
      rw [g3 u, Nat.testBit_or, Nat.testBit_two_pow, Bool.or_assoc]
      congr 1
      rw [← Bool.decide_or, decide_eq_decide]
      constructor
      · rintro (rfl | ⟨a, b, c⟩)
        · exact ⟨Nat.le_refl _, hv, by simp⟩
        · refine ⟨by omega, b, ?_⟩
          rw [show u - v = (u - (v + st)) + st by omega, Nat.add_mod_right]; exact c
      · rintro ⟨a, b, c⟩
        by_cases huv : v = u
        · exact .inl huv
        · right
          have : st ≤ u - v := by
            rcases Nat.lt_or_ge (u - v) st with hlt | hge
            · rw [Nat.mod_eq_of_lt hlt] at c; omega
            · exact hge
          refine ⟨by omega, b, ?_⟩
          rw [show u - v = (u - (v + st)) + st by omega, Nat.add_mod_right] at c; exact c
    · rw [if_neg (by simp; omega)]
      refine ⟨n, (v : Int), rfl, k0, fun u => ?_⟩
      have : decide (v ≤ u ∧ u ≤ hi ∧ (u - v) % st = 0) = false := by
        rw [decide_eq_false_iff_not]; omega
      rw [this, Bool.or_false]
theorem values_ok (lo hi : Nat) (hl : lo ≤ hi) (hhi : hi ≤ 59) (x : Str) (hx : x.length ≤ 140737488355328) : match partS lo hi x with
    | some p => ∃ N : Nat, f_cron_values x ⟨(lo : Int), (hi : Int)⟩ = some ((N : Int), nilE) ∧ N < 18446744073709551616 ∧ ∀ u, N.testBit u = hitB p u
    | none => f_cron_values x ⟨(lo : Int), (hi : Int)⟩ = some (0, partE) := by
  unfold f_cron_values
  rw [cut_ok _ _ (by omega), Option.bind_some]
  have fin : ∀ (t2 : cron_bounds × Bool × Sc) (p : Nat × Nat × Nat), t2.1 = ⟨(p.1 : Int), (p.2.1 : Int)⟩ → p.1 ≤ p.2.1 → p.2.1 ≤ 59 → 1 ≤ p.2.2 → p.2.2 ≤ 59 → ∃ N : Nat, (Option.bind (f_cron_values_l15 x ⟨(lo : Int), (hi : Int)⟩ t2 (nilE, (p.2.2 : Int)) (((t2.1.high : Int) - t2.1.low).toNat + 2) 0 t2.1.low) fun s3 : Int × Int => some (s3.1, (Sc.z Zk.nilIface))) = some ((N : Int), nilE) ∧ N < 18446744073709551616 ∧ ∀ u, N.testBit u = hitB p u := by
    intro t2 p ht h1 h2 h3 h4
    obtain ⟨N, z, g1, g2, g3⟩ := values_loop x ⟨(lo : Int), (hi : Int)⟩ t2 nilE p.2.1 p.2.2 (by rw [ht]) h2 h3 h4 (((t2.1.high : Int) - t2.1.low).toNat + 2) p.1 0 (by omega) (by rw [ht]; dsimp only; omega) (by omega)
    refine ⟨N, ?_, g2, fun u => by rw [g3 u]; simp [hitB]⟩
    have hlow : t2.1.low = (p.1 : Int) := by rw [ht]
    rw [hlow] at g1 ⊢
    rw [show (0 : Int) = ((0 : Nat) : Int) from rfl, g1]; rfl
  rcases cut_split 47 x with ⟨e1, e2⟩ | ⟨a, b, e1, ha, hb, e2⟩
  · obtain ⟨r, hr, hr2⟩ := span_ok lo hi x hx
    rw [e1]
    dsimp only
    rw [hr, Option.bind_some]
    have hp : partS lo hi x = (spanS lo hi x).map fun r => (r.1, r.2.1, 1) := by unfold partS; rw [e2]
    rw [hp]
    cases hs : spanS lo hi x with
    | none =>
      rw [hs] at hr2
      dsimp only [Option.map_none] at hr2 ⊢
      rw [hr2, gd_t _ (by rfl), if_neg (by simp), Option.bind_some, gd_t _ (by rfl), if_pos (by rfl)]
    | some p =>
      rw [hs] at hr2
      dsimp only [Option.map_some] at hr2 ⊢
      have hb := spanS_b hl hs
      subst hr2
      dsimp only
      rw [gd_t _ (by rfl), if_neg (by simp), Option.bind_some, gd_t _ (by rfl), if_neg (by simp [nilI])]
      exact fin (⟨(p.1 : Int), (p.2.1 : Int)⟩, p.2.2, nilE) (p.1, p.2.1, 1) rfl hb.2.1 (by dsimp only; omega) (by dsimp only; omega) (by dsimp only; omega)
  · obtain ⟨r, hr, hr2⟩ := span_ok lo hi a (by omega)
    rw [e1]
    dsimp only
    rw [hr, Option.bind_some]
    have hnum := number_ok 1 59 b (by omega)
    have hnum' : f_cron_number b (cron_bounds.mk 1 59) = some (numR (numS 1 59 b)) := hnum
    cases hs : spanS lo hi a with
    | none =>
      have hp : partS lo hi x = none := by
        unfold partS
        rcases e2 with e2 | ⟨⟨p, q, l, e2⟩, hc⟩ <;> rw [e2]
        dsimp only; rw [hs]; rfl
      rw [hs] at hr2
      rw [hp]
      dsimp only at hr2 ⊢
      rw [hr2, gd_t _ (by rfl), if_neg (by simp [nilI]), Option.bind_some, gd_t _ (by rfl), if_pos (by rfl)]
    | some p =>
      rw [hs] at hr2
      have hb2 := spanS_b hl hs
      dsimp only at hr2
      subst hr2
      dsimp only
      rw [gd_t _ (by rfl), if_pos (by rfl), hnum', Option.bind_some]
      by_cases hmay : p.2.2 = true
      · rw [if_neg (by rw [hmay]; decide), Option.bind_some]
        dsimp only
        cases hn : numS 1 59 b with
        | none =>
          have hp : partS lo hi x = none := by
            unfold partS
            rcases e2 with e2 | ⟨⟨p, q, l, e2⟩, hc⟩ <;> rw [e2]
            dsimp only; rw [hs, hn]; rfl
          rw [hp]
          dsimp only
          rw [gd_t _ (by rfl), if_pos (by rfl)]
          rfl
        | some st =>
          have hb3 := numS_b hn
          have hp : partS lo hi x = some (p.1, p.2.1, st) := by
            unfold partS
            rcases e2 with e2 | ⟨⟨_, q, l, e2⟩, hc⟩
            · rw [e2]; dsimp only; rw [hs, hn, Option.bind_some, Option.bind_some, if_pos hmay]
            · rw [numS_not (by decide) hc] at hn; cases hn
          rw [hp]
          dsimp only
          rw [gd_t _ (by rfl), if_neg (by simp [nilI, numR])]
          exact fin (⟨(p.1 : Int), (p.2.1 : Int)⟩, p.2.2, nilE) (p.1, p.2.1, st) rfl hb2.2.1 (by dsimp only; omega) hb3.1 hb3.2
      · have hp : partS lo hi x = none := by
          unfold partS
          rcases e2 with e2 | ⟨⟨_, q, l, e2⟩, hc⟩ <;> rw [e2]
          dsimp only; rw [hs, Option.bind_some]
          cases hn : numS 1 59 b with
          | none => rfl
          | some st => rw [Option.bind_some, if_neg hmay]
        rw [if_pos (by simpa using hmay), Option.bind_some, hp]
        dsimp only
        rw [gd_t _ (by rfl), if_pos (by rfl)]
end Go.Proofs.YthcngbbceahdlaaDoor.V.M.Cr
end

section
/- Parts, fields and schedules by the reference; both say the same: CronParses. -/
namespace Go.Proofs.YthcngbbceahdlaaDoor.V.M.Cr
set_option linter.unusedVariables false
set_option linter.unusedSimpArgs false
open Go Go.RowKit Go.Proofs.YthcngbbceahdlaaDoor.V.M
abbrev P0 : consignorref08_P := ⟨0, 0, 0⟩
def mkP (p : Nat × Nat × Nat) : consignorref08_P := ⟨(p.1 : Int), (p.2.1 : Int), (p.2.2 : Int)⟩
def mkO (r : Option (Nat × Nat × Nat)) : consignorref08_P := match r with | some p => mkP p | none => P0
def spanR (r : Option (Nat × Nat × Bool)) : (Int × Int) ⊕ consignorref08_P := match r with | some p => .inl ((p.1 : Int), (p.2.1 : Int)) | none => .inr P0
theorem ix_zero {α : Type} (a : α) (l : List α) : ix (a :: l) 0 = some a := by
  show ix (a :: l) ((0 : Nat) : Int) = _
  rw [ix_nat]; rfl
theorem ix_one {α : Type} (a b : α) (l : List α) : ix (a :: b :: l) 1 = some b := by
  show ix (a :: b :: l) ((1 : Nat) : Int) = _
  rw [ix_nat]; rfl
theorem numI_neg {r : Option Nat} : numI r < 0 ↔ r = none := by
  cases r with
  | none => simp [numI]
  | some n => simp [numI]
theorem numI_n : numI none = -1 := rfl
theorem numI_s (n : Nat) : numI (some n) = (n : Int) := rfl
theorem rspan_ok (lo hi : Nat) (a : Str) (ha : a.length ≤ 1000000) (h : a ≠ [42]) : ((ix (splitOnB 45 a) 0).bind fun x3 =>
      (f_ref08_number x3 (lo : Int) (hi : Int)).bind fun t3 =>
      (ix (splitOnB 45 a) (IntKind.i64.wrap (((splitOnB 45 a).length : Int) - 1))).bind fun x4 =>
      (f_ref08_number x4 (lo : Int) (hi : Int)).bind fun t4 =>
      if (((decide (((splitOnB 45 a).length : Int) > 2)) || (decide (t3 < 0))) || (decide (t4 < t3))) then
        some (.inr (consignorref08_P.mk 0 0 0))
      else
        some (.inl (t3, t4))) = some (spanR (spanS lo hi a)) := by
  have hs : spanS lo hi a = match splitOnB 45 a with
      | [a] => (numS lo hi a).map fun n => (n, n, false)
      | [a, b] => (numS lo hi a).bind fun n => (numS lo hi b).bind fun m => if n ≤ m then some (n, m, true) else none
      | _ => none := if_neg h
  rw [hs]
  obtain ⟨hl1, hl2⟩ := splitOnB_len 45 a
  generalize hq : splitOnB 45 a = t at hl1 hl2 ⊢
  match t, hl1, hl2, hq with
  | [], _, _, hq => exact absurd hq (splitOnB_ne _ _)
  | [p], _, hl2, _ =>
    have hp := hl2 p (by simp)
    rw [ix_zero, Option.bind_some, rnumber_ok lo hi p (by omega), Option.bind_some]
    rw [show IntKind.i64.wrap ((([p] : List Str).length : Int) - 1) = 0 from rfl, ix_zero, Option.bind_some, rnumber_ok lo hi p (by omega), Option.bind_some]
    dsimp only
    cases hn : numS lo hi p with
    | none => rw [if_pos (by simp only [Bool.or_eq_true, decide_eq_true_eq]; simp only [numI_n, numI_s, List.length_cons, List.length_nil]; omega)]; rfl
    | some n => rw [if_neg (by simp only [Bool.or_eq_true, decide_eq_true_eq]; simp only [numI_n, numI_s, List.length_cons, List.length_nil]; omega)]; rfl
  | [p, q], _, hl2, _ =>
    have hp := hl2 p (by simp)
    have hq2 := hl2 q (by simp)
    rw [ix_zero, Option.bind_some, rnumber_ok lo hi p (by omega), Option.bind_some]
    rw [show IntKind.i64.wrap ((([p, q] : List Str).length : Int) - 1) = 1 from rfl, ix_one, Option.bind_some, rnumber_ok lo hi q (by omega), Option.bind_some]
    dsimp only
    cases hn : numS lo hi p with
    | none => rw [if_pos (by simp only [Bool.or_eq_true, decide_eq_true_eq]; simp only [numI_n, numI_s, List.length_cons, List.length_nil]; omega)]; rfl
    | some n =>
      cases hm : numS lo hi q with
      | none => rw [if_pos (by simp only [Bool.or_eq_true, decide_eq_true_eq]; simp only [numI_n, numI_s, List.length_cons, List.length_nil]; omega)]; rfl
      | some m =>
        rw [Option.bind_some, Option.bind_some]
        by_cases hnm : n ≤ m
        · rw [if_pos hnm, if_neg (by simp only [Bool.or_eq_true, decide_eq_true_eq]; simp only [numI_n, numI_s, List.length_cons, List.length_nil]; omega)]; rfl
        · rw [if_neg hnm, if_pos (by simp only [Bool.or_eq_true, decide_eq_true_eq]; simp only [numI_n, numI_s, List.length_cons, List.length_nil]; omega)]; rfl
  | p :: q :: r :: l, hl1, hl2, _ =>
    have hp := hl2 p (by simp)
    simp only [List.length_cons] at hl1
    rw [ix_zero, Option.bind_some, rnumber_ok lo hi p (by omega), Option.bind_some]
    have e : IntKind.i64.wrap (((p :: q :: r :: l).length : Int) - 1) = ((l.length + 2 : Nat) : Int) := by
      rw [w_i64 (by simp; omega) (by simp; omega)]; simp; omega
    have hz : (p :: q :: r :: l)[l.length + 2]? = some ((p :: q :: r :: l)[l.length + 2]'(by simp)) := List.getElem?_eq_getElem _
    rw [e, ix_nat, hz, Option.bind_some, rnumber_ok lo hi _ (by have := hl2 _ (List.getElem_mem (l := p :: q :: r :: l) (n := l.length + 2) (by simp)); omega), Option.bind_some, if_pos (by simp; omega)]
    rfl
theorem spanS_may {lo hi : Nat} {a : Str} {p : Nat × Nat × Bool} (h : spanS lo hi a = some p) : p.2.2 = !((!(a == ([42] : Str))) && (((splitOnB 45 a).length : Int) == 1)) := by
  unfold spanS at h
  split at h
  · rename_i ha
    cases h; subst ha; rfl
  · rename_i ha
    have ha' : (a == ([42] : Str)) = false := by simpa using ha
    rw [ha']
    split at h
    · rename_i e
      obtain ⟨n, hn, rfl⟩ := Option.map_eq_some_iff.1 h
      rw [e]; rfl
    · rename_i e
      obtain ⟨n, hn, h⟩ := Option.bind_eq_some_iff.1 h
      obtain ⟨m, hm, h⟩ := Option.bind_eq_some_iff.1 h
      split at h
      · cases h; rw [e]; rfl
      · cases h
    · cases h
theorem rpart_ok (lo hi : Nat) (x : Str) (hx : x.length ≤ 1000000) : f_ref08_part x (lo : Int) (hi : Int) = some (mkO (partS lo hi x)) := by
  unfold f_ref08_part
  have hsp : f_ref03_Split x 47 = some (splitOnB 47 x) := rsplit_ok 47 x (by omega)
  rw [hsp, Option.bind_some]
  obtain ⟨hl1, hl2⟩ := splitOnB_len 47 x
  have hpart : partS lo hi x = match splitOnB 47 x with
    | [a] => (spanS lo hi a).map fun r => (r.1, r.2.1, 1)
    | [a, b] => (spanS lo hi a).bind fun r => (numS 1 59 b).bind fun s => if r.2.2 then some (r.1, r.2.1, s) else none
    | _ => none := rfl
  rw [hpart]
  generalize hq : splitOnB 47 x = t at hl1 hl2 ⊢
  cases t with
  | nil => exact absurd hq (splitOnB_ne _ _)
  | cons a l =>
    have ha := hl2 a (by simp)
    have hs2 : f_ref03_Split a 45 = some (splitOnB 45 a) := rsplit_ok 45 a (by omega)
    rw [ix_zero, Option.bind_some, hs2, Option.bind_some, Option.bind_some]
    have hmid : (if (!(a == ([42] : Str))) = true then
        ((ix (splitOnB 45 a) 0).bind fun x3 =>
        (f_ref08_number x3 (lo : Int) (hi : Int)).bind fun t3 =>
        (ix (splitOnB 45 a) (IntKind.i64.wrap (((splitOnB 45 a).length : Int) - 1))).bind fun x4 =>
        (f_ref08_number x4 (lo : Int) (hi : Int)).bind fun t4 =>
        if (((decide (((splitOnB 45 a).length : Int) > 2)) || (decide (t3 < 0))) || (decide (t4 < t3))) then
          some (.inr (consignorref08_P.mk 0 0 0))
        else
          some (.inl (t3, t4)))
      else some (.inl ((lo : Int), (hi : Int)))) = some (spanR (spanS lo hi a)) := by
      by_cases h : a = [42]
      · rw [if_neg (by simpa using h)]
        unfold spanS; rw [if_pos h]; rfl
      · rw [if_pos (by simpa using h)]
        exact rspan_ok lo hi a (by omega) h
    rw [hmid, Option.bind_some]
    cases hs : spanS lo hi a with
    | none =>
      have : (match a :: l with
        | [a] => (spanS lo hi a).map fun r => (r.1, r.2.1, 1)
        | [a, b] => (spanS lo hi a).bind fun r => (numS 1 59 b).bind fun s => if r.2.2 then some (r.1, r.2.1, s) else none
        | _ => none) = (none : Option (Nat × Nat × Nat)) := by
        split
        · rename_i e; cases e; rw [hs]; rfl
        · rename_i e; cases e; rw [hs]; rfl
        · rfl
      rw [this]; rfl
    | some p =>
      have hmay := spanS_may hs
      match l, hl2 with
      | [], _ =>
        show (if (decide ((([a] : List Str).length : Int) > 1)) = true then _ else _) = _
        rw [if_neg (by simp)]
        dsimp only
        rw [hs]; rfl
      | [b], hl2 =>
        have hb := hl2 b (by simp)
        show (if (decide ((([a, b] : List Str).length : Int) > 1)) = true then _ else _) = _
        have hnum : f_ref08_number b 1 59 = some (numI (numS 1 59 b)) := rnumber_ok 1 59 b (by omega)
        rw [if_pos (by simp), ix_one, Option.bind_some, hnum, Option.bind_some]
        dsimp only
        rw [hs, Option.bind_some]
        cases hn : numS 1 59 b with
        | none =>
          have e : (!((decide ((([a, b] : List Str).length : Int) > 2)) || (decide (numI none < 0)))) = false := by simp [numI]
          rw [e]
          show Option.bind (some default) _ = _
          rw [Option.bind_some, if_pos (by simp [numI])]; rfl
        | some s =>
          have h00 : ¬ (numI (some s) < 0) := by rw [numI_s]; omega
          have e : (!((decide ((([a, b] : List Str).length : Int) > 2)) || (decide (numI (some s) < 0)))) = true := by simp [h00]
          rw [e]
          show Option.bind (some a) _ = _
          rw [Option.bind_some, Option.bind_some]
          by_cases hm : p.2.2 = true
          · rw [if_pos hm]
            rw [hm] at hmay
            have hmay' : ((!(a == ([42] : Str))) && (((splitOnB 45 a).length : Int) == 1)) = false := by
              cases h : ((!(a == ([42] : Str))) && (((splitOnB 45 a).length : Int) == 1)) with
              | false => rfl
              | true => rw [h] at hmay; cases hmay
            rw [hmay', if_neg (by simp [h00])]
            rfl
          · rw [if_neg hm]
            have hm2 : p.2.2 = false := by simpa using hm
            rw [hm2] at hmay
            have hmay' : ((!(a == ([42] : Str))) && (((splitOnB 45 a).length : Int) == 1)) = true := by
              cases h : ((!(a == ([42] : Str))) && (((splitOnB 45 a).length : Int) == 1)) with
              | true => rfl
              | false => rw [h] at hmay; cases hmay
            rw [hmay', if_pos (by simp)]
            rfl
      | b :: c :: l, hl2 =>
        have hb := hl2 b (by simp)
        show (if (decide (((a :: b :: c :: l : List Str).length : Int) > 1)) = true then _ else _) = _
        have hnum : f_ref08_number b 1 59 = some (numI (numS 1 59 b)) := rnumber_ok 1 59 b (by omega)
        have e0 : decide (((a :: b :: c :: l : List Str).length : Int) > 2) = true := by simp; omega
        rw [if_pos (by simp; omega), ix_one, Option.bind_some, hnum, Option.bind_some, e0]
        show Option.bind (some default) _ = _
        rw [Option.bind_some, if_pos (by simp)]
        rfl
end Go.Proofs.YthcngbbceahdlaaDoor.V.M.Cr
end

section
/- Fields and schedules by both: CronParses. -/
namespace Go.Proofs.YthcngbbceahdlaaDoor.V.M.Cr
set_option linter.unusedVariables false
set_option linter.unusedSimpArgs false
open Go Go.RowKit Go.Proofs.YthcngbbceahdlaaDoor.V.M
def mapS (f : Str → Option (Nat × Nat × Nat)) : List Str → Option (List (Nat × Nat × Nat))
  | [] => some []
  | x :: l => (f x).bind fun p => (mapS f l).bind fun ps => some (p :: ps)
def errR (r : Option Nat) : Int × Bool := match r with | some n => ((n : Int), false) | none => (0, true)
theorem orU_nat (n v : Nat) (hn : n < 18446744073709551616) (hv : v < 18446744073709551616) : orU (n : Int) (v : Int) = ((n ||| v : Nat) : Int) ∧ n ||| v < 18446744073709551616 := by
  have h3 : n ||| v < 2 ^ 64 := Nat.or_lt_two_pow hn hv
  refine ⟨?_, h3⟩
  show IntKind.u64.wrap (((BitVec.ofInt 64 ((n : Nat) : Int) ||| BitVec.ofInt 64 ((v : Nat) : Int)).toNat : Nat) : Int) = _
  rw [BitVec.toNat_or, show BitVec.ofInt 64 ((n : Nat) : Int) = BitVec.ofNat 64 n from BitVec.ofInt_natCast .., show BitVec.ofInt 64 ((v : Nat) : Int) = BitVec.ofNat 64 v from BitVec.ofInt_natCast .., BitVec.toNat_ofNat, BitVec.toNat_ofNat, Nat.mod_eq_of_lt hn, Nat.mod_eq_of_lt hv]
  exact w_u64 (Int.natCast_nonneg _) (show ((n ||| v : Nat) : Int) < ((18446744073709551616 : Nat) : Int) from Int.ofNat_lt.2 h3)
theorem isPart_nil : isPart nilE = some false := rfl
theorem isPart_part : isPart partE = some true := rfl
theorem fold_ok (lo hi : Nat) (hl : lo ≤ hi) (hhi : hi ≤ 59) : ∀ (t : List Str) (n : Nat), (∀ x ∈ t, x.length ≤ 1000000) → n < 18446744073709551616 → match mapS (partS lo hi) t with
    | some ps => ∃ N : Nat, foldF (partV ⟨(lo : Int), (hi : Int)⟩) (n : Int) t = some ((N : Int), false) ∧ N < 18446744073709551616 ∧ ∀ u, N.testBit u = (n.testBit u || ps.any fun p => hitB p u)
    | none => foldF (partV ⟨(lo : Int), (hi : Int)⟩) (n : Int) t = some (0, true)
  | [], n, ht, hn => ⟨n, rfl, hn, fun u => by simp⟩
  | x :: l, n, ht, hn => by
    have hv := values_ok lo hi hl hhi x (by have := ht x (by simp); omega)
    rw [mapS, foldF]
    unfold partV
    cases hp : partS lo hi x with
    | none =>
      rw [hp] at hv
      dsimp only at hv
      rw [hv]
      rfl
    | some p =>
      rw [hp] at hv
      obtain ⟨N, e1, e2, e3⟩ := hv
      obtain ⟨q1, q2⟩ := orU_nat n N hn e2
      have ih := fold_ok lo hi hl hhi l (n ||| N) (fun y hy => ht y (by simp [hy])) q2
      rw [e1, Option.bind_some, Option.bind_some, isPart_nil, Option.map_some, Option.bind_some, if_neg (by simp)]
      dsimp only
      rw [q1]
      cases hm : mapS (partS lo hi) l with
      | none =>
        rw [hm] at ih
        exact ih
      | some ps =>
        rw [hm] at ih
        obtain ⟨M, g1, g2, g3⟩ := ih
        refine ⟨M, g1, g2, fun u => ?_⟩
        rw [g3 u, Nat.testBit_or, e3 u, List.any_cons, Bool.or_assoc]
theorem mapS_b {lo hi : Nat} (hl : lo ≤ hi) : ∀ {t : List Str} {ps}, mapS (partS lo hi) t = some ps → ps.length = t.length ∧ ∀ p ∈ ps, lo ≤ p.1 ∧ p.1 ≤ p.2.1 ∧ p.2.1 ≤ hi ∧ 1 ≤ p.2.2 ∧ p.2.2 ≤ 59
  | [], ps, h => by cases h; simp
  | x :: l, ps, h => by
    rw [mapS] at h
    obtain ⟨p, hp, h⟩ := Option.bind_eq_some_iff.1 h
    obtain ⟨qs, hq, h⟩ := Option.bind_eq_some_iff.1 h
    cases h
    have := mapS_b hl hq
    refine ⟨by simp [this.1], fun z hz => ?_⟩
    rcases List.mem_cons.1 hz with rfl | hz
    · exact partS_b hl hp
    · exact this.2 z hz
theorem bit7_ok (s : Str) (lo : Nat) (hi : Int) (hlo : lo ≤ 59) : ∀ (k i m : Nat), i + k = lo → k < m → f_ref08_Field_l7 s (lo : Int) hi m ((2 ^ i : Nat) : Int) (i : Int) = some (((2 ^ lo : Nat) : Int), (lo : Int))
  | k, i, 0, h0, h1 => by omega
  | 0, i, m + 1, h0, h1 => by
    have : i = lo := by omega
    subst this
    rw [f_ref08_Field_l7, if_neg (by simp)]
  | k + 1, i, m + 1, h0, h1 => by
    have hp : 2 ^ (i + 1) ≤ 2 ^ 60 := Nat.pow_le_pow_right (by omega) (by omega)
    have h2 : (2 : Nat) ^ 60 = 1152921504606846976 := rfl
    have e : (2 : Int) * ((2 ^ i : Nat) : Int) = ((2 ^ (i + 1) : Nat) : Int) := by
      rw [Nat.pow_succ, Nat.mul_comm]; rfl
    have hb : ((2 ^ (i + 1) : Nat) : Int) < ((18446744073709551616 : Nat) : Int) := Int.ofNat_lt.2 (by omega)
    rw [f_ref08_Field_l7, if_pos (by simp; omega), e, w_u64 (Int.natCast_nonneg _) hb, w_i64 (by omega) (by omega)]
    exact bit7_ok s lo hi hlo k (i + 1) m (by omega) (by omega)
theorem parts17_ok (s : Str) (lo hi : Nat) (s2 : Int × Int) (t : List Str) (hl : lo ≤ hi) (ht : ∀ x ∈ t, x.length ≤ 1000000) (htl : t.length ≤ 1000000) : ∀ (k v m : Nat) (P : List consignorref08_P), v + k = t.length → k < m → P.length ≤ v →
    ∃ z : Int, f_ref08_Field_l17 s (lo : Int) (hi : Int) s2 t m (v : Int) P = some (match mapS (partS lo hi) (t.drop v) with | some ps => .inl (z, P ++ ps.map mkP) | none => .inr (0, false))
  | k, v, 0, P, h0, h1, h2 => by omega
  | 0, v, m + 1, P, h0, h1, h2 => by
    have : t.drop v = [] := List.drop_eq_nil_of_le (by omega)
    rw [f_ref08_Field_l17, if_neg (by simp; omega), this]
    exact ⟨(v : Int), by simp [mapS]⟩
  | k + 1, v, m + 1, P, h0, h1, h2 => by
    have hlt : v < t.length := by omega
    have hd : t.drop v = t[v] :: t.drop (v + 1) := List.drop_eq_getElem_cons hlt
    have e1 : ix t (v : Int) = some t[v] := by rw [ix_nat]; exact List.getElem?_eq_getElem hlt
    rw [f_ref08_Field_l17, if_pos (by simp; omega), e1, Option.bind_some, rpart_ok lo hi _ (ht _ (List.getElem_mem hlt)), Option.bind_some, hd, mapS]
    cases hp : partS lo hi t[v] with
    | none =>
      rw [if_pos (by rfl)]
      exact ⟨0, rfl⟩
    | some p =>
      have hb := partS_b hl hp
      rw [if_neg (by simp [mkO, mkP]; omega), gd_t _ (by omega), w_s (by omega), Option.bind_some]
      obtain ⟨z, g⟩ := parts17_ok s lo hi s2 t hl ht htl k (v + 1) m (P ++ [mkO (some p)]) (by omega) (by omega) (by simp; omega)
      refine ⟨z, g.trans ?_⟩
      cases mapS (partS lo hi) (t.drop (v + 1)) with
      | none => rfl
      | some ps => simp [mkO]
theorem hit27_ok (s : Str) (lo hi : Nat) (hhi : hi ≤ 59) (z : Int) (ps : List (Nat × Nat × Nat)) (hps : ∀ p ∈ ps, lo ≤ p.1 ∧ p.1 ≤ p.2.1 ∧ p.2.1 ≤ hi ∧ 1 ≤ p.2.2 ∧ p.2.2 ≤ 59) (hpl : ps.length ≤ 1000000) (n bit : Int) (u : Nat) (hu : u ≤ 59) : ∀ (k v m : Nat) (is : Bool), v + k = ps.length → k < m →
    ∃ w : Int, f_ref08_Field_l27 s (hi : Int) (z, ps.map mkP) n bit (u : Int) m is (v : Int) = some ((is || (ps.drop v).any fun p => hitB p u), w)
  | k, v, 0, is, h0, h1 => by omega
  | 0, v, m + 1, is, h0, h1 => by
    have : ps.drop v = [] := List.drop_eq_nil_of_le (by omega)
    rw [f_ref08_Field_l27, if_neg (by simp; omega), this]
    exact ⟨(v : Int), by simp⟩
  | k + 1, v, m + 1, is, h0, h1 => by
    have hlt : v < ps.length := by omega
    have hd : ps.drop v = ps[v] :: ps.drop (v + 1) := List.drop_eq_getElem_cons hlt
    have e1 : ix (ps.map mkP) (v : Int) = some (mkP ps[v]) := by rw [ix_nat, List.getElem?_map, List.getElem?_eq_getElem hlt]; rfl
    have hp := hps _ (List.getElem_mem hlt)
    rw [f_ref08_Field_l27, if_pos (by simp; omega)]
    dsimp only
    rw [e1, Option.bind_some, gd_t _ (by intro _; show (((ps[v]).2.2 : Nat) : Int) ≠ 0; omega), w_s (by omega), hd, List.any_cons]
    generalize hq : ps[v] = p at hp ⊢
    have hc : (((decide ((u : Int) ≥ (mkP p).Low)) && (decide ((u : Int) ≤ (mkP p).High))) && (((IntKind.i64.wrap ((u : Int) - (mkP p).Low)).tmod (mkP p).Step) == 0)) = hitB p u := by
      show (((decide ((u : Int) ≥ (p.1 : Int))) && (decide ((u : Int) ≤ (p.2.1 : Int)))) && (((IntKind.i64.wrap ((u : Int) - (p.1 : Int))).tmod (p.2.2 : Int)) == 0)) = _
      unfold hitB
      by_cases h : p.1 ≤ u ∧ u ≤ p.2.1
      · have e : (u : Int) - (p.1 : Int) = ((u - p.1 : Nat) : Int) := by omega
        rw [e, w_i64 (by omega) (by omega), Int.tmod_eq_emod_of_nonneg (by omega)]
        have e2 : (((u - p.1 : Nat) : Int) % (p.2.2 : Int)) = (((u - p.1) % p.2.2 : Nat) : Int) := rfl
        rw [e2]
        by_cases h3 : (u - p.1) % p.2.2 = 0
        · rw [h3]; simp [h]
        · have : decide (p.1 ≤ u ∧ u ≤ p.2.1 ∧ (u - p.1) % p.2.2 = 0) = false := by rw [decide_eq_false_iff_not]; exact fun q => h3 q.2.2
          rw [this]
          have h4 : ((((u - p.1) % p.2.2 : Nat) : Int) == 0) = false := by
            rw [beq_eq_false_iff_ne]; omega
          rw [h4, Bool.and_false]
      · have : decide (p.1 ≤ u ∧ u ≤ p.2.1 ∧ (u - p.1) % p.2.2 = 0) = false := by rw [decide_eq_false_iff_not]; exact fun q => h ⟨q.1, q.2.1⟩
        rw [this]
        have h5 : ((decide ((u : Int) ≥ (p.1 : Int))) && (decide ((u : Int) ≤ (p.2.1 : Int)))) = false := by
          cases h6 : ((decide ((u : Int) ≥ (p.1 : Int))) && (decide ((u : Int) ≤ (p.2.1 : Int)))) with
          | false => rfl
          | true =>
            rw [Bool.and_eq_true, decide_eq_true_eq, decide_eq_true_eq] at h6
            exact absurd ⟨by omega, by omega⟩ h
        rw [h5, Bool.false_and]
    rw [hc]
    cases hh : hitB p u with
    | true =>
      rw [if_pos rfl]
      obtain ⟨w, g⟩ := hit27_ok s lo hi hhi z ps hps hpl n bit u hu k (v + 1) m true (by omega) (by omega)
      exact ⟨w, by rw [g]; simp⟩
    | false =>
      rw [if_neg (by decide)]
      obtain ⟨w, g⟩ := hit27_ok s lo hi hhi z ps hps hpl n bit u hu k (v + 1) m is (by omega) (by omega)
      exact ⟨w, by rw [g]; simp⟩
theorem sum32_ok (s : Str) (lo hi : Nat) (hhi : hi ≤ 59) (z : Int) (ps : List (Nat × Nat × Nat)) (hps : ∀ p ∈ ps, lo ≤ p.1 ∧ p.1 ≤ p.2.1 ∧ p.2.1 ≤ hi ∧ 1 ≤ p.2.2 ∧ p.2.2 ≤ 59) (hpl : ps.length ≤ 1000000) : ∀ (k v m n : Nat), v + k = hi + 1 → k < m → n < 2 ^ v →
    ∃ (N : Nat) (w : Int × Int), f_ref08_Field_l32 s (hi : Int) (z, ps.map mkP) m (n : Int) ((2 ^ v : Nat) : Int) (v : Int) = some ((N : Int), w.1, w.2) ∧ ∀ u, N.testBit u = (n.testBit u || (decide (v ≤ u ∧ u ≤ hi) && ps.any fun p => hitB p u))
  | k, v, 0, n, h0, h1, h2 => by omega
  | 0, v, m + 1, n, h0, h1, h2 => by
    rw [f_ref08_Field_l32, if_neg (by simp; omega)]
    refine ⟨n, (((2 ^ v : Nat) : Int), (v : Int)), rfl, fun u => ?_⟩
    have : decide (v ≤ u ∧ u ≤ hi) = false := by rw [decide_eq_false_iff_not]; omega
    rw [this]; simp
  | k + 1, v, m + 1, n, h0, h1, h2 => by
    have hp : 2 ^ (v + 1) ≤ 2 ^ 60 := Nat.pow_le_pow_right (by omega) (by omega)
    have h60 : (2 : Nat) ^ 60 = 1152921504606846976 := rfl
    have hsu : 2 ^ (v + 1) = 2 ^ v + 2 ^ v := by rw [Nat.pow_succ]; omega
    have e : (2 : Int) * ((2 ^ v : Nat) : Int) = ((2 ^ (v + 1) : Nat) : Int) := by rw [hsu]; omega
    have hb : ((2 ^ (v + 1) : Nat) : Int) < ((18446744073709551616 : Nat) : Int) := Int.ofNat_lt.2 (by omega)
    obtain ⟨w, g⟩ := hit27_ok s lo hi hhi z ps hps hpl (n : Int) ((2 ^ v : Nat) : Int) v (by omega) ps.length 0 ((((((z, ps.map mkP) : Int × List consignorref08_P).2.length : Int) : Int) - 0).toNat + 1) false (by omega) (by simp)
    rw [f_ref08_Field_l32, if_pos (by simp; omega)]
    rw [show f_ref08_Field_l27 s (hi : Int) (z, ps.map mkP) (n : Int) ((2 ^ v : Nat) : Int) (v : Int) ((((((z, ps.map mkP) : Int × List consignorref08_P).2.length : Int) : Int) - 0).toNat + 1) false 0 = _ from g, Option.bind_some, e, w_u64 (Int.natCast_nonneg _) hb, w_i64 (n := (v : Int) + 1) (by omega) (by omega)]
    dsimp only
    rw [List.drop_zero, Bool.false_or]
    cases hh : ps.any fun p => hitB p v with
    | true =>
      have e3 : (n : Int) + ((2 ^ v : Nat) : Int) = ((2 ^ v + n : Nat) : Int) := by omega
      have hb2 : ((2 ^ v + n : Nat) : Int) < ((18446744073709551616 : Nat) : Int) := Int.ofNat_lt.2 (by omega)
      rw [if_pos rfl, e3, w_u64 (Int.natCast_nonneg _) hb2]
      obtain ⟨N, w2, g1, g2⟩ := sum32_ok s lo hi hhi z ps hps hpl k (v + 1) m (2 ^ v + n) (by omega) (by omega) (by omega)
      refine ⟨N, w2, g1, fun u => ?_⟩
      rw [g2 u, show 2 ^ v + n = 2 ^ v ||| n by have := Nat.two_pow_add_eq_or_of_lt h2 1; simpa using this, Nat.testBit_or, Nat.testBit_two_pow]
      by_cases huv : v = u
      · subst huv
        rw [hh]; simp; omega
      · have h7 : decide (v = u) = false := by rw [decide_eq_false_iff_not]; exact huv
        have h8 : decide (v + 1 ≤ u ∧ u ≤ hi) = decide (v ≤ u ∧ u ≤ hi) := by rw [decide_eq_decide]; omega
        rw [h7, h8, Bool.false_or]
    | false =>
      rw [if_neg (by decide)]
      obtain ⟨N, w2, g1, g2⟩ := sum32_ok s lo hi hhi z ps hps hpl k (v + 1) m n (by omega) (by omega) (by omega)
      refine ⟨N, w2, g1, fun u => ?_⟩
      rw [g2 u]
      by_cases huv : v = u
      · subst huv
        rw [hh]; simp
      · have h8 : decide (v + 1 ≤ u ∧ u ≤ hi) = decide (v ≤ u ∧ u ≤ hi) := by rw [decide_eq_decide]; omega
        rw [h8]
def fldC (r : Option Nat) : Int × Sc := match r with | some n => ((n : Int), nilE) | none => (0, partE)
def fldR (r : Option Nat) : Int × Bool := match r with | some n => ((n : Int), true) | none => (0, false)
theorem field_both (lo hi : Nat) (hl : lo ≤ hi) (hhi : hi ≤ 59) (x : Str) (hx : x.length ≤ 1000) : ∃ r : Option Nat, f_cron_field x ⟨(lo : Int), (hi : Int)⟩ = some (fldC r) ∧ f_ref08_Field x (lo : Int) (hi : Int) = some (fldR r) := by
  obtain ⟨hs1, hs2⟩ := splitOnB_len 44 x
  have hc := fold_ok lo hi hl hhi (splitOnB 44 x) 0 (fun y hy => by have := hs2 y hy; omega) (by omega)
  have e7 : f_ref08_Field_l7 x (lo : Int) (hi : Int) ((((lo : Int) : Int) - 0).toNat + 1) 1 0 = some (((2 ^ lo : Nat) : Int), (lo : Int)) := bit7_ok x lo (hi : Int) (by omega) lo 0 _ (by omega) (by omega)
  have hsp : f_ref03_Split x 44 = some (splitOnB 44 x) := rsplit_ok 44 x (by omega)
  obtain ⟨z, e17⟩ := parts17_ok x lo hi (((2 ^ lo : Nat) : Int), (lo : Int)) (splitOnB 44 x) hl (fun y hy => by have := hs2 y hy; omega) (by omega) (splitOnB 44 x).length 0 (((((splitOnB 44 x).length : Int) : Int) - 0).toNat + 1) [] (by omega) (by omega) (by simp)
  rw [List.drop_zero] at e17
  unfold f_cron_field f_ref08_Field fieldOf
  rw [gd_t _ (by omega), e7, Option.bind_some, hsp, Option.bind_some]
  rw [show f_ref08_Field_l17 x (lo : Int) (hi : Int) (((2 ^ lo : Nat) : Int), (lo : Int)) (splitOnB 44 x) (((((splitOnB 44 x).length : Int) : Int) - 0).toNat + 1) 0 ([] : List consignorref08_P) = _ from e17, Option.bind_some]
  cases hm : mapS (partS lo hi) (splitOnB 44 x) with
  | none =>
    rw [hm] at hc
    refine ⟨none, ?_, rfl⟩
    rw [show foldF (partV ⟨(lo : Int), (hi : Int)⟩) 0 (splitOnB 44 x) = some (0, true) from hc]; rfl
  | some ps =>
    rw [hm] at hc
    obtain ⟨N, g1, g2, g3⟩ := hc
    obtain ⟨hpl, hps⟩ := mapS_b hl hm
    obtain ⟨N2, w, k1, k2⟩ := sum32_ok x lo hi hhi z ps hps (by omega) (hi + 1 - lo) lo ((((hi : Int) : Int) - (lo : Int)).toNat + 2) 0 (by omega) (by omega) (Nat.two_pow_pos lo)
    refine ⟨some N, ?_, ?_⟩
    · rw [show foldF (partV ⟨(lo : Int), (hi : Int)⟩) 0 (splitOnB 44 x) = some ((N : Int), false) from g1]; rfl
    · dsimp only
      rw [List.nil_append]
      rw [show f_ref08_Field_l32 x (hi : Int) (z, ps.map mkP) ((((hi : Int) : Int) - (lo : Int)).toNat + 2) 0 ((2 ^ lo : Nat) : Int) (lo : Int) = some ((N2 : Int), w.1, w.2) from k1, Option.bind_some]
      have : N2 = N := by
        refine Nat.eq_of_testBit_eq fun u => ?_
        rw [k2 u, g3 u, Nat.zero_testBit, Bool.false_or, Bool.false_or]
        by_cases h : lo ≤ u ∧ u ≤ hi
        · rw [decide_eq_true h, Bool.true_and]
        · rw [decide_eq_false h, Bool.false_and]
          symm
          rw [List.any_eq_false]
          intro p hp hh
          have := hps p hp
          have h2 := of_decide_eq_true hh
          omega
      rw [this]; rfl
theorem step13 (s : Str) (t : List Str) (t2 : List cron_bounds) (ht2 : t2.length = 5) (i m : Nat) (hi5 : i < 5) (bits : List Int) (hb : bits.length = 5) (lo hi : Nat) (x : Str) (r : Option Nat) (e2 : t2[i]? = some ⟨(lo : Int), (hi : Int)⟩) (e1 : t[i]? = some x) (hr : f_cron_field x ⟨(lo : Int), (hi : Int)⟩ = some (fldC r)) :
    f_cron_Parse_l13 s t t2 (m + 1) (i : Int) bits = match r with | some n => f_cron_Parse_l13 s t t2 m ((i + 1 : Nat) : Int) (bits.set i (n : Int)) | none => some (.inr ((api_Cron.mk 0 0 0 0 0 false false), 6)) := by
  rw [f_cron_Parse_l13, if_pos (by simp; omega), gd_t _ ht2, ix_nat, e2, Option.bind_some, ix_nat, e1, Option.bind_some]
  refine (congrArg (fun o => Option.bind o _) hr).trans ?_
  rw [Option.bind_some]
  cases r with
  | none => rfl
  | some n =>
    rw [show f_errors_Is (fldC (some n)).2 (.ifc 86 true []) = some false from rfl, Option.bind_some, if_neg (by decide), gd_t _ (by omega), gd_t _ (by omega), w_s (by omega)]
    rfl
theorem len5 {α : Type} (l : List α) (h : l.length = 5) : ∃ a b c d e, l = [a, b, c, d, e] := by
  match l, h with
  | [a, b, c, d, e], _ => exact ⟨a, b, c, d, e, rfl⟩
theorem parses_ok (s : Str) (hs : s.length ≤ 210) : ∃ (c : api_Cron) (ok : Bool), f_cron_Parse s = some (c, if ok then 0 else 6) ∧ f_ref08_Parse s = some (c, ok) := by
  obtain ⟨hs1, hs2⟩ := splitOnB_len 32 s
  have hsp : f_ref03_Split s 32 = some (splitOnB 32 s) := rsplit_ok 32 s (by omega)
  unfold f_cron_Parse f_ref08_Parse
  rw [split_ok s 32 (by omega), Option.bind_some, hsp, Option.bind_some]
  have hf : f_cron_fields = some [⟨0, 59⟩, ⟨0, 23⟩, ⟨1, 31⟩, ⟨1, 12⟩, ⟨0, 6⟩] := rfl
  by_cases h200 : (s.length : Int) > 200
  · have e : decide ((s.length : Int) > 200) = true := decide_eq_true h200
    rw [e, if_pos rfl, Option.bind_some, if_pos rfl, if_pos (by rfl)]
    exact ⟨_, false, rfl, rfl⟩
  · have e : decide ((s.length : Int) > 200) = false := decide_eq_false h200
    rw [e, if_neg (by decide), hf, Option.bind_some, Option.bind_some, Bool.false_or]
    by_cases h5 : (splitOnB 32 s).length = 5
    · have e5 : (((splitOnB 32 s).length : Int) != 5) = false := by rw [h5]; rfl
      rw [e5, if_neg (by decide), if_neg (by decide), Option.bind_some]
      obtain ⟨a, b, c, d, f, hq⟩ := len5 _ h5
      rw [hq] at hs2
      rw [hq]
      have la := hs2 a (by simp)
      have lb := hs2 b (by simp)
      have lc := hs2 c (by simp)
      have ld := hs2 d (by simp)
      have lf := hs2 f (by simp)
      obtain ⟨r0, c0, d0⟩ := field_both 0 59 (by omega) (by omega) a (by omega)
      obtain ⟨r1, c1, d1⟩ := field_both 0 23 (by omega) (by omega) b (by omega)
      obtain ⟨r2, c2, d2⟩ := field_both 1 31 (by omega) (by omega) c (by omega)
      obtain ⟨r3, c3, d3⟩ := field_both 1 12 (by omega) (by omega) d (by omega)
      obtain ⟨r4, c4, d4⟩ := field_both 0 6 (by omega) (by omega) f (by omega)
      have i0 : ∀ l : List Str, ix (a :: l) 0 = some a := fun l => ix_zero a l
      have i1 : ix [a, b, c, d, f] 1 = some b := ix_one a b _
      have i2 : ix [a, b, c, d, f] 2 = some c := by show ix [a, b, c, d, f] ((2 : Nat) : Int) = _; rw [ix_nat]; rfl
      have i3 : ix [a, b, c, d, f] 3 = some d := by show ix [a, b, c, d, f] ((3 : Nat) : Int) = _; rw [ix_nat]; rfl
      have i4 : ix [a, b, c, d, f] 4 = some f := by show ix [a, b, c, d, f] ((4 : Nat) : Int) = _; rw [ix_nat]; rfl
      rw [i0, i1, i2, i3, i4]
      simp only [Option.bind_some]
      rw [show f_ref08_Field a 0 59 = some (fldR r0) from d0, show f_ref08_Field b 0 23 = some (fldR r1) from d1, show f_ref08_Field c 1 31 = some (fldR r2) from d2, show f_ref08_Field d 1 12 = some (fldR r3) from d3, show f_ref08_Field f 0 6 = some (fldR r4) from d4]
      simp only [Option.bind_some]
      have q0 := step13 s [a, b, c, d, f] [⟨0, 59⟩, ⟨0, 23⟩, ⟨1, 31⟩, ⟨1, 12⟩, ⟨0, 6⟩] rfl 0 5 (by omega) [0, 0, 0, 0, 0] rfl 0 59 a r0 rfl rfl c0
      rw [show f_cron_Parse_l13 s [a, b, c, d, f] [⟨0, 59⟩, ⟨0, 23⟩, ⟨1, 31⟩, ⟨1, 12⟩, ⟨0, 6⟩] (((5 : Int) - 0).toNat + 1) 0 (List.replicate 5 0) = _ from q0]
      cases r0 with
      | none => exact ⟨_, false, rfl, rfl⟩
      | some n0 =>
        dsimp only
        rw [step13 s [a, b, c, d, f] [⟨0, 59⟩, ⟨0, 23⟩, ⟨1, 31⟩, ⟨1, 12⟩, ⟨0, 6⟩] rfl 1 4 (by omega) ([0, 0, 0, 0, 0].set 0 (n0 : Int)) rfl 0 23 b r1 rfl rfl c1]
        cases r1 with
        | none => exact ⟨_, false, rfl, rfl⟩
        | some n1 =>
          dsimp only
          rw [step13 s [a, b, c, d, f] [⟨0, 59⟩, ⟨0, 23⟩, ⟨1, 31⟩, ⟨1, 12⟩, ⟨0, 6⟩] rfl 2 3 (by omega) (([0, 0, 0, 0, 0].set 0 (n0 : Int)).set 1 (n1 : Int)) rfl 1 31 c r2 rfl rfl c2]
          cases r2 with
          | none => exact ⟨_, false, rfl, rfl⟩
          | some n2 =>
            dsimp only
            rw [step13 s [a, b, c, d, f] [⟨0, 59⟩, ⟨0, 23⟩, ⟨1, 31⟩, ⟨1, 12⟩, ⟨0, 6⟩] rfl 3 2 (by omega) ((([0, 0, 0, 0, 0].set 0 (n0 : Int)).set 1 (n1 : Int)).set 2 (n2 : Int)) rfl 1 12 d r3 rfl rfl c3]
            cases r3 with
            | none => exact ⟨_, false, rfl, rfl⟩
            | some n3 =>
              dsimp only
              rw [step13 s [a, b, c, d, f] [⟨0, 59⟩, ⟨0, 23⟩, ⟨1, 31⟩, ⟨1, 12⟩, ⟨0, 6⟩] rfl 4 1 (by omega) (((([0, 0, 0, 0, 0].set 0 (n0 : Int)).set 1 (n1 : Int)).set 2 (n2 : Int)).set 3 (n3 : Int)) rfl 0 6 f r4 rfl rfl c4]
              cases r4 with
              | none => exact ⟨_, false, rfl, rfl⟩
              | some n4 =>
                refine ⟨⟨n0, n1, n2, n3, n4, c == [42], f == [42]⟩, true, ?_, rfl⟩
                dsimp only
                rw [f_cron_Parse_l13, if_neg (by decide), Option.bind_some]
                rfl
    · have e5 : (((splitOnB 32 s).length : Int) != 5) = true := by
        rw [bne_iff_ne]; omega
      rw [e5, if_pos rfl, if_pos rfl]
      exact ⟨_, false, rfl, rfl⟩
theorem cronParses_true (s : Str) : f_law08_CronParses s = some true := by
  unfold f_law08_CronParses
  have hmin : (if 210 < (s.length : Int) then (210 : Int) else (s.length : Int)) = ((min s.length 210 : Nat) : Int) := by
    split <;> omega
  rw [hmin, gd_t _ (by omega), cut_zero]
  obtain ⟨c, ok, h1, h2⟩ := parses_ok (s.take (min s.length 210)) (by simp; omega)
  rw [h1, Option.bind_some, h2, Option.bind_some, alive08, Option.bind_some]
  cases ok <;> simp
end Go.Proofs.YthcngbbceahdlaaDoor.V.M.Cr
end

section
/- The functions' proofs and the plain law of CronParses, side by side. -/
namespace Go.Proofs.YthcngbbceahdlaaDoor.V
theorem cronParses_true (s : Str) (w0 : s.length ≤ 140737488351232) : f_law08_CronParses s = some true := M.Cr.cronParses_true s
end Go.Proofs.YthcngbbceahdlaaDoor.V
end

section
/- Rows: what a row lays of type handles. -/
namespace Go.Proofs.YthcngbbceahdlaaDoor.V
open Go Go.RowKit
set_option linter.unusedVariables false
set_option linter.unusedSimpArgs false
theorem glrep_h {w : World} {g u b o : Nat} (h : w.cell? ⟨g, 0, none⟩ = some (.iface u (.agg #[.pointer (some ⟨b, o, none⟩)]))) : RepD w (fun k => k < w.heap.size) (.ref [.ifc u true [.z (.hnd b o)]] 0) (.pointer (some ⟨g, 0, none⟩)) := by
  refine .ref _ 0 g 0 (fun _ => .iface u (.agg #[.pointer (some ⟨b, o, none⟩)])) (cell?_lt h) (fun j sc hj => ?_) (fun j sc hj => ?_)
  · match j, hj with
    | 0, hj => exact h
  · match j, hj with
    | 0, hj =>
      obtain rfl := Option.some.inj hj
      refine .ifa u _ _ rfl fun j sc hj => ?_
      match j, hj with
      | 0, hj => obtain rfl := Option.some.inj hj; exact .z (.hnd b o)
theorem handle_met {P : Program} {laid : List (String × DataW Unit)} {W : World} {v : String} {d : DataW Unit} {g u b o n : Nat} {ty : TypeId} {name : List UInt8} (h : handlesMet P laid W) (hm : (v, d) ∈ laid) (hf : d.funcsIn? = none)
    (hn : d.handleName? = some name) (hg : P.globalNamed v = some g) (hu : (P.cutTypes.find? (·.1 == "internal/reflectlite.rtype")).map (·.2) = some u) (hsz : P.types.size = n)
    (hone : ((List.range n).filter fun t => P.rowNamed t name) = [ty]) (hh : typeHandle P ty = .pointer (some ⟨b, o, none⟩)) : W.cell? ⟨g, 0, none⟩ = some (.iface u (.agg #[.pointer (some ⟨b, o, none⟩)])) := by
  have h1 := h _ hm
  simp only [hf] at h1
  obtain ⟨name', u', ty', e1, e2, e3, e4, e5⟩ := h1
  obtain rfl := Option.some.inj (hn.symm.trans e1)
  obtain rfl := Option.some.inj (hu.symm.trans e2)
  have hm : ty' ∈ (List.range n).filter fun t => P.rowNamed t name := List.mem_filter.2 ⟨List.mem_range.2 (by rw [← hsz]; exact e3), e4⟩
  rw [hone] at hm
  obtain rfl := List.mem_singleton.1 hm
  rw [hh] at e5
  simpa using World.var?_cell hg e5 0
theorem laid_split {P : Program} {laid : List (String × DataW Unit)} {W : World} (h : laidMetH P laid W) (hne : (laid.filter fun x => x.2.handleName?.isSome).isEmpty = false) : laidMet P (laid.filter fun x => x.2.handleName?.isNone) W ∧ handlesMet P (laid.filter fun x => x.2.handleName?.isSome) W := by
  unfold laidMetH at h
  generalize (laid.filter fun x => x.2.handleName?.isSome) = hs at h hne
  match hs, h, hne with
  | a :: r, h, _ => exact h
end Go.Proofs.YthcngbbceahdlaaDoor.V
end

section
/- The row of the law CronParses: for every input that the row speaks of the law returns true; each argument reads behind the call as it read before. -/
namespace Go.Proofs.YthcngbbceahdlaaDoor.cronParses
open Go.ChangeShapes Go.WideShapes Go.ChangeAt Go.RowKit Go.Proofs.YthcngbbceahdlaaDoor.V Go.Proofs.YthcngbbceahdlaaDoorW.PrintWords
set_option linter.unusedVariables false
theorem own : ownKnob Tryd.prog.godebug = none := by kernel_rfl
theorem laidOut : laidOutB Tryd.prog = true := by kernel_rfl
theorem gn0 : Tryd.prog.globalNamed "unicode/utf8.acceptRanges" = some 2 := by kernel_rfl
theorem gt0 : (Tryd.prog.globals[2]?).map (·.type) = some 161 := by kernel_rfl
theorem gn1 : Tryd.prog.globalNamed "unicode/utf8.first" = some 1 := by kernel_rfl
theorem gt1 : (Tryd.prog.globals[1]?).map (·.type) = some 158 := by kernel_rfl
noncomputable def doorW (os : Os) : World := (let w0 := World.doorLaid Tryd.prog 400 os; { w0 with heap := w0.heap.modify 1 fun | .cells _ t fz => .cells ((Go.Pinned.utf8FirstZ.map fun (n : Nat) => Value.int .u8 n).toArray) t fz | o => o })
theorem door_met (os : Os) (args : Array Value) : laidMetH Tryd.prog Rows.cronParsesRow.laid ((doorW os).forCall (fun _ _ => 0) ⟨#[], args, []⟩).memory :=
  laidMetH_of_parts3 (fuel := 8) (laidMet_of_run' 8 (by kernel_rfl) (by kernel_rfl)) (by kernel_rfl) (by kernel_rfl)
theorem gl_ok {W : World} (h : laidMetH Tryd.prog Rows.cronParsesRow.laid W) : GlOk glP W (fun k => k < W.heap.size) := fun g cs hg => by cases hg
set_option maxRecDepth 100000 in
theorem lifted (os : Os) (started : os.Started) (H : Type) (enc : TypeId × Value → H) :
    ReturnsInHanded {} Tryd.checked os 7 .any (fun w args => (Rows.cronParsesSpec.pre enc Tryd.prog Tryd.f7 [] false w args ∧ laidMetH Tryd.prog Rows.cronParsesRow.laid w) ∧ sizedMet enc Tryd.prog Tryd.f7 (OpenSpec.ofChange Rows.cronParsesSpec) false w args) (Rows.cronParsesSpec.post enc Tryd.prog Tryd.f7 false true false false) := by
  refine returnsInHanded_of_change_and (C := Tryd.checked) (X := fun w _ => laidMetH Tryd.prog Rows.cronParsesRow.laid w) (fun _ _ _ hh h => h.of_heap hh) own started (by kernel_rfl) Tryd.func7
    (ChangeSpec.witness_shaped (enc := enc) (C := Tryd.checked) (os := os) (X := fun w _ => laidMetH Tryd.prog Rows.cronParsesRow.laid w) false (doorW os) #[.string ByteArray.empty] 8 rfl (World.shaped_of_RefB (by kernel_rfl) (by kernel_rfl)) (by kernel_rfl) (by kernel_rfl) (by kernel_rfl) (door_met os _)) ?_
  intro W base args ds gs before hval0 hW hcnd hsz0 hL _
  have hsz : (DataW.weightsEach Tryd.prog (Tryd.f7.params.toList ++ Rows.cronParsesSpec.plain.varTypes Tryd.prog) (ds ++ gs)).all (· ≤ reachBytes) = true := hsz0
  have hval : ∀ (j : Nat) t v, Tryd.f7.params[j]? = some t → args[j]? = some v → Value.okWide Tryd.prog W .any base t v := hval0
  have hW' := hW
  obtain ⟨p, q, hA0, hV, rfl, hfz, hnd⟩ := hW
  have hA : DataW.TrodAll enc Tryd.prog W 0 (fun _ => true) true Tryd.f7.params.toList args.toList ds p := hA0
  rw [Tryd.params7] at hA hval hsz
  obtain ⟨v0, vs0, d0, ds0, p0, q0, hargs, rfl, rfl, h0, r0⟩ := trodAll_cons hA
  obtain ⟨rfl, rfl, rfl⟩ := trodAll_nil r0
  obtain rfl : args = #[v0] := by cases args; simp_all
  obtain ⟨rfl, rfl⟩ := trodVars_none hV
  have k0 := h0
  have lt0 : ∀ x ∈ p0, x.block < W.heap.size := by obtain ⟨m, hm⟩ := k0; exact DataW.trod_lt m _ _ _ hm
  obtain ⟨a0, e0, rfl, z0⟩ := arg_str Tryd.underlying9 (hval 0 9 v0 rfl rfl) h0
  have w0 : a0.length ≤ 140737488351232 := sized_string hsz (j := 0) (t := 9) rfl rfl
  refine (Fun.lawG (xs := [_]) (vs := [v0]) (w := W) (f_law08_CronParses_ok a0 true (by first | exact cronParses_true a0 w0 | exact cronParses_true a0 | (apply cronParses_true <;> assumption))) (gl_ok hL) ⟨e0, trivial⟩).mono fun e W' ⟨he, bel⟩ => ?_
  subst he
  exact ⟨_, rfl, _, _, _, [], _, [], hW', trodAll_mk1 (shut_bool Tryd.underlying4 _), (trodAll_cons_mk (Below.trod laidOut (by kernel_rfl) (of_decide_eq_true (by kernel_rfl)) k0 bel lt0) trodAll_mk0), rfl, bel.frame _, fun h => by cases h⟩
theorem over : Rows.cronParsesRow.holds Tryd.pinned (OpenSpec.ofChange Rows.cronParsesSpec) :=
  OpenClaim.holds_of_wide 7 Tryd.f7 rfl rfl rfl rfl rfl rfl rfl ⟨rfl, rfl, rfl, rfl, rfl⟩ rfl rfl rfl rfl rfl (by kernel_rfl) Tryd.func7 (by kernel_rfl)
    (of_decide_eq_true (by kernel_rfl)) (by unfold Func.isWrapper; first | (rw [if_pos (by decide +kernel)]; kernel_rfl) | (rw [if_neg (by decide +kernel)]; exact ⟨rfl, rfl⟩))
    (fun os started H enc _ => lifted os started H enc)
theorem proved : Rows.CronParsesSaid := over
end Go.Proofs.YthcngbbceahdlaaDoor.cronParses
namespace Go.Proofs.YthcngbbceahdlaaDoor
/-- The statement, under a short name, for the claim. -/
theorem cronParses_holds : Rows.CronParsesCardSaid :=
  Claim7.holds_tied_plain_at .later [] [.data, .pinned] true (true, "9b67dd976cb790bfab13024b660aa57e4181461624236429e7c13590448c4756") true
    cronParses.proved (fun _ h => by cases h) (by kernel_rfl) (fun _ h => by cases h) cronParses_row_tie rfl ⟨rfl, rfl⟩ (by kernel_rfl) rfl
    (fun f fn hf hfn => by
      obtain rfl : f = 7 := Option.some.inj ((show Tryd.prog.funcNamed "consignor/consignorlaw08.CronParses" = some 7 by kernel_rfl).symm.trans hf) |>.symm
      obtain rfl : fn = Tryd.f7 := (Option.some.inj (Tryd.func7.symm.trans hfn)).symm
      exact ⟨by kernel_rfl, fun j t ht => by
        rw [Tryd.params7] at ht
        have hm : t ∈ [9] := by simpa using Array.mem_of_getElem? ht
        have hall : ([9].all fun u => !Tryd.prog.wantsStandIn u) = true := by kernel_rfl
        exact (show Tryd.prog.wantsStandIn t = false by simpa using List.all_eq_true.1 hall t hm)⟩)
    (by kernel_rfl)
#print axioms cronParses_holds
end Go.Proofs.YthcngbbceahdlaaDoor
end
