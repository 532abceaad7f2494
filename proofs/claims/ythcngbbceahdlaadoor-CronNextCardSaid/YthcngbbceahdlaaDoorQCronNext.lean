/- The row of the law CronNext: for every input that the row speaks of the law returns true; each argument reads behind the call as it read before. -/
import Derived.Test.YthcngbbceahdlaaDoorQCronNextE
import Derived.Test.YthcngbbceahdlaaDoorQCronNextC
import Derived.Below
import Derived.OwnWalk
import Derived.Orders
import Derived.WalkKit
import Derived.Laws.Slices
import Derived.LaidMore
import Derived.FnData
import Derived.Test.YthcngbbceahdlaaDoorRows
import Derived.Test.YthcngbbceahdlaaDoorTie
import Derived.Test.YthcngbbceahdlaaDoorCards
import Derived.ProofKit
import Derived.OpenShut
import Derived.ShutString
import Derived.ChangeOld
import Derived.SizedLaws
import Derived.SliceStrings
import Derived.Carry
import Derived.KernelRfl
import Derived.Stop.Joined
import Derived.SevenTiedAt
import Derived.Test.YthcngbbceahdlaaDoorWSized
section
/- Bits, whether a schedule fires, and the next tick. -/
namespace Go.Proofs.YthcngbbceahdlaaDoor.V.M
set_option linter.unusedVariables false
set_option linter.unusedSimpArgs false
open Go Go.RowKit
def bitB (b n : Int) : Bool := decide ((b / ((2 ^ n.toNat : Nat) : Int)) % 2 = 1)
theorem and_one (x : Nat) (h : x < 18446744073709551616) : (BitVec.ofInt 64 (x : Int) &&& BitVec.ofInt 64 1).toNat = x % 2 := by
  rw [BitVec.toNat_and, show BitVec.ofInt 64 (x : Int) = BitVec.ofNat 64 x from BitVec.ofInt_natCast .., BitVec.toNat_ofNat, show (BitVec.ofInt 64 1).toNat = 1 from rfl, Nat.and_one_is_mod, Nat.mod_eq_of_lt (a := x) (b := 2 ^ 64) h]
theorem set_ok (b n : Int) (hb : 0 ≤ b) (hb2 : b < 18446744073709551616) (h0 : 0 ≤ n) (h1 : n ≤ 63) : f_cron_set b n = some (bitB b n) := by
  obtain ⟨b, rfl⟩ := Int.eq_ofNat_of_zero_le hb
  obtain ⟨n, rfl⟩ := Int.eq_ofNat_of_zero_le h0
  unfold f_cron_set
  rw [gd_t _ h0]
  have e1 : min ((n : Nat) : Int).toNat IntKind.u64.bits = n := by show min ((n : Nat) : Int).toNat 64 = n; omega
  have e2 : ((b : Nat) : Int).fdiv (2 ^ n) = ((b / 2 ^ n : Nat) : Int) := by
    rw [show ((2 : Int) ^ n) = ((2 ^ n : Nat) : Int) by rw [Int.natCast_pow]; rfl, Int.fdiv_eq_ediv_of_nonneg _ (Int.natCast_nonneg _)]; rfl
  have e3 : b / 2 ^ n < 18446744073709551616 := Nat.lt_of_le_of_lt (Nat.div_le_self _ _) (by omega)
  rw [e1, e2]
  show some (IntKind.u64.wrap (((BitVec.ofInt 64 ((b / 2 ^ n : Nat) : Int) &&& BitVec.ofInt 64 1).toNat : Nat) : Int) == 1) = _
  rw [and_one _ e3, w_u64 (by omega) (by omega)]
  unfold bitB
  congr 1

theorem rset5_ok (n : Int) : ∀ (k : Nat) (m : Nat) (b i : Int), i + k = n → k < m → 0 ≤ b → b < 18446744073709551616 → 0 ≤ i → n ≤ 1000 → f_ref08_set_l5 n m b i = some (b / ((2 ^ k : Nat) : Int), n)
  | k, 0, b, i, h0, h1, h2, h3, h4, h5 => by omega
  | 0, m + 1, b, i, h0, h1, h2, h3, h4, h5 => by
    rw [f_ref08_set_l5, if_neg (by simp; omega)]
    have : i = n := by omega
    subst this
    simp
  | k + 1, m + 1, b, i, h0, h1, h2, h3, h4, h5 => by
    have hd : b.tdiv 2 = b / 2 := Int.tdiv_eq_ediv_of_nonneg h2
    rw [f_ref08_set_l5, if_pos (by simp; omega), hd, w_u64 (by omega) (by omega), w_i64 (by omega) (by omega), rset5_ok n k m (b / 2) (i + 1) (by omega) (by omega) (by omega) (by omega) (by omega) h5]
    congr 2
    obtain ⟨b, rfl⟩ := Int.eq_ofNat_of_zero_le h2
    have : b / 2 / 2 ^ k = b / 2 ^ (k + 1) := by rw [Nat.div_div_eq_div_mul, Nat.pow_succ, Nat.mul_comm]
    exact congrArg Int.ofNat this
theorem rset_ok (b n : Int) (hb : 0 ≤ b) (hb2 : b < 18446744073709551616) (h0 : 0 ≤ n) (h1 : n ≤ 63) : f_ref08_set b n = some (bitB b n) := by
  unfold f_ref08_set
  rw [rset5_ok n n.toNat _ b 0 (by omega) (by omega) hb hb2 (by omega) (by omega), Option.bind_some]
  have hq : 0 ≤ b / ((2 ^ n.toNat : Nat) : Int) := Int.ediv_nonneg hb (Int.natCast_nonneg _)
  rw [show ((b / ((2 ^ n.toNat : Nat) : Int), n).fst).tmod 2 = b / ((2 ^ n.toNat : Nat) : Int) % 2 from Int.tmod_eq_emod_of_nonneg hq]
  unfold bitB
  rfl
def CW (c : api_Cron) : Prop := (0 ≤ c.Minutes ∧ c.Minutes < 18446744073709551616) ∧ (0 ≤ c.Hours ∧ c.Hours < 18446744073709551616) ∧ (0 ≤ c.Days ∧ c.Days < 18446744073709551616) ∧ (0 ≤ c.Months ∧ c.Months < 18446744073709551616) ∧ (0 ≤ c.Week ∧ c.Week < 18446744073709551616)
def CkOk (t : api_Clock) : Prop := (0 ≤ t.Minute ∧ t.Minute ≤ 59) ∧ (0 ≤ t.Hour ∧ t.Hour ≤ 23) ∧ (1 ≤ t.Day ∧ t.Day ≤ 31) ∧ (1 ≤ t.Month ∧ t.Month ≤ 12) ∧ (0 ≤ t.Week ∧ t.Week ≤ 6)
def clk (t : Int) : api_Clock := match f_cron_At t with | some r => r.1 | none => ⟨0, 0, 0, 0, 0, 0⟩
theorem clk_at (t : Int) (h0 : 0 ≤ t) (h1 : t ≤ 1099511627776) : f_cron_At t = some (clk t, 0) ∧ CkOk (clk t) := by
  obtain ⟨D, q, Y, e, k1, k2, k3, k4, k5, k6⟩ := At_ok t h0 h1
  have hb := dOf_b ((q : Int) + 1) Y
  unfold clk
  rw [e]
  refine ⟨rfl, ?_, ?_, ?_, ?_, ?_⟩ <;> dsimp only <;> omega
def firesB (c : api_Cron) (t : api_Clock) : Bool :=
  bitB c.Minutes t.Minute && bitB c.Hours t.Hour && bitB c.Months t.Month && (if c.AnyDay && c.AnyWeek then true else if c.AnyDay then bitB c.Week t.Week else if c.AnyWeek then bitB c.Days t.Day else bitB c.Days t.Day || bitB c.Week t.Week)
def firesT (c : api_Cron) (t : Int) : Bool := firesB c (clk t)
theorem Fires_ok (c : api_Cron) (hc : CW c) (t : Int) (h0 : 0 ≤ t) (h1 : t ≤ 1099511627776) : f_cron_Fires c t = some (firesT c t) := by
  obtain ⟨e, q1, q2, q3, q4, q5⟩ := clk_at t h0 h1
  obtain ⟨c1, c2, c3, c4, c5⟩ := hc
  unfold f_cron_Fires firesT firesB
  rw [e, Option.bind_some]
  dsimp only
  rw [set_ok _ _ c1.1 c1.2 (by omega) (by omega), set_ok _ _ c2.1 c2.2 (by omega) (by omega), set_ok _ _ c3.1 c3.2 (by omega) (by omega), set_ok _ _ c4.1 c4.2 (by omega) (by omega), set_ok _ _ c5.1 c5.2 (by omega) (by omega)]
  generalize bitB c.Minutes (clk t).Minute = a
  generalize bitB c.Hours (clk t).Hour = b
  generalize bitB c.Months (clk t).Month = d
  generalize bitB c.Days (clk t).Day = u
  generalize bitB c.Week (clk t).Week = v
  generalize c.AnyDay = x
  generalize c.AnyWeek = y
  cases a <;> cases b <;> cases d <;> cases u <;> cases v <;> cases x <;> cases y <;> rfl
theorem Fires_bad (c : api_Cron) (t : Int) (h : t < 0 ∨ 1099511627776 < t) : f_cron_Fires c t = some false := by
  unfold f_cron_Fires
  rw [At_bad t h]
  rfl
theorem rFires_ok (c : api_Cron) (hc : CW c) (t : api_Clock) (ht : CkOk t) : f_ref08_Fires c t = some (firesB c t) := by
  obtain ⟨q1, q2, q3, q4, q5⟩ := ht
  obtain ⟨c1, c2, c3, c4, c5⟩ := hc
  unfold f_ref08_Fires firesB
  rw [rset_ok _ _ c1.1 c1.2 (by omega) (by omega), rset_ok _ _ c2.1 c2.2 (by omega) (by omega), rset_ok _ _ c3.1 c3.2 (by omega) (by omega), rset_ok _ _ c4.1 c4.2 (by omega) (by omega), rset_ok _ _ c5.1 c5.2 (by omega) (by omega)]
  generalize bitB c.Minutes t.Minute = a
  generalize bitB c.Hours t.Hour = b
  generalize bitB c.Months t.Month = d
  generalize bitB c.Days t.Day = u
  generalize bitB c.Week t.Week = v
  generalize c.AnyDay = x
  generalize c.AnyWeek = y
  cases a <;> cases b <;> cases d <;> cases u <;> cases v <;> cases x <;> cases y <;> rfl
/-- What Next tells. -/
def NextR (c : api_Cron) (tick most : Int) (r : Int × Int) : Prop :=
  (r.2 = 0 ∧ tick < r.1 ∧ r.1 ≤ tick + most ∧ r.1 ≤ 1099511627776 ∧ firesT c r.1 = true ∧ ∀ j, tick < j → j < r.1 → firesT c j = false) ∨
  (r = (0, 9) ∧ ∀ j, tick < j → j ≤ tick + most → j ≤ 1099511627776 → firesT c j = false)
theorem next8_ok (c : api_Cron) (hc : CW c) (tick most : Int) (h0 : 0 ≤ tick) (h1 : tick ≤ 1099511627776) (h2 : 0 ≤ most) (h3 : most ≤ 100000) : ∀ (m : Nat) (t : Int), tick < t → tick + most + 1 - t < m → t ≤ tick + most + 1 → (∀ j, tick < j → j < t → firesT c j = false) →
    ∃ s, f_cron_Next_l8 c tick most m t = some s ∧ NextR c tick most (match s with | .inr z => z | .inl _ => (0, 9))
  | 0, t, k0, k1, k2, k3 => by omega
  | m + 1, t, k0, k1, k2, k3 => by
    rw [f_cron_Next_l8, w_i64 (by omega) (by omega)]
    by_cases hh : t ≤ tick + most ∧ t ≤ 1099511627776
    · rw [if_pos (by simpa using hh), Fires_ok c hc t (by omega) hh.2, Option.bind_some]
      cases hf : firesT c t with
      | true =>
        rw [if_pos rfl]
        exact ⟨_, rfl, .inl ⟨rfl, k0, hh.1, hh.2, hf, k3⟩⟩
      | false =>
        rw [if_neg (by decide), w_i64 (by omega) (by omega)]
        exact next8_ok c hc tick most h0 h1 h2 h3 m (t + 1) (by omega) (by omega) (by omega) fun j j0 j1 => by
          by_cases hj : j = t
          · rw [hj]; exact hf
          · exact k3 j j0 (by omega)
    · rw [if_neg (by simpa using hh)]
      exact ⟨_, rfl, .inr ⟨rfl, fun j j0 j1 j2 => k3 j j0 (by omega)⟩⟩
theorem next_ok (c : api_Cron) (hc : CW c) (tick most : Int) (h0 : 0 ≤ tick) (h1 : tick ≤ 1099511627776) (h2 : 0 ≤ most) (h3 : most ≤ 100000) : ∃ r, f_cron_Next c tick most = some r ∧ NextR c tick most r := by
  unfold f_cron_Next
  rw [if_neg (by simp; omega), w_i64 (n := tick + most) (by omega) (by omega), w_i64 (n := tick + 1) (by omega) (by omega)]
  obtain ⟨s, e, hs⟩ := next8_ok c hc tick most h0 h1 h2 h3 ((tick + most - (tick + 1)).toNat + 2) (tick + 1) (by omega) (by omega) (by omega) fun j j0 j1 => by omega
  rw [e, Option.bind_some]
  cases s with
  | inl z => exact ⟨_, rfl, hs⟩
  | inr z => exact ⟨_, rfl, hs⟩
theorem next_bad (c : api_Cron) (tick most : Int) (h : tick < 0 ∨ 1099511627776 < tick ∨ most < 0 ∨ 100000 < most) : f_cron_Next c tick most = some (0, 1) := by
  unfold f_cron_Next
  rw [if_pos (by simp; omega)]
end Go.Proofs.YthcngbbceahdlaaDoor.V.M
end

section
/- CronTimes, CronFires, CronNext. -/
namespace Go.Proofs.YthcngbbceahdlaaDoor.V.M
set_option linter.unusedVariables false
set_option linter.unusedSimpArgs false
open Go Go.RowKit
theorem tm_b (a k : Int) (hk : 0 < k) : -k < a.tmod k ∧ a.tmod k < k := by
  rcases (by omega : a < 0 ∨ 0 ≤ a) with h | h
  · have e : a.tmod k = -((-a) % k) := by
      rw [← Int.tmod_eq_emod_of_nonneg (by omega : 0 ≤ -a), Int.neg_tmod]; omega
    have h1 := Int.emod_nonneg (-a) (by omega : k ≠ 0)
    have h2 := Int.emod_lt_of_pos (-a) hk
    omega
  · rw [Int.tmod_eq_emod_of_nonneg h]
    have h1 := Int.emod_nonneg a (by omega : k ≠ 0)
    have h2 := Int.emod_lt_of_pos a hk
    omega
/-- Go's way to a number of 0 to k - 1. -/
theorem tm_up (a k : Int) (hk : 0 < k) (hk2 : k ≤ 1000000000) : IntKind.i64.wrap (a.tmod k + k) = a.tmod k + k ∧ 0 ≤ (a.tmod k + k).tmod k ∧ (a.tmod k + k).tmod k < k := by
  have h := tm_b a k hk
  refine ⟨w_i64 (by omega) (by omega), ?_⟩
  rw [Int.tmod_eq_emod_of_nonneg (by omega)]
  exact ⟨Int.emod_nonneg _ (by omega), Int.emod_lt_of_pos _ hk⟩
theorem rDays_ok (q : Nat) (hq : q < 12) (y : Int) : f_ref08_Days ((q : Int) + 1) y = some (dOf ((q : Int) + 1) y) := by
  have hl : f_ref08_Long y = some (lpB y) := by
    unfold f_ref08_Long lpB
    congr 1
    cases h4 : (y.tmod 4 == 0) with
    | true => simp
    | false =>
      cases h400 : (y.tmod 400 == 0) with
      | false => simp
      | true =>
        exfalso
        have a : y.tmod 400 = 0 := by simpa using h400
        have b : y.tmod 4 ≠ 0 := by simpa using h4
        obtain ⟨z, hz⟩ := Int.dvd_of_tmod_eq_zero a
        exact b (Int.tmod_eq_zero_of_dvd ⟨100 * z, by omega⟩)
  unfold f_ref08_Days
  rw [w_i64 (by omega) (by omega), hl, show (q : Int) + 1 - 1 = q by omega, ix_nat]
  match q, hq with
  | 0, _ => rfl
  | 1, _ => cases h : lpB y <;> simp [dOf, h, gx]
  | 2, _ => rfl
  | 3, _ => rfl
  | 4, _ => rfl
  | 5, _ => rfl
  | 6, _ => rfl
  | 7, _ => rfl
  | 8, _ => rfl
  | 9, _ => rfl
  | 10, _ => rfl
  | 11, _ => rfl
theorem tick8_ok (c : api_Clock) (q : Nat) (hq : q < 12) (hm : c.Month = (q : Int) + 1) : ∀ (j k m : Nat) (n : Int), k + j = q → j < m → -1000000000000 < n → n < 1000000000000 + 40 * (k : Int) → f_ref08_Tick_l8 c m n ((k : Int) + 1) = some (n + cumD c.Year q - cumD c.Year k, (q : Int) + 1)
  | j, k, 0, n, h0, h1, h2, h3 => by omega
  | 0, k, m + 1, n, h0, h1, h2, h3 => by
    have : k = q := by omega
    subst this
    rw [f_ref08_Tick_l8, if_neg (by simp; omega), show n + cumD c.Year k - cumD c.Year k = n by omega]
  | j + 1, k, m + 1, n, h0, h1, h2, h3 => by
    have hb := dOf_b ((k : Int) + 1) c.Year
    rw [f_ref08_Tick_l8, if_pos (by simp; omega), rDays_ok k (by omega), Option.bind_some, w_i64 (n := n + dOf ((k : Int) + 1) c.Year) (by omega) (by omega), w_i64 (by omega) (by omega)]
    have hc : cumD c.Year (k + 1) = cumD c.Year k + dOf ((k : Int) + 1) c.Year := rfl
    have := tick8_ok c q hq hm j (k + 1) m (n + dOf ((k : Int) + 1) c.Year) (by omega) (by omega) (by omega) (by omega)
    rw [show (((k + 1 : Nat) : Int) + 1) = (k : Int) + 1 + 1 by omega] at this
    rw [this]
    congr 2
    omega
theorem cumD_b (y : Int) : ∀ q : Nat, 0 ≤ cumD y q ∧ cumD y q ≤ 31 * (q : Int)
  | 0 => by simp [cumD]
  | q + 1 => by
    have := cumD_b y q
    have hb := dOf_b ((q : Int) + 1) y
    show 0 ≤ cumD y q + dOf ((q : Int) + 1) y ∧ cumD y q + dOf ((q : Int) + 1) y ≤ _
    omega
theorem Tick_ok (c : api_Clock) (q : Nat) (hq : q < 12) (hm : c.Month = (q : Int) + 1) (hy : 1970 ≤ c.Year) (hy2 : c.Year ≤ 3000000) (hd : 1 ≤ c.Day ∧ c.Day ≤ 31) (hh : 0 ≤ c.Hour ∧ c.Hour ≤ 23) (hi : 0 ≤ c.Minute ∧ c.Minute ≤ 59) :
    f_ref08_Tick c = some (1440 * (dB c.Year - 719527 + cumD c.Year q + c.Day - 1) + 60 * c.Hour + c.Minute) := by
  have hc := cumD_b c.Year q
  unfold f_ref08_Tick
  have e1 : (c.Year - 1).tdiv 4 = (c.Year - 1) / 4 := Int.tdiv_eq_ediv_of_nonneg (by omega)
  have e2 : (c.Year - 1).tdiv 100 = (c.Year - 1) / 100 := Int.tdiv_eq_ediv_of_nonneg (by omega)
  have e3 : (c.Year - 1).tdiv 400 = (c.Year - 1) / 400 := Int.tdiv_eq_ediv_of_nonneg (by omega)
  rw [w_i64 (n := c.Year - 1) (by omega) (by omega), e1, e2, e3, w_i64 (n := 365 * c.Year) (by omega) (by omega), w_i64 (n := (c.Year - 1) / 4) (by omega) (by omega), w_i64 (n := (c.Year - 1) / 100) (by omega) (by omega), w_i64 (n := (c.Year - 1) / 400) (by omega) (by omega), w_i64 (n := 365 * c.Year + (c.Year - 1) / 4) (by omega) (by omega), w_i64 (n := 365 * c.Year + (c.Year - 1) / 4 - (c.Year - 1) / 100) (by omega) (by omega), w_i64 (n := 365 * c.Year + (c.Year - 1) / 4 - (c.Year - 1) / 100 + (c.Year - 1) / 400) (by omega) (by omega), Option.bind_some]
  show Option.bind (f_ref08_Tick_l8 c _ (IntKind.i64.wrap (dB c.Year - 719527)) 1) _ = _
  have hdB : 719527 ≤ dB c.Year ∧ dB c.Year ≤ 1100000000 := by unfold dB; omega
  have h8 : f_ref08_Tick_l8 c ((c.Month - 1).toNat + 1) (dB c.Year - 719527) 1 = some (dB c.Year - 719527 + cumD c.Year q - 0, (q : Int) + 1) := tick8_ok c q hq hm q 0 _ (dB c.Year - 719527) (by omega) (by omega) (by omega) (by omega)
  rw [w_i64 (n := dB c.Year - 719527) (by omega) (by omega), h8, Option.bind_some]
  dsimp only
  generalize dB c.Year = u at *
  generalize cumD c.Year q = v at *
  rw [w_i64 (n := u - 719527 + v - 0 + c.Day) (by omega) (by omega), w_i64 (n := u - 719527 + v - 0 + c.Day - 1) (by omega) (by omega), w_i64 (n := 1440 * (u - 719527 + v - 0 + c.Day - 1)) (by omega) (by omega), w_i64 (n := 60 * c.Hour) (by omega) (by omega), w_i64 (n := 1440 * (u - 719527 + v - 0 + c.Day - 1) + 60 * c.Hour) (by omega) (by omega), w_i64 (by omega) (by omega)]
  congr 1
  omega
theorem cronTimes_true (tick : Int) (hw : (Lit.int .i64 tick).wf = true) : f_law08_CronTimes tick = some true := by
  unfold f_law08_CronTimes
  by_cases h : tick < 0 ∨ tick > 1099511627776
  · rw [At_bad tick (by omega), Option.bind_some, if_pos (by simpa using h), alive08]
    rfl
  · obtain ⟨D, q, Y, e, k1, k2, k3, k4, k5, k6⟩ := At_ok tick (by omega) (by omega)
    have hb := dOf_b ((q : Int) + 1) Y
    have e1 : tick.tdiv 1440 = tick / 1440 := Int.tdiv_eq_ediv_of_nonneg (by omega)
    have e7 : (tick / 1440 + 4).tmod 7 = (tick / 1440 + 4) % 7 := Int.tmod_eq_emod_of_nonneg (by omega)
    have ht := Tick_ok ⟨tick % 60, tick % 1440 / 60, D, (q : Int) + 1, Y, (tick / 1440 + 4) % 7⟩ q k1 rfl k4 k5 ⟨k2, by dsimp only; omega⟩ ⟨by dsimp only; omega, by dsimp only; omega⟩ ⟨by dsimp only; omega, by dsimp only; omega⟩
    rw [e, Option.bind_some, if_neg (by simpa using h), alive08, ht]
    dsimp only
    rw [rDays_ok q k1, e1, w_i64 (n := tick / 1440) (by omega) (by omega), w_i64 (n := tick / 1440 + 4) (by omega) (by omega), e7]
    have g : ((((((((((((0 : Int) != 0) || (decide (tick % 60 < 0))) || (decide (tick % 60 > 59))) || (decide (tick % 1440 / 60 < 0))) || (decide (tick % 1440 / 60 > 23))) || (decide ((q : Int) + 1 < 1))) || (decide ((q : Int) + 1 > 12))) || (decide (Y < 1970))) || (decide (Y > 3000000))) || (decide (D < 1)))) = false := by
      simp; omega
    rw [g]
    simp only [gx, Bool.not_false, if_true, Option.bind_some, Bool.false_or]
    rw [if_neg (by simp; omega)]
    have h2 : 1440 * (dB Y - 719527 + cumD Y q + D - 1) + 60 * (tick % 1440 / 60) + tick % 60 = tick := by omega
    rw [h2]
    simp
theorem cronFires_loop (c : api_Cron) (hc : CW c) (tick most : Int) (h0 : 0 ≤ tick) (h1 : tick ≤ 1099511627776) (h2 : 0 ≤ most) (h3 : most ≤ 400) (r : Int × Int) (hr : NextR c tick most r) : ∀ (m : Nat) (t : Int), tick < t → tick + most + 1 - t < m → t ≤ tick + most + 1 → (∀ j, tick < j → j < t → firesT c j = false) →
    f_law08_CronFires_l17 c tick most r m t = some (.inr true) ∨ ∃ x, f_law08_CronFires_l17 c tick most r m t = some (.inl x) ∧ r = (0, 9)
  | 0, t, k0, k1, k2, k3 => by omega
  | m + 1, t, k0, k1, k2, k3 => by
    rw [f_law08_CronFires_l17, w_i64 (by omega) (by omega)]
    by_cases hh : t ≤ tick + most ∧ t ≤ 1099511627776
    · obtain ⟨e, hk⟩ := clk_at t (by omega) hh.2
      rw [if_pos (by simpa using hh), e, Option.bind_some]
      dsimp only
      rw [if_neg (by decide), rFires_ok c hc _ hk, Option.bind_some]
      cases hf : firesB c (clk t) with
      | true =>
        rw [if_pos rfl]
        refine .inl ?_
        rcases hr with ⟨r1, r2, r3, r4, r5, r6⟩ | ⟨rfl, r1⟩
        · have : r.1 = t := by
            rcases Int.lt_trichotomy r.1 t with h | h | h
            · have := k3 r.1 r2 h
              rw [r5] at this; cases this
            · exact h
            · have := r6 t k0 h
              have hf' : firesT c t = true := hf
              rw [hf'] at this; cases this
          rw [this, r1]; simp
        · have := r1 t k0 hh.1 hh.2
          have hf' : firesT c t = true := hf
          rw [hf'] at this; cases this
      | false =>
        rw [if_neg (by decide), w_i64 (by omega) (by omega)]
        exact cronFires_loop c hc tick most h0 h1 h2 h3 r hr m (t + 1) (by omega) (by omega) (by omega) fun j j0 j1 => by
          by_cases hj : j = t
          · rw [hj]; exact hf
          · exact k3 j j0 (by omega)
    · rw [if_neg (by simpa using hh)]
      refine .inr ⟨_, rfl, ?_⟩
      rcases hr with ⟨r1, r2, r3, r4, r5, r6⟩ | ⟨hr, r1⟩
      · have := k3 r.1 r2 (by omega)
        rw [r5] at this; cases this
      · exact hr
theorem cronFires_true (c : api_Cron) (tick most : Int) (hc : CW c) (hw : (Lit.int .i64 tick).wf = true) (hw2 : (Lit.int .i64 most).wf = true) : f_law08_CronFires c tick most = some true := by
  unfold f_law08_CronFires
  by_cases h : tick < 0 ∨ tick > 1099511627776
  · rw [At_bad tick (by omega), Option.bind_some, next_bad c tick most (by omega), Option.bind_some, Fires_bad c tick (by omega), Option.bind_some, alive08]
    rfl
  · obtain ⟨e, hk⟩ := clk_at tick (by omega) (by omega)
    rw [e, Option.bind_some]
    by_cases hm : most < 0 ∨ most > 100000
    · rw [next_bad c tick most (by omega), Option.bind_some, Fires_ok c hc tick (by omega) (by omega), Option.bind_some, rFires_ok c hc _ hk, alive08]
      show Option.bind (gx true (some (firesB c (clk tick))) default) _ = _
      simp only [gx, if_true, Option.bind_some]
      have hh : (!(firesT c tick == ((((0 : Int) == 0)) && firesB c (clk tick)))) = false := by
        unfold firesT; cases firesB c (clk tick) <;> rfl
      rw [hh]
      simp only [Bool.not_false, if_true, Option.bind_some]
      rw [if_neg (by decide), if_pos (by simp; omega)]
      rfl
    · obtain ⟨r, hr, hR⟩ := next_ok c hc tick most (by omega) (by omega) (by omega) (by omega)
      rw [hr, Option.bind_some, Fires_ok c hc tick (by omega) (by omega), Option.bind_some, rFires_ok c hc _ hk, alive08]
      show Option.bind (gx true (some (firesB c (clk tick))) default) _ = _
      simp only [gx, if_true, Option.bind_some]
      have hh : (!(firesT c tick == ((((0 : Int) == 0)) && firesB c (clk tick)))) = false := by
        unfold firesT; cases firesB c (clk tick) <;> rfl
      rw [hh]
      simp only [Bool.not_false, if_true, Option.bind_some]
      rw [if_neg (by decide), if_neg (by simp; omega), w_i64 (n := tick + most) (by omega) (by omega)]
      by_cases h4 : most > 400
      · rw [if_pos (by simpa using h4)]
        rcases hR with ⟨r1, r2, r3, r4, r5, r6⟩ | ⟨rfl, r1⟩
        · rw [r1]; simp [r2, r3]
        · simp
      · rw [if_neg (by simpa using h4), w_i64 (n := tick + 1) (by omega) (by omega)]
        rcases cronFires_loop c hc tick most (by omega) (by omega) (by omega) (by omega) r hR ((tick + most - (tick + 1)).toNat + 2) (tick + 1) (by omega) (by omega) (by omega) (fun j j0 j1 => by omega) with h5 | ⟨x, h5, rfl⟩
        · rw [h5, Option.bind_some]
        · rw [h5, Option.bind_some]; rfl
theorem cronNext_loop (c : api_Cron) (hc : CW c) (tick most : Int) (h0 : 0 ≤ tick) (r : Int × Int) (r4 : r.1 ≤ 1099511627776) (r6 : ∀ j, tick < j → j < r.1 → firesT c j = false) : ∀ (m : Nat) (t : Int), tick < t → r.1 - t < m → t ≤ r.1 → ∃ x, f_law08_CronNext_l10 c tick most r m t = some (.inl x)
  | 0, t, k0, k1, k2 => by omega
  | m + 1, t, k0, k1, k2 => by
    rw [f_law08_CronNext_l10]
    by_cases hh : t < r.1
    · rw [if_pos (by simpa using hh), Fires_ok c hc t (by omega) (by omega), Option.bind_some, r6 t k0 hh, if_neg (by decide), w_i64 (by omega) (by omega)]
      exact cronNext_loop c hc tick most h0 r r4 r6 m (t + 1) (by omega) (by omega) (by omega)
    · rw [if_neg (by simpa using hh)]
      exact ⟨_, rfl⟩
theorem cronNext_true (c : api_Cron) (tick most : Int) (hc : CW c) (hw : (Lit.int .i64 tick).wf = true) (hw2 : (Lit.int .i64 most).wf = true) : f_law08_CronNext c tick most = some true := by
  unfold f_law08_CronNext
  have b2 := bounds_i64 hw2
  have b1 := bounds_i64 hw
  obtain ⟨e1, e2⟩ := tm_up most 300 (by omega) (by omega)
  rw [e1]
  generalize (most.tmod 300 + 300).tmod 300 = M at e2 ⊢
  by_cases h : tick < 0 ∨ tick > 1099511627776
  · rw [next_bad c tick M (by omega), Option.bind_some, alive08]
    rfl
  · obtain ⟨r, hr, hR⟩ := next_ok c hc tick M (by omega) (by omega) (by omega) (by omega)
    rw [hr, Option.bind_some]
    rcases hR with ⟨r1, r2, r3, r4, r5, r6⟩ | ⟨rfl, r1⟩
    · obtain ⟨x, hx⟩ := cronNext_loop c hc tick most (by omega) r r4 r6 ((r.1 - (tick + 1)).toNat + 1) (tick + 1) (by omega) (by omega) (by omega)
      rw [r1, if_neg (by decide), w_i64 (n := tick + 1) (by omega) (by omega), hx, Option.bind_some, w_i64 (n := r.1 - 1) (by omega) (by omega), w_i64 (n := tick + M) (by omega) (by omega)]
      obtain ⟨q, hq, hQ⟩ := next_ok c hc (r.1 - 1) 1 (by omega) (by omega) (by omega) (by omega)
      have hq2 : q = (r.1, 0) := by
        rcases hQ with ⟨q1, q2, q3, q4, q5, q6⟩ | ⟨rfl, q1⟩
        · exact Prod.ext (by show q.1 = r.1; omega) q1
        · have := q1 r.1 (by omega) (by omega) r4
          rw [r5] at this; cases this
      dsimp only
      rw [hq, Option.bind_some, alive08, Option.bind_some, Fires_ok c hc r.1 (by omega) r4, r5, hq2]
      have g : ((true && (decide (r.1 > tick))) && (decide (r.1 ≤ tick + M))) = true := by simp [r2, r3]
      rw [g]
      simp [gx]
    · rw [if_pos (by decide), alive08]
      rfl
end Go.Proofs.YthcngbbceahdlaaDoor.V.M
end

section
/- CronEvery, CronDays. -/
namespace Go.Proofs.YthcngbbceahdlaaDoor.V.M
set_option linter.unusedVariables false
set_option linter.unusedSimpArgs false
open Go Go.RowKit
def cAll : api_Cron := ⟨1152921504606846975, 16777215, 4294967294, 8190, 127, true, true⟩
def cMin (k : Nat) : api_Cron := ⟨((2 ^ k : Nat) : Int), 16777215, 4294967294, 8190, 127, true, true⟩
def cDay (k : Nat) : api_Cron := ⟨1152921504606846975, 16777215, 4294967294, 8190, ((2 ^ k : Nat) : Int), true, false⟩
theorem parse_all : f_cron_Parse ([42, 32, 42, 32, 42, 32, 42, 32, 42] : Str) = some (cAll, 0) := by kernel_rfl
def mIx (m : Int) : Int := (if 1 < (if (IntKind.i64.wrap (10 - m)) < 0 then 0 else (IntKind.i64.wrap (10 - m))) then 1 else (if (IntKind.i64.wrap (10 - m)) < 0 then 0 else (IntKind.i64.wrap (10 - m))))
def mTx (m : Int) : Str := cut (([(IntKind.u8.wrap (IntKind.i64.wrap (48 + (IntKind.i64.wrap (m.tdiv 10))))), (IntKind.u8.wrap (IntKind.i64.wrap (48 + (m.tmod 10))))] : List Int).map nb) (mIx m) 2
theorem parse_min (k : Nat) (h : k < 60) : (0 ≤ mIx (k : Int) ∧ mIx (k : Int) ≤ 2) ∧ (mTx (k : Int)).length + 8 ≤ 9223372036854775807 ∧ f_cron_Parse (mTx (k : Int) ++ ([32, 42, 32, 42, 32, 42, 32, 42] : Str)) = some (cMin k, 0) := by
  have h1 : (List.range 60).all (fun k => decide ((0 ≤ mIx (k : Int) ∧ mIx (k : Int) ≤ 2) ∧ (mTx (k : Int)).length + 8 ≤ 9223372036854775807 ∧ f_cron_Parse (mTx (k : Int) ++ ([32, 42, 32, 42, 32, 42, 32, 42] : Str)) = some (cMin k, 0))) = true := by kernel_rfl
  exact of_decide_eq_true (List.all_eq_true.1 h1 k (List.mem_range.2 h))
theorem parse_day (k : Nat) (h : k < 7) : f_cron_Parse (([42, 32, 42, 32, 42, 32, 42, 32] : Str) ++ (([(IntKind.u8.wrap (IntKind.i64.wrap (48 + (k : Int))))] : List Int).map nb)) = some (cDay k, 0) := by
  have h1 : (List.range 7).all (fun k => decide (f_cron_Parse (([42, 32, 42, 32, 42, 32, 42, 32] : Str) ++ (([(IntKind.u8.wrap (IntKind.i64.wrap (48 + (k : Int))))] : List Int).map nb)) = some (cDay k, 0))) = true := by kernel_rfl
  exact of_decide_eq_true (List.all_eq_true.1 h1 k (List.mem_range.2 h))
theorem bit_one (k j : Nat) (hk : k < 60) (hj : j < 60) : bitB ((2 ^ k : Nat) : Int) (j : Int) = decide (j = k) := by
  have h1 : (List.range 60).all (fun k => (List.range 60).all fun j => bitB ((2 ^ k : Nat) : Int) (j : Int) == decide (j = k)) = true := by kernel_rfl
  exact beq_iff_eq.1 (List.all_eq_true.1 (List.all_eq_true.1 h1 k (List.mem_range.2 hk)) j (List.mem_range.2 hj))
theorem bit_min (j : Nat) (hj : j < 60) : bitB 1152921504606846975 (j : Int) = true := by
  have h1 : (List.range 60).all (fun j => bitB 1152921504606846975 (j : Int)) = true := by kernel_rfl
  exact List.all_eq_true.1 h1 j (List.mem_range.2 hj)
theorem bit_hour (j : Nat) (hj : j < 24) : bitB 16777215 (j : Int) = true := by
  have h1 : (List.range 24).all (fun j => bitB 16777215 (j : Int)) = true := by kernel_rfl
  exact List.all_eq_true.1 h1 j (List.mem_range.2 hj)
theorem bit_month (j : Nat) (hj : j < 12) : bitB 8190 ((j : Int) + 1) = true := by
  have h1 : (List.range 12).all (fun j => bitB 8190 ((j : Int) + 1)) = true := by kernel_rfl
  exact List.all_eq_true.1 h1 j (List.mem_range.2 hj)
theorem clk_is (t : Int) (h0 : 0 ≤ t) (h1 : t ≤ 1099511627776) : ∃ (D : Int) (q : Nat) (Y : Int), clk t = ⟨t % 60, t % 1440 / 60, D, (q : Int) + 1, Y, (t / 1440 + 4) % 7⟩ ∧
    q < 12 ∧ 1 ≤ D ∧ D ≤ dOf ((q : Int) + 1) Y ∧ 1970 ≤ Y ∧ Y ≤ 3000000 ∧ t / 1440 + 719527 = dB Y + cumD Y q + D - 1 := by
  obtain ⟨D, q, Y, e, k⟩ := At_ok t h0 h1
  refine ⟨D, q, Y, ?_, k⟩
  unfold clk
  rw [e]
theorem fires_all (t : Int) (h0 : 0 ≤ t) (h1 : t ≤ 1099511627776) : firesT cAll t = true := by
  obtain ⟨D, q, Y, e, k1, k⟩ := clk_is t h0 h1
  obtain ⟨a, ha⟩ := Int.eq_ofNat_of_zero_le (by omega : 0 ≤ t % 60)
  obtain ⟨b, hb⟩ := Int.eq_ofNat_of_zero_le (by omega : 0 ≤ t % 1440 / 60)
  unfold firesT firesB
  rw [e]
  show (bitB 1152921504606846975 (t % 60) && bitB 16777215 (t % 1440 / 60) && bitB 8190 ((q : Int) + 1) && true) = true
  rw [ha, hb, bit_min a (by omega), bit_hour b (by omega), bit_month q k1]
  rfl
theorem fires_min (k : Nat) (hk : k < 60) (t : Int) (h0 : 0 ≤ t) (h1 : t ≤ 1099511627776) : firesT (cMin k) t = decide (t % 60 = k) := by
  obtain ⟨D, q, Y, e, k1, k2⟩ := clk_is t h0 h1
  obtain ⟨a, ha⟩ := Int.eq_ofNat_of_zero_le (by omega : 0 ≤ t % 60)
  obtain ⟨b, hb⟩ := Int.eq_ofNat_of_zero_le (by omega : 0 ≤ t % 1440 / 60)
  unfold firesT firesB
  rw [e]
  show (bitB ((2 ^ k : Nat) : Int) (t % 60) && bitB 16777215 (t % 1440 / 60) && bitB 8190 ((q : Int) + 1) && true) = _
  rw [ha, hb, bit_one k a hk (by omega), bit_hour b (by omega), bit_month q k1]
  simp; omega
theorem fires_day (k : Nat) (hk : k < 7) (t : Int) (h0 : 0 ≤ t) (h1 : t ≤ 1099511627776) : firesT (cDay k) t = decide ((t / 1440 + 4) % 7 = k) := by
  obtain ⟨D, q, Y, e, k1, k2⟩ := clk_is t h0 h1
  obtain ⟨a, ha⟩ := Int.eq_ofNat_of_zero_le (by omega : 0 ≤ t % 60)
  obtain ⟨b, hb⟩ := Int.eq_ofNat_of_zero_le (by omega : 0 ≤ t % 1440 / 60)
  obtain ⟨c, hc⟩ := Int.eq_ofNat_of_zero_le (by omega : 0 ≤ (t / 1440 + 4) % 7)
  unfold firesT firesB
  rw [e]
  show (bitB 1152921504606846975 (t % 60) && bitB 16777215 (t % 1440 / 60) && bitB 8190 ((q : Int) + 1) && bitB ((2 ^ k : Nat) : Int) ((t / 1440 + 4) % 7)) = _
  rw [ha, hb, hc, bit_min a (by omega), bit_one k c (by omega) (by omega), bit_hour b (by omega), bit_month q k1]
  simp; omega
theorem CW_all : CW cAll := by unfold CW cAll; dsimp only; omega
theorem CW_min (k : Nat) (hk : k < 60) : CW (cMin k) := by
  have h : 2 ^ k ≤ 2 ^ 60 := Nat.pow_le_pow_right (by omega) (by omega)
  have h2 : (2 : Nat) ^ 60 = 1152921504606846976 := rfl
  unfold CW cMin
  generalize 2 ^ k = z at h ⊢
  dsimp only; omega
theorem CW_day (k : Nat) (hk : k < 7) : CW (cDay k) := by
  have h : 2 ^ k ≤ 2 ^ 60 := Nat.pow_le_pow_right (by omega) (by omega)
  have h2 : (2 : Nat) ^ 60 = 1152921504606846976 := rfl
  unfold CW cDay
  generalize 2 ^ k = z at h ⊢
  dsimp only; omega
theorem every_loop (tick : Int) (k : Nat) (hk : k < 60) (T : Int) (hT : (tick.tmod 1000000000 + 1000000000).tmod 1000000000 = T) (t0 : 0 ≤ T) (t1 : T < 1000000000) : ∀ (j : Nat) (v m : Nat) (n : Int), v + j = 60 → j < m → n = (if (k - T) % 60 < v then 1 else 0) →
    f_law08_CronEvery_l16 tick (cMin k, 0) (cAll, 0) m n v = some (.inl (1, 60))
  | j, v, 0, n, h0, h1, h2 => by omega
  | 0, v, m + 1, n, h0, h1, h2 => by
    have : v = 60 := by omega
    subst this
    rw [f_law08_CronEvery_l16, if_neg (by decide), h2, if_pos (by omega)]
    rfl
  | j + 1, v, m + 1, n, h0, h1, h2 => by
    rw [f_law08_CronEvery_l16, if_pos (by simp; omega), (tm_up tick 1000000000 (by omega) (by omega)).1, hT, w_i64 (n := T + v) (by omega) (by omega)]
    dsimp only
    rw [Fires_ok _ (CW_min k hk) _ (by omega) (by omega), Fires_ok _ CW_all _ (by omega) (by omega), fires_all _ (by omega) (by omega), fires_min k hk _ (by omega) (by omega), Option.bind_some]
    have e : (if decide ((T + v) % 60 = k) = true then some (IntKind.i64.wrap (n + 1)) else some n) = some (if (k - T) % 60 < ((v + 1 : Nat) : Int) then 1 else 0) := by
      by_cases hq : (T + v) % 60 = k
      · rw [if_pos (by simpa using hq), h2, if_neg (by omega), if_pos (by omega)]; rfl
      · rw [if_neg (by simpa using hq), h2]
        by_cases hr : (k - T) % 60 < v
        · rw [if_pos hr, if_pos (by omega)]
        · rw [if_neg hr, if_neg (by omega)]
    rw [e, Option.bind_some, Option.bind_some, if_neg (by decide), w_i64 (by omega) (by omega)]
    exact every_loop tick k hk T hT t0 t1 j (v + 1) m _ (by omega) (by omega) rfl
theorem cronEvery_true (tick minute : Int) (hw : (Lit.int .i64 tick).wf = true) (hw2 : (Lit.int .i64 minute).wf = true) : f_law08_CronEvery tick minute = some true := by
  obtain ⟨u1, u2⟩ := tm_up minute 60 (by omega) (by omega)
  obtain ⟨v1, v2⟩ := tm_up tick 1000000000 (by omega) (by omega)
  unfold f_law08_CronEvery
  rw [u1]
  generalize (minute.tmod 60 + 60).tmod 60 = m at u2 ⊢
  obtain ⟨k, rfl⟩ := Int.eq_ofNat_of_zero_le u2.1
  have hk : k < 60 := by omega
  obtain ⟨p1, p2, p3⟩ := parse_min k hk
  unfold mIx at p1
  unfold mTx mIx at p2
  rw [gd_t _ p1, gd_t _ p2]
  have p3' := p3
  unfold mTx mIx at p3'
  rw [p3', Option.bind_some, parse_all, Option.bind_some, alive08]
  show Option.bind (some true) _ = _
  rw [Option.bind_some, if_neg (show ¬ ((((0 : Int) != 0) || ((0 : Int) != 0) || !true) = true) by decide)]
  have hl := every_loop tick k hk _ rfl v2.1 v2.2 60 0 61 0 (by omega) (by omega) (by rw [if_neg]; omega)
  rw [show (((60 : Int) - 0).toNat + 1) = 61 from rfl]
  rw [show f_law08_CronEvery_l16 tick (cMin k, 0) (cAll, 0) 61 0 0 = some (.inl (1, 60)) from hl, Option.bind_some, v1]
  generalize (tick.tmod 1000000000 + 1000000000).tmod 1000000000 = T at v2 ⊢
  obtain ⟨r, hr, hR⟩ := next_ok cAll CW_all T 1 (by omega) (by omega) (by omega) (by omega)
  dsimp only
  rw [hr, Option.bind_some, w_i64 (by omega) (by omega)]
  have hf := fires_all (T + 1) (by omega) (by omega)
  rcases hR with ⟨r1, r2, r3, r4, r5, r6⟩ | ⟨rfl, r1⟩
  · have : r.1 = T + 1 := by omega
    rw [r1, this]; simp
  · have := r1 (T + 1) (by omega) (by omega) (by omega)
    rw [hf] at this; cases this
/-- Days ahead of a month, months counted from year 0 on. -/
def pM (k : Nat) : Int := dB ((k / 12 : Nat) : Int) + cumD ((k / 12 : Nat) : Int) (k % 12)
theorem pM_succ (k : Nat) (h : 12 ≤ k) : pM (k + 1) = pM k + dOf (((k % 12 : Nat) : Int) + 1) ((k / 12 : Nat) : Int) := by
  unfold pM
  by_cases h1 : k % 12 = 11
  · rw [show (k + 1) / 12 = k / 12 + 1 by omega, show (k + 1) % 12 = 0 by omega, show (((k / 12 + 1 : Nat)) : Int) = ((k / 12 : Nat) : Int) + 1 from rfl, dB_succ (by omega), ← cumD_year, h1]
    show _ + (cumD _ 11 + dOf ((11 : Nat) + 1 : Int) _) + 0 = _
    omega
  · rw [show (k + 1) / 12 = k / 12 by omega, show (k + 1) % 12 = k % 12 + 1 by omega]
    show _ + (cumD _ (k % 12) + dOf _ _) = _
    omega
theorem pM_mono (a : Nat) (ha : 12 ≤ a) : ∀ j : Nat, pM a ≤ pM (a + j)
  | 0 => Int.le_refl _
  | j + 1 => by
    have h1 := pM_mono a ha j
    have h2 := pM_succ (a + j) (by omega)
    have h3 := dOf_b ((((a + j) % 12 : Nat) : Int) + 1) (((a + j) / 12 : Nat) : Int)
    rw [show a + (j + 1) = a + j + 1 by omega]
    omega
theorem pM_le {a b : Nat} (ha : 12 ≤ a) (h : a ≤ b) : pM a ≤ pM b := by
  have := pM_mono a ha (b - a)
  rw [show a + (b - a) = b by omega] at this
  exact this
theorem clk_month (t : Int) (h0 : 0 ≤ t) (h1 : t ≤ 1099511627776) : ∃ k : Nat, 12 ≤ k ∧ t / 1440 + 719527 = pM k + (clk t).Day - 1 ∧ 1 ≤ (clk t).Day ∧ pM k + (clk t).Day - 1 < pM (k + 1) := by
  obtain ⟨D, q, Y, e, k1, k2, k3, k4, k5, k6⟩ := clk_is t h0 h1
  obtain ⟨y, rfl⟩ := Int.eq_ofNat_of_zero_le (by omega : 0 ≤ Y)
  have hp : pM (12 * y + q) = dB (y : Int) + cumD (y : Int) q := by
    unfold pM
    rw [show (12 * y + q) / 12 = y by omega, show (12 * y + q) % 12 = q by omega]
  have hs := pM_succ (12 * y + q) (by omega)
  rw [show (12 * y + q) / 12 = y by omega, show (12 * y + q) % 12 = q by omega] at hs
  refine ⟨12 * y + q, by omega, ?_, ?_, ?_⟩ <;> rw [e] <;> dsimp only <;> omega
theorem day_next (t : Int) (h0 : 0 ≤ t) (h1 : t + 1440 ≤ 1099511627776) : (clk (t + 1440)).Day = (clk t).Day + 1 ∨ (clk (t + 1440)).Day = 1 := by
  obtain ⟨a, a0, a1, a2, a3⟩ := clk_month t h0 (by omega)
  obtain ⟨b, b0, b1, b2, b3⟩ := clk_month (t + 1440) (by omega) h1
  have hd : (t + 1440) / 1440 = t / 1440 + 1 := by omega
  rw [hd] at b1
  rcases Nat.lt_trichotomy b a with h | h | h
  · have := pM_le (a := b + 1) (b := a) (by omega) (by omega)
    omega
  · subst h; left; omega
  · right
    have h2 := pM_le (a := a + 1) (b := b) (by omega) (by omega)
    omega
theorem days_loop (tick : Int) (k : Nat) (hk : k < 7) (T : Int) (hT : (tick.tmod 1000000000 + 1000000000).tmod 1000000000 = T) (t0 : 0 ≤ T) (t1 : T < 1000000000) : ∀ (j : Nat) (v m : Nat) (n : Int), v + j = 7 → j < m → n = (if (k - (T / 1440 + 4)) % 7 < v then 1 else 0) →
    f_law08_CronDays_l17 tick (cDay k, 0) m n v = some (.inl (1, 7))
  | j, v, 0, n, h0, h1, h2 => by omega
  | 0, v, m + 1, n, h0, h1, h2 => by
    have : v = 7 := by omega
    subst this
    rw [f_law08_CronDays_l17, if_neg (by decide), h2, if_pos (by omega)]
    rfl
  | j + 1, v, m + 1, n, h0, h1, h2 => by
    rw [f_law08_CronDays_l17, if_pos (by simp; omega), (tm_up tick 1000000000 (by omega) (by omega)).1, hT, w_i64 (n := (v : Int) + 1) (by omega) (by omega), w_i64 (n := 1440 * (v : Int)) (by omega) (by omega), w_i64 (n := 1440 * ((v : Int) + 1)) (by omega) (by omega), w_i64 (n := T + 1440 * (v : Int)) (by omega) (by omega), w_i64 (n := T + 1440 * ((v : Int) + 1)) (by omega) (by omega)]
    have ea : f_cron_At (T + 1440 * (v : Int)) = some (clk (T + 1440 * (v : Int)), 0) := (clk_at _ (by omega) (by omega)).1
    have eb : f_cron_At (T + 1440 * ((v : Int) + 1)) = some (clk (T + 1440 * ((v : Int) + 1)), 0) := (clk_at _ (by omega) (by omega)).1
    have hd := day_next (T + 1440 * (v : Int)) (by omega) (by omega)
    rw [show T + 1440 * (v : Int) + 1440 = T + 1440 * ((v : Int) + 1) by omega] at hd
    obtain ⟨D, q, Y, e, k1, k2⟩ := clk_is (T + 1440 * (v : Int)) (by omega) (by omega)
    obtain ⟨D', q', Y', e', k1', k2'⟩ := clk_is (T + 1440 * ((v : Int) + 1)) (by omega) (by omega)
    have hb := dOf_b ((q : Int) + 1) Y
    rw [ea, eb, e, e'] 
    rw [e, e'] at hd
    dsimp only at hd ⊢
    rw [Option.bind_some, Option.bind_some]
    dsimp only
    have ew : ((T + 1440 * (v : Int)) / 1440 + 4) % 7 + 1 < 9223372036854775807 ∧ 0 ≤ ((T + 1440 * (v : Int)) / 1440 + 4) % 7 + 1 := by omega
    have e6 : (((T + 1440 * (v : Int)) / 1440 + 4) % 7 + 1).tmod 7 = (((T + 1440 * (v : Int)) / 1440 + 4) % 7 + 1) % 7 := Int.tmod_eq_emod_of_nonneg ew.2
    rw [w_i64 (n := ((T + 1440 * (v : Int)) / 1440 + 4) % 7 + 1) (by omega) (by omega), e6, w_i64 (n := D + 1) (by omega) (by omega)]
    rw [if_neg (by intro hh; simp at hh; omega)]
    rw [Fires_ok _ (CW_day k hk) _ (by omega) (by omega), fires_day k hk _ (by omega) (by omega), Option.bind_some]
    by_cases hq : ((T + 1440 * (v : Int)) / 1440 + 4) % 7 = k
    · rw [if_pos (by simpa using hq), h2, if_neg (by omega)]
      exact days_loop tick k hk T hT t0 t1 j (v + 1) m _ (by omega) (by omega) (by rw [if_pos (by omega)]; rfl)
    · rw [if_neg (by simpa using hq)]
      refine days_loop tick k hk T hT t0 t1 j (v + 1) m _ (by omega) (by omega) ?_
      rw [h2]
      by_cases hr : (k - (T / 1440 + 4)) % 7 < v
      · rw [if_pos hr, if_pos (by omega)]
      · rw [if_neg hr, if_neg (by omega)]
theorem cronDays_true (tick day : Int) (hw : (Lit.int .i64 tick).wf = true) (hw2 : (Lit.int .i64 day).wf = true) : f_law08_CronDays tick day = some true := by
  obtain ⟨u1, u2⟩ := tm_up day 7 (by omega) (by omega)
  obtain ⟨v1, v2⟩ := tm_up tick 1000000000 (by omega) (by omega)
  unfold f_law08_CronDays
  rw [u1]
  generalize (day.tmod 7 + 7).tmod 7 = m at u2 ⊢
  obtain ⟨k, rfl⟩ := Int.eq_ofNat_of_zero_le u2.1
  have hk : k < 7 := by omega
  rw [gd_t _ (by omega), parse_day k hk, Option.bind_some, alive08]
  show Option.bind (some true) _ = _
  rw [Option.bind_some, if_neg (show ¬ ((((0 : Int) != 0) || !true) = true) by decide)]
  have hl := days_loop tick k hk _ rfl v2.1 v2.2 7 0 8 0 (by omega) (by omega) (by rw [if_neg]; omega)
  rw [show (((7 : Int) - 0).toNat + 1) = 8 from rfl]
  rw [show f_law08_CronDays_l17 tick (cDay k, 0) 8 0 0 = some (.inl (1, 7)) from hl, Option.bind_some]
  rfl
end Go.Proofs.YthcngbbceahdlaaDoor.V.M
end

section
/- The functions' proofs and the plain laws, side by side (all but CronParses). -/
namespace Go.Proofs.YthcngbbceahdlaaDoor.V
set_option linter.unusedVariables false
set_option linter.unusedSimpArgs false
theorem bounds_u64 {a : Int} (h : (Lit.int .u64 a).wf = true) : 0 ≤ a ∧ a ≤ 18446744073709551615 := by
  have e := (Bool.and_eq_true_iff.mp h); exact ⟨of_decide_eq_true e.1, of_decide_eq_true e.2⟩
theorem cw_of (c : api_Cron) (h : W_api_Cron c) : M.CW c := by
  obtain ⟨h1, h2, h3, h4, h5, _⟩ := h
  have a1 := bounds_u64 h1
  have a2 := bounds_u64 h2
  have a3 := bounds_u64 h3
  have a4 := bounds_u64 h4
  have a5 := bounds_u64 h5
  unfold M.CW; omega
theorem cronTimes_true (tick : Int) (w0 : (Lit.int .i64 tick).wf = true) : f_law08_CronTimes tick = some true := M.cronTimes_true tick w0
theorem cronDays_true (tick day : Int) (w0 : (Lit.int .i64 tick).wf = true) (w1 : (Lit.int .i64 day).wf = true) : f_law08_CronDays tick day = some true := M.cronDays_true tick day w0 w1
theorem cronEvery_true (tick minute : Int) (w0 : (Lit.int .i64 tick).wf = true) (w1 : (Lit.int .i64 minute).wf = true) : f_law08_CronEvery tick minute = some true := M.cronEvery_true tick minute w0 w1
theorem cronFires_true (c : api_Cron) (tick most : Int) (w0 : W_api_Cron c) (w1 : (Lit.int .i64 tick).wf = true) (w2 : (Lit.int .i64 most).wf = true) : f_law08_CronFires c tick most = some true := M.cronFires_true c tick most (cw_of c w0) w1 w2
theorem cronNext_true (c : api_Cron) (tick most : Int) (w0 : W_api_Cron c) (w1 : (Lit.int .i64 tick).wf = true) (w2 : (Lit.int .i64 most).wf = true) : f_law08_CronNext c tick most = some true := M.cronNext_true c tick most (cw_of c w0) w1 w2
end Go.Proofs.YthcngbbceahdlaaDoor.V
end

section
/- Rows: what a row lays of type handles. -/
namespace Go.Proofs.YthcngbbceahdlaaDoor.V
open Go Go.RowKit
set_option linter.unusedVariables false
set_option linter.unusedSimpArgs false
theorem glrep_h {w : World} {g u b o : Nat} (h : w.cell? ⟨g, 0, none⟩ = some (.iface u (.agg #[.pointer (some ⟨b, o, none⟩)]))) : RepD w (fun k => k < w.heap.size) (.ref [.ifc u true [.z (.hnd b o)]] 0) (.pointer (some ⟨g, 0, none⟩)) := by
  refine .ref _ 0 g 0 (fun _ => .iface u (.agg #[.pointer (some ⟨b, o, none⟩)])) (cell?_lt h) (fun j sc hj => ?_) (fun j sc hj => ?_)
  · match j, hj with
    | 0, hj => exact h
  · match j, hj with
    | 0, hj =>
      obtain rfl := Option.some.inj hj
      refine .ifa u _ _ rfl fun j sc hj => ?_
      match j, hj with
      | 0, hj => obtain rfl := Option.some.inj hj; exact .z (.hnd b o)
theorem handle_met {P : Program} {laid : List (String × DataW Unit)} {W : World} {v : String} {d : DataW Unit} {g u b o n : Nat} {ty : TypeId} {name : List UInt8} (h : handlesMet P laid W) (hm : (v, d) ∈ laid) (hf : d.funcsIn? = none)
    (hn : d.handleName? = some name) (hg : P.globalNamed v = some g) (hu : (P.cutTypes.find? (·.1 == "internal/reflectlite.rtype")).map (·.2) = some u) (hsz : P.types.size = n)
    (hone : ((List.range n).filter fun t => P.rowNamed t name) = [ty]) (hh : typeHandle P ty = .pointer (some ⟨b, o, none⟩)) : W.cell? ⟨g, 0, none⟩ = some (.iface u (.agg #[.pointer (some ⟨b, o, none⟩)])) := by
  have h1 := h _ hm
  simp only [hf] at h1
  obtain ⟨name', u', ty', e1, e2, e3, e4, e5⟩ := h1
  obtain rfl := Option.some.inj (hn.symm.trans e1)
  obtain rfl := Option.some.inj (hu.symm.trans e2)
  have hm : ty' ∈ (List.range n).filter fun t => P.rowNamed t name := List.mem_filter.2 ⟨List.mem_range.2 (by rw [← hsz]; exact e3), e4⟩
  rw [hone] at hm
  obtain rfl := List.mem_singleton.1 hm
  rw [hh] at e5
  simpa using World.var?_cell hg e5 0
theorem laid_split {P : Program} {laid : List (String × DataW Unit)} {W : World} (h : laidMetH P laid W) (hne : (laid.filter fun x => x.2.handleName?.isSome).isEmpty = false) : laidMet P (laid.filter fun x => x.2.handleName?.isNone) W ∧ handlesMet P (laid.filter fun x => x.2.handleName?.isSome) W := by
  unfold laidMetH at h
  generalize (laid.filter fun x => x.2.handleName?.isSome) = hs at h hne
  match hs, h, hne with
  | a :: r, h, _ => exact h
end Go.Proofs.YthcngbbceahdlaaDoor.V
end

section
/- The row of the law CronNext: for every input that the row speaks of the law returns true; each argument reads behind the call as it read before. -/
namespace Go.Proofs.YthcngbbceahdlaaDoor.cronNext
open Go.ChangeShapes Go.WideShapes Go.ChangeAt Go.RowKit Go.Proofs.YthcngbbceahdlaaDoor.V Go.Proofs.YthcngbbceahdlaaDoorW.PrintWords
set_option linter.unusedVariables false
theorem ops_api_Cron : OpS Tryd.prog 39 7 e_api_Cron W_api_Cron := ops_struct (fun a => api_Cron.mk a.1 a.2.1 a.2.2.1 a.2.2.2.1 a.2.2.2.2.1 a.2.2.2.2.2.1 a.2.2.2.2.2.2) Tryd.underlying39 (by kernel_rfl) (OpSF.cons rfl rfl (by kernel_rfl) (ops_int (by kernel_rfl)) (OpSF.cons rfl rfl (by kernel_rfl) (ops_int (by kernel_rfl)) (OpSF.cons rfl rfl (by kernel_rfl) (ops_int (by kernel_rfl)) (OpSF.cons rfl rfl (by kernel_rfl) (ops_int (by kernel_rfl)) (OpSF.cons rfl rfl (by kernel_rfl) (ops_int (by kernel_rfl)) (OpSF.cons rfl rfl (by kernel_rfl) (ops_bool (by kernel_rfl)) (OpSF.one rfl rfl (by kernel_rfl) rfl (ops_bool (by kernel_rfl))))))))) (fun _ => rfl) (by intro a h; exact h)
theorem own : ownKnob Tryd.prog.godebug = none := by kernel_rfl
theorem laidOut : laidOutB Tryd.prog = true := by kernel_rfl
theorem gn0 : Tryd.prog.globalNamed "unicode/utf8.acceptRanges" = some 2 := by kernel_rfl
theorem gt0 : (Tryd.prog.globals[2]?).map (·.type) = some 161 := by kernel_rfl
theorem gn1 : Tryd.prog.globalNamed "unicode/utf8.first" = some 1 := by kernel_rfl
theorem gt1 : (Tryd.prog.globals[1]?).map (·.type) = some 158 := by kernel_rfl
noncomputable def doorW (os : Os) : World := (let w0 := World.doorLaid Tryd.prog 400 os; { w0 with heap := w0.heap.modify 1 fun | .cells _ t fz => .cells ((Go.Pinned.utf8FirstZ.map fun (n : Nat) => Value.int .u8 n).toArray) t fz | o => o })
theorem door_met (os : Os) (args : Array Value) : laidMetH Tryd.prog Rows.cronNextRow.laid ((doorW os).forCall (fun _ _ => 0) ⟨#[], args, []⟩).memory :=
  laidMetH_of_parts3 (fuel := 8) (laidMet_of_run' 8 (by kernel_rfl) (by kernel_rfl)) (by kernel_rfl) (by kernel_rfl)
theorem gl_ok {W : World} (h : laidMetH Tryd.prog Rows.cronNextRow.laid W) : GlOk glP W (fun k => k < W.heap.size) := fun g cs hg => by cases hg
set_option maxRecDepth 100000 in
theorem lifted (os : Os) (started : os.Started) (H : Type) (enc : TypeId × Value → H) :
    ReturnsInHanded {} Tryd.checked os 12 .any (fun w args => (Rows.cronNextSpec.pre enc Tryd.prog Tryd.f12 [] false w args ∧ laidMetH Tryd.prog Rows.cronNextRow.laid w) ∧ sizedMet enc Tryd.prog Tryd.f12 (OpenSpec.ofChange Rows.cronNextSpec) false w args) (Rows.cronNextSpec.post enc Tryd.prog Tryd.f12 false true false false) := by
  refine returnsInHanded_of_change_and (C := Tryd.checked) (X := fun w _ => laidMetH Tryd.prog Rows.cronNextRow.laid w) (fun _ _ _ hh h => h.of_heap hh) own started (by kernel_rfl) Tryd.func12
    (ChangeSpec.witness_shaped (enc := enc) (C := Tryd.checked) (os := os) (X := fun w _ => laidMetH Tryd.prog Rows.cronNextRow.laid w) false (doorW os) #[.agg #[.int .u64 0, .int .u64 0, .int .u64 0, .int .u64 0, .int .u64 0, .bool false, .bool false], .int .i64 0, .int .i64 0] 8 rfl (World.shaped_of_RefB (by kernel_rfl) (by kernel_rfl)) (by kernel_rfl) (by kernel_rfl) (by kernel_rfl) (door_met os _)) ?_
  intro W base args ds gs before hval0 hW hcnd hsz0 hL _
  have hsz : (DataW.weightsEach Tryd.prog (Tryd.f12.params.toList ++ Rows.cronNextSpec.plain.varTypes Tryd.prog) (ds ++ gs)).all (· ≤ reachBytes) = true := hsz0
  have hval : ∀ (j : Nat) t v, Tryd.f12.params[j]? = some t → args[j]? = some v → Value.okWide Tryd.prog W .any base t v := hval0
  have hW' := hW
  obtain ⟨p, q, hA0, hV, rfl, hfz, hnd⟩ := hW
  have hA : DataW.TrodAll enc Tryd.prog W 0 (fun _ => true) true Tryd.f12.params.toList args.toList ds p := hA0
  rw [Tryd.params12] at hA hval hsz
  obtain ⟨v0, vs0, d0, ds0, p0, q0, hargs, rfl, rfl, h0, r0⟩ := trodAll_cons hA
  obtain ⟨v1, vs1, d1, ds1, p1, q1, rfl, rfl, rfl, h1, r1⟩ := trodAll_cons r0
  obtain ⟨v2, vs2, d2, ds2, p2, q2, rfl, rfl, rfl, h2, r2⟩ := trodAll_cons r1
  obtain ⟨rfl, rfl, rfl⟩ := trodAll_nil r2
  obtain rfl : args = #[v0, v1, v2] := by cases args; simp_all
  obtain ⟨rfl, rfl⟩ := trodVars_none hV
  have k0 := h0
  have lt0 : ∀ x ∈ p0, x.block < W.heap.size := by obtain ⟨m, hm⟩ := k0; exact DataW.trod_lt m _ _ _ hm
  obtain ⟨a0, e0, w0⟩ := arg_struct Tryd.underlying39 ops_api_Cron (hval 0 39 v0 rfl rfl) h0
  have k1 := h1
  have lt1 : ∀ x ∈ p1, x.block < W.heap.size := by obtain ⟨m, hm⟩ := k1; exact DataW.trod_lt m _ _ _ hm
  obtain ⟨a1, e1, w1⟩ := arg_int Tryd.underlying3 (hval 1 3 v1 rfl rfl) h1
  have k2 := h2
  have lt2 : ∀ x ∈ p2, x.block < W.heap.size := by obtain ⟨m, hm⟩ := k2; exact DataW.trod_lt m _ _ _ hm
  obtain ⟨a2, e2, w2⟩ := arg_int Tryd.underlying3 (hval 2 3 v2 rfl rfl) h2
  refine (Fun.lawG (xs := [_, _, _]) (vs := [v0, v1, v2]) (w := W) (f_law08_CronNext_ok a0 a1 a2 true (by first | exact cronNext_true a0 a1 a2 w0 w1 w2 | exact cronNext_true a0 a1 a2 | (apply cronNext_true <;> assumption))) (gl_ok hL) ⟨e0, e1, e2, trivial⟩).mono fun e W' ⟨he, bel⟩ => ?_
  subst he
  exact ⟨_, rfl, _, _, _, [], _, [], hW', trodAll_mk1 (shut_bool Tryd.underlying4 _), (trodAll_cons_mk (Below.trod laidOut (by kernel_rfl) (of_decide_eq_true (by kernel_rfl)) k0 bel lt0) (trodAll_cons_mk (Below.trod laidOut (by kernel_rfl) (of_decide_eq_true (by kernel_rfl)) k1 bel lt1) (trodAll_cons_mk (Below.trod laidOut (by kernel_rfl) (of_decide_eq_true (by kernel_rfl)) k2 bel lt2) trodAll_mk0))), rfl, bel.frame _, fun h => by cases h⟩
theorem over : Rows.cronNextRow.holds Tryd.pinned (OpenSpec.ofChange Rows.cronNextSpec) :=
  OpenClaim.holds_of_wide 12 Tryd.f12 rfl rfl rfl rfl rfl rfl rfl ⟨rfl, rfl, rfl, rfl, rfl⟩ rfl rfl rfl rfl rfl (by kernel_rfl) Tryd.func12 (by kernel_rfl)
    (of_decide_eq_true (by kernel_rfl)) (by unfold Func.isWrapper; first | (rw [if_pos (by decide +kernel)]; kernel_rfl) | (rw [if_neg (by decide +kernel)]; exact ⟨rfl, rfl⟩))
    (fun os started H enc _ => lifted os started H enc)
theorem proved : Rows.CronNextSaid := over
end Go.Proofs.YthcngbbceahdlaaDoor.cronNext
namespace Go.Proofs.YthcngbbceahdlaaDoor
/-- The statement, under a short name, for the claim. -/
theorem cronNext_holds : Rows.CronNextCardSaid :=
  Claim7.holds_tied_plain_at .later [] [.data, .pinned] true (true, "9b67dd976cb790bfab13024b660aa57e4181461624236429e7c13590448c4756") true
    cronNext.proved (fun _ h => by cases h) (by kernel_rfl) (fun _ h => by cases h) cronNext_row_tie rfl ⟨rfl, rfl⟩ (by kernel_rfl) rfl
    (fun f fn hf hfn => by
      obtain rfl : f = 12 := Option.some.inj ((show Tryd.prog.funcNamed "consignor/consignorlaw08.CronNext" = some 12 by kernel_rfl).symm.trans hf) |>.symm
      obtain rfl : fn = Tryd.f12 := (Option.some.inj (Tryd.func12.symm.trans hfn)).symm
      exact ⟨by kernel_rfl, fun j t ht => by
        rw [Tryd.params12] at ht
        have hm : t ∈ [39, 3, 3] := by simpa using Array.mem_of_getElem? ht
        have hall : ([39, 3, 3].all fun u => !Tryd.prog.wantsStandIn u) = true := by kernel_rfl
        exact (show Tryd.prog.wantsStandIn t = false by simpa using List.all_eq_true.1 hall t hm)⟩)
    (by kernel_rfl)
#print axioms cronNext_holds
end Go.Proofs.YthcngbbceahdlaaDoor
end
