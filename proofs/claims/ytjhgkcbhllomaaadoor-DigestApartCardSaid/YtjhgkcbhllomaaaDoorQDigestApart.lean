/- The row of the law DigestApart: for every input that the row speaks of the law returns true; each argument reads behind the call as it read before. -/
import Derived.Test.YtjhgkcbhllomaaaDoorQDigestApartB
import Derived.KernelRfl
import Derived.Test.YtjhgkcbhllomaaaDoorQDigestApartC
import Derived.Lib.Join
import Derived.Below
import Derived.OwnWalk
import Derived.Orders
import Derived.WalkKit
import Derived.Laws.Slices
import Derived.OpenShut
import Derived.FnData
import Derived.LaidMore
import Derived.MakeChecks
import Derived.Test.YtjhgkcbhllomaaaDoorRows
import Derived.Test.YtjhgkcbhllomaaaDoorTie
import Derived.Test.YtjhgkcbhllomaaaDoorCards
import Derived.ProofKit
import Derived.ShutString
import Derived.ChangeOld
import Derived.SizedLaws
import Derived.SliceStrings
import Derived.Carry
import Derived.Stop.Joined
import Derived.SevenTiedAt
import Derived.Test.YtjhgkcbhllomaaaDoorWSized
section
/- Plain laws: numbers, rows and words of 32 bits. -/
namespace Go.Proofs.YtjhgkcbhllomaaaDoor.V.M
set_option linter.unusedVariables false
set_option linter.unusedSimpArgs false
open Go Go.RowKit
theorem w_i64 {n : Int} (h : -9223372036854775808 ≤ n) (h2 : n < 9223372036854775808) : IntKind.i64.wrap n = n := by
  simp only [IntKind.wrap, IntKind.bits, IntKind.signed]; simp; omega
theorem bounds_i64 {a : Int} (h : (Lit.int .i64 a).wf = true) : -9223372036854775808 ≤ a ∧ a ≤ 9223372036854775807 := by
  have e := (Bool.and_eq_true_iff.mp h); exact ⟨of_decide_eq_true e.1, of_decide_eq_true e.2⟩
theorem bounds_u8 {a : Int} (h : (Lit.int .u8 a).wf = true) : 0 ≤ a ∧ a ≤ 255 := by
  have e := (Bool.and_eq_true_iff.mp h); exact ⟨of_decide_eq_true e.1, of_decide_eq_true e.2⟩
theorem w_u64 {n : Int} (h : 0 ≤ n) (h2 : n < 18446744073709551616) : IntKind.u64.wrap n = n := by
  simp only [IntKind.wrap, IntKind.bits, IntKind.signed]; simp; omega
theorem w_u32 (n : Int) : IntKind.u32.wrap n = n % 4294967296 := by simp [IntKind.wrap, IntKind.bits, IntKind.signed]
theorem w_u8 (n : Int) : IntKind.u8.wrap n = n % 256 := by simp [IntKind.wrap, IntKind.bits, IntKind.signed]
theorem gd_t {α : Type} {p : Prop} [Decidable p] (k : Option α) (h : p) : gd p k = k := by unfold gd; rw [if_pos h]
theorem ix_nat {α : Type} (l : List α) (n : Nat) : ix l (n : Int) = l[n]? := by unfold ix; rw [if_pos (by omega)]; rfl
theorem ix_lt {α : Type} (l : List α) (d : α) (n : Nat) (h : n < l.length) : ix l (n : Int) = some (l.getD n d) := by
  rw [ix_nat, List.getElem?_eq_getElem h, List.getD_eq_getElem?_getD, List.getElem?_eq_getElem h]; rfl
theorem cut_all {α : Type} (l : List α) (n : Nat) : cut l (n : Int) (l.length : Int) = l.drop n := by unfold cut; simp
theorem cut_zero {α : Type} (l : List α) (n : Nat) : cut l 0 (n : Int) = l.take n := by unfold cut; simp
/-- A word of 32 bits, as the program's number. -/
def B (x : BitVec 32) : Int := (x.toNat : Int)
theorem B_lt (x : BitVec 32) : 0 ≤ B x ∧ B x < 4294967296 := ⟨by unfold B; omega, by unfold B; have := x.isLt; omega⟩
theorem B_of (n : Int) : BitVec.ofInt 32 n = BitVec.ofInt 32 n := rfl
theorem B_ofInt (n : Int) : IntKind.u32.wrap n = B (BitVec.ofInt 32 n) := by
  rw [w_u32]; unfold B; rw [BitVec.toNat_ofInt]; omega
theorem of_B (x : BitVec 32) : BitVec.ofInt 32 (B x) = x := by unfold B; simp
theorem of_B' (x : BitVec 32) : BitVec.ofInt IntKind.u32.bits (B x) = x := of_B x
theorem wrap_B (x : BitVec 32) : IntKind.u32.wrap (B x) = B x := by rw [B_ofInt, of_B]
theorem wrap_N (x : BitVec 32) : IntKind.u32.wrap ((x.toNat : Nat) : Int) = B x := wrap_B x
theorem add_B (x y : BitVec 32) : IntKind.u32.wrap (B x + B y) = B (x + y) := by
  rw [B_ofInt, BitVec.ofInt_add, of_B, of_B]
theorem B_mod (n : Nat) : (n : Int) % 4294967296 = B (BitVec.ofNat 32 n) := by unfold B; simp
theorem not_B (x : BitVec 32) : IntKind.u32.wrap (4294967295 - B x) = B (~~~ x) := by
  have := B_lt x
  rw [w_u32]; unfold B at *; rw [BitVec.toNat_not]; omega
theorem not_B2 (x : BitVec 32) : IntKind.u32.wrap (BitVec.ofInt IntKind.u32.bits (if IntKind.u32.signed then -1 else IntKind.u32.max) ^^^ BitVec.ofInt IntKind.u32.bits (B x)).toNat = B (~~~ x) := by
  have e : (BitVec.ofInt IntKind.u32.bits (if IntKind.u32.signed then -1 else IntKind.u32.max) ^^^ BitVec.ofInt IntKind.u32.bits (B x)) = ~~~ x := by
    show BitVec.ofInt 32 4294967295 ^^^ BitVec.ofInt 32 (B x) = _
    rw [of_B, show BitVec.ofInt 32 4294967295 = BitVec.allOnes 32 from by decide, BitVec.allOnes_xor]
  rw [e]; exact wrap_N _
theorem xor_B (x y : BitVec 32) : IntKind.u32.wrap (BitVec.ofInt IntKind.u32.bits (B x) ^^^ BitVec.ofInt IntKind.u32.bits (B y)).toNat = B (x ^^^ y) := by
  have e : (BitVec.ofInt IntKind.u32.bits (B x) ^^^ BitVec.ofInt IntKind.u32.bits (B y)) = x ^^^ y := by
    show BitVec.ofInt 32 (B x) ^^^ BitVec.ofInt 32 (B y) = _
    rw [of_B, of_B]
  rw [e]; exact wrap_N _
theorem and_B (x y : BitVec 32) : IntKind.u32.wrap (BitVec.ofInt IntKind.u32.bits (B x) &&& BitVec.ofInt IntKind.u32.bits (B y)).toNat = B (x &&& y) := by
  have e : (BitVec.ofInt IntKind.u32.bits (B x) &&& BitVec.ofInt IntKind.u32.bits (B y)) = x &&& y := by
    show BitVec.ofInt 32 (B x) &&& BitVec.ofInt 32 (B y) = _
    rw [of_B, of_B]
  rw [e]; exact wrap_N _
theorem or_B (x y : BitVec 32) : IntKind.u32.wrap (BitVec.ofInt IntKind.u32.bits (B x) ||| BitVec.ofInt IntKind.u32.bits (B y)).toNat = B (x ||| y) := by
  have e : (BitVec.ofInt IntKind.u32.bits (B x) ||| BitVec.ofInt IntKind.u32.bits (B y)) = x ||| y := by
    show BitVec.ofInt 32 (B x) ||| BitVec.ofInt 32 (B y) = _
    rw [of_B, of_B]
  rw [e]; exact wrap_N _
/-- The turn to the right. -/
def rot (n : Nat) (x : BitVec 32) : BitVec 32 := (x <<< (32 - n)) ||| (x >>> n)
theorem rot_add (n : Nat) (h0 : 0 < n) (h : n < 32) (x : BitVec 32) : rot n x = (x <<< (32 - n)) + (x >>> n) := by
  unfold rot; symm; apply BitVec.add_eq_or_of_and_eq_zero
  ext i hi
  simp only [BitVec.getElem_and, BitVec.getElem_shiftLeft, BitVec.getElem_ushiftRight, BitVec.getElem_zero]
  by_cases c : i < 32 - n
  · simp [c]
  · simp [c]; intro _; exact BitVec.getLsbD_of_ge _ _ (by omega)
theorem B_def (x : BitVec 32) : B x = (x.toNat : Int) := rfl
theorem shr_B (x : BitVec 32) (n : Nat) : (B x).fdiv (2 ^ n) = B (x >>> n) := by
  have h : (2 : Int) ^ n = ((2 ^ n : Nat) : Int) := by rw [Int.natCast_pow]; rfl
  rw [B_def, B_def, BitVec.toNat_ushiftRight, Nat.shiftRight_eq_div_pow, h, Int.fdiv_eq_ediv_of_nonneg _ (Int.natCast_nonneg _)]; rfl
theorem shl_B (x : BitVec 32) (n : Nat) : IntKind.u32.wrap (B x * 2 ^ n) = B (x <<< n) := by
  have h : (2 : Int) ^ n = ((2 ^ n : Nat) : Int) := by rw [Int.natCast_pow]; rfl
  rw [w_u32, B_def, B_def, BitVec.toNat_shiftLeft, Nat.shiftLeft_eq, h, ← Int.natCast_mul]; rfl
theorem divB (x : BitVec 32) (n : Nat) (p : Int) (h : p = ((2 ^ n : Nat) : Int)) : IntKind.u32.wrap ((B x).tdiv p) = B (x >>> n) := by
  subst h
  rw [B_def, Int.tdiv_eq_ediv_of_nonneg (Int.natCast_nonneg _), show ((x.toNat : Int) / ((2 ^ n : Nat) : Int)) = ((x >>> n).toNat : Int) by
    rw [BitVec.toNat_ushiftRight, Nat.shiftRight_eq_div_pow]; rfl]
  exact wrap_N _
theorem modB (x : BitVec 32) (n : Nat) (hn : n ≤ 32) (p q : Int) (h : p = ((2 ^ n : Nat) : Int)) (h2 : q = ((2 ^ (32 - n) : Nat) : Int)) : IntKind.u32.wrap ((B x).tmod p * q) = B (x <<< (32 - n)) := by
  subst h; subst h2
  rw [B_def, Int.tmod_eq_emod_of_nonneg (Int.natCast_nonneg _), w_u32, B_def, BitVec.toNat_shiftLeft, Nat.shiftLeft_eq]
  have e : (x.toNat % 2 ^ n) * 2 ^ (32 - n) = x.toNat * 2 ^ (32 - n) % 2 ^ 32 := by
    rw [← Nat.mul_mod_mul_right]; congr 1; rw [← Nat.pow_add]; congr 1; omega
  rw [← e, ← Int.natCast_emod, ← Int.natCast_mul, e]
  have := Nat.mod_lt (x.toNat * 2 ^ (32 - n)) (show 2 ^ 32 > 0 by decide)
  omega
end Go.Proofs.YtjhgkcbhllomaaaDoor.V.M
end

section
/- The two ways to turn a word agree; mixed, step and block over words. -/
namespace Go.Proofs.YtjhgkcbhllomaaaDoor.V.M
set_option linter.unusedVariables false
set_option linter.unusedSimpArgs false
open Go Go.RowKit
theorem rl_ok (x : BitVec 32) (n : Nat) (h0 : 0 < n) (h : n < 32) : f_math_bits_RotateLeft32 (B x) (IntKind.i64.wrap (0 - (n : Int))) = some (B (rot n x)) := by
  have e : (IntKind.u64.wrap ((BitVec.ofInt IntKind.u64.bits (IntKind.u64.wrap (IntKind.i64.wrap (0 - (n : Int)))) &&& BitVec.ofInt IntKind.u64.bits 31).toNat)) = ((32 - n : Nat) : Int) := by
    have : ∀ n : Fin 32, 0 < n.val → (IntKind.u64.wrap ((BitVec.ofInt IntKind.u64.bits (IntKind.u64.wrap (IntKind.i64.wrap (0 - (n.val : Int)))) &&& BitVec.ofInt IntKind.u64.bits 31).toNat)) = ((32 - n.val : Nat) : Int) := by decide
    exact this ⟨n, h⟩ h0
  have e2 : IntKind.u64.wrap (32 - ((32 - n : Nat) : Int)) = (n : Int) := by rw [w_u64 (by omega) (by omega)]; omega
  unfold f_math_bits_RotateLeft32
  rw [e, Option.bind_some, gd_t _ (by omega), e2, gd_t _ (by omega)]
  rw [show min ((32 - n : Nat) : Int).toNat IntKind.u32.bits = 32 - n from by show min _ 32 = _; omega, show min (n : Int).toNat IntKind.u32.bits = n from by show min _ 32 = _; omega]
  rw [shl_B, shr_B, or_B]; rfl
theorem mixed_t (x : BitVec 32) (a b c : Nat) (ha : 0 < a ∧ a < 32) (hb : 0 < b ∧ b < 32) (hc : 0 < c ∧ c < 32) :
    f_digest_mixed (B x) a b c true = some (B (rot a x ^^^ rot b x ^^^ (x >>> c))) := by
  unfold f_digest_mixed
  rw [rl_ok x c hc.1 hc.2, Option.bind_some, if_pos rfl, gd_t _ (by omega), Option.bind_some, rl_ok x a ha.1 ha.2, Option.bind_some, rl_ok x b hb.1 hb.2, Option.bind_some,
    show min (c : Int).toNat IntKind.u32.bits = c from by show min _ 32 = _; omega, shr_B, xor_B, xor_B]
theorem mixed_f (x : BitVec 32) (a b c : Nat) (ha : 0 < a ∧ a < 32) (hb : 0 < b ∧ b < 32) (hc : 0 < c ∧ c < 32) :
    f_digest_mixed (B x) a b c false = some (B (rot a x ^^^ rot b x ^^^ rot c x)) := by
  unfold f_digest_mixed
  rw [rl_ok x c hc.1 hc.2, Option.bind_some, if_neg (by decide), Option.bind_some, rl_ok x a ha.1 ha.2, Option.bind_some, rl_ok x b hb.1 hb.2, Option.bind_some, xor_B, xor_B]
def sg0 (x : BitVec 32) := rot 7 x ^^^ rot 18 x ^^^ (x >>> 3)
def sg1 (x : BitVec 32) := rot 17 x ^^^ rot 19 x ^^^ (x >>> 10)
def bg0 (x : BitVec 32) := rot 2 x ^^^ rot 13 x ^^^ rot 22 x
def bg1 (x : BitVec 32) := rot 6 x ^^^ rot 11 x ^^^ rot 25 x
theorem mx0 (x : BitVec 32) : f_digest_mixed (B x) 7 18 3 true = some (B (sg0 x)) := mixed_t x 7 18 3 (by decide) (by decide) (by decide)
theorem mx1 (x : BitVec 32) : f_digest_mixed (B x) 17 19 10 true = some (B (sg1 x)) := mixed_t x 17 19 10 (by decide) (by decide) (by decide)
theorem my0 (x : BitVec 32) : f_digest_mixed (B x) 2 13 22 false = some (B (bg0 x)) := mixed_f x 2 13 22 (by decide) (by decide) (by decide)
theorem my1 (x : BitVec 32) : f_digest_mixed (B x) 6 11 25 false = some (B (bg1 x)) := mixed_f x 6 11 25 (by decide) (by decide) (by decide)
def Cb (c : UInt8) : BitVec 32 := BitVec.ofNat 32 c.toNat
theorem bn_B (c : UInt8) : IntKind.u32.wrap (bn c) = B (Cb c) := by
  rw [w_u32]; unfold bn Cb; exact B_mod _
def wd (a b c d : UInt8) : BitVec 32 := Cb a <<< 24 ||| Cb b <<< 16 ||| Cb c <<< 8 ||| Cb d
theorem mn24 : min 24 IntKind.u32.bits = 24 := rfl
theorem mn16 : min 16 IntKind.u32.bits = 16 := rfl
theorem mn8 : min 8 IntKind.u32.bits = 8 := rfl
theorem big_ok (s : Str) (h : 4 ≤ s.length) : f_digest_big s = some (B (wd (s.getD 0 0) (s.getD 1 0) (s.getD 2 0) (s.getD 3 0))) := by
  unfold f_digest_big
  have e0 : ix s 0 = some (s.getD 0 0) := ix_lt s 0 0 (by omega)
  have e1 : ix s 1 = some (s.getD 1 0) := ix_lt s 0 1 (by omega)
  have e2 : ix s 2 = some (s.getD 2 0) := ix_lt s 0 2 (by omega)
  have e3 : ix s 3 = some (s.getD 3 0) := ix_lt s 0 3 (by omega)
  rw [e0, Option.bind_some, e1, Option.bind_some, e2, Option.bind_some, e3, Option.bind_some]
  simp only [bn_B, mn24, mn16, mn8, shl_B, or_B]
  rfl
theorem wd_eq (a b c d : UInt8) : 256#32 * (256#32 * (256#32 * (256#32 * 0#32 + Cb a) + Cb b) + Cb c) + Cb d = wd a b c d := by
  apply BitVec.eq_of_toNat_eq
  unfold wd Cb
  have ha := a.toNat_lt; have hb := b.toNat_lt; have hc := c.toNat_lt; have hd := d.toNat_lt
  simp only [BitVec.toNat_add, BitVec.toNat_mul, BitVec.toNat_or, BitVec.toNat_shiftLeft, BitVec.toNat_ofNat, Nat.shiftLeft_eq]
  rw [Nat.or_assoc, Nat.or_assoc, Nat.mod_eq_of_lt (show d.toNat < 2 ^ 32 by omega), Nat.mod_eq_of_lt (show c.toNat < 2 ^ 32 by omega), Nat.mod_eq_of_lt (show b.toNat < 2 ^ 32 by omega), Nat.mod_eq_of_lt (show a.toNat < 2 ^ 32 by omega),
    Nat.mod_eq_of_lt (show c.toNat * 2 ^ 8 < 2 ^ 32 by omega), Nat.mod_eq_of_lt (show b.toNat * 2 ^ 16 < 2 ^ 32 by omega), Nat.mod_eq_of_lt (show a.toNat * 2 ^ 24 < 2 ^ 32 by omega),
    Nat.mul_comm c.toNat, Nat.mul_comm b.toNat, Nat.mul_comm a.toNat, ← Nat.two_pow_add_eq_or_of_lt (show d.toNat < 2 ^ 8 by omega),
    ← Nat.two_pow_add_eq_or_of_lt (show 2 ^ 8 * c.toNat + d.toNat < 2 ^ 16 by omega), ← Nat.two_pow_add_eq_or_of_lt (show 2 ^ 16 * b.toNat + (2 ^ 8 * c.toNat + d.toNat) < 2 ^ 24 by omega)]
  omega
end Go.Proofs.YtjhgkcbhllomaaaDoor.V.M
end

section
/- The words of a block, and a block, computed in both ways. -/
namespace Go.Proofs.YtjhgkcbhllomaaaDoor.V.M
set_option linter.unusedVariables false
set_option linter.unusedSimpArgs false
open Go Go.RowKit
def wr (s : Str) (i : Nat) : BitVec 32 := wd (s.getD (4 * i) 0) (s.getD (4 * i + 1) 0) (s.getD (4 * i + 2) 0) (s.getD (4 * i + 3) 0)
def nxWord (s : Str) (i : Nat) (l : List (BitVec 32)) : BitVec 32 :=
  if i < 16 then wr s i else sg1 (l.getD (i - 2) 0#32) + l.getD (i - 7) 0#32 + sg0 (l.getD (i - 15) 0#32) + l.getD (i - 16) 0#32
def sch (s : Str) : Nat → List (BitVec 32)
  | 0 => []
  | i + 1 => sch s i ++ [nxWord s i (sch s i)]
theorem sch_len (s : Str) (i : Nat) : (sch s i).length = i := by
  induction i with
  | zero => rfl
  | succ i ih => simp [sch, ih]
def W0 (s : Str) (i : Nat) : List Int := (sch s i).map B ++ List.replicate (64 - i) 0
theorem ix_sch (s : Str) (i j : Nat) (h : j < i) (r : List Int) : ix ((sch s i).map B ++ r) (j : Int) = some (B ((sch s i).getD j 0#32)) := by
  rw [ix_nat, List.getElem?_append_left (by simpa [sch_len] using h), List.getElem?_map, List.getElem?_eq_getElem (by simpa [sch_len] using h), List.getD_eq_getElem?_getD, List.getElem?_eq_getElem (by simpa [sch_len] using h)]; rfl
theorem ix_W0 (s : Str) (i j : Nat) (h : j < i) : ix (W0 s i) (j : Int) = some (B ((sch s i).getD j 0#32)) := ix_sch s i j h _
theorem ix_V0 (s : Str) (i j : Nat) (h : j < i) : ix ((sch s i).map B) (j : Int) = some (B ((sch s i).getD j 0#32)) := by
  have := ix_sch s i j h []; rwa [List.append_nil] at this
theorem W0_len (s : Str) (i : Nat) (h : i ≤ 64) : (W0 s i).length = 64 := by simp [W0, sch_len]; omega
theorem W0_set (s : Str) (i : Nat) (h : i < 64) (y : Int) (hy : y = B (nxWord s i (sch s i))) : (W0 s i).set i y = W0 s (i + 1) := by
  subst hy
  unfold W0
  rw [show 64 - i = (64 - (i + 1)) + 1 from by omega, List.replicate_succ, List.set_append_right _ _ (by simp [sch_len])]
  simp [sch_len, sch]
theorem over9_step (hv : List Int) (s : Str) (h : 64 ≤ s.length) (hs : s.length < 9223372036854775808) (i m : Nat) (hi : i < 64) :
    f_digest_over_l9 hv s (m + 1) (i : Int) (W0 s i) = f_digest_over_l9 hv s m ((i + 1 : Nat) : Int) (W0 s (i + 1)) := by
  have e1 : IntKind.i64.wrap ((i : Int) + 1) = ((i + 1 : Nat) : Int) := by rw [w_i64 (by omega) (by omega)]; omega
  rw [f_digest_over_l9, if_pos (decide_eq_true (by omega)), e1]
  have hl := W0_len s i (by omega)
  by_cases c : i < 16
  · rw [if_pos (decide_eq_true (by omega))]
    have e2 : IntKind.i64.wrap (4 * (i : Int)) = ((4 * i : Nat) : Int) := by rw [w_i64 (by omega) (by omega)]; omega
    rw [e2, gd_t _ (by omega), cut_all, big_ok _ (by rw [List.length_drop]; omega), Option.bind_some, gd_t _ (by omega), gd_t _ (by omega), Int.toNat_natCast, W0_set s i hi]
    congr 1
    unfold nxWord wr; rw [if_pos c]
    simp only [List.getD_eq_getElem?_getD, List.getElem?_drop]; rfl
  · rw [if_neg (by simp; omega)]
    have e2 : IntKind.i64.wrap ((i : Int) - 2) = ((i - 2 : Nat) : Int) := by rw [w_i64 (by omega) (by omega)]; omega
    have e7 : IntKind.i64.wrap ((i : Int) - 7) = ((i - 7 : Nat) : Int) := by rw [w_i64 (by omega) (by omega)]; omega
    have e15 : IntKind.i64.wrap ((i : Int) - 15) = ((i - 15 : Nat) : Int) := by rw [w_i64 (by omega) (by omega)]; omega
    have e16 : IntKind.i64.wrap ((i : Int) - 16) = ((i - 16 : Nat) : Int) := by rw [w_i64 (by omega) (by omega)]; omega
    rw [e2, e7, e15, e16, gd_t _ (by omega), ix_W0 s i _ (by omega), Option.bind_some, mx1, Option.bind_some, gd_t _ (by omega), ix_W0 s i _ (by omega), Option.bind_some,
      gd_t _ (by omega), ix_W0 s i _ (by omega), Option.bind_some, mx0, Option.bind_some, gd_t _ (by omega), ix_W0 s i _ (by omega), Option.bind_some, gd_t _ (by omega), gd_t _ (by omega), Int.toNat_natCast, W0_set s i hi]
    rw [add_B, add_B, add_B]; congr 1; unfold nxWord; rw [if_neg c]
theorem over9 (hv : List Int) (s : Str) (h : 64 ≤ s.length) (hs : s.length < 9223372036854775808) (k : Nat) : ∀ i, i + k = 64 →
    f_digest_over_l9 hv s (k + 1) (i : Int) (W0 s i) = some (64, W0 s 64) := by
  induction k with
  | zero => intro i hi; obtain rfl : i = 64 := by omega
            rw [f_digest_over_l9, if_neg (by decide)]; rfl
  | succ k ih => intro i hi; rw [over9_step hv s h hs i (k + 1) (by omega)]; exact ih _ (by omega)
end Go.Proofs.YtjhgkcbhllomaaaDoor.V.M
end

section
/- A block, computed in both ways. -/
namespace Go.Proofs.YtjhgkcbhllomaaaDoor.V.M
set_option linter.unusedVariables false
set_option linter.unusedSimpArgs false
open Go Go.RowKit
def keysB : List (BitVec 32) := g_digest_keys.map (BitVec.ofInt 32)
theorem keysB_map : g_digest_keys = keysB.map B := by kernel_rfl
theorem keysB_len : keysB.length = 64 := by kernel_rfl
theorem ix_map (l : List (BitVec 32)) (j : Nat) (h : j < l.length) : ix (l.map B) (j : Int) = some (B (l.getD j 0#32)) := by
  rw [ix_nat, List.getElem?_map, List.getElem?_eq_getElem h, List.getD_eq_getElem?_getD, List.getElem?_eq_getElem h]; rfl
def rnd (k w : BitVec 32) : List (BitVec 32) → List (BitVec 32)
  | [a, b, c, d, e, f, g, h] =>
    [h + bg1 e + (e &&& f ^^^ (~~~ e) &&& g) + k + w + (bg0 a + (a &&& b ^^^ a &&& c ^^^ b &&& c)), a, b, c, d + (h + bg1 e + (e &&& f ^^^ (~~~ e) &&& g) + k + w), e, f, g]
  | v => v
theorem len8 {α : Type} (l : List α) (h : l.length = 8) : ∃ a b c d e f g i, l = [a, b, c, d, e, f, g, i] := by
  match l, h with
  | [a, b, c, d, e, f, g, i], _ => exact ⟨a, b, c, d, e, f, g, i, rfl⟩
theorem rnd_len (k w : BitVec 32) (v : List (BitVec 32)) (h : v.length = 8) : (rnd k w v).length = 8 := by
  obtain ⟨a, b, c, d, e, f, g, i, rfl⟩ := len8 v h; rfl
def rn (hv : List (BitVec 32)) (s : Str) : Nat → List (BitVec 32)
  | 0 => hv
  | i + 1 => rnd (keysB.getD i 0#32) ((sch s 64).getD i 0#32) (rn hv s i)
theorem rn_len (hv : List (BitVec 32)) (s : Str) (h : hv.length = 8) (i : Nat) : (rn hv s i).length = 8 := by
  induction i with
  | zero => exact h
  | succ i ih => exact rnd_len _ _ _ ih
theorem bsn {α β : Type} (a : α) (f : α → Option β) : (some a).bind f = f a := Eq.trans (Option.bind_some a f) rfl
theorem gdc0 (a : BitVec 32) (l : List (BitVec 32)) : (a :: l).getD 0 0#32 = a := Eq.trans List.getD_cons_zero rfl
theorem gdc1 (a : BitVec 32) (l : List (BitVec 32)) (n : Nat) : (a :: l).getD (n + 1) 0#32 = l.getD n 0#32 := Eq.trans List.getD_cons_succ rfl
theorem ix8 (a b c d e f g i : BitVec 32) : ix ([a, b, c, d, e, f, g, i].map B) 0 = some (B a) ∧ ix ([a, b, c, d, e, f, g, i].map B) 1 = some (B b) ∧ ix ([a, b, c, d, e, f, g, i].map B) 2 = some (B c) ∧ ix ([a, b, c, d, e, f, g, i].map B) 3 = some (B d) ∧ ix ([a, b, c, d, e, f, g, i].map B) 4 = some (B e) ∧ ix ([a, b, c, d, e, f, g, i].map B) 5 = some (B f) ∧ ix ([a, b, c, d, e, f, g, i].map B) 6 = some (B g) ∧ ix ([a, b, c, d, e, f, g, i].map B) 7 = some (B i) := ⟨rfl, rfl, rfl, rfl, rfl, rfl, rfl, rfl⟩
theorem l19_step (hv : List Int) (s : Str) (s2 : Int × List Int) (u : List (BitVec 32)) (hs : s2.2 = u.map B) (hu : u.length = 64) (v : List (BitVec 32)) (h : v.length = 8) (i m : Nat) (hi : i < 64) :
    f_digest_over_l19 hv s s2 (m + 1) (i : Int) (v.map B) = f_digest_over_l19 hv s s2 m ((i + 1 : Nat) : Int) ((rnd (keysB.getD i 0#32) (u.getD i 0#32) v).map B) := by
  obtain ⟨a, b, c, d, e, f, g, k, rfl⟩ := len8 v h
  obtain ⟨x0, x1, x2, x3, x4, x5, x6, x7⟩ := ix8 a b c d e f g k
  have y := ix_map u i (by omega)
  have z := ix_map keysB i (by rw [keysB_len]; omega)
  rw [← keysB_map] at z
  rw [← hs] at y
  have g1 : (0 ≤ (i : Int) ∧ (i : Int) < 64) := by omega
  have e1 : IntKind.i64.wrap ((i : Int) + 1) = ((i + 1 : Nat) : Int) := by rw [w_i64 (by omega) (by omega)]; omega
  have gl : ([a, b, c, d, e, f, g, k].map B).length = 8 := rfl
  rw [f_digest_over_l19, if_pos (decide_eq_true (by omega)), e1]
  simp only [x0, x1, x2, x3, x4, x5, x6, x7, y, z, gd_t _ g1, gd_t _ gl, bsn, my0, my1, not_B2, xor_B, and_B, add_B]
  rfl
theorem l19_ok (hv : List Int) (s : Str) (s2 : Int × List Int) (hs : s2.2 = (sch s 64).map B) (v : List (BitVec 32)) (h : v.length = 8) (k : Nat) : ∀ i, i + k = 64 →
    f_digest_over_l19 hv s s2 (k + 1) (i : Int) ((rn v s i).map B) = some (64, (rn v s 64).map B) := by
  induction k with
  | zero => intro i hi; obtain rfl : i = 64 := by omega
            rw [f_digest_over_l19, if_neg (by decide)]; rfl
  | succ k ih => intro i hi; rw [l19_step hv s s2 (sch s 64) hs (sch_len s 64) _ (rn_len v s h i) i (k + 1) (by omega)]; exact ih _ (by omega)
def comp (hv : List (BitVec 32)) (s : Str) : List (BitVec 32) := List.zipWith (· + ·) hv (rn hv s 64)
theorem comp_len (hv : List (BitVec 32)) (s : Str) (h : hv.length = 8) : (comp hv s).length = 8 := by simp [comp, h, rn_len hv s h]
theorem l25_ok (s : Str) (s3 : Int × List Int) (a b : List (BitVec 32)) (ha : a.length = 8) (hb : b.length = 8) (hs : s3.2 = b.map B) :
    f_digest_over_l25 s s3 (((8 : Int) - 0).toNat + 1) 0 (a.map B) = some (8, (List.zipWith (· + ·) a b).map B) := by
  obtain ⟨t, u⟩ := s3
  dsimp only at hs; subst hs
  obtain ⟨a0, a1, a2, a3, a4, a5, a6, a7, rfl⟩ := len8 a ha
  obtain ⟨b0, b1, b2, b3, b4, b5, b6, b7, rfl⟩ := len8 b hb
  have : f_digest_over_l25 s (t, [b0, b1, b2, b3, b4, b5, b6, b7].map B) (((8 : Int) - 0).toNat + 1) 0 ([a0, a1, a2, a3, a4, a5, a6, a7].map B) =
    some (8, [IntKind.u32.wrap (B a0 + B b0), IntKind.u32.wrap (B a1 + B b1), IntKind.u32.wrap (B a2 + B b2), IntKind.u32.wrap (B a3 + B b3), IntKind.u32.wrap (B a4 + B b4), IntKind.u32.wrap (B a5 + B b5), IntKind.u32.wrap (B a6 + B b6), IntKind.u32.wrap (B a7 + B b7)]) := by kernel_rfl
  rw [this]; simp only [add_B]; rfl
theorem over_ok (hv : List (BitVec 32)) (s : Str) (h : hv.length = 8) (hs : 64 ≤ s.length) (hl : s.length < 9223372036854775808) : f_digest_over (hv.map B) s = some ((comp hv s).map B) := by
  have g1 : (hv.map B).length = 8 := by simpa using h
  have q1 := over9 (hv.map B) s hs hl 64 0 rfl
  have q2 := l19_ok (hv.map B) s (64, W0 s 64) (by simp [W0]) hv h 64 0 rfl
  have q3 : f_digest_over_l25 s (64, (rn hv s 64).map B) (((8 : Int) - 0).toNat + 1) 0 (hv.map B) = some (8, (comp hv s).map B) := l25_ok s (64, (rn hv s 64).map B) hv _ h (rn_len hv s h 64) rfl
  have g2 : ((comp hv s).map B).length = 8 := by simpa using comp_len hv s h
  unfold f_digest_over
  rw [gd_t _ g1]
  have q1' : f_digest_over_l9 (hv.map B) s (((64 : Int) - 0).toNat + 1) 0 (List.replicate 64 0) = some (64, W0 s 64) := q1
  have q2' : f_digest_over_l19 (hv.map B) s (64, W0 s 64) (((64 : Int) - 0).toNat + 1) 0 (hv.map B) = some (64, (rn hv s 64).map B) := q2
  rw [q1', Option.bind_some, gd_t _ g1, gd_t _ g1, q2', Option.bind_some, q3, Option.bind_some]
  dsimp only
  rw [gd_t _ g2, gd_t _ g2, gd_t _ g2]
theorem nx_take (s : Str) (i : Nat) (l : List (BitVec 32)) : nxWord (s.take 64) i l = nxWord s i l := by
  have e : ∀ j, j < 64 → (s.take 64).getD j 0 = s.getD j 0 := by
    intro j hj; rw [List.getD_eq_getElem?_getD, List.getD_eq_getElem?_getD, List.getElem?_take_of_lt hj]
  unfold nxWord
  by_cases c : i < 16
  · rw [if_pos c, if_pos c]; unfold wr; rw [e _ (by omega), e _ (by omega), e _ (by omega), e _ (by omega)]
  · rw [if_neg c, if_neg c]
theorem sch_take (s : Str) (i : Nat) : sch (s.take 64) i = sch s i := by
  induction i with
  | zero => rfl
  | succ i ih => rw [sch, sch, ih, nx_take]
theorem comp_take (hv : List (BitVec 32)) (s : Str) : comp hv (s.take 64) = comp hv s := by
  have : ∀ i, rn hv (s.take 64) i = rn hv s i := by
    intro i; induction i with
    | zero => rfl
    | succ i ih => rw [rn, rn, ih, sch_take]
  unfold comp; rw [this]
end Go.Proofs.YtjhgkcbhllomaaaDoor.V.M
end

section
/- The sum of a text, computed in both ways. -/
namespace Go.Proofs.YtjhgkcbhllomaaaDoor.V.M
set_option linter.unusedVariables false
set_option linter.unusedSimpArgs false
open Go Go.RowKit
def padS (s : Str) : Str := s ++ List.replicate ((120 - s.length % 64) % 64) 0
theorem padS_next (s : Str) (h : s.length % 64 ≠ 56) : padS (s ++ [0]) = padS s := by
  unfold padS
  rw [List.length_append, List.append_assoc, show ([0] : Str) = List.replicate 1 0 from rfl, List.replicate_append_replicate, List.length_replicate]
  congr 2; omega
theorem padS_end (s : Str) (h : s.length % 64 = 56) : padS s = s := by
  unfold padS; rw [h]; simp
theorem padS_len (s : Str) : (padS s).length % 64 = 56 ∧ (padS s).length ≤ s.length + 63 ∧ s.length ≤ (padS s).length := by
  unfold padS; rw [List.length_append, List.length_replicate]; omega
theorem tm64 (n : Nat) : ((((n : Int).tmod 64) != 56) = true) ↔ n % 64 ≠ 56 := by
  rw [Int.tmod_eq_emod_of_nonneg (Int.natCast_nonneg _)]; simp; omega
theorem l6_ok (t : Str) (m : Nat) : ∀ s : Str, s.length + (120 - s.length % 64) % 64 ≤ 9223372036854775807 → (120 - s.length % 64) % 64 < m → f_digest_Sum_l6 t m s = some (padS s) := by
  induction m with
  | zero => intro s _ h; omega
  | succ m ih =>
    intro s h hm
    rw [f_digest_Sum_l6]
    by_cases c : s.length % 64 = 56
    · rw [if_neg (by rw [tm64]; omega), padS_end s c]
    · rw [if_pos (by rw [tm64]; omega), gd_t _ (by omega), ih _ (by rw [List.length_append]; show _ + 1 + (120 - (_ + 1) % 64) % 64 ≤ _; omega) (by rw [List.length_append]; show (120 - (_ + 1) % 64) % 64 < _; omega), padS_next s c]
theorem map_bn0 (s : Str) : s.map bn ++ ([0] : List Int) = (s ++ [0]).map bn := by rw [List.map_append]; rfl
def byt (T j : Nat) : UInt8 := UInt8.ofNat (T / 2 ^ (8 * j))
def lbs (T : Nat) : Str := [byt T 7, byt T 6, byt T 5, byt T 4, byt T 3, byt T 2, byt T 1, byt T 0]
def Tb (n : Nat) : Nat := n * 8 % 18446744073709551616
theorem T_ok (n : Nat) (h : n ≤ 140737488355328) : IntKind.u64.wrap ((IntKind.u64.wrap (n : Int)) * 8) = (Tb n : Int) := by
  rw [w_u64 (n := (n : Int)) (by omega) (by omega), w_u64 (by omega) (by omega)]; unfold Tb; omega
theorem pow_c (n : Nat) : (2 : Int) ^ n = ((2 ^ n : Nat) : Int) := by rw [Int.natCast_pow]; rfl
theorem nb_mod (n : Nat) : nb (((n % 256 : Nat)) : Int) = UInt8.ofNat n := by
  unfold nb; rw [Int.toNat_natCast]; apply UInt8.toNat_inj.mp; rw [UInt8.toNat_ofNat', UInt8.toNat_ofNat', Nat.mod_mod]
theorem byt_f (T j : Nat) (hj : j < 8) : nb (IntKind.u8.wrap ((T : Int).fdiv (2 ^ (min (IntKind.i64.wrap (8 * (j : Int))).toNat IntKind.u64.bits)))) = byt T j := by
  rw [w_i64 (by omega) (by omega), show min (8 * (j : Int)).toNat IntKind.u64.bits = 8 * j from by show min _ 64 = _; omega, pow_c, Int.fdiv_eq_ediv_of_nonneg _ (Int.natCast_nonneg _), w_u8, ← Int.natCast_ediv]
  exact nb_mod _
theorem l11_step (t s : Str) (m : Nat) (s2 : Str) (j : Nat) (hj : j < 8) (ht : t.length ≤ 140737488355328) (h : s2.length + 1 ≤ 9223372036854775807) :
    f_digest_Sum_l11 t s (m + 1) s2 (j : Int) = f_digest_Sum_l11 t s m (s2 ++ [byt (Tb t.length) j]) ((j : Int) - 1) := by
  rw [f_digest_Sum_l11, if_pos (decide_eq_true (by omega)), gd_t _ (by rw [w_i64 (by omega) (by omega)]; omega), gd_t _ h, Option.bind_some, T_ok _ ht, w_i64 (n := (j : Int) - 1) (by omega) (by omega), List.map_cons, byt_f _ _ hj]; rfl
theorem l11_ok (t s : Str) (ht : t.length ≤ 140737488355328) (h : s.length + 8 ≤ 9223372036854775807) : f_digest_Sum_l11 t s (((7 : Int) - 0).toNat + 2) s 7 = some (s ++ lbs (Tb t.length), -1) := by
  show f_digest_Sum_l11 t s (8 + 1) s ((7 : Nat) : Int) = _
  rw [l11_step t s _ _ _ (by decide) ht (by omega), show ((7 : Nat) : Int) - 1 = ((6 : Nat) : Int) from rfl, l11_step t s _ _ _ (by decide) ht (by simp; omega), show ((6 : Nat) : Int) - 1 = ((5 : Nat) : Int) from rfl,
    l11_step t s _ _ _ (by decide) ht (by simp; omega), show ((5 : Nat) : Int) - 1 = ((4 : Nat) : Int) from rfl, l11_step t s _ _ _ (by decide) ht (by simp; omega), show ((4 : Nat) : Int) - 1 = ((3 : Nat) : Int) from rfl,
    l11_step t s _ _ _ (by decide) ht (by simp; omega), show ((3 : Nat) : Int) - 1 = ((2 : Nat) : Int) from rfl, l11_step t s _ _ _ (by decide) ht (by simp; omega), show ((2 : Nat) : Int) - 1 = ((1 : Nat) : Int) from rfl,
    l11_step t s _ _ _ (by decide) ht (by simp; omega), show ((1 : Nat) : Int) - 1 = ((0 : Nat) : Int) from rfl, l11_step t s _ _ _ (by decide) ht (by simp; omega), show ((0 : Nat) : Int) - 1 = -1 from rfl]
  rw [f_digest_Sum_l11, if_neg (by decide)]
  simp only [List.append_assoc, List.cons_append, List.nil_append]; rfl
theorem byt_t (T j : Nat) (hT : T < 18446744073709551616) : IntKind.u8.wrap ((IntKind.u64.wrap ((T : Int).tdiv ((2 ^ (8 * j) : Nat) : Int))).tmod 256) = bn (byt T j) := by
  rw [Int.tdiv_eq_ediv_of_nonneg (Int.natCast_nonneg _), ← Int.natCast_ediv, w_u64 (Int.natCast_nonneg _) (by have := Nat.div_le_self T (2 ^ (8 * j)); omega), Int.tmod_eq_emod_of_nonneg (Int.natCast_nonneg _), w_u8]
  unfold bn byt; rw [UInt8.toNat_ofNat']; omega
end Go.Proofs.YtjhgkcbhllomaaaDoor.V.M
end

section
/- The sum of a text, computed in both ways: the blocks, and what is handed back. -/
namespace Go.Proofs.YtjhgkcbhllomaaaDoor.V.M
set_option linter.unusedVariables false
set_option linter.unusedSimpArgs false
open Go Go.RowKit
def bl : Nat → List (BitVec 32) → Str → List (BitVec 32)
  | 0, hv, _ => hv
  | k + 1, hv, s => bl k (comp hv s) (s.drop 64)
theorem bl_len (k : Nat) : ∀ hv s, hv.length = 8 → (bl k hv s).length = 8 := by
  induction k with
  | zero => intro hv s h; exact h
  | succ k ih => intro hv s h; exact ih _ _ (comp_len hv s h)
theorem l16_ok (s : Str) (k : Nat) : ∀ (m : Nat) (hv : List (BitVec 32)) (s3 : Str), s3.length = 64 * k → s3.length < 9223372036854775808 → k < m → hv.length = 8 → f_digest_Sum_l16 s m s3 (hv.map B) = some ([], (bl k hv s3).map B) := by
  induction k with
  | zero =>
    intro m hv s3 h _ hm h8
    obtain ⟨m, rfl⟩ : ∃ m', m = m' + 1 := ⟨m - 1, by omega⟩
    obtain rfl : s3 = [] := List.length_eq_zero_iff.mp (by omega)
    rw [f_digest_Sum_l16, if_neg (by simp)]; rfl
  | succ k ih =>
    intro m hv s3 h hb hm h8
    obtain ⟨m, rfl⟩ : ∃ m', m = m' + 1 := ⟨m - 1, by omega⟩
    have ne : s3 ≠ [] := by intro e; subst e; simp at h
    have c : cut s3 64 (s3.length : Int) = s3.drop 64 := cut_all s3 64
    rw [f_digest_Sum_l16, if_pos (by simpa using ne), gd_t _ (by simpa using h8), over_ok hv s3 h8 (by omega) hb, Option.bind_some, gd_t _ (by simpa using h8), gd_t _ (by simpa using comp_len hv s3 h8), gd_t _ (by omega), c]
    rw [ih m (comp hv s3) (s3.drop 64) (by rw [List.length_drop]; omega) (by rw [List.length_drop]; omega) (by omega) (comp_len hv s3 h8)]; rfl
theorem nb_bn (s : Str) : (s.map bn).map nb = s := by
  rw [List.map_map]
  have : nb ∘ bn = id := by funext c; simp [nb, bn]
  rw [this, List.map_id]
def o4 (x : Int) : List Int := [(IntKind.u8.wrap (x.fdiv (2 ^ (min 24 IntKind.u32.bits)))), (IntKind.u8.wrap (x.fdiv (2 ^ (min 16 IntKind.u32.bits)))), (IntKind.u8.wrap (x.fdiv (2 ^ (min 8 IntKind.u32.bits)))), (IntKind.u8.wrap x)]
def p4 (x : Int) : List Int := [(IntKind.u8.wrap (IntKind.u32.wrap (x.tdiv 16777216))), (IntKind.u8.wrap ((IntKind.u32.wrap (x.tdiv 65536)).tmod 256)), (IntKind.u8.wrap ((IntKind.u32.wrap (x.tdiv 256)).tmod 256)), (IntKind.u8.wrap (x.tmod 256))]
theorem m8 (y : BitVec 32) : IntKind.u8.wrap ((B y).tmod 256) = IntKind.u8.wrap (B y) := by
  have := B_lt y
  rw [Int.tmod_eq_emod_of_nonneg this.1, w_u8, w_u8]; omega
theorem p4_eq (x : BitVec 32) : p4 (B x) = o4 (B x) := by
  unfold p4 o4
  rw [divB x 24 16777216 rfl, divB x 16 65536 rfl, divB x 8 256 rfl, m8, m8, m8, mn24, mn16, mn8, shr_B, shr_B, shr_B]
theorem l23_ok (s : Str) (s3 : Str × List Int) (a : List (BitVec 32)) (ha : a.length = 8) (hs : s3.2 = a.map B) :
    f_digest_Sum_l23 s s3 (((8 : Int) - 0).toNat + 1) 0 [] = some (8, (a.map B).flatMap o4) := by
  obtain ⟨t, u⟩ := s3
  dsimp only at hs; subst hs
  obtain ⟨a0, a1, a2, a3, a4, a5, a6, a7, rfl⟩ := len8 a ha
  kernel_rfl
def firstB : List (BitVec 32) := [1779033703#32, 3144134277#32, 1013904242#32, 2773480762#32, 1359893119#32, 2600822924#32, 528734635#32, 1541459225#32]
def full (s : Str) : Str := padS (s ++ [128]) ++ lbs (Tb s.length)
def sumS (s : Str) : Str := ((((bl ((full s).length / 64) firstB (full s)).map B).flatMap o4)).map nb
theorem full_len (s : Str) : (full s).length = 64 * ((full s).length / 64) ∧ (full s).length ≤ s.length + 72 ∧ (full s).length = (padS (s ++ [128])).length + 8 := by
  have := padS_len (s ++ [128])
  unfold full
  rw [List.length_append] at *
  have e : (lbs (Tb s.length)).length = 8 := rfl
  simp only [List.length_cons, List.length_nil] at *
  omega
theorem sum_len (s : Str) : (sumS s).length = 32 := by
  unfold sumS
  obtain ⟨a0, a1, a2, a3, a4, a5, a6, a7, e⟩ := len8 _ (bl_len ((full s).length / 64) firstB (full s) rfl)
  rw [e]; rfl
theorem digestSum_ok (parts : List Str) (hp : parts.length ≤ 140737488355328) (h : (Lib.join parts []).length + 100 ≤ 140737488355328) : f_digest_Sum parts = some (sumS (Lib.join parts [])) := by
  generalize e : Lib.join parts [] = s at h
  have fl := full_len s
  have pl := padS_len (s ++ [128])
  simp only [List.length_append, List.length_cons, List.length_nil] at pl
  have q1 := l6_ok s 65 (s ++ [128]) (by simp; omega) (by omega)
  have q2 := l11_ok s (padS (s ++ [128])) (by omega) (by omega)
  have q3 := l16_ok (padS (s ++ [128])) ((full s).length / 64) ((padS (s ++ [128])).length + 1) firstB (full s) (by omega) (by omega) (by omega) rfl
  have g8 : ((bl ((full s).length / 64) firstB (full s)).map B).length = 8 := by rw [List.length_map]; exact bl_len _ _ _ rfl
  have q4 := l23_ok (padS (s ++ [128])) ([], (bl ((full s).length / 64) firstB (full s)).map B) _ (bl_len _ _ _ rfl) rfl
  unfold f_digest_Sum f_strings_Join
  rw [gd_t _ (by rw [e]; omega), e, Option.bind_some, gd_t _ (by omega), q1, Option.bind_some, q2, Option.bind_some, show f_digest_begins = some (firstB.map B) from by kernel_rfl, Option.bind_some, gd_t (p := (firstB.map B).length = 8) _ rfl]
  dsimp only
  rw [show padS (s ++ [128]) ++ lbs (Tb s.length) = full s from rfl]
  rw [q3, Option.bind_some]
  dsimp only
  rw [gd_t _ g8, q4, Option.bind_some]; rfl
end Go.Proofs.YtjhgkcbhllomaaaDoor.V.M
end

section
/- Hex, read and written, in both ways. -/
namespace Go.Proofs.YtjhgkcbhllomaaaDoor.V.M
set_option linter.unusedVariables false
set_option linter.unusedSimpArgs false
open Go Go.RowKit
theorem bn_dig (n : Nat) (h : n < 16) : bn (dig n) = if n < 10 then 48 + (n : Int) else 97 + (n : Int) - 10 := by
  have : ∀ n : Fin 16, bn (dig n.val) = if n.val < 10 then 48 + (n.val : Int) else 97 + (n.val : Int) - 10 := by decide
  exact this ⟨n, h⟩
def ofS (s : Str) : Str := ([115, 104, 97, 50, 53, 54, 58] : Str) ++ hexl (sumS s)
theorem digestOf_ok (s : Str) (h : s.length + 100 ≤ 140737488355328) : f_digest_Of s = some (ofS s) := by
  have l := sum_len s
  unfold f_digest_Of f_octet_Hex
  rw [digestSum_ok [s] (by simp) (by rw [Lib.join_one]; exact h), Option.bind_some, Lib.join_one, gd_t _ (by omega), Option.bind_some, gd_t _ (by rw [hexl_length]; omega)]; rfl
theorem short_ok (s : Str) : f_law02_short s = some (s.take 300) := by
  unfold f_law02_short
  by_cases c : 300 < s.length
  · rw [if_pos (by omega), gd_t _ (by omega)]; exact congrArg some (cut_zero s 300)
  · rw [if_neg (by omega), gd_t _ (by omega), cut_zero, List.take_of_length_le (by omega), List.take_of_length_le (by omega)]
theorem alive_ok : f_law02_alive = some true := by kernel_rfl
end Go.Proofs.YtjhgkcbhllomaaaDoor.V.M
end

section
/- Hex read back, in both ways; digests parsed in both ways. -/
namespace Go.Proofs.YtjhgkcbhllomaaaDoor.V.M
set_option linter.unusedVariables false
set_option linter.unusedSimpArgs false
open Go Go.RowKit
def hx (c : UInt8) : Nat := if 48 ≤ c.toNat ∧ c.toNat ≤ 57 then c.toNat - 48 else if 97 ≤ c.toNat ∧ c.toNat ≤ 102 then c.toNat - 87 else 16
def un : Str → Option Str
  | [] => some []
  | [_] => none
  | a :: b :: r => if hx a < 16 ∧ hx b < 16 then (un r).map (UInt8.ofNat (16 * hx a + hx b) :: ·) else none
theorem u8_all {P : UInt8 → Prop} [DecidablePred P] (h : (List.range 256).all (fun n => decide (P (UInt8.ofNat n))) = true) (c : UInt8) : P c := by
  have := (List.all_eq_true.mp h) c.toNat (List.mem_range.mpr c.toNat_lt)
  simpa using this
abbrev dgs : Str := [48, 49, 50, 51, 52, 53, 54, 55, 56, 57, 97, 98, 99, 100, 101, 102]
theorem ib_ok (c : UInt8) : f_strings_IndexByte dgs (bn c) = some (if hx c < 16 then (hx c : Int) else -1) :=
  u8_all (P := fun c => f_strings_IndexByte dgs (bn c) = some (if hx c < 16 then (hx c : Int) else -1)) (by kernel_rfl) c
theorem hx_le (c : UInt8) : hx c ≤ 16 := by unfold hx; split <;> (try split) <;> omega
theorem hx_dig (n : Nat) (h : n < 16) : hx (dig n) = n := by
  have : ∀ n : Fin 16, hx (dig n.val) = n.val := by decide
  exact this ⟨n, h⟩
theorem un_hexl (x : Str) : un (hexl x) = some x := by
  induction x with
  | nil => rfl
  | cons c x ih =>
    have hc := c.toNat_lt
    show un (dig (c.toNat / 16) :: dig (c.toNat % 16) :: hexl x) = _
    rw [un, hx_dig _ (by omega), hx_dig _ (by omega), if_pos (by omega), ih, show 16 * (c.toNat / 16) + c.toNat % 16 = c.toNat by omega]; simp
theorem un_len : ∀ (n : Nat) (s x : Str), s.length ≤ n → un s = some x → s.length = 2 * x.length := by
  intro n
  induction n with
  | zero => intro s x h e; obtain rfl : s = [] := List.length_eq_zero_iff.mp (by omega); cases e; rfl
  | succ n ih =>
    intro s x h e
    match s, e with
    | [], e => cases e; rfl
    | [_], e => cases e
    | a :: b :: r, e =>
      rw [un] at e
      split at e
      · obtain ⟨y, hy, rfl⟩ := Option.map_eq_some_iff.mp e
        have := ih r y (by simp only [List.length_cons] at h; omega) hy
        simp only [List.length_cons]; omega
      · cases e
theorem w8h (a b : UInt8) (ha : hx a < 16) (hb : hx b < 16) : IntKind.u8.wrap (IntKind.i64.wrap ((IntKind.i64.wrap ((hx a : Int) * 16)) + (hx b : Int))) = bn (UInt8.ofNat (16 * hx a + hx b)) := by
  rw [w_i64 (n := (hx a : Int) * 16) (by omega) (by omega), w_i64 (by omega) (by omega), w_u8]; unfold bn; rw [UInt8.toNat_ofNat']; omega
theorem drop2 (s : Str) (v : Nat) (h : 2 * v + 1 < s.length) : s.drop (2 * v) = s.getD (2 * v) 0 :: s.getD (2 * v + 1) 0 :: s.drop (2 * (v + 1)) := by
  rw [List.drop_eq_getElem_cons (by omega), List.drop_eq_getElem_cons (i := 2 * v + 1) (by omega), List.getD_eq_getElem?_getD, List.getD_eq_getElem?_getD, List.getElem?_eq_getElem (by omega), List.getElem?_eq_getElem (by omega)]; rfl
theorem b12o (s : Str) (m : Nat) (hs : s.length = 2 * m) (hb : s.length < 9223372036854775807) (k : Nat) : ∀ (v : Nat) (pre : Str), v + k = m → pre.length = v →
    f_octet_Bytes_l12 s (k + 1) (v : Int) (pre.map bn ++ List.replicate k 0) = match un (s.drop (2 * v)) with | some x => some (.inl ((m : Int), (pre ++ x).map bn)) | none => some (.inr ([], 4)) := by
  have L : (((List.replicate (IntKind.i64.wrap ((s.length : Int).tdiv 2)).toNat (0 : Nat)).length : Nat) : Int) = (m : Int) := by
    rw [List.length_replicate, Int.tdiv_eq_ediv_of_nonneg (Int.natCast_nonneg _), w_i64 (by omega) (by omega)]; omega
  induction k with
  | zero =>
    intro v pre hv hp
    rw [f_octet_Bytes_l12, if_neg (by rw [L]; simp; omega), List.drop_of_length_le (by omega)]
    simp only [un, List.append_nil, List.replicate_zero]
    rw [show v = m by omega]
  | succ k ih =>
    intro v pre hv hp
    have e1 : IntKind.i64.wrap (2 * (v : Int)) = ((2 * v : Nat) : Int) := by rw [w_i64 (by omega) (by omega)]; omega
    have e2 : IntKind.i64.wrap (((2 * v : Nat) : Int) + 1) = ((2 * v + 1 : Nat) : Int) := by rw [w_i64 (by omega) (by omega)]; omega
    have e3 : IntKind.i64.wrap ((v : Int) + 1) = ((v + 1 : Nat) : Int) := by rw [w_i64 (by omega) (by omega)]; omega
    rw [f_octet_Bytes_l12, if_pos (by rw [L]; simp; omega), e1, e2, e3, ix_lt s 0 _ (by omega), Option.bind_some, ib_ok, Option.bind_some, ix_lt s 0 _ (by omega), Option.bind_some, ib_ok, Option.bind_some, drop2 s v (by omega), un]
    generalize s.getD (2 * v) 0 = a
    generalize s.getD (2 * v + 1) 0 = b
    by_cases c : hx a < 16 ∧ hx b < 16
    · rw [if_pos c.1, if_pos c.2, if_neg (by simp), if_pos c, ix_nat, List.getElem?_append_right (by simp; omega)]
      rw [show (List.replicate (k + 1) (0 : Int))[v - (pre.map bn).length]? = some 0 by rw [List.length_map, hp, Nat.sub_self]; rfl, Option.bind_some, w8h a b c.1 c.2, Int.toNat_natCast, List.set_append_right _ _ (by simp; omega), List.length_map, hp, Nat.sub_self, List.replicate_succ, List.set_cons_zero]
      have := ih (v + 1) (pre ++ [UInt8.ofNat (16 * hx a + hx b)]) (by omega) (by simp; omega)
      rw [List.map_append, List.append_assoc] at this
      rw [show (pre.map bn ++ bn (UInt8.ofNat (16 * hx a + hx b)) :: List.replicate k 0) = pre.map bn ++ (List.map bn [UInt8.ofNat (16 * hx a + hx b)] ++ List.replicate k 0) from rfl, this]
      cases un (s.drop (2 * (v + 1))) <;> simp
    · rw [if_neg c, if_pos]
      by_cases d : hx a < 16
      · rw [if_neg (show ¬ hx b < 16 by omega)]; simp
      · rw [if_neg d]; simp
theorem octBytes_ok (s : Str) (hb : s.length ≤ 140737488355328) : f_octet_Bytes s = some (match un s with | some x => (x, 0) | none => ([], 4)) := by
  unfold f_octet_Bytes
  by_cases c : s.length % 2 = 0
  · obtain ⟨m, hm⟩ : ∃ m, s.length = 2 * m := ⟨s.length / 2, by omega⟩
    have t : (s.length : Int).tdiv 2 = (m : Int) := by rw [Int.tdiv_eq_ediv_of_nonneg (Int.natCast_nonneg _)]; omega
    have q := b12o s m hm (by omega) m 0 [] (by omega) rfl
    rw [if_neg (by rw [Int.tmod_eq_emod_of_nonneg (Int.natCast_nonneg _)]; simp; omega)]
    rw [t, w_i64 (n := (m : Int)) (by omega) (by omega), gd_t _ (by omega), List.length_replicate, Int.toNat_natCast, show ((((m : Int)) - 0).toNat + 1) = m + 1 by omega]
    rw [show ((0 : Nat) : Int) = 0 from rfl, List.map_nil, List.nil_append, show 2 * 0 = 0 from rfl, List.drop_zero] at q
    rw [q]
    cases un s with
    | none => rfl
    | some x => simp only [Option.bind_some, List.nil_append, nb_bn]
  · rw [if_pos (by rw [Int.tmod_eq_emod_of_nonneg (Int.natCast_nonneg _)]; simp; omega)]
    have : un s = none := by
      cases e : un s with
      | none => rfl
      | some x => have := un_len s.length s x (Nat.le_refl _) e; omega
    rw [this]
abbrev pfx : Str := [115, 104, 97, 50, 53, 54, 58]
def parseS (s : Str) : Str × Int := if s.take 7 = pfx then (match un (s.drop 7) with | some x => if x.length = 32 then (x, 0) else ([], 6) | none => ([], 6)) else ([], 6)
theorem cutp_ok (s : Str) (hb : s.length ≤ 140737488355328) : f_strings_CutPrefix s pfx = some (if s.take 7 = pfx then (s.drop 7, true) else (s, false)) := by
  have L : ((pfx.length : Nat) : Int) = 7 := rfl
  have hp : f_internal_stringslite_HasPrefix s pfx = some (decide (s.take 7 = pfx)) := by
    unfold f_internal_stringslite_HasPrefix
    rw [L]
    rw [gd_t _ (by intro h; have := of_decide_eq_true h; omega), show cut s 0 7 = s.take 7 from cut_zero s 7]
    congr 1
    by_cases c : s.take 7 = pfx
    · have : 7 ≤ s.length := by have := congrArg List.length c; rw [List.length_take] at this; simp at this; omega
      simp [c]; omega
    · simp [c]
  unfold f_strings_CutPrefix f_internal_stringslite_CutPrefix
  rw [hp, Option.bind_some]
  by_cases c : s.take 7 = pfx
  · have : 7 ≤ s.length := by have := congrArg List.length c; rw [List.length_take] at this; simp at this; omega
    rw [if_neg (by simp [c]), if_pos c, L, gd_t _ (by omega), show cut s 7 (s.length : Int) = s.drop 7 from cut_all s 7]; rfl
  · rw [if_pos (by simp [c]), if_neg c]; rfl
theorem parse_ok (s : Str) (hb : s.length ≤ 140737488355328) : f_digest_Parse s = some (parseS s) := by
  unfold f_digest_Parse
  rw [cutp_ok s hb, Option.bind_some]
  unfold parseS
  by_cases c : s.take 7 = pfx
  · rw [if_pos c, if_pos c, octBytes_ok _ (by rw [List.length_drop]; omega), Option.bind_some]
    cases un (s.drop 7) with
    | none => rfl
    | some x =>
      by_cases d : x.length = 32
      · simp [d]
      · have : ¬ (x.length : Int) = 32 := by omega
        simp [d, this]
  · rw [if_neg c, if_neg c, octBytes_ok _ hb, Option.bind_some, if_pos (by simp)]
end Go.Proofs.YtjhgkcbhllomaaaDoor.V.M
end

section
/- The laws DigestParses and DigestBack. -/
namespace Go.Proofs.YtjhgkcbhllomaaaDoor.V.M
set_option linter.unusedVariables false
set_option linter.unusedSimpArgs false
open Go Go.RowKit
theorem w8r (a b : UInt8) (ha : hx a < 16) (hb : hx b < 16) : IntKind.u8.wrap (IntKind.i64.wrap ((IntKind.i64.wrap (16 * (hx a : Int))) + (hx b : Int))) = bn (UInt8.ofNat (16 * hx a + hx b)) := by
  rw [Int.mul_comm]; exact w8h a b ha hb
def refParseS (s : Str) : Str × Bool := if s.length = 71 ∧ s.take 7 = pfx then (match un (s.drop 7) with | some x => (x, true) | none => ([], false)) else ([], false)
theorem parseS_cases (s : Str) : (∃ x, parseS s = (x, 0) ∧ x.length = 32 ∧ refParseS s = (x, true)) ∨ (parseS s = ([], 6) ∧ refParseS s = ([], false)) := by
  unfold parseS refParseS
  by_cases c : s.take 7 = pfx
  · have l7 : 7 ≤ s.length := by have := congrArg List.length c; rw [List.length_take] at this; simp at this; omega
    rw [if_pos c]
    cases e : un (s.drop 7) with
    | none => right; refine ⟨rfl, ?_⟩; split <;> rfl
    | some x =>
      have l := un_len _ _ _ (Nat.le_refl _) e
      rw [List.length_drop] at l
      by_cases d : x.length = 32
      · left; exact ⟨x, by simp [d], d, by rw [if_pos ⟨by omega, c⟩]⟩
      · right; refine ⟨by simp [d], ?_⟩; rw [if_neg (by omega)]
  · right; rw [if_neg c, if_neg (fun h => c h.2)]; exact ⟨rfl, rfl⟩
theorem fits_ok (s d : Str) (hs : s.length ≤ 140737488355328) (hd : d.length + 100 ≤ 140737488355328) :
    f_digest_Fits s d = some (if (parseS s).2 ≠ 0 then (parseS s).2 else if sumS d = (parseS s).1 then 0 else 10) := by
  unfold f_digest_Fits
  rw [parse_ok s hs, Option.bind_some]
  by_cases c : (parseS s).2 = 0
  · rw [if_neg (by simp [c]), if_neg (by simp [c]), digestSum_ok [d] (by simp) (by rw [Lib.join_one]; exact hd), Option.bind_some, Lib.join_one]
    by_cases e : sumS d = (parseS s).1
    · rw [if_neg (by simp [e]), if_pos e]
    · rw [if_pos (by simp [e]), if_neg e]
  · rw [if_pos (by simp [c]), if_pos c]
end Go.Proofs.YtjhgkcbhllomaaaDoor.V.M
end

section
/- The law DigestBack. -/
namespace Go.Proofs.YtjhgkcbhllomaaaDoor.V.M
set_option linter.unusedVariables false
set_option linter.unusedSimpArgs false
open Go Go.RowKit
theorem take_if {α : Type} (x : List α) (n : Nat) (c : Int) (hc : c = (n : Int)) : cut x 0 (if c < (x.length : Int) then c else (x.length : Int)) = x.take n ∧ (0 ≤ (if c < (x.length : Int) then c else (x.length : Int)) ∧ (if c < (x.length : Int) then c else (x.length : Int)) ≤ (x.length : Int)) := by
  subst hc
  by_cases c : n < x.length
  · rw [if_pos (by omega)]; exact ⟨cut_zero x n, by omega⟩
  · rw [if_neg (by omega)]; refine ⟨?_, by omega⟩; rw [cut_zero, List.take_of_length_le (Nat.le_refl _), List.take_of_length_le (by omega)]
theorem join_le (n m : Nat) : ∀ l : List Str, l.length ≤ n → (∀ x ∈ l, x.length ≤ m) → (Lib.join l []).length ≤ n * m := by
  have e : ∀ l : List Str, Lib.join l [] = l.flatten := by
    intro l
    cases l with
    | nil => rfl
    | cons x r =>
      rw [Lib.join_cons, List.flatten_cons]; congr 1
      induction r with
      | nil => rfl
      | cons y r ih => simp [Lib.joinTail] at *
  intro l hl hx
  rw [e]
  have : ∀ l : List Str, (∀ x ∈ l, x.length ≤ m) → l.flatten.length ≤ l.length * m := by
    intro l
    induction l with
    | nil => intro _; simp
    | cons x l ih =>
      intro h
      have a := h x List.mem_cons_self
      have b := ih (fun y hy => h y (List.mem_cons_of_mem _ hy))
      rw [List.flatten_cons, List.length_append, List.length_cons, Nat.add_mul]; omega
  exact Nat.le_trans (this l hx) (Nat.mul_le_mul_right _ hl)
theorem parse_of (s : Str) : parseS (ofS s) = (sumS s, 0) := by
  have l := sum_len s
  unfold parseS
  rw [show (ofS s).take 7 = pfx from rfl, if_pos rfl, show (ofS s).drop 7 = hexl (sumS s) from rfl, un_hexl]
  simp [l]
end Go.Proofs.YtjhgkcbhllomaaaDoor.V.M
end

section
/- The law DigestApart. -/
namespace Go.Proofs.YtjhgkcbhllomaaaDoor.V.M
set_option linter.unusedVariables false
set_option linter.unusedSimpArgs false
open Go Go.RowKit
theorem dig_hx (c : UInt8) : hx c < 16 → dig (hx c) = c :=
  u8_all (P := fun c => hx c < 16 → dig (hx c) = c) (by kernel_rfl) c
theorem un_inv : ∀ (n : Nat) (s x : Str), s.length ≤ n → un s = some x → hexl x = s := by
  intro n
  induction n with
  | zero => intro s x h e; obtain rfl : s = [] := List.length_eq_zero_iff.mp (by omega); cases e; rfl
  | succ n ih =>
    intro s x h e
    match s, e with
    | [], e => cases e; rfl
    | [_], e => cases e
    | a :: b :: r, e =>
      rw [un] at e
      split at e
      · rename_i hab
        obtain ⟨y, hy, rfl⟩ := Option.map_eq_some_iff.mp e
        have := ih r y (by simp only [List.length_cons] at h; omega) hy
        show dig ((UInt8.ofNat (16 * hx a + hx b)).toNat / 16) :: dig ((UInt8.ofNat (16 * hx a + hx b)).toNat % 16) :: hexl y = _
        rw [UInt8.toNat_ofNat', show (16 * hx a + hx b) % 2 ^ 8 / 16 = hx a by omega, show (16 * hx a + hx b) % 2 ^ 8 % 16 = hx b by omega, dig_hx a hab.1, dig_hx b hab.2, this]
      · cases e
theorem set_bn (d : Str) (k : Nat) (c : Int) : ((d.map bn).set k c).map nb = d.set k (nb c) := by
  rw [List.map_set, nb_bn]
theorem parse_inv (s x : Str) (h : parseS s = (x, 0)) : s = pfx ++ hexl x := by
  unfold parseS at h
  split at h
  · rename_i c
    split at h
    · rename_i y e
      split at h
      · cases h
        rw [← c, un_inv _ _ _ (Nat.le_refl _) e, List.take_append_drop]
      · cases h
    · cases h
  · cases h
theorem parse_apart (t : Str) (k : Nat) (hk : k < 71) (y : UInt8) (hy : (ofS t).getD k 0 ≠ y) : (∃ x, parseS ((ofS t).set k y) = (x, 0) ∧ x ≠ sumS t ∧ 7 ≤ k) ∨ parseS ((ofS t).set k y) = ([], 6) := by
  have l : (ofS t).length = 71 := by unfold ofS; rw [List.length_append, hexl_length, sum_len]; rfl
  have ne : (ofS t).set k y ≠ ofS t := by
    intro e
    have := congrArg (fun z => z.getD k 0) e
    simp only [List.getD_eq_getElem?_getD, List.getElem?_set, l, hk, if_true] at this
    rw [List.getD_eq_getElem?_getD] at hy
    exact hy (by simpa using this.symm)
  rcases parseS_cases ((ofS t).set k y) with ⟨x, e, _, _⟩ | ⟨e, _⟩
  · left
    have v := parse_inv _ _ e
    have nx : x ≠ sumS t := by intro h; subst h; exact ne v
    refine ⟨x, e, nx, ?_⟩
    by_cases h7 : 7 ≤ k
    · exact h7
    · exfalso
      have d1 : ((ofS t).set k y).drop 7 = (ofS t).drop 7 := by rw [List.drop_set, if_pos (by omega)]
      rw [v] at d1
      have d2 : hexl x = hexl (sumS t) := d1
      have := congrArg un d2
      rw [un_hexl, un_hexl] at this
      exact nx (Option.some.inj this)
  · right; exact e
theorem digestApart_true (data other : Str) (a c : Int) (ha : (Lit.int .i64 a).wf = true) (hc : (Lit.int .u8 c).wf = true) : f_law02_DigestApart data other a c = some true := by
  have ha1 := bounds_i64 ha
  have hc1 := bounds_u8 hc
  have l1 : (data.take 300).length + 100 ≤ 140737488355328 := by rw [List.length_take]; omega
  have l2 : (other.take 300).length + 100 ≤ 140737488355328 := by rw [List.length_take]; omega
  generalize hd : data.take 300 = t at l1
  generalize ho : other.take 300 = t2 at l2
  have l : (ofS t).length = 71 := by unfold ofS; rw [List.length_append, hexl_length, sum_len]; rfl
  have lo : (ofS t).length ≤ 140737488355328 := by omega
  obtain ⟨k, hk, ek⟩ : ∃ k : Nat, k < 71 ∧ (IntKind.i64.wrap ((a.tmod 71) + 71)).tmod 71 = (k : Int) := by
    have h1 := Int.lt_tmod_of_pos a (b := 71) (by decide)
    have h2 := Int.tmod_lt_of_pos a (b := 71) (by decide)
    rw [w_i64 (by omega) (by omega), Int.tmod_eq_emod_of_nonneg (by omega)]
    exact ⟨((a.tmod 71 + 71) % 71).toNat, by omega, by omega⟩
  have e3 : f_digest_Sum [t2] = some (sumS t2) := by rw [digestSum_ok _ (by simp) (by rw [Lib.join_one]; omega), Lib.join_one]
  unfold f_law02_DigestApart
  rw [short_ok, Option.bind_some, short_ok, Option.bind_some, hd, ho, digestOf_ok t l1, Option.bind_some, parse_ok _ lo, parse_of, Option.bind_some, alive_ok]
  dsimp only
  rw [show gx (!(((0 : Int) != 0 || ((ofS t).length : Int) != 71) || ((sumS t).length : Int) != 32)) (some true) default = some true by rw [l, sum_len]; rfl, Option.bind_some, if_neg (by rw [l, sum_len]; decide), fits_ok _ _ lo l2, Option.bind_some, e3, Option.bind_some, parse_of]
  rw [if_neg (by by_cases h : sumS t2 = sumS t <;> simp [h]), ek]
  have hix : ix ((ofS t).map bn) (k : Int) = some (bn ((ofS t).getD k 0)) := by
    rw [ix_nat, List.getElem?_map, List.getElem?_eq_getElem (by omega), List.getD_eq_getElem?_getD, List.getElem?_eq_getElem (by omega)]; rfl
  rw [hix, Option.bind_some]
  by_cases h : bn ((ofS t).getD k 0) = c
  · rw [if_pos (by simpa using h)]
  · rw [if_neg (by simpa using h), Option.bind_some, Int.toNat_natCast, set_bn, parse_ok _ (by rw [List.length_set]; omega), Option.bind_some]
    have hy : (ofS t).getD k 0 ≠ nb c := by
      intro e; apply h; rw [e]; unfold bn nb; rw [UInt8.toNat_ofNat']; omega
    rcases parse_apart t k hk (nb c) hy with ⟨x, e, n1, n2⟩ | e
    · rw [e]; simp [n1]; omega
    · rw [e]; rfl
end Go.Proofs.YtjhgkcbhllomaaaDoor.V.M
end

section
/- The functions' proofs and the plain law, side by side. -/
namespace Go.Proofs.YtjhgkcbhllomaaaDoor.V
set_option linter.unusedVariables false
set_option linter.unusedSimpArgs false
theorem digestApart_true (data other : Str) (a c : Int) (w0 : data.length ≤ 140737488351232) (w1 : other.length ≤ 140737488351232) (ha : (Lit.int .i64 a).wf = true) (hc : (Lit.int .u8 c).wf = true) : f_law02_DigestApart data other a c = some true := M.digestApart_true data other a c ha hc
end Go.Proofs.YtjhgkcbhllomaaaDoor.V
end

section
/- Package variables that hold rows of numbers, as the rows tell; a law whose function reads them. -/
namespace Go.Proofs.YtjhgkcbhllomaaaDoor.V
open Go Go.RowKit
set_option linter.unusedVariables false
set_option linter.unusedSimpArgs false
theorem laid_ints {P : Program} {w : World} {nm : String} {g t e n base fuel : Nat} {k : IntKind} {l : List Int} {cs : Array Value} {H : Type} {enc : TypeId × Value → H} {spare : Nat → Bool} {held : Bool} {ps : List MemPlace} (hg : P.globalNamed nm = some g) (hu : P.underlying t = some (.array n e)) (hi : P.underlying e = some (.int k)) (hc : P.cellsOf e = 1) (hv : w.var? P nm = some cs)
    (hd : DataW.trod enc P w base spare held fuel t cs.toList = some (.agg (l.map fun x => .lit (.int k x)), ps)) : ∀ (j : Nat) x, l[j]? = some x → w.cell? ⟨g, j, none⟩ = some (.int k x) := by
  obtain ⟨xs, m, rfl, hx, hl, hn, hel⟩ := DataW.trod_array hu hd
  simp only [Prod.mk.injEq, DataW.agg.injEq] at hx
  intro j x hj
  have h1 : (xs.map (·.1))[j]? = some (.lit (.int k x)) := by rw [← hx.1, List.getElem?_map, hj]; rfl
  rw [List.getElem?_map, Option.map_eq_some_iff] at h1
  obtain ⟨y, hy, hy2⟩ := h1
  have hjn : j < n := by rw [← hn]; exact (List.getElem?_eq_some_iff.1 hy).1
  have h2 := hel j hjn
  rw [hy, hc] at h2
  obtain ⟨q, hq, hq2, _⟩ := DataW.trod_int hi h2
  rw [hq2] at hy2
  simp only [DataW.lit.injEq, Lit.int.injEq, true_and] at hy2
  subst hy2
  have h3 : cs.toList[j]? = some (.int k q) := by
    have h4 : ((cs.toList.drop (j * 1)).take 1)[0]? = some (.int k q) := by rw [hq]; rfl
    simpa using h4
  rw [World.var?_cell hg hv j]
  simpa using h3
theorem flat_eI (k : IntKind) (l : List Int) : (l.map (eI k)).flatten = l.map (Sc.int k) := by
  induction l with
  | nil => rfl
  | cons x l ih => rw [List.map_cons, List.flatten_cons, ih]; rfl
theorem glrep {w : World} {g : Nat} {k : IntKind} {l : List Int} (h : ∀ (j : Nat) (x : Int), l[j]? = some x → w.cell? ⟨g, j, none⟩ = some (.int k x)) (hne : l ≠ []) : RepD w (fun b => b < w.heap.size) (.ref ((l.map (eI k)).flatten) 0) (.pointer (some ⟨g, 0, none⟩)) := by
  have key : ∀ (j : Nat) (sc : Sc), ((l.map (eI k)).flatten)[j]? = some sc → ∃ x : Int, l[j]? = some x ∧ sc = Sc.int k x := by
    intro j sc hj
    rw [flat_eI, List.getElem?_map, Option.map_eq_some_iff] at hj
    obtain ⟨x, hx, rfl⟩ := hj
    exact ⟨x, hx, rfl⟩
  have hb : g < w.heap.size := by
    cases l with
    | nil => exact absurd rfl hne
    | cons x l => exact cell?_lt (h 0 x rfl)
  refine .ref _ 0 g 0 (fun j => (w.cell? ⟨g, j, none⟩).getD undef) hb (fun j sc hj => ?_) (fun j sc hj => ?_)
  · obtain ⟨x, hx, rfl⟩ := key j sc hj
    rw [Nat.zero_add, h j x hx]; rfl
  · obtain ⟨x, hx, rfl⟩ := key j sc hj
    simp only [h j x hx, Option.getD_some]
    exact .int k x
/-- A law whose function reads package variables, out of what is shown of its function. -/
theorem Fun.lawG {P : Program} {gl : Gl} {f : FuncId} {xs : List Vb} {b : Bool} {vs : List Value} {w : World} (h : Fun P gl f (xs.map Va.b) (.bo b)) (hg : GlOk gl w (fun k => k < w.heap.size)) (hx : AtAll w xs vs) : Calls P f vs.toArray w fun e w1 => e = .returned (.bool b) ∧ Below w.heap.size w w1 := by
  obtain ⟨hl, hg2⟩ := hx.get
  refine (h.2 w (fun k => k < w.heap.size) vs.toArray (fun _ h => h) hg ⟨by simpa using hl, fun j x hj => ?_⟩).mono fun e w1 => ?_
  · rw [List.getElem?_map, Option.map_eq_some_iff] at hj
    obtain ⟨y, hj, rfl⟩ := hj
    have := hg2 j y hj
    show At w y _
    simpa [Array.getD_eq_getD_getElem?, List.getD] using this
  · rintro ⟨u, S1, rfl, _, _, hr, hb⟩
    refine ⟨?_, hb⟩
    cases hr with
    | d _ _ h => cases h with | bool _ => rfl
end Go.Proofs.YtjhgkcbhllomaaaDoor.V
end

section
/- The row of the law DigestApart: for every input that the row speaks of the law returns true; each argument reads behind the call as it read before. -/
namespace Go.Proofs.YtjhgkcbhllomaaaDoor.digestApart
open Go.ChangeShapes Go.WideShapes Go.ChangeAt Go.RowKit Go.Proofs.YtjhgkcbhllomaaaDoor.V Go.Proofs.YtjhgkcbhllomaaaDoorW.PrintWords
set_option linter.unusedVariables false
theorem own : ownKnob Tryd.prog.godebug = none := by kernel_rfl
theorem laidOut : laidOutB Tryd.prog = true := by kernel_rfl
theorem gn0 : Tryd.prog.globalNamed "consignor/digest.keys" = some 0 := by kernel_rfl
theorem gt0 : (Tryd.prog.globals[0]?).map (·.type) = some 80 := by kernel_rfl
theorem door_met (os : Os) (args : Array Value) : laidMetH Tryd.prog Rows.digestApartRow.laid ((World.doorLaid Tryd.prog 400 os).forCall (fun _ _ => 0) ⟨#[], args, []⟩).memory :=
  laidMetH_of_parts3 (fuel := 8) (laidMet_of_run' 8 (by kernel_rfl) (by kernel_rfl)) (by kernel_rfl) (by kernel_rfl)
theorem gl_ok {W : World} (h : laidMetH Tryd.prog Rows.digestApartRow.laid W) : GlOk glP W (fun k => k < W.heap.size) := by
  rw [MakeChecks.laidMetH_plain _ _ _ (by kernel_rfl)] at h
  obtain ⟨ps, ⟨g0, t0, cs0, f0, p0, q0, hg0, ht0, hv0, hd0, _, _⟩, _, _⟩ := h
  obtain rfl := Option.some.inj (gn0.symm.trans hg0)
  obtain rfl := Option.some.inj (gt0.symm.trans ht0)
  have r0 := glrep (laid_ints (l := g_digest_keys) (k := .u32) gn0 Tryd.underlying80 Tryd.underlying54 (by kernel_rfl) hv0 (show _ = some (DataW.agg (g_digest_keys.map fun x => DataW.lit (Lit.int .u32 x)), _) from hd0)) (by intro h; cases h)
  intro g cs hg
  unfold glP at hg
  split at hg
  · rename_i hgi
    subst hgi
    cases hg
    exact r0
  · cases hg
set_option maxRecDepth 100000 in
theorem lifted (os : Os) (started : os.Started) (H : Type) (enc : TypeId × Value → H) :
    ReturnsInHanded {} Tryd.checked os 6 .any (fun w args => (Rows.digestApartSpec.pre enc Tryd.prog Tryd.f6 [] false w args ∧ laidMetH Tryd.prog Rows.digestApartRow.laid w) ∧ sizedMet enc Tryd.prog Tryd.f6 (OpenSpec.ofChange Rows.digestApartSpec) false w args) (Rows.digestApartSpec.post enc Tryd.prog Tryd.f6 false true false false) := by
  refine returnsInHanded_of_change_and (C := Tryd.checked) (X := fun w _ => laidMetH Tryd.prog Rows.digestApartRow.laid w) (fun _ _ _ hh h => h.of_heap hh) own started (by kernel_rfl) Tryd.func6
    (ChangeSpec.witness_shaped (enc := enc) (C := Tryd.checked) (os := os) (X := fun w _ => laidMetH Tryd.prog Rows.digestApartRow.laid w) false (World.doorLaid Tryd.prog 400 os) #[.string ByteArray.empty, .string ByteArray.empty, .int .i64 0, .int .u8 0] 8 rfl (World.shaped_of_RefB (by kernel_rfl) (by kernel_rfl)) (by kernel_rfl) (by kernel_rfl) (by kernel_rfl) (door_met os _)) ?_
  intro W base args ds gs before hval0 hW hcnd hsz0 hL _
  have hsz : (DataW.weightsEach Tryd.prog (Tryd.f6.params.toList ++ Rows.digestApartSpec.plain.varTypes Tryd.prog) (ds ++ gs)).all (· ≤ reachBytes) = true := hsz0
  have hval : ∀ (j : Nat) t v, Tryd.f6.params[j]? = some t → args[j]? = some v → Value.okWide Tryd.prog W .any base t v := hval0
  have hW' := hW
  obtain ⟨p, q, hA0, hV, rfl, hfz, hnd⟩ := hW
  have hA : DataW.TrodAll enc Tryd.prog W 0 (fun _ => true) true Tryd.f6.params.toList args.toList ds p := hA0
  rw [Tryd.params6] at hA hval hsz
  obtain ⟨v0, vs0, d0, ds0, p0, q0, hargs, rfl, rfl, h0, r0⟩ := trodAll_cons hA
  obtain ⟨v1, vs1, d1, ds1, p1, q1, rfl, rfl, rfl, h1, r1⟩ := trodAll_cons r0
  obtain ⟨v2, vs2, d2, ds2, p2, q2, rfl, rfl, rfl, h2, r2⟩ := trodAll_cons r1
  obtain ⟨v3, vs3, d3, ds3, p3, q3, rfl, rfl, rfl, h3, r3⟩ := trodAll_cons r2
  obtain ⟨rfl, rfl, rfl⟩ := trodAll_nil r3
  obtain rfl : args = #[v0, v1, v2, v3] := by cases args; simp_all
  obtain ⟨rfl, rfl⟩ := trodVars_none hV
  have k0 := h0
  have lt0 : ∀ x ∈ p0, x.block < W.heap.size := by obtain ⟨m, hm⟩ := k0; exact DataW.trod_lt m _ _ _ hm
  obtain ⟨a0, e0, rfl, z0⟩ := arg_str Tryd.underlying9 (hval 0 9 v0 rfl rfl) h0
  have w0 : a0.length ≤ 140737488351232 := sized_string hsz (j := 0) (t := 9) rfl rfl
  have k1 := h1
  have lt1 : ∀ x ∈ p1, x.block < W.heap.size := by obtain ⟨m, hm⟩ := k1; exact DataW.trod_lt m _ _ _ hm
  obtain ⟨a1, e1, rfl, z1⟩ := arg_str Tryd.underlying9 (hval 1 9 v1 rfl rfl) h1
  have w1 : a1.length ≤ 140737488351232 := sized_string hsz (j := 1) (t := 9) rfl rfl
  have k2 := h2
  have lt2 : ∀ x ∈ p2, x.block < W.heap.size := by obtain ⟨m, hm⟩ := k2; exact DataW.trod_lt m _ _ _ hm
  obtain ⟨a2, e2, w2⟩ := arg_int Tryd.underlying3 (hval 2 3 v2 rfl rfl) h2
  have k3 := h3
  have lt3 : ∀ x ∈ p3, x.block < W.heap.size := by obtain ⟨m, hm⟩ := k3; exact DataW.trod_lt m _ _ _ hm
  obtain ⟨a3, e3, w3⟩ := arg_int Tryd.underlying5 (hval 3 5 v3 rfl rfl) h3
  refine (Fun.lawG (xs := [_, _, _, _]) (vs := [v0, v1, v2, v3]) (w := W) (f_law02_DigestApart_ok a0 a1 a2 a3 true (by first | exact digestApart_true a0 a1 a2 a3 w0 w1 w2 w3 | exact digestApart_true a0 a1 a2 a3 | (apply digestApart_true <;> assumption))) (gl_ok hL) ⟨e0, e1, e2, e3, trivial⟩).mono fun e W' ⟨he, bel⟩ => ?_
  subst he
  exact ⟨_, rfl, _, _, _, [], _, [], hW', trodAll_mk1 (shut_bool Tryd.underlying4 _), (trodAll_cons_mk (Below.trod laidOut (by kernel_rfl) (of_decide_eq_true (by kernel_rfl)) k0 bel lt0) (trodAll_cons_mk (Below.trod laidOut (by kernel_rfl) (of_decide_eq_true (by kernel_rfl)) k1 bel lt1) (trodAll_cons_mk (Below.trod laidOut (by kernel_rfl) (of_decide_eq_true (by kernel_rfl)) k2 bel lt2) (trodAll_cons_mk (Below.trod laidOut (by kernel_rfl) (of_decide_eq_true (by kernel_rfl)) k3 bel lt3) trodAll_mk0)))), rfl, bel.frame _, fun h => by cases h⟩
theorem over : Rows.digestApartRow.holds Tryd.pinned (OpenSpec.ofChange Rows.digestApartSpec) :=
  OpenClaim.holds_of_wide 6 Tryd.f6 rfl rfl rfl rfl rfl rfl rfl ⟨rfl, rfl, rfl, rfl, rfl⟩ rfl rfl rfl rfl rfl (by kernel_rfl) Tryd.func6 (by kernel_rfl)
    (of_decide_eq_true (by kernel_rfl)) (by unfold Func.isWrapper; first | (rw [if_pos (by decide +kernel)]; kernel_rfl) | (rw [if_neg (by decide +kernel)]; exact ⟨rfl, rfl⟩))
    (fun os started H enc _ => lifted os started H enc)
theorem proved : Rows.DigestApartSaid := over
end Go.Proofs.YtjhgkcbhllomaaaDoor.digestApart
namespace Go.Proofs.YtjhgkcbhllomaaaDoor
/-- The statement, under a short name, for the claim. -/
theorem digestApart_holds : Rows.DigestApartCardSaid :=
  Claim7.holds_tied_plain_at .later [] [.data] true (true, "cb983233ca39e7e5f5d2dea36e9c57c2fb3ccb1295660e3fea98415589665de9") true
    digestApart.proved (fun _ h => by cases h) (by kernel_rfl) (fun _ h => by cases h) digestApart_row_tie rfl ⟨rfl, rfl⟩ (by kernel_rfl) rfl
    (fun f fn hf hfn => by
      obtain rfl : f = 6 := Option.some.inj ((show Tryd.prog.funcNamed "consignor/consignorlaw02.DigestApart" = some 6 by kernel_rfl).symm.trans hf) |>.symm
      obtain rfl : fn = Tryd.f6 := (Option.some.inj (Tryd.func6.symm.trans hfn)).symm
      exact ⟨by kernel_rfl, fun j t ht => by
        rw [Tryd.params6] at ht
        have hm : t ∈ [9, 9, 3, 5] := by simpa using Array.mem_of_getElem? ht
        have hall : ([9, 9, 3, 5].all fun u => !Tryd.prog.wantsStandIn u) = true := by kernel_rfl
        exact (show Tryd.prog.wantsStandIn t = false by simpa using List.all_eq_true.1 hall t hm)⟩)
    (by kernel_rfl)
#print axioms digestApart_holds
end Go.Proofs.YtjhgkcbhllomaaaDoor
end
