/- The row of the law NameMarks: for every input that the row speaks of the law returns true; each argument reads behind the call as it read before. -/
import Derived.Test.YtdcokepmblcdmaaDoorQNameMarksB
import Derived.KernelRfl
import Derived.Test.YtdcokepmblcdmaaDoorQNameMarksC
import Derived.Laws.BytesArg
import Derived.Below
import Derived.Lib.Join
import Derived.Test.YtdcokepmblcdmaaDoorQNameMarksD
import Derived.Test.YtdcokepmblcdmaaDoorRows
import Derived.Test.YtdcokepmblcdmaaDoorTie
import Derived.Test.YtdcokepmblcdmaaDoorCards
import Derived.WalkKit
import Derived.ProofKit
import Derived.OpenShut
import Derived.ShutString
import Derived.ChangeOld
import Derived.SizedLaws
import Derived.SliceStrings
import Derived.Carry
import Derived.LaidMore
import Derived.Stop.Joined
import Derived.SevenTiedAt
import Derived.Test.YtdcokepmblcdmaaDoorWSized
section
/- Plain laws: numbers, rows and words of 32 bits. -/
namespace Go.Proofs.YtdcokepmblcdmaaDoor.V.M
set_option linter.unusedVariables false
set_option linter.unusedSimpArgs false
open Go Go.RowKit
theorem w_i64 {n : Int} (h : -9223372036854775808 ≤ n) (h2 : n < 9223372036854775808) : IntKind.i64.wrap n = n := by
  simp only [IntKind.wrap, IntKind.bits, IntKind.signed]; simp; omega
theorem w_u64 {n : Int} (h : 0 ≤ n) (h2 : n < 18446744073709551616) : IntKind.u64.wrap n = n := by
  simp only [IntKind.wrap, IntKind.bits, IntKind.signed]; simp; omega
theorem w_u32 (n : Int) : IntKind.u32.wrap n = n % 4294967296 := by simp [IntKind.wrap, IntKind.bits, IntKind.signed]
theorem w_u8 (n : Int) : IntKind.u8.wrap n = n % 256 := by simp [IntKind.wrap, IntKind.bits, IntKind.signed]
theorem gd_t {α : Type} {p : Prop} [Decidable p] (k : Option α) (h : p) : gd p k = k := by unfold gd; rw [if_pos h]
theorem ix_nat {α : Type} (l : List α) (n : Nat) : ix l (n : Int) = l[n]? := by unfold ix; rw [if_pos (by omega)]; rfl
theorem ix_lt {α : Type} (l : List α) (d : α) (n : Nat) (h : n < l.length) : ix l (n : Int) = some (l.getD n d) := by
  rw [ix_nat, List.getElem?_eq_getElem h, List.getD_eq_getElem?_getD, List.getElem?_eq_getElem h]; rfl
theorem cut_all {α : Type} (l : List α) (n : Nat) : cut l (n : Int) (l.length : Int) = l.drop n := by unfold cut; simp
theorem cut_zero {α : Type} (l : List α) (n : Nat) : cut l 0 (n : Int) = l.take n := by unfold cut; simp
/-- A word of 32 bits, as the program's number. -/
def B (x : BitVec 32) : Int := (x.toNat : Int)
theorem B_lt (x : BitVec 32) : 0 ≤ B x ∧ B x < 4294967296 := ⟨by unfold B; omega, by unfold B; have := x.isLt; omega⟩
theorem B_of (n : Int) : BitVec.ofInt 32 n = BitVec.ofInt 32 n := rfl
theorem B_ofInt (n : Int) : IntKind.u32.wrap n = B (BitVec.ofInt 32 n) := by
  rw [w_u32]; unfold B; rw [BitVec.toNat_ofInt]; omega
theorem of_B (x : BitVec 32) : BitVec.ofInt 32 (B x) = x := by unfold B; simp
theorem of_B' (x : BitVec 32) : BitVec.ofInt IntKind.u32.bits (B x) = x := of_B x
theorem wrap_B (x : BitVec 32) : IntKind.u32.wrap (B x) = B x := by rw [B_ofInt, of_B]
theorem wrap_N (x : BitVec 32) : IntKind.u32.wrap ((x.toNat : Nat) : Int) = B x := wrap_B x
theorem add_B (x y : BitVec 32) : IntKind.u32.wrap (B x + B y) = B (x + y) := by
  rw [B_ofInt, BitVec.ofInt_add, of_B, of_B]
theorem B_mod (n : Nat) : (n : Int) % 4294967296 = B (BitVec.ofNat 32 n) := by unfold B; simp
theorem not_B (x : BitVec 32) : IntKind.u32.wrap (4294967295 - B x) = B (~~~ x) := by
  have := B_lt x
  rw [w_u32]; unfold B at *; rw [BitVec.toNat_not]; omega
theorem not_B2 (x : BitVec 32) : IntKind.u32.wrap (BitVec.ofInt IntKind.u32.bits (if IntKind.u32.signed then -1 else IntKind.u32.max) ^^^ BitVec.ofInt IntKind.u32.bits (B x)).toNat = B (~~~ x) := by
  have e : (BitVec.ofInt IntKind.u32.bits (if IntKind.u32.signed then -1 else IntKind.u32.max) ^^^ BitVec.ofInt IntKind.u32.bits (B x)) = ~~~ x := by
    show BitVec.ofInt 32 4294967295 ^^^ BitVec.ofInt 32 (B x) = _
    rw [of_B, show BitVec.ofInt 32 4294967295 = BitVec.allOnes 32 from by decide, BitVec.allOnes_xor]
  rw [e]; exact wrap_N _
theorem xor_B (x y : BitVec 32) : IntKind.u32.wrap (BitVec.ofInt IntKind.u32.bits (B x) ^^^ BitVec.ofInt IntKind.u32.bits (B y)).toNat = B (x ^^^ y) := by
  have e : (BitVec.ofInt IntKind.u32.bits (B x) ^^^ BitVec.ofInt IntKind.u32.bits (B y)) = x ^^^ y := by
    show BitVec.ofInt 32 (B x) ^^^ BitVec.ofInt 32 (B y) = _
    rw [of_B, of_B]
  rw [e]; exact wrap_N _
theorem and_B (x y : BitVec 32) : IntKind.u32.wrap (BitVec.ofInt IntKind.u32.bits (B x) &&& BitVec.ofInt IntKind.u32.bits (B y)).toNat = B (x &&& y) := by
  have e : (BitVec.ofInt IntKind.u32.bits (B x) &&& BitVec.ofInt IntKind.u32.bits (B y)) = x &&& y := by
    show BitVec.ofInt 32 (B x) &&& BitVec.ofInt 32 (B y) = _
    rw [of_B, of_B]
  rw [e]; exact wrap_N _
theorem or_B (x y : BitVec 32) : IntKind.u32.wrap (BitVec.ofInt IntKind.u32.bits (B x) ||| BitVec.ofInt IntKind.u32.bits (B y)).toNat = B (x ||| y) := by
  have e : (BitVec.ofInt IntKind.u32.bits (B x) ||| BitVec.ofInt IntKind.u32.bits (B y)) = x ||| y := by
    show BitVec.ofInt 32 (B x) ||| BitVec.ofInt 32 (B y) = _
    rw [of_B, of_B]
  rw [e]; exact wrap_N _
/-- The turn to the right. -/
def rot (n : Nat) (x : BitVec 32) : BitVec 32 := (x <<< (32 - n)) ||| (x >>> n)
theorem rot_add (n : Nat) (h0 : 0 < n) (h : n < 32) (x : BitVec 32) : rot n x = (x <<< (32 - n)) + (x >>> n) := by
  unfold rot; symm; apply BitVec.add_eq_or_of_and_eq_zero
  ext i hi
  simp only [BitVec.getElem_and, BitVec.getElem_shiftLeft, BitVec.getElem_ushiftRight, BitVec.getElem_zero]
  by_cases c : i < 32 - n
  · simp [c]
  · simp [c]; intro _; exact BitVec.getLsbD_of_ge _ _ (by omega)
theorem B_def (x : BitVec 32) : B x = (x.toNat : Int) := rfl
theorem shr_B (x : BitVec 32) (n : Nat) : (B x).fdiv (2 ^ n) = B (x >>> n) := by
  have h : (2 : Int) ^ n = ((2 ^ n : Nat) : Int) := by rw [Int.natCast_pow]; rfl
  rw [B_def, B_def, BitVec.toNat_ushiftRight, Nat.shiftRight_eq_div_pow, h, Int.fdiv_eq_ediv_of_nonneg _ (Int.natCast_nonneg _)]; rfl
theorem shl_B (x : BitVec 32) (n : Nat) : IntKind.u32.wrap (B x * 2 ^ n) = B (x <<< n) := by
  have h : (2 : Int) ^ n = ((2 ^ n : Nat) : Int) := by rw [Int.natCast_pow]; rfl
  rw [w_u32, B_def, B_def, BitVec.toNat_shiftLeft, Nat.shiftLeft_eq, h, ← Int.natCast_mul]; rfl
theorem divB (x : BitVec 32) (n : Nat) (p : Int) (h : p = ((2 ^ n : Nat) : Int)) : IntKind.u32.wrap ((B x).tdiv p) = B (x >>> n) := by
  subst h
  rw [B_def, Int.tdiv_eq_ediv_of_nonneg (Int.natCast_nonneg _), show ((x.toNat : Int) / ((2 ^ n : Nat) : Int)) = ((x >>> n).toNat : Int) by
    rw [BitVec.toNat_ushiftRight, Nat.shiftRight_eq_div_pow]; rfl]
  exact wrap_N _
theorem modB (x : BitVec 32) (n : Nat) (hn : n ≤ 32) (p q : Int) (h : p = ((2 ^ n : Nat) : Int)) (h2 : q = ((2 ^ (32 - n) : Nat) : Int)) : IntKind.u32.wrap ((B x).tmod p * q) = B (x <<< (32 - n)) := by
  subst h; subst h2
  rw [B_def, Int.tmod_eq_emod_of_nonneg (Int.natCast_nonneg _), w_u32, B_def, BitVec.toNat_shiftLeft, Nat.shiftLeft_eq]
  have e : (x.toNat % 2 ^ n) * 2 ^ (32 - n) = x.toNat * 2 ^ (32 - n) % 2 ^ 32 := by
    rw [← Nat.mul_mod_mul_right]; congr 1; rw [← Nat.pow_add]; congr 1; omega
  rw [← e, ← Int.natCast_emod, ← Int.natCast_mul, e]
  have := Nat.mod_lt (x.toNat * 2 ^ (32 - n)) (show 2 ^ 32 > 0 by decide)
  omega
end Go.Proofs.YtdcokepmblcdmaaDoor.V.M
end

section
/- The two ways to turn a word agree; mixed, step and block over words. -/
namespace Go.Proofs.YtdcokepmblcdmaaDoor.V.M
set_option linter.unusedVariables false
set_option linter.unusedSimpArgs false
open Go Go.RowKit
def sg0 (x : BitVec 32) := rot 7 x ^^^ rot 18 x ^^^ (x >>> 3)
def sg1 (x : BitVec 32) := rot 17 x ^^^ rot 19 x ^^^ (x >>> 10)
def bg0 (x : BitVec 32) := rot 2 x ^^^ rot 13 x ^^^ rot 22 x
def bg1 (x : BitVec 32) := rot 6 x ^^^ rot 11 x ^^^ rot 25 x
def Cb (c : UInt8) : BitVec 32 := BitVec.ofNat 32 c.toNat
theorem bn_B (c : UInt8) : IntKind.u32.wrap (bn c) = B (Cb c) := by
  rw [w_u32]; unfold bn Cb; exact B_mod _
def wd (a b c d : UInt8) : BitVec 32 := Cb a <<< 24 ||| Cb b <<< 16 ||| Cb c <<< 8 ||| Cb d
theorem mn24 : min 24 IntKind.u32.bits = 24 := rfl
theorem mn16 : min 16 IntKind.u32.bits = 16 := rfl
theorem mn8 : min 8 IntKind.u32.bits = 8 := rfl
theorem wd_eq (a b c d : UInt8) : 256#32 * (256#32 * (256#32 * (256#32 * 0#32 + Cb a) + Cb b) + Cb c) + Cb d = wd a b c d := by
  apply BitVec.eq_of_toNat_eq
  unfold wd Cb
  have ha := a.toNat_lt; have hb := b.toNat_lt; have hc := c.toNat_lt; have hd := d.toNat_lt
  simp only [BitVec.toNat_add, BitVec.toNat_mul, BitVec.toNat_or, BitVec.toNat_shiftLeft, BitVec.toNat_ofNat, Nat.shiftLeft_eq]
  rw [Nat.or_assoc, Nat.or_assoc, Nat.mod_eq_of_lt (show d.toNat < 2 ^ 32 by omega), Nat.mod_eq_of_lt (show c.toNat < 2 ^ 32 by omega), Nat.mod_eq_of_lt (show b.toNat < 2 ^ 32 by omega), Nat.mod_eq_of_lt (show a.toNat < 2 ^ 32 by omega),
    Nat.mod_eq_of_lt (show c.toNat * 2 ^ 8 < 2 ^ 32 by omega), Nat.mod_eq_of_lt (show b.toNat * 2 ^ 16 < 2 ^ 32 by omega), Nat.mod_eq_of_lt (show a.toNat * 2 ^ 24 < 2 ^ 32 by omega),
    Nat.mul_comm c.toNat, Nat.mul_comm b.toNat, Nat.mul_comm a.toNat, ← Nat.two_pow_add_eq_or_of_lt (show d.toNat < 2 ^ 8 by omega),
    ← Nat.two_pow_add_eq_or_of_lt (show 2 ^ 8 * c.toNat + d.toNat < 2 ^ 16 by omega), ← Nat.two_pow_add_eq_or_of_lt (show 2 ^ 16 * b.toNat + (2 ^ 8 * c.toNat + d.toNat) < 2 ^ 24 by omega)]
  omega
end Go.Proofs.YtdcokepmblcdmaaDoor.V.M
end

section
/- The words of a block, and a block, computed in both ways. -/
namespace Go.Proofs.YtdcokepmblcdmaaDoor.V.M
set_option linter.unusedVariables false
set_option linter.unusedSimpArgs false
open Go Go.RowKit
def wr (s : Str) (i : Nat) : BitVec 32 := wd (s.getD (4 * i) 0) (s.getD (4 * i + 1) 0) (s.getD (4 * i + 2) 0) (s.getD (4 * i + 3) 0)
def nxWord (s : Str) (i : Nat) (l : List (BitVec 32)) : BitVec 32 :=
  if i < 16 then wr s i else sg1 (l.getD (i - 2) 0#32) + l.getD (i - 7) 0#32 + sg0 (l.getD (i - 15) 0#32) + l.getD (i - 16) 0#32
def sch (s : Str) : Nat → List (BitVec 32)
  | 0 => []
  | i + 1 => sch s i ++ [nxWord s i (sch s i)]
theorem sch_len (s : Str) (i : Nat) : (sch s i).length = i := by
  induction i with
  | zero => rfl
  | succ i ih => simp [sch, ih]
def W0 (s : Str) (i : Nat) : List Int := (sch s i).map B ++ List.replicate (64 - i) 0
theorem ix_sch (s : Str) (i j : Nat) (h : j < i) (r : List Int) : ix ((sch s i).map B ++ r) (j : Int) = some (B ((sch s i).getD j 0#32)) := by
  rw [ix_nat, List.getElem?_append_left (by simpa [sch_len] using h), List.getElem?_map, List.getElem?_eq_getElem (by simpa [sch_len] using h), List.getD_eq_getElem?_getD, List.getElem?_eq_getElem (by simpa [sch_len] using h)]; rfl
theorem ix_W0 (s : Str) (i j : Nat) (h : j < i) : ix (W0 s i) (j : Int) = some (B ((sch s i).getD j 0#32)) := ix_sch s i j h _
theorem ix_V0 (s : Str) (i j : Nat) (h : j < i) : ix ((sch s i).map B) (j : Int) = some (B ((sch s i).getD j 0#32)) := by
  have := ix_sch s i j h []; rwa [List.append_nil] at this
theorem W0_len (s : Str) (i : Nat) (h : i ≤ 64) : (W0 s i).length = 64 := by simp [W0, sch_len]; omega
theorem W0_set (s : Str) (i : Nat) (h : i < 64) (y : Int) (hy : y = B (nxWord s i (sch s i))) : (W0 s i).set i y = W0 s (i + 1) := by
  subst hy
  unfold W0
  rw [show 64 - i = (64 - (i + 1)) + 1 from by omega, List.replicate_succ, List.set_append_right _ _ (by simp [sch_len])]
  simp [sch_len, sch]
end Go.Proofs.YtdcokepmblcdmaaDoor.V.M
end

section
/- A block, computed in both ways. -/
namespace Go.Proofs.YtdcokepmblcdmaaDoor.V.M
set_option linter.unusedVariables false
set_option linter.unusedSimpArgs false
open Go Go.RowKit
theorem ix_map (l : List (BitVec 32)) (j : Nat) (h : j < l.length) : ix (l.map B) (j : Int) = some (B (l.getD j 0#32)) := by
  rw [ix_nat, List.getElem?_map, List.getElem?_eq_getElem h, List.getD_eq_getElem?_getD, List.getElem?_eq_getElem h]; rfl
def rnd (k w : BitVec 32) : List (BitVec 32) → List (BitVec 32)
  | [a, b, c, d, e, f, g, h] =>
    [h + bg1 e + (e &&& f ^^^ (~~~ e) &&& g) + k + w + (bg0 a + (a &&& b ^^^ a &&& c ^^^ b &&& c)), a, b, c, d + (h + bg1 e + (e &&& f ^^^ (~~~ e) &&& g) + k + w), e, f, g]
  | v => v
theorem len8 {α : Type} (l : List α) (h : l.length = 8) : ∃ a b c d e f g i, l = [a, b, c, d, e, f, g, i] := by
  match l, h with
  | [a, b, c, d, e, f, g, i], _ => exact ⟨a, b, c, d, e, f, g, i, rfl⟩
theorem rnd_len (k w : BitVec 32) (v : List (BitVec 32)) (h : v.length = 8) : (rnd k w v).length = 8 := by
  obtain ⟨a, b, c, d, e, f, g, i, rfl⟩ := len8 v h; rfl
theorem bsn {α β : Type} (a : α) (f : α → Option β) : (some a).bind f = f a := Eq.trans (Option.bind_some a f) rfl
theorem gdc0 (a : BitVec 32) (l : List (BitVec 32)) : (a :: l).getD 0 0#32 = a := Eq.trans List.getD_cons_zero rfl
theorem gdc1 (a : BitVec 32) (l : List (BitVec 32)) (n : Nat) : (a :: l).getD (n + 1) 0#32 = l.getD n 0#32 := Eq.trans List.getD_cons_succ rfl
theorem ix8 (a b c d e f g i : BitVec 32) : ix ([a, b, c, d, e, f, g, i].map B) 0 = some (B a) ∧ ix ([a, b, c, d, e, f, g, i].map B) 1 = some (B b) ∧ ix ([a, b, c, d, e, f, g, i].map B) 2 = some (B c) ∧ ix ([a, b, c, d, e, f, g, i].map B) 3 = some (B d) ∧ ix ([a, b, c, d, e, f, g, i].map B) 4 = some (B e) ∧ ix ([a, b, c, d, e, f, g, i].map B) 5 = some (B f) ∧ ix ([a, b, c, d, e, f, g, i].map B) 6 = some (B g) ∧ ix ([a, b, c, d, e, f, g, i].map B) 7 = some (B i) := ⟨rfl, rfl, rfl, rfl, rfl, rfl, rfl, rfl⟩
theorem nx_take (s : Str) (i : Nat) (l : List (BitVec 32)) : nxWord (s.take 64) i l = nxWord s i l := by
  have e : ∀ j, j < 64 → (s.take 64).getD j 0 = s.getD j 0 := by
    intro j hj; rw [List.getD_eq_getElem?_getD, List.getD_eq_getElem?_getD, List.getElem?_take_of_lt hj]
  unfold nxWord
  by_cases c : i < 16
  · rw [if_pos c, if_pos c]; unfold wr; rw [e _ (by omega), e _ (by omega), e _ (by omega), e _ (by omega)]
  · rw [if_neg c, if_neg c]
theorem sch_take (s : Str) (i : Nat) : sch (s.take 64) i = sch s i := by
  induction i with
  | zero => rfl
  | succ i ih => rw [sch, sch, ih, nx_take]
end Go.Proofs.YtdcokepmblcdmaaDoor.V.M
end

section
/- The sum of a text, computed in both ways. -/
namespace Go.Proofs.YtdcokepmblcdmaaDoor.V.M
set_option linter.unusedVariables false
set_option linter.unusedSimpArgs false
open Go Go.RowKit
def padS (s : Str) : Str := s ++ List.replicate ((120 - s.length % 64) % 64) 0
theorem padS_next (s : Str) (h : s.length % 64 ≠ 56) : padS (s ++ [0]) = padS s := by
  unfold padS
  rw [List.length_append, List.append_assoc, show ([0] : Str) = List.replicate 1 0 from rfl, List.replicate_append_replicate, List.length_replicate]
  congr 2; omega
theorem padS_end (s : Str) (h : s.length % 64 = 56) : padS s = s := by
  unfold padS; rw [h]; simp
theorem padS_len (s : Str) : (padS s).length % 64 = 56 ∧ (padS s).length ≤ s.length + 63 ∧ s.length ≤ (padS s).length := by
  unfold padS; rw [List.length_append, List.length_replicate]; omega
theorem tm64 (n : Nat) : ((((n : Int).tmod 64) != 56) = true) ↔ n % 64 ≠ 56 := by
  rw [Int.tmod_eq_emod_of_nonneg (Int.natCast_nonneg _)]; simp; omega
theorem map_bn0 (s : Str) : s.map bn ++ ([0] : List Int) = (s ++ [0]).map bn := by rw [List.map_append]; rfl
def byt (T j : Nat) : UInt8 := UInt8.ofNat (T / 2 ^ (8 * j))
def lbs (T : Nat) : Str := [byt T 7, byt T 6, byt T 5, byt T 4, byt T 3, byt T 2, byt T 1, byt T 0]
def Tb (n : Nat) : Nat := n * 8 % 18446744073709551616
theorem T_ok (n : Nat) (h : n ≤ 140737488355328) : IntKind.u64.wrap ((IntKind.u64.wrap (n : Int)) * 8) = (Tb n : Int) := by
  rw [w_u64 (n := (n : Int)) (by omega) (by omega), w_u64 (by omega) (by omega)]; unfold Tb; omega
theorem pow_c (n : Nat) : (2 : Int) ^ n = ((2 ^ n : Nat) : Int) := by rw [Int.natCast_pow]; rfl
theorem nb_mod (n : Nat) : nb (((n % 256 : Nat)) : Int) = UInt8.ofNat n := by
  unfold nb; rw [Int.toNat_natCast]; apply UInt8.toNat_inj.mp; rw [UInt8.toNat_ofNat', UInt8.toNat_ofNat', Nat.mod_mod]
theorem byt_f (T j : Nat) (hj : j < 8) : nb (IntKind.u8.wrap ((T : Int).fdiv (2 ^ (min (IntKind.i64.wrap (8 * (j : Int))).toNat IntKind.u64.bits)))) = byt T j := by
  rw [w_i64 (by omega) (by omega), show min (8 * (j : Int)).toNat IntKind.u64.bits = 8 * j from by show min _ 64 = _; omega, pow_c, Int.fdiv_eq_ediv_of_nonneg _ (Int.natCast_nonneg _), w_u8, ← Int.natCast_ediv]
  exact nb_mod _
theorem byt_t (T j : Nat) (hT : T < 18446744073709551616) : IntKind.u8.wrap ((IntKind.u64.wrap ((T : Int).tdiv ((2 ^ (8 * j) : Nat) : Int))).tmod 256) = bn (byt T j) := by
  rw [Int.tdiv_eq_ediv_of_nonneg (Int.natCast_nonneg _), ← Int.natCast_ediv, w_u64 (Int.natCast_nonneg _) (by have := Nat.div_le_self T (2 ^ (8 * j)); omega), Int.tmod_eq_emod_of_nonneg (Int.natCast_nonneg _), w_u8]
  unfold bn byt; rw [UInt8.toNat_ofNat']; omega
end Go.Proofs.YtdcokepmblcdmaaDoor.V.M
end

section
/- The sum of a text, computed in both ways: the blocks, and what is handed back. -/
namespace Go.Proofs.YtdcokepmblcdmaaDoor.V.M
set_option linter.unusedVariables false
set_option linter.unusedSimpArgs false
open Go Go.RowKit
theorem nb_bn (s : Str) : (s.map bn).map nb = s := by
  rw [List.map_map]
  have : nb ∘ bn = id := by funext c; simp [nb, bn]
  rw [this, List.map_id]
def o4 (x : Int) : List Int := [(IntKind.u8.wrap (x.fdiv (2 ^ (min 24 IntKind.u32.bits)))), (IntKind.u8.wrap (x.fdiv (2 ^ (min 16 IntKind.u32.bits)))), (IntKind.u8.wrap (x.fdiv (2 ^ (min 8 IntKind.u32.bits)))), (IntKind.u8.wrap x)]
def p4 (x : Int) : List Int := [(IntKind.u8.wrap (IntKind.u32.wrap (x.tdiv 16777216))), (IntKind.u8.wrap ((IntKind.u32.wrap (x.tdiv 65536)).tmod 256)), (IntKind.u8.wrap ((IntKind.u32.wrap (x.tdiv 256)).tmod 256)), (IntKind.u8.wrap (x.tmod 256))]
theorem m8 (y : BitVec 32) : IntKind.u8.wrap ((B y).tmod 256) = IntKind.u8.wrap (B y) := by
  have := B_lt y
  rw [Int.tmod_eq_emod_of_nonneg this.1, w_u8, w_u8]; omega
theorem p4_eq (x : BitVec 32) : p4 (B x) = o4 (B x) := by
  unfold p4 o4
  rw [divB x 24 16777216 rfl, divB x 16 65536 rfl, divB x 8 256 rfl, m8, m8, m8, mn24, mn16, mn8, shr_B, shr_B, shr_B]
def firstB : List (BitVec 32) := [1779033703#32, 3144134277#32, 1013904242#32, 2773480762#32, 1359893119#32, 2600822924#32, 528734635#32, 1541459225#32]
def full (s : Str) : Str := padS (s ++ [128]) ++ lbs (Tb s.length)
theorem full_len (s : Str) : (full s).length = 64 * ((full s).length / 64) ∧ (full s).length ≤ s.length + 72 ∧ (full s).length = (padS (s ++ [128])).length + 8 := by
  have := padS_len (s ++ [128])
  unfold full
  rw [List.length_append] at *
  have e : (lbs (Tb s.length)).length = 8 := rfl
  simp only [List.length_cons, List.length_nil] at *
  omega
end Go.Proofs.YtdcokepmblcdmaaDoor.V.M
end

section
/- Plain lemmas of layer 1 (octet): digits, numbers in bytes; no program in sight. -/
namespace Go.Proofs.YtdcokepmblcdmaaDoor
set_option linter.unusedVariables false
set_option linter.unusedSimpArgs false
/-- The sixteen digits. -/
def digs : List UInt8 := [48, 49, 50, 51, 52, 53, 54, 55, 56, 57, 97, 98, 99, 100, 101, 102]
def dig (n : Nat) : UInt8 := digs.getD n 0
def hex2 (c : UInt8) : List UInt8 := [dig (c.toNat / 16), dig (c.toNat % 16)]
def hexl (l : List UInt8) : List UInt8 := l.flatMap hex2
theorem hexl_nil : hexl [] = [] := rfl
theorem hexl_append (a b : List UInt8) : hexl (a ++ b) = hexl a ++ hexl b := by simp [hexl]
theorem hexl_length (l : List UInt8) : (hexl l).length = 2 * l.length := by
  induction l with
  | nil => rfl
  | cons c l ih => simp only [hexl, List.flatMap_cons, List.length_append, List.length_cons] at *; simp only [hex2, List.length_cons, List.length_nil]; omega
theorem take_snoc (s : ByteArray) (k : Nat) (h : k < s.size) : s.data.toList.take (k + 1) = s.data.toList.take k ++ [s[k]] := by
  rw [List.take_succ_eq_append_getElem (by simpa using h)]; rfl
theorem hexl_snoc (s : ByteArray) (k : Nat) (h : k < s.size) : hexl (s.data.toList.take (k + 1)) = hexl (s.data.toList.take k) ++ [dig (s[k].toNat / 16)] ++ [dig (s[k].toNat % 16)] := by
  rw [take_snoc s k h, hexl_append]; simp [hexl, hex2]
theorem dig_get (n : Nat) (h : n < (ByteArray.mk #[48, 49, 50, 51, 52, 53, 54, 55, 56, 57, 97, 98, 99, 100, 101, 102]).size) : ((ByteArray.mk #[48, 49, 50, 51, 52, 53, 54, 55, 56, 57, 97, 98, 99, 100, 101, 102])[n].toNat : Int) = ((dig n).toNat : Int) := by
  have h' : n < 16 := h
  rcases n with _ | _ | _ | _ | _ | _ | _ | _ | _ | _ | _ | _ | _ | _ | _ | _ | n
  all_goals first | rfl | omega
/-- A number's bytes, the lowest one first. -/
def wideL (n : Int) (m : Nat) : List Int := (List.range m).map fun i => n / 2 ^ (8 * i) % 256
/-- Its error: 1 for a size that may not be, 2 for a number that does not fit. -/
def wideE (n size : Int) : Int := if size < 0 ∨ 8 < size then 1 else if size < 8 ∧ n / 2 ^ (8 * size.toNat) ≠ 0 then 2 else 0
def wideS (n size : Int) : ByteArray := if wideE n size = 0 then strOfNums (wideL n size.toNat) else ⟨#[]⟩
theorem wideL_length (n : Int) (m : Nat) : (wideL n m).length = m := by simp [wideL]
theorem wideL_succ (n : Int) (m : Nat) : wideL n (m + 1) = wideL n m ++ [n / 2 ^ (8 * m) % 256] := by simp [wideL, List.range_succ]
theorem wideL_set (n : Int) (k m : Nat) (h : k < m) : (wideL n k ++ List.replicate (m - k) (0 : Int)).set k (n / 2 ^ (8 * k) % 256) = wideL n (k + 1) ++ List.replicate (m - (k + 1)) 0 := by
  obtain ⟨j, hj⟩ : ∃ j, m - k = j + 1 := ⟨m - k - 1, by omega⟩
  rw [hj, show m - (k + 1) = j by omega, wideL_succ, List.set_append_right _ _ (by rw [wideL_length]; omega), wideL_length, Nat.sub_self, List.replicate_succ, List.set_cons_zero, List.append_assoc, List.singleton_append]
theorem wideE_arg {n size : Int} (h : size < 0 ∨ 8 < size) : wideE n size = 1 := by unfold wideE; rw [if_pos h]
theorem wideE_long {n : Int} {m : Nat} (h : m < 8 ∧ n / 2 ^ (8 * m) ≠ 0) : wideE n m = 2 := by
  unfold wideE; rw [if_neg (by omega), Int.toNat_natCast, if_pos ⟨by omega, h.2⟩]
theorem wideE_ok {n : Int} {m : Nat} (hm : m ≤ 8) (hf : m < 8 → n / 2 ^ (8 * m) = 0) : wideE n m = 0 := by
  unfold wideE; rw [if_neg (by omega), Int.toNat_natCast, if_neg (fun h => h.2 (hf (by omega)))]
theorem wideS_err {n size : Int} (h : wideE n size ≠ 0) : wideS n size = ⟨#[]⟩ := by unfold wideS; rw [if_neg h]
theorem wideS_ok {n : Int} {m : Nat} (hm : m ≤ 8) (hf : m < 8 → n / 2 ^ (8 * m) = 0) : wideS n m = strOfNums (wideL n m) := by
  unfold wideS; rw [if_pos (wideE_ok hm hf), Int.toNat_natCast]
theorem cut_size (s : ByteArray) (m : Nat) : (s.extract 0 (if (m : Int) < (s.size : Int) then (m : Int) else (s.size : Int)).toNat).size ≤ m := by
  rw [ByteArray.size_extract]; split <;> omega
theorem tmod8_lo (n : Int) : -7 ≤ n.tmod 8 := by have := Int.lt_tmod_of_pos n (b := 8) (by decide); omega
theorem tmod8_hi (n : Int) : n.tmod 8 ≤ 7 := by have := Int.tmod_lt_of_pos n (b := 8) (by decide); omega
/-- A text's digits. -/
def hexS (s : ByteArray) : ByteArray := ⟨(hexl s.data.toList).toArray⟩
theorem hexS_size (s : ByteArray) : (hexS s).size = 2 * s.size := by
  show (hexl s.data.toList).toArray.size = _
  rw [List.size_toArray, hexl_length, Array.length_toList]; rfl
theorem hexS_append (a b : ByteArray) : hexS (a ++ b) = hexS a ++ hexS b := by
  unfold hexS
  apply ByteArray.ext
  rw [ByteArray.data_append, ByteArray.data_append, Array.toList_append, hexl_append, List.append_toArray]
theorem wideE_zero {n : Int} {m : Nat} (hm : m ≤ 7) (h : wideE n m = 0) : n / 2 ^ (8 * m) = 0 := by
  unfold wideE at h
  rw [if_neg (by omega), Int.toNat_natCast] at h
  refine Decidable.not_not.1 fun hn => ?_
  rw [if_pos ⟨by omega, hn⟩] at h
  exact absurd h (by decide)
theorem div_pow_zero {n : Int} {a b : Nat} (h : n / 2 ^ a = 0) : n / 2 ^ (a + b) = 0 := by
  rw [Int.pow_add, ← Int.ediv_ediv_of_nonneg (Int.pow_nonneg (by decide)), h, Int.zero_ediv]
theorem wideE_moreN {n : Int} {m : Nat} (hm : m ≤ 7) (h : wideE n m = 0) : wideE n (↑m + 1) = 0 := by
  have h0 := wideE_zero hm h
  rw [show (m : Int) + 1 = ((m + 1 : Nat) : Int) by omega]
  exact wideE_ok (by omega) fun _ => by rw [Nat.mul_add]; exact div_pow_zero h0
theorem wideS_sizeN {n : Int} {m : Nat} (hm : m ≤ 7) (h : wideE n m = 0) : (wideS n m).size = m := by
  unfold wideS; rw [if_pos h, strOfNums_size, wideL_length, Int.toNat_natCast]
theorem strOfNums_append (xs ys : List Int) : strOfNums (xs ++ ys) = strOfNums xs ++ strOfNums ys := by
  apply ByteArray.ext
  rw [ByteArray.data_append]
  simp only [strOfNums, List.map_append, List.append_toArray]
theorem wideS_moreN {n : Int} {m : Nat} (hm : m ≤ 7) (h : wideE n m = 0) : wideS n (↑m + 1) = wideS n m ++ ⟨#[0]⟩ := by
  have h0 := wideE_zero hm h
  have h1 := wideE_moreN hm h
  unfold wideS
  rw [if_pos h, if_pos h1, show (m : Int) + 1 = ((m + 1 : Nat) : Int) by omega, Int.toNat_natCast, Int.toNat_natCast, wideL_succ, strOfNums_append, h0]
  rfl
theorem wideE_more {n q : Int} (h0 : 0 ≤ q) (h7 : q ≤ 7) (h : wideE n q = 0) : wideE n (q + 1) = 0 := by
  obtain ⟨m, rfl⟩ := Int.eq_ofNat_of_zero_le h0; exact wideE_moreN (by omega) h
theorem wideS_size {n q : Int} (h0 : 0 ≤ q) (h7 : q ≤ 7) (h : wideE n q = 0) : (wideS n q).size ≤ 8 := by
  obtain ⟨m, rfl⟩ := Int.eq_ofNat_of_zero_le h0; rw [wideS_sizeN (by omega) h]; omega
theorem wideS_more {n q : Int} (h0 : 0 ≤ q) (h7 : q ≤ 7) (h : wideE n q = 0) : wideS n (q + 1) = wideS n q ++ ⟨#[0]⟩ := by
  obtain ⟨m, rfl⟩ := Int.eq_ofNat_of_zero_le h0; exact wideS_moreN (by omega) h
/-- Byte k of a text, as a number; 0 behind its end. -/
def bN (s : ByteArray) (k : Nat) : Nat := (s.data.toList.getD k 0).toNat
theorem bN_at (s : ByteArray) : ∀ (n : Nat) (h : n < s.size), (s[n]'h).toNat = bN s n := fun n h => by
  unfold bN
  rw [List.getD_eq_getElem?_getD, List.getElem?_eq_getElem (by rw [Array.length_toList]; exact h)]
  rfl
theorem bN_lt (s : ByteArray) (k : Nat) : bN s k < 256 := UInt8.toNat_lt _
/-- A digit's number; 16: it is none. -/
def hv (c : Nat) : Nat := if 48 ≤ c ∧ c ≤ 57 then c - 48 else if 97 ≤ c ∧ c ≤ 102 then c - 87 else 16
theorem hv_le (c : Nat) : hv c ≤ 16 := by unfold hv; split <;> (try split) <;> omega
/-- Are texts digits, of whole bytes? -/
def hexOk (s : ByteArray) : Prop := s.size % 2 = 0 ∧ ∀ j, j < s.size → hv (bN s j) < 16
def hexAt (s : ByteArray) (j : Nat) : Int := hv (bN s (2 * j)) * 16 + hv (bN s (2 * j + 1))
def hexTo (s : ByteArray) (k : Nat) : List Int := (List.range k).map (hexAt s)
def unhexS (s : ByteArray) : ByteArray := strOfNums (hexTo s (s.size / 2))
theorem hexTo_length (s : ByteArray) (k : Nat) : (hexTo s k).length = k := by simp [hexTo]
theorem hexTo_succ (s : ByteArray) (k : Nat) : hexTo s (k + 1) = hexTo s k ++ [hexAt s k] := by simp [hexTo, List.range_succ]
theorem hexTo_set (s : ByteArray) (k m : Nat) (h : k < m) : (hexTo s k ++ List.replicate (m - k) (0 : Int)).set k (hexAt s k) = hexTo s (k + 1) ++ List.replicate (m - (k + 1)) 0 := by
  obtain ⟨j, hj⟩ : ∃ j, m - k = j + 1 := ⟨m - k - 1, by omega⟩
  rw [hj, show m - (k + 1) = j by omega, hexTo_succ, List.set_append_right _ _ (by rw [hexTo_length]; omega), hexTo_length, Nat.sub_self, List.replicate_succ, List.set_cons_zero, List.append_assoc, List.singleton_append]
/-- A number of bytes, the lowest one first. -/
def leN : List UInt8 → Nat
  | [] => 0
  | c :: l => c.toNat + 256 * leN l
theorem leN_append (a b : List UInt8) : leN (a ++ b) = leN a + 256 ^ a.length * leN b := by
  induction a with
  | nil => simp [leN]
  | cons c a ih => simp only [List.cons_append, leN, ih, List.length_cons, Nat.pow_succ, Nat.mul_add, Nat.mul_comm, Nat.mul_assoc, Nat.mul_left_comm]; omega
theorem leN_lt (l : List UInt8) : leN l < 256 ^ l.length := by
  induction l with
  | nil => simp [leN]
  | cons c l ih => have := c.toNat_lt; simp only [leN, List.length_cons, Nat.pow_succ]; omega
def wholeN (s : ByteArray) : Nat := leN s.data.toList
theorem take_all (s : ByteArray) : s.data.toList.take s.size = s.data.toList := List.take_of_length_le (by rw [Array.length_toList]; exact Nat.le_refl _)
/-- A half's digit, as the reference writes it. -/
theorem dig_low (n : Nat) (h : n < 10) : ((dig n).toNat : Int) = 48 + n := by
  have : ∀ n : Fin 10, ((dig n.val).toNat : Int) = 48 + n.val := by decide
  exact this ⟨n, h⟩
theorem dig_high (n : Nat) (h : n < 16) (h1 : ¬ n < 10) : ((dig n).toNat : Int) = 97 + n - 10 := by
  have : ∀ n : Fin 16, ¬ n.val < 10 → ((dig n.val).toNat : Int) = 97 + n.val - 10 := by decide
  exact this ⟨n, h⟩ h1
def numsOf (l : List UInt8) : List Int := l.map fun c => (c.toNat : Int)
theorem numsOf_append (a b : List UInt8) : numsOf (a ++ b) = numsOf a ++ numsOf b := by simp [numsOf]
theorem numsOf_length (a : List UInt8) : (numsOf a).length = a.length := by simp [numsOf]
theorem str_numsOf (l : List UInt8) : strOfNums (numsOf l) = ⟨l.toArray⟩ := by
  unfold strOfNums numsOf
  congr 2
  rw [List.map_map]
  conv => rhs; rw [← List.map_id l]
  apply List.map_congr_left
  intro c _
  simp
def numsHex (c : Nat) : List Int := [((dig (c / 16)).toNat : Int), ((dig (c % 16)).toNat : Int)]
theorem hexl_snocN (s : ByteArray) (k : Nat) (h : k < s.size) : numsOf (hexl (s.data.toList.take (k + 1))) = numsOf (hexl (s.data.toList.take k)) ++ numsHex (bN s k) := by
  rw [hexl_snoc s k h, numsOf_append, numsOf_append, bN_at s k h, List.append_assoc]; rfl
theorem nh0 (A : List Int) (c : Nat) (x : Int) (h : ((dig (c / 16)).toNat : Int) = x) : A ++ (numsHex c).take 0 ++ [x] = A ++ (numsHex c).take 1 := by simp [numsHex, h]
theorem nh1 (A : List Int) (c : Nat) (x : Int) (h : ((dig (c % 16)).toNat : Int) = x) : A ++ (numsHex c).take 1 ++ [x] = A ++ (numsHex c).take 2 := by simp [numsHex, h]
theorem imod_mul (n : Int) (hn : 0 ≤ n) (a b : Nat) : n % ((a : Int) * b) = n % a + a * (n / a % b) := by
  obtain ⟨N, rfl⟩ := Int.eq_ofNat_of_zero_le hn
  exact_mod_cast (Nat.mod_mul (x := N) (a := a) (b := b))
theorem leN_wide (n : Int) (hn : 0 ≤ n) (m : Nat) : (leN ((wideL n m).map fun x => UInt8.ofNat x.toNat) : Int) = n % 2 ^ (8 * m) := by
  induction m with
  | zero => simp [wideL, leN, Int.emod_one]
  | succ m ih =>
    rw [wideL_succ, List.map_append, leN_append, List.length_map, wideL_length, Int.natCast_add, ih]
    have h0 : 0 ≤ n / 2 ^ (8 * m) := Int.ediv_nonneg hn (Int.pow_nonneg (by decide))
    have h1 : 0 ≤ n / 2 ^ (8 * m) % 256 := Int.emod_nonneg _ (by decide)
    have h2 : n / 2 ^ (8 * m) % 256 < 256 := Int.emod_lt_of_pos _ (by decide)
    have h3 : leN ([n / 2 ^ (8 * m) % 256].map fun x => UInt8.ofNat x.toNat) = (n / 2 ^ (8 * m) % 256).toNat := by
      simp only [List.map_cons, List.map_nil, leN, UInt8.toNat_ofNat']
      omega
    have e : (256 : Int) ^ m = 2 ^ (8 * m) := by rw [Int.pow_mul]; rfl
    rw [h3, Int.natCast_mul, Int.natCast_pow, Int.toNat_of_nonneg h1, show ((256 : Nat) : Int) = 256 from rfl, e, Nat.mul_add, Int.pow_add, show (2 : Int) ^ (8 * 1) = 256 from rfl]
    exact (imod_mul n hn (2 ^ (8 * m)) 256).symm
theorem wholeN_wide (n : Int) (hn : 0 ≤ n) (m : Nat) : (wholeN (strOfNums (wideL n m)) : Int) = n % 2 ^ (8 * m) := leN_wide n hn m
/-- What the laws of layer 1 speak of: so many texts, cut. -/
def fewL (xs : List ByteArray) : List ByteArray := (xs.take 66).map fun s => s.extract 0 (min s.size 4100)
/-- Texts that may be bound, and what they are bound to. -/
def mayBind (xs : List ByteArray) : Prop := xs.length ≤ 64 ∧ ∀ x ∈ xs, x.size ≤ 4096
def bind1 (x : ByteArray) : List UInt8 := (wideS x.size 2).data.toList ++ x.data.toList
def bindL (xs : List ByteArray) : List UInt8 := xs.flatMap bind1
def bindS (xs : List ByteArray) : ByteArray := ⟨(bindL xs).toArray⟩
theorem getD_at {α : Type} (xs : List α) (k : Nat) (d : α) (h : k < xs.length) : xs.getD k d = xs[k] := by rw [List.getD_eq_getElem?_getD, List.getElem?_eq_getElem h]; rfl
theorem take_next (xs : List ByteArray) (k : Nat) (h : k < xs.length) : xs.take (k + 1) = xs.take k ++ [xs.getD k ByteArray.empty] := by
  rw [List.take_succ_eq_append_getElem h, getD_at _ _ _ h]
theorem bindL_take (xs : List ByteArray) (k : Nat) (h : k < xs.length) : bindL (xs.take (k + 1)) = bindL (xs.take k) ++ (wideS (xs.getD k ByteArray.empty).size 2).data.toList ++ (xs.getD k ByteArray.empty).data.toList := by
  rw [take_next xs k h]; simp [bindL, bind1]
theorem all_take {p : ByteArray → Prop} (xs : List ByteArray) (k : Nat) (h : k < xs.length) (ha : ∀ x ∈ xs.take k, p x) : p (xs.getD k ByteArray.empty) → ∀ x ∈ xs.take (k + 1), p x := fun hp x hx => by
  rw [take_next xs k h, List.mem_append, List.mem_singleton] at hx
  rcases hx with hx | rfl
  · exact ha x hx
  · exact hp
theorem no_take (xs : List ByteArray) (k : Nat) (h : k < xs.length) : 4096 < (xs.getD k ByteArray.empty).size → ¬ mayBind xs := fun h4 hm => by
  have := hm.2 (xs.getD k ByteArray.empty) (by rw [getD_at _ _ _ h]; exact List.getElem_mem h)
  omega
theorem wide2_size (n : Nat) (h : n ≤ 4096) : (wideS n 2).size = 2 := by
  have hf : (2 : Nat) < 8 → (n : Int) / 2 ^ (8 * 2) = 0 := fun _ => by omega
  rw [show (2 : Int) = ((2 : Nat) : Int) from rfl, wideS_ok (by omega) hf, strOfNums_size, wideL_length]
theorem wide2_err (n : Nat) (h : n ≤ 4096) : wideE n 2 = 0 := by
  have hf : (2 : Nat) < 8 → (n : Int) / 2 ^ (8 * 2) = 0 := fun _ => by omega
  exact wideE_ok (m := 2) (by omega) hf
theorem bind1_length (x : ByteArray) (h : x.size ≤ 4096) : (bind1 x).length = 2 + x.size := by
  rw [bind1, List.length_append, Array.length_toList, Array.length_toList]
  show (wideS x.size 2).size + x.size = _
  rw [wide2_size _ h]
theorem bindL_le (l : List ByteArray) (ha : ∀ x ∈ l, x.size ≤ 4096) : (bindL l).length ≤ 4098 * l.length := by
  induction l with
  | nil => simp [bindL]
  | cons x l ih =>
    have h1 := bind1_length x (ha x List.mem_cons_self)
    have h2 := ih fun y hy => ha y (List.mem_cons_of_mem _ hy)
    have h3 := ha x List.mem_cons_self
    simp only [bindL, List.flatMap_cons, List.length_append, List.length_cons] at *
    omega
theorem bindL_length (xs : List ByteArray) (k : Nat) (h : k ≤ xs.length) (ha : ∀ x ∈ xs.take k, x.size ≤ 4096) : (bindL (xs.take k)).length ≤ 4098 * k := by
  have := bindL_le _ ha
  rwa [List.length_take, Nat.min_eq_left h] at this
theorem bindL_append (a b : List ByteArray) : bindL (a ++ b) = bindL a ++ bindL b := by simp [bindL]
theorem bindS_append (a b : List ByteArray) : bindS (a ++ b) = bindS a ++ bindS b := by
  apply ByteArray.ext
  rw [ByteArray.data_append]
  simp only [bindS, bindL_append, List.append_toArray]
theorem mayBind_one {s : ByteArray} (h : s.size ≤ 4096) : mayBind [s] := ⟨by simp, fun x hx => by rw [List.mem_singleton] at hx; rw [hx]; exact h⟩
theorem mayBind_snoc {l : List ByteArray} {s : ByteArray} (hl : mayBind l) (h : s.size ≤ 4096) : mayBind (l ++ [s]) ↔ l.length ≠ 64 := by
  have h1 := hl.1
  constructor
  · intro hm; have := hm.1; rw [List.length_append] at this; simp at this; omega
  · intro hn
    refine ⟨by rw [List.length_append]; simp; omega, fun x hx => ?_⟩
    rw [List.mem_append, List.mem_singleton] at hx
    rcases hx with hx | rfl
    · exact hl.2 x hx
    · exact h
theorem wide2_inj {a b : Nat} (ha : a ≤ 4096) (hb : b ≤ 4096) (h : wideS a 2 = wideS b 2) : a = b := by
  have fa : (2 : Nat) < 8 → (a : Int) / 2 ^ (8 * 2) = 0 := fun _ => by omega
  have fb : (2 : Nat) < 8 → (b : Int) / 2 ^ (8 * 2) = 0 := fun _ => by omega
  rw [show (2 : Int) = ((2 : Nat) : Int) from rfl, wideS_ok (by omega) fa, wideS_ok (by omega) fb] at h
  have h1 := wholeN_wide a (by omega) 2
  have h2 := wholeN_wide b (by omega) 2
  rw [h, h2] at h1
  omega
theorem bindL_inj : ∀ (l m : List ByteArray), (∀ x ∈ l, x.size ≤ 4096) → (∀ x ∈ m, x.size ≤ 4096) → bindL l = bindL m → l = m
  | [], [], _, _, _ => rfl
  | [], y :: m, _, hm, h => by
    have := bind1_length y (hm y List.mem_cons_self)
    have h2 := congrArg List.length h
    simp only [bindL, List.flatMap_nil, List.flatMap_cons, List.length_append, List.length_nil] at h2
    omega
  | x :: l, [], hl, _, h => by
    have := bind1_length x (hl x List.mem_cons_self)
    have h2 := congrArg List.length h
    simp only [bindL, List.flatMap_nil, List.flatMap_cons, List.length_append, List.length_nil] at h2
    omega
  | x :: l, y :: m, hl, hm, h => by
    have hx := hl x List.mem_cons_self
    have hy := hm y List.mem_cons_self
    simp only [bindL, List.flatMap_cons, bind1, List.append_assoc] at h
    have sx := wide2_size x.size hx
    have sy := wide2_size y.size hy
    obtain ⟨e1, e2⟩ := List.append_inj h (by rw [Array.length_toList, Array.length_toList]; exact sx.trans sy.symm)
    have e3 := wide2_inj hx hy (ByteArray.ext (Array.toList_inj.1 e1))
    obtain ⟨e4, e5⟩ := List.append_inj e2 (by rw [Array.length_toList, Array.length_toList]; exact e3)
    rw [ByteArray.ext (Array.toList_inj.1 e4), bindL_inj l m (fun z hz => hl z (List.mem_cons_of_mem _ hz)) (fun z hz => hm z (List.mem_cons_of_mem _ hz)) e5]
theorem bindS_inj {l m : List ByteArray} (hl : mayBind l) (hm : mayBind m) : bindS l = bindS m ↔ l = m :=
  ⟨fun h => bindL_inj l m hl.2 hm.2 (by have := congrArg ByteArray.data h; simpa [bindS] using this), fun h => by rw [h]⟩
theorem bindS_size {l : List ByteArray} (hl : mayBind l) : (bindS l).size ≤ 262272 := by
  have h1 := bindL_le l hl.2
  have h2 := hl.1
  show (bindL l).toArray.size ≤ _
  rw [List.size_toArray]; omega
end Go.Proofs.YtdcokepmblcdmaaDoor
end

section
/- Hex, read and written, in both ways. -/
namespace Go.Proofs.YtdcokepmblcdmaaDoor.V.M
set_option linter.unusedVariables false
set_option linter.unusedSimpArgs false
open Go Go.RowKit
theorem bn_dig (n : Nat) (h : n < 16) : bn (dig n) = if n < 10 then 48 + (n : Int) else 97 + (n : Int) - 10 := by
  have : ∀ n : Fin 16, bn (dig n.val) = if n.val < 10 then 48 + (n.val : Int) else 97 + (n.val : Int) - 10 := by decide
  exact this ⟨n, h⟩
end Go.Proofs.YtdcokepmblcdmaaDoor.V.M
end

section
/- Hex read back, in both ways; digests parsed in both ways. -/
namespace Go.Proofs.YtdcokepmblcdmaaDoor.V.M
set_option linter.unusedVariables false
set_option linter.unusedSimpArgs false
open Go Go.RowKit
def hx (c : UInt8) : Nat := if 48 ≤ c.toNat ∧ c.toNat ≤ 57 then c.toNat - 48 else if 97 ≤ c.toNat ∧ c.toNat ≤ 102 then c.toNat - 87 else 16
def un : Str → Option Str
  | [] => some []
  | [_] => none
  | a :: b :: r => if hx a < 16 ∧ hx b < 16 then (un r).map (UInt8.ofNat (16 * hx a + hx b) :: ·) else none
theorem u8_all {P : UInt8 → Prop} [DecidablePred P] (h : (List.range 256).all (fun n => decide (P (UInt8.ofNat n))) = true) (c : UInt8) : P c := by
  have := (List.all_eq_true.mp h) c.toNat (List.mem_range.mpr c.toNat_lt)
  simpa using this
abbrev dgs : Str := [48, 49, 50, 51, 52, 53, 54, 55, 56, 57, 97, 98, 99, 100, 101, 102]
theorem ib_ok (c : UInt8) : f_strings_IndexByte dgs (bn c) = some (if hx c < 16 then (hx c : Int) else -1) :=
  u8_all (P := fun c => f_strings_IndexByte dgs (bn c) = some (if hx c < 16 then (hx c : Int) else -1)) (by kernel_rfl) c
theorem half_ok (c : UInt8) : f_ref01_half (bn c) = some (hx c : Int) :=
  u8_all (P := fun c => f_ref01_half (bn c) = some (hx c : Int)) (by kernel_rfl) c
theorem hx_le (c : UInt8) : hx c ≤ 16 := by unfold hx; split <;> (try split) <;> omega
theorem hx_dig (n : Nat) (h : n < 16) : hx (dig n) = n := by
  have : ∀ n : Fin 16, hx (dig n.val) = n.val := by decide
  exact this ⟨n, h⟩
theorem un_hexl (x : Str) : un (hexl x) = some x := by
  induction x with
  | nil => rfl
  | cons c x ih =>
    have hc := c.toNat_lt
    show un (dig (c.toNat / 16) :: dig (c.toNat % 16) :: hexl x) = _
    rw [un, hx_dig _ (by omega), hx_dig _ (by omega), if_pos (by omega), ih, show 16 * (c.toNat / 16) + c.toNat % 16 = c.toNat by omega]; simp
theorem un_len : ∀ (n : Nat) (s x : Str), s.length ≤ n → un s = some x → s.length = 2 * x.length := by
  intro n
  induction n with
  | zero => intro s x h e; obtain rfl : s = [] := List.length_eq_zero_iff.mp (by omega); cases e; rfl
  | succ n ih =>
    intro s x h e
    match s, e with
    | [], e => cases e; rfl
    | [_], e => cases e
    | a :: b :: r, e =>
      rw [un] at e
      split at e
      · obtain ⟨y, hy, rfl⟩ := Option.map_eq_some_iff.mp e
        have := ih r y (by simp only [List.length_cons] at h; omega) hy
        simp only [List.length_cons]; omega
      · cases e
theorem w8h (a b : UInt8) (ha : hx a < 16) (hb : hx b < 16) : IntKind.u8.wrap (IntKind.i64.wrap ((IntKind.i64.wrap ((hx a : Int) * 16)) + (hx b : Int))) = bn (UInt8.ofNat (16 * hx a + hx b)) := by
  rw [w_i64 (n := (hx a : Int) * 16) (by omega) (by omega), w_i64 (by omega) (by omega), w_u8]; unfold bn; rw [UInt8.toNat_ofNat']; omega
theorem drop2 (s : Str) (v : Nat) (h : 2 * v + 1 < s.length) : s.drop (2 * v) = s.getD (2 * v) 0 :: s.getD (2 * v + 1) 0 :: s.drop (2 * (v + 1)) := by
  rw [List.drop_eq_getElem_cons (by omega), List.drop_eq_getElem_cons (i := 2 * v + 1) (by omega), List.getD_eq_getElem?_getD, List.getD_eq_getElem?_getD, List.getElem?_eq_getElem (by omega), List.getElem?_eq_getElem (by omega)]; rfl
theorem b12o (s : Str) (m : Nat) (hs : s.length = 2 * m) (hb : s.length < 9223372036854775807) (k : Nat) : ∀ (v : Nat) (pre : Str), v + k = m → pre.length = v →
    f_octet_Bytes_l12 s (k + 1) (v : Int) (pre.map bn ++ List.replicate k 0) = match un (s.drop (2 * v)) with | some x => some (.inl ((m : Int), (pre ++ x).map bn)) | none => some (.inr ([], 4)) := by
  have L : (((List.replicate (IntKind.i64.wrap ((s.length : Int).tdiv 2)).toNat (0 : Nat)).length : Nat) : Int) = (m : Int) := by
    rw [List.length_replicate, Int.tdiv_eq_ediv_of_nonneg (Int.natCast_nonneg _), w_i64 (by omega) (by omega)]; omega
  induction k with
  | zero =>
    intro v pre hv hp
    rw [f_octet_Bytes_l12, if_neg (by rw [L]; simp; omega), List.drop_of_length_le (by omega)]
    simp only [un, List.append_nil, List.replicate_zero]
    rw [show v = m by omega]
  | succ k ih =>
    intro v pre hv hp
    have e1 : IntKind.i64.wrap (2 * (v : Int)) = ((2 * v : Nat) : Int) := by rw [w_i64 (by omega) (by omega)]; omega
    have e2 : IntKind.i64.wrap (((2 * v : Nat) : Int) + 1) = ((2 * v + 1 : Nat) : Int) := by rw [w_i64 (by omega) (by omega)]; omega
    have e3 : IntKind.i64.wrap ((v : Int) + 1) = ((v + 1 : Nat) : Int) := by rw [w_i64 (by omega) (by omega)]; omega
    rw [f_octet_Bytes_l12, if_pos (by rw [L]; simp; omega), e1, e2, e3, ix_lt s 0 _ (by omega), Option.bind_some, ib_ok, Option.bind_some, ix_lt s 0 _ (by omega), Option.bind_some, ib_ok, Option.bind_some, drop2 s v (by omega), un]
    generalize s.getD (2 * v) 0 = a
    generalize s.getD (2 * v + 1) 0 = b
    by_cases c : hx a < 16 ∧ hx b < 16
    · rw [if_pos c.1, if_pos c.2, if_neg (by simp), if_pos c, ix_nat, List.getElem?_append_right (by simp; omega)]
      rw [show (List.replicate (k + 1) (0 : Int))[v - (pre.map bn).length]? = some 0 by rw [List.length_map, hp, Nat.sub_self]; rfl, Option.bind_some, w8h a b c.1 c.2, Int.toNat_natCast, List.set_append_right _ _ (by simp; omega), List.length_map, hp, Nat.sub_self, List.replicate_succ, List.set_cons_zero]
      have := ih (v + 1) (pre ++ [UInt8.ofNat (16 * hx a + hx b)]) (by omega) (by simp; omega)
      rw [List.map_append, List.append_assoc] at this
      rw [show (pre.map bn ++ bn (UInt8.ofNat (16 * hx a + hx b)) :: List.replicate k 0) = pre.map bn ++ (List.map bn [UInt8.ofNat (16 * hx a + hx b)] ++ List.replicate k 0) from rfl, this]
      cases un (s.drop (2 * (v + 1))) <;> simp
    · rw [if_neg c, if_pos]
      by_cases d : hx a < 16
      · rw [if_neg (show ¬ hx b < 16 by omega)]; simp
      · rw [if_neg d]; simp
theorem octBytes_ok (s : Str) (hb : s.length ≤ 140737488355328) : f_octet_Bytes s = some (match un s with | some x => (x, 0) | none => ([], 4)) := by
  unfold f_octet_Bytes
  by_cases c : s.length % 2 = 0
  · obtain ⟨m, hm⟩ : ∃ m, s.length = 2 * m := ⟨s.length / 2, by omega⟩
    have t : (s.length : Int).tdiv 2 = (m : Int) := by rw [Int.tdiv_eq_ediv_of_nonneg (Int.natCast_nonneg _)]; omega
    have q := b12o s m hm (by omega) m 0 [] (by omega) rfl
    rw [if_neg (by rw [Int.tmod_eq_emod_of_nonneg (Int.natCast_nonneg _)]; simp; omega)]
    rw [t, w_i64 (n := (m : Int)) (by omega) (by omega), gd_t _ (by omega), List.length_replicate, Int.toNat_natCast, show ((((m : Int)) - 0).toNat + 1) = m + 1 by omega]
    rw [show ((0 : Nat) : Int) = 0 from rfl, List.map_nil, List.nil_append, show 2 * 0 = 0 from rfl, List.drop_zero] at q
    rw [q]
    cases un s with
    | none => rfl
    | some x => simp only [Option.bind_some, List.nil_append, nb_bn]
  · rw [if_pos (by rw [Int.tmod_eq_emod_of_nonneg (Int.natCast_nonneg _)]; simp; omega)]
    have : un s = none := by
      cases e : un s with
      | none => rfl
      | some x => have := un_len s.length s x (Nat.le_refl _) e; omega
    rw [this]
abbrev pfx : Str := [115, 104, 97, 50, 53, 54, 58]
def parseS (s : Str) : Str × Int := if s.take 7 = pfx then (match un (s.drop 7) with | some x => if x.length = 32 then (x, 0) else ([], 6) | none => ([], 6)) else ([], 6)
theorem cutp_ok (s : Str) (hb : s.length ≤ 140737488355328) : f_strings_CutPrefix s pfx = some (if s.take 7 = pfx then (s.drop 7, true) else (s, false)) := by
  have L : ((pfx.length : Nat) : Int) = 7 := rfl
  have hp : f_internal_stringslite_HasPrefix s pfx = some (decide (s.take 7 = pfx)) := by
    unfold f_internal_stringslite_HasPrefix
    rw [L]
    rw [gd_t _ (by intro h; have := of_decide_eq_true h; omega), show cut s 0 7 = s.take 7 from cut_zero s 7]
    congr 1
    by_cases c : s.take 7 = pfx
    · have : 7 ≤ s.length := by have := congrArg List.length c; rw [List.length_take] at this; simp at this; omega
      simp [c]; omega
    · simp [c]
  unfold f_strings_CutPrefix f_internal_stringslite_CutPrefix
  rw [hp, Option.bind_some]
  by_cases c : s.take 7 = pfx
  · have : 7 ≤ s.length := by have := congrArg List.length c; rw [List.length_take] at this; simp at this; omega
    rw [if_neg (by simp [c]), if_pos c, L, gd_t _ (by omega), show cut s 7 (s.length : Int) = s.drop 7 from cut_all s 7]; rfl
  · rw [if_pos (by simp [c]), if_neg c]; rfl
theorem parse_ok (s : Str) (hb : s.length ≤ 140737488355328) : f_digest_Parse s = some (parseS s) := by
  unfold f_digest_Parse
  rw [cutp_ok s hb, Option.bind_some]
  unfold parseS
  by_cases c : s.take 7 = pfx
  · rw [if_pos c, if_pos c, octBytes_ok _ (by rw [List.length_drop]; omega), Option.bind_some]
    cases un (s.drop 7) with
    | none => rfl
    | some x =>
      by_cases d : x.length = 32
      · simp [d]
      · have : ¬ (x.length : Int) = 32 := by omega
        simp [d, this]
  · rw [if_neg c, if_neg c, octBytes_ok _ hb, Option.bind_some, if_pos (by simp)]
end Go.Proofs.YtdcokepmblcdmaaDoor.V.M
end

section
/- The laws DigestParses and DigestBack. -/
namespace Go.Proofs.YtdcokepmblcdmaaDoor.V.M
set_option linter.unusedVariables false
set_option linter.unusedSimpArgs false
open Go Go.RowKit
theorem w8r (a b : UInt8) (ha : hx a < 16) (hb : hx b < 16) : IntKind.u8.wrap (IntKind.i64.wrap ((IntKind.i64.wrap (16 * (hx a : Int))) + (hx b : Int))) = bn (UInt8.ofNat (16 * hx a + hx b)) := by
  rw [Int.mul_comm]; exact w8h a b ha hb
theorem r8_ok (s : Str) (m : Nat) (hs : s.length = 2 * m) (hb : s.length ≤ 140737488355328) (k : Nat) : ∀ (v F : Nat) (pre : Str), v + k = m → pre.length = v → k < F →
    f_ref01_Bytes_l8 s F ((2 * v : Nat) : Int) (pre.map bn) = match un (s.drop (2 * v)) with | some x => some (.inl ((s.length : Int), (pre ++ x).map bn)) | none => some (.inr ([], false)) := by
  induction k with
  | zero =>
    intro v F pre hv hp hF
    obtain ⟨F, rfl⟩ : ∃ F', F = F' + 1 := ⟨F - 1, by omega⟩
    have e2 : IntKind.i64.wrap (((2 * v : Nat) : Int) + 1) = ((2 * v + 1 : Nat) : Int) := by rw [w_i64 (by omega) (by omega)]; omega
    rw [f_ref01_Bytes_l8, e2, if_neg (by simp; omega), List.drop_of_length_le (by omega)]
    simp only [un, List.append_nil]
    rw [show 2 * v = s.length by omega]
  | succ k ih =>
    intro v F pre hv hp hF
    obtain ⟨F, rfl⟩ : ∃ F', F = F' + 1 := ⟨F - 1, by omega⟩
    have e2 : IntKind.i64.wrap (((2 * v : Nat) : Int) + 1) = ((2 * v + 1 : Nat) : Int) := by rw [w_i64 (by omega) (by omega)]; omega
    have e3 : IntKind.i64.wrap (((2 * v : Nat) : Int) + 2) = ((2 * (v + 1) : Nat) : Int) := by rw [w_i64 (by omega) (by omega)]; omega
    rw [f_ref01_Bytes_l8, e2, e3, if_pos (by simp; omega), ix_lt s 0 _ (by omega), Option.bind_some, half_ok, Option.bind_some, gd_t _ (by intro _; omega), Int.toNat_natCast, half_ok, drop2 s v (by omega), un, Option.bind_some, half_ok, Option.bind_some, ix_lt s 0 _ (by omega), Option.bind_some, half_ok, Option.bind_some]
    generalize s.getD (2 * v) 0 = a
    generalize s.getD (2 * v + 1) 0 = b
    by_cases c : hx a < 16
    · rw [show (!(decide ((hx a : Int) > 15))) = true by simp; omega, show gx true (some (hx b : Int)) default = some (hx b : Int) from rfl, Option.bind_some]
      by_cases d : hx b < 16
      · rw [if_neg (by simp; omega), if_pos ⟨c, d⟩, gd_t _ (by simp; omega), w8r a b c d]
        have := ih (v + 1) F (pre ++ [UInt8.ofNat (16 * hx a + hx b)]) (by omega) (by simp; omega) (by omega)
        rw [List.map_append] at this
        rw [show [bn (UInt8.ofNat (16 * hx a + hx b))] = List.map bn [UInt8.ofNat (16 * hx a + hx b)] from rfl, this]
        cases un (s.drop (2 * (v + 1))) <;> simp
      · rw [if_pos (by simp; omega), if_neg (by omega)]
    · rw [show (!(decide ((hx a : Int) > 15))) = false by simp; omega, show gx false (some (hx b : Int)) default = some default from rfl, Option.bind_some, if_pos (by simp; omega), if_neg (by omega)]
theorem refBytes_ok (s : Str) (m : Nat) (hs : s.length = 2 * m) (hb : s.length ≤ 140737488355328) : f_ref01_Bytes s = some (match un s with | some x => (x, true) | none => ([], false)) := by
  have q := r8_ok s m hs hb m 0 ((((s.length : Int) : Int) - (IntKind.i64.wrap (0 + 1))).toNat + 1) [] (by omega) rfl (by rw [show IntKind.i64.wrap (0 + 1) = 1 from by decide]; omega)
  unfold f_ref01_Bytes
  rw [show ((2 * 0 : Nat) : Int) = 0 from rfl, List.map_nil, show 2 * 0 = 0 from rfl, List.drop_zero] at q
  rw [q]
  cases un s with
  | none => rfl
  | some x =>
    rw [Option.bind_some]
    show some (((([] : Str) ++ x).map bn).map nb, _) = _
    rw [List.nil_append, nb_bn]
    congr 2
    rw [Int.tmod_eq_emod_of_nonneg (Int.natCast_nonneg _)]; simp; omega
def refParseS (s : Str) : Str × Bool := if s.length = 71 ∧ s.take 7 = pfx then (match un (s.drop 7) with | some x => (x, true) | none => ([], false)) else ([], false)
theorem refParse_ok (s : Str) : f_ref02_Parse s = some (refParseS s) := by
  unfold f_ref02_Parse refParseS
  rw [show cut s 0 7 = s.take 7 from cut_zero s 7, show cut s 7 (s.length : Int) = s.drop 7 from cut_all s 7]
  by_cases c : s.length = 71
  · rw [gd_t _ (by intro _; omega)]
    by_cases d : s.take 7 = pfx
    · rw [if_neg (by simp [c, d]), if_pos ⟨c, d⟩, gd_t _ (by omega), refBytes_ok _ 32 (by rw [List.length_drop]; omega) (by rw [List.length_drop]; omega), Option.bind_some]
    · rw [if_pos (by simp [d]), if_neg (fun h => d h.2)]
  · rw [gd_t _ (by intro h; simp at h; omega), if_pos (by simp; omega), if_neg (fun h => c h.1)]
theorem parseS_cases (s : Str) : (∃ x, parseS s = (x, 0) ∧ x.length = 32 ∧ refParseS s = (x, true)) ∨ (parseS s = ([], 6) ∧ refParseS s = ([], false)) := by
  unfold parseS refParseS
  by_cases c : s.take 7 = pfx
  · have l7 : 7 ≤ s.length := by have := congrArg List.length c; rw [List.length_take] at this; simp at this; omega
    rw [if_pos c]
    cases e : un (s.drop 7) with
    | none => right; refine ⟨rfl, ?_⟩; split <;> rfl
    | some x =>
      have l := un_len _ _ _ (Nat.le_refl _) e
      rw [List.length_drop] at l
      by_cases d : x.length = 32
      · left; exact ⟨x, by simp [d], d, by rw [if_pos ⟨by omega, c⟩]⟩
      · right; refine ⟨by simp [d], ?_⟩; rw [if_neg (by omega)]
  · right; rw [if_neg c, if_neg (fun h => c h.2)]; exact ⟨rfl, rfl⟩
end Go.Proofs.YtdcokepmblcdmaaDoor.V.M
end

section
/- The law DigestBack. -/
namespace Go.Proofs.YtdcokepmblcdmaaDoor.V.M
set_option linter.unusedVariables false
set_option linter.unusedSimpArgs false
open Go Go.RowKit
theorem take_if {α : Type} (x : List α) (n : Nat) (c : Int) (hc : c = (n : Int)) : cut x 0 (if c < (x.length : Int) then c else (x.length : Int)) = x.take n ∧ (0 ≤ (if c < (x.length : Int) then c else (x.length : Int)) ∧ (if c < (x.length : Int) then c else (x.length : Int)) ≤ (x.length : Int)) := by
  subst hc
  by_cases c : n < x.length
  · rw [if_pos (by omega)]; exact ⟨cut_zero x n, by omega⟩
  · rw [if_neg (by omega)]; refine ⟨?_, by omega⟩; rw [cut_zero, List.take_of_length_le (Nat.le_refl _), List.take_of_length_le (by omega)]
theorem join_le (n m : Nat) : ∀ l : List Str, l.length ≤ n → (∀ x ∈ l, x.length ≤ m) → (Lib.join l []).length ≤ n * m := by
  have e : ∀ l : List Str, Lib.join l [] = l.flatten := by
    intro l
    cases l with
    | nil => rfl
    | cons x r =>
      rw [Lib.join_cons, List.flatten_cons]; congr 1
      induction r with
      | nil => rfl
      | cons y r ih => simp [Lib.joinTail] at *
  intro l hl hx
  rw [e]
  have : ∀ l : List Str, (∀ x ∈ l, x.length ≤ m) → l.flatten.length ≤ l.length * m := by
    intro l
    induction l with
    | nil => intro _; simp
    | cons x l ih =>
      intro h
      have a := h x List.mem_cons_self
      have b := ih (fun y hy => h y (List.mem_cons_of_mem _ hy))
      rw [List.flatten_cons, List.length_append, List.length_cons, Nat.add_mul]; omega
  exact Nat.le_trans (this l hx) (Nat.mul_le_mul_right _ hl)
end Go.Proofs.YtdcokepmblcdmaaDoor.V.M
end

section
/- Names: what a part is, by both texts. -/
namespace Go.Proofs.YtdcokepmblcdmaaDoor.V.M
set_option linter.unusedVariables false
set_option linter.unusedSimpArgs false
open Go Go.RowKit
def sm (c : UInt8) : Bool := (decide (97 ≤ c.toNat) && decide (c.toNat ≤ 122)) || (decide (48 ≤ c.toNat) && decide (c.toNat ≤ 57))
theorem nsmall_ok (c : UInt8) : f_name_small (bn c) = some (sm c) := u8_all (P := fun c => f_name_small (bn c) = some (sm c)) (by kernel_rfl) c
theorem rsmall_ok (c : UInt8) : f_ref03_small (bn c) = some (sm c) := u8_all (P := fun c => f_ref03_small (bn c) = some (sm c)) (by kernel_rfl) c
theorem bn45 (c : UInt8) : (bn c == 45) = decide (c = 45) := u8_all (P := fun c => (bn c == 45) = decide (c = 45)) (by kernel_rfl) c
theorem bn46 (c : UInt8) : (bn c == 46) = decide (c = 46) := u8_all (P := fun c => (bn c == 46) = decide (c = 46)) (by kernel_rfl) c
theorem bn95 (c : UInt8) : (bn c == 95) = decide (c = 95) := u8_all (P := fun c => (bn c == 95) = decide (c = 95)) (by kernel_rfl) c
theorem bn47 (c : UInt8) : (bn c == 47) = decide (c = 47) := u8_all (P := fun c => (bn c == 47) = decide (c = 47)) (by kernel_rfl) c
theorem bn64 (c : UInt8) : (bn c == 64) = decide (c = 64) := u8_all (P := fun c => (bn c == 64) = decide (c = 64)) (by kernel_rfl) c
/-- The rest of a part behind the byte p, run bytes behind the last letter. -/
def partGo : Nat → UInt8 → Str → Bool
  | run, _, [] => run == 0
  | run, p, c :: l => if sm c then partGo 0 c l else if c = 45 then (if run ≠ 0 ∧ p ≠ 45 then false else partGo (run + 1) c l) else if c = 95 ∧ run = 1 ∧ p = 95 then partGo (run + 1) c l else if (c = 95 ∨ c = 46) ∧ run = 0 then partGo (run + 1) c l else false
def partS : Str → Bool
  | [] => false
  | c :: l => sm c && partGo 0 c l
theorem ix_app {α : Type} (pre : List α) (c : α) (l : List α) (n : Nat) (hn : n = pre.length) : ix (pre ++ c :: l) (n : Int) = some c := by subst hn; rw [ix_nat]; simp
theorem getD_app (pre : Str) (c : UInt8) (l : Str) (n : Nat) (hn : n = pre.length) : (pre ++ c :: l).getD n 0 = c := by subst hn; simp
theorem w_nat {n : Nat} (h : n < 9223372036854775808) : IntKind.i64.wrap (n : Int) = n := w_i64 (by omega) (by omega)
theorem w_s {n : Nat} (h : n + 1 < 9223372036854775808) : IntKind.i64.wrap ((n : Int) + 1) = ((n + 1 : Nat) : Int) := by rw [w_i64 (by omega) (by omega)]; rfl
theorem w_p {n : Nat} (h : n < 9223372036854775808) : IntKind.i64.wrap (((n + 1 : Nat) : Int) - 1) = (n : Int) := by rw [w_i64 (by omega) (by omega)]; omega
theorem l21_step (s pre l : Str) (p c : UInt8) (run m : Nat) (hs : s = pre ++ p :: c :: l) (hb : s.length < 4611686018427387904) (hr : run < 4611686018427387904) :
    f_name_part_l21 s (m + 1) run ((pre.length + 1 : Nat) : Int) = if sm c then f_name_part_l21 s m ((0 : Nat) : Int) ((pre.length + 1 + 1 : Nat) : Int) else if c = 45 then (if run ≠ 0 ∧ p ≠ 45 then some (.inr false) else f_name_part_l21 s m ((run + 1 : Nat) : Int) ((pre.length + 1 + 1 : Nat) : Int)) else if c = 95 ∧ run = 1 ∧ p = 95 then f_name_part_l21 s m ((run + 1 : Nat) : Int) ((pre.length + 1 + 1 : Nat) : Int) else if (c = 95 ∨ c = 46) ∧ run = 0 then f_name_part_l21 s m ((run + 1 : Nat) : Int) ((pre.length + 1 + 1 : Nat) : Int) else some (.inr false) := by
  have hl : s.length = pre.length + 2 + l.length := by rw [hs]; simp; omega
  rw [f_name_part_l21.eq_2, if_pos (by simp; omega)]
  have e1 : ix s ((pre.length + 1 : Nat) : Int) = some c := by rw [hs, show pre ++ p :: c :: l = (pre ++ [p]) ++ c :: l by simp]; exact ix_app _ _ _ _ (by simp)
  have e2 : s.getD pre.length 0 = p := by rw [hs]; exact getD_app _ _ _ _ rfl
  rw [e1, Option.bind_some, nsmall_ok, Option.bind_some, w_s (by omega), w_s (by omega), w_p (by omega), Int.toNat_natCast, e2, bn45, bn95, bn46, show (bn p != 45) = !(decide (p = 45)) by rw [bne, bn45], bn95]
  by_cases h1 : sm c = true
  · rw [if_pos h1, if_pos h1]; rfl
  · rw [if_neg h1, if_neg h1]
    by_cases h2 : c = 45
    · subst h2
      rw [if_pos rfl, if_pos (by decide), gd_t _ (fun _ => by omega)]
      by_cases h3 : run ≠ 0 ∧ p ≠ 45
      · rw [if_pos h3, if_pos (by simp [h3]; omega)]
      · rw [if_neg h3, if_neg (by simp at h3 ⊢; intro h; exact h3 (by omega)), if_neg (by simp; omega)]
    · rw [if_neg h2, if_neg (by simpa using h2), gd_t _ (fun _ => by omega)]
      have hz : (((pre.length + 1 : Nat) : Int) == 0) = false := by simp; omega
      by_cases h4 : c = 95 ∧ run = 1 ∧ p = 95
      · rw [if_pos h4]
        obtain ⟨rfl, rfl, rfl⟩ := h4
        simp [hz]; intro h; omega
      · rw [if_neg h4, if_neg (by simp at h4 ⊢; intro a b; exact h4 a (by omega))]
        by_cases h5 : (c = 95 ∨ c = 46) ∧ run = 0
        · rw [if_pos h5]
          obtain ⟨h5, rfl⟩ := h5
          rcases h5 with rfl | rfl
          · simp [hz]; intro h; omega
          · simp [hz]; intro h; omega
        · rw [if_neg h5]
          by_cases h6 : c = 95
          · rw [if_pos (by simpa using h6), if_pos (by simp; simp [h6] at h5; omega)]
          · rw [if_neg (by simpa using h6)]
            by_cases h7 : c = 46
            · rw [if_pos (by simpa using h7), if_pos (by simp; simp [h7] at h5; omega)]
            · rw [if_neg (by simpa using h7)]
theorem l21_ok (s : Str) (hb : s.length < 4611686018427387904) : ∀ (suf pre : Str) (p : UInt8) (run m : Nat), s = pre ++ p :: suf → run + suf.length ≤ s.length → suf.length < m →
    (partGo run p suf = false ∧ f_name_part_l21 s m run ((pre.length + 1 : Nat) : Int) = some (.inr false)) ∨ ∃ r : Nat, f_name_part_l21 s m run ((pre.length + 1 : Nat) : Int) = some (.inl ((r : Int), (s.length : Int))) ∧ partGo run p suf = (r == 0) := by
  intro suf
  induction suf with
  | nil =>
    intro pre p run m hs hr hm
    obtain ⟨m, rfl⟩ : ∃ k, m = k + 1 := ⟨m - 1, by omega⟩
    have hl : s.length = pre.length + 1 := by rw [hs]; simp
    refine .inr ⟨run, ?_, rfl⟩
    rw [f_name_part_l21.eq_2, if_neg (by simp; omega), hl]
  | cons c l ih =>
    intro pre p run m hs hr hm
    obtain ⟨m, rfl⟩ : ∃ k, m = k + 1 := ⟨m - 1, by omega⟩
    have hl : s.length = pre.length + 2 + l.length := by rw [hs]; simp; omega
    have hs2 : s = (pre ++ [p]) ++ c :: l := by rw [hs]; simp
    simp only [List.length_cons] at hr hm
    rw [l21_step s pre l p c run m hs hb (by omega), partGo]
    have key := fun (r : Nat) (h : r + l.length ≤ s.length) => ih (pre ++ [p]) c r m hs2 h (by omega)
    simp only [List.length_append, List.length_singleton] at key
    by_cases h1 : sm c = true
    · rw [if_pos h1, if_pos h1]; exact key 0 (by omega)
    · rw [if_neg h1, if_neg h1]
      by_cases h2 : c = 45
      · rw [if_pos h2, if_pos h2]
        by_cases h3 : run ≠ 0 ∧ p ≠ 45
        · rw [if_pos h3, if_pos h3]; exact .inl ⟨rfl, rfl⟩
        · rw [if_neg h3, if_neg h3]; exact key (run + 1) (by omega)
      · rw [if_neg h2, if_neg h2]
        by_cases h4 : c = 95 ∧ run = 1 ∧ p = 95
        · rw [if_pos h4, if_pos h4]; exact key (run + 1) (by omega)
        · rw [if_neg h4, if_neg h4]
          by_cases h5 : (c = 95 ∨ c = 46) ∧ run = 0
          · rw [if_pos h5, if_pos h5]; exact key (run + 1) (by omega)
          · rw [if_neg h5, if_neg h5]; exact .inl ⟨rfl, rfl⟩
theorem part_first (c : UInt8) (l : Str) (m : Nat) (hb : (c :: l).length < 4611686018427387904) : f_name_part_l21 (c :: l) (m + 1) 0 0 = if sm c then f_name_part_l21 (c :: l) m ((0 : Nat) : Int) ((0 + 1 : Nat) : Int) else some (.inr false) := by
  rw [f_name_part_l21.eq_2, if_pos (by simp), show ix (c :: l) 0 = some c from rfl, Option.bind_some, nsmall_ok, Option.bind_some]
  by_cases h1 : sm c = true
  · rw [if_pos h1, if_pos h1]; rfl
  · rw [if_neg h1, if_neg h1, show (decide ((0 : Int) > 0)) = false from rfl, show ((0 : Int) == 1) = false from rfl, show ((0 : Int) == 0) = true from rfl]
    simp only [Bool.and_false, Bool.false_and, if_true, Bool.false_eq_true, if_false]
    rw [gd_t _ (fun h => by cases h), gd_t _ (fun h => by cases h)]
    split
    · rfl
    · split
      · rfl
      · split <;> rfl
theorem part_ok (s : Str) (hb : s.length < 4611686018427387904) : f_name_part s = some (partS s) := by
  unfold f_name_part
  cases s with
  | nil => rfl
  | cons c l =>
    rw [show ((((c :: l).length : Int) : Int) - 0).toNat + 1 = (l.length + 1) + 1 by simp, part_first c l _ hb, partS]
    by_cases h1 : sm c = true
    · rw [if_pos h1, h1]
      rcases l21_ok (c :: l) hb l [] c 0 (l.length + 1) rfl (by simp) (by omega) with ⟨h2, h3⟩ | ⟨r, h2, h3⟩
      · simp only [List.length_nil] at h3
        rw [h3, Option.bind_some, h2]; rfl
      · simp only [List.length_nil] at h2
        rw [h2, Option.bind_some, h3]
        have : ((r : Int) == 0) = (r == 0) := by rw [Bool.eq_iff_iff]; simp
        simp [this]
    · rw [if_neg h1, Option.bind_some]
      have : sm c = false := by simpa using h1
      rw [this]; rfl
end Go.Proofs.YtdcokepmblcdmaaDoor.V.M
end

section
/- Names: the document's parts are the same. -/
namespace Go.Proofs.YtdcokepmblcdmaaDoor.V.M
set_option linter.unusedVariables false
set_option linter.unusedSimpArgs false
open Go Go.RowKit
def markS (m : Str) : Bool := m == [46] || m == [95] || m == [95, 95] || (m.all (· == 45) && m != [])
def refGo : Str → Str → Bool
  | _, [] => true
  | now, c :: l => if sm c then (if now ≠ [] ∧ markS now = false then false else refGo [] l) else refGo (now ++ [c]) l
theorem mark8_ok (s : Str) (hb : s.length < 4611686018427387904) : ∀ (suf pre : Str) (m : Nat), s = pre ++ suf → suf.length < m → f_ref03_mark_l8 s m (pre.length : Int) = some (if suf.all (· == 45) then .inl (s.length : Int) else .inr false) := by
  intro suf
  induction suf with
  | nil =>
    intro pre m hs hm
    obtain ⟨m, rfl⟩ : ∃ k, m = k + 1 := ⟨m - 1, by omega⟩
    have hl : s.length = pre.length := by rw [hs]; simp
    rw [f_ref03_mark_l8.eq_2, if_neg (by simp; omega), hl]; rfl
  | cons c l ih =>
    intro pre m hs hm
    obtain ⟨m, rfl⟩ : ∃ k, m = k + 1 := ⟨m - 1, by omega⟩
    have hl : s.length = pre.length + 1 + l.length := by rw [hs]; simp; omega
    simp only [List.length_cons] at hm
    rw [f_ref03_mark_l8.eq_2, if_pos (by simp; omega), show ix s (pre.length : Int) = some c by rw [hs]; exact ix_app _ _ _ _ rfl, Option.bind_some, show (bn c != 45) = !(decide (c = 45)) by rw [bne, bn45], w_s (by omega)]
    by_cases h : c = 45
    · rw [if_neg (by simp [h])]
      have := ih (pre ++ [c]) m (by rw [hs]; simp) (by omega)
      simp only [List.length_append, List.length_singleton] at this
      rw [this, h]; simp
    · rw [if_pos (by simp [h])]; simp [h]
theorem mark_ok (s : Str) (hb : s.length < 4611686018427387904) : f_ref03_mark s = some (markS s) := by
  unfold f_ref03_mark markS
  by_cases h : ((s == [46] || s == [95]) || s == [95, 95]) = true
  · rw [if_pos h, h]; rfl
  · rw [if_neg h]
    have h' : ((s == [46] || s == [95]) || s == [95, 95]) = false := by simpa using h
    have := mark8_ok s hb s [] (((s.length : Int) - 0).toNat + 1) rfl (by omega)
    simp only [List.length_nil] at this
    rw [show (0 : Int) = ((0 : Nat) : Int) from rfl] at *
    rw [this, Option.bind_some, h']
    by_cases ha : s.all (· == 45) = true
    · rw [if_pos ha, ha]; cases s <;> simp
    · rw [if_neg ha]
      have : s.all (· == 45) = false := by simpa using ha
      rw [this]; rfl
theorem part12_ok (s : Str) (hb : s.length < 4611686018427387904) : ∀ (suf pre now : Str) (m : Nat), s = pre ++ suf → now.length ≤ pre.length → suf.length < m → ∃ r, f_ref03_Part_l12 s m now (pre.length : Int) = some r ∧ (refGo now suf = false ∧ r = .inr false ∨ refGo now suf = true ∧ ∃ q, r = .inl q) := by
  intro suf
  induction suf with
  | nil =>
    intro pre now m hs hn hm
    obtain ⟨m, rfl⟩ : ∃ k, m = k + 1 := ⟨m - 1, by omega⟩
    have hl : s.length = pre.length := by rw [hs]; simp
    rw [f_ref03_Part_l12.eq_2, if_neg (by simp; omega)]
    exact ⟨_, rfl, .inr ⟨rfl, _, rfl⟩⟩
  | cons c l ih =>
    intro pre now m hs hn hm
    obtain ⟨m, rfl⟩ : ∃ k, m = k + 1 := ⟨m - 1, by omega⟩
    have hl : s.length = pre.length + 1 + l.length := by rw [hs]; simp; omega
    simp only [List.length_cons] at hm
    have e1 : ix s (pre.length : Int) = some c := by rw [hs]; exact ix_app _ _ _ _ rfl
    have e2 : cut s (pre.length : Int) ((pre.length + 1 : Nat) : Int) = [c] := by
      unfold cut; rw [hs, show pre ++ c :: l = (pre ++ [c]) ++ l by simp, Int.toNat_natCast, Int.toNat_natCast, List.take_append_of_le_length (by simp), List.take_of_length_le (by simp)]; simp
    have key := fun (n : Str) (h : n.length ≤ pre.length + 1) => ih (pre ++ [c]) n m (by rw [hs]; simp) (by simpa using h) (by omega)
    simp only [List.length_append, List.length_singleton] at key
    rw [f_ref03_Part_l12.eq_2, if_pos (by simp; omega), e1, Option.bind_some, rsmall_ok, Option.bind_some, w_s (by omega), e2, refGo]
    by_cases h1 : sm c = true
    · rw [if_neg (by simp [h1]), if_pos h1]
      by_cases h2 : now = []
      · subst h2
        rw [show gx (!(([] : Str) == [])) (f_ref03_mark []) default = some default from rfl, Option.bind_some, if_neg (by decide), if_neg (by simp)]
        exact key [] (by simp)
      · rw [show gx (!(now == [])) (f_ref03_mark now) default = f_ref03_mark now by rw [show (!(now == [])) = true by simpa using h2]; rfl, mark_ok now (by omega), Option.bind_some]
        by_cases h3 : markS now = true
        · rw [if_neg (by simp [h3]), if_neg (by simp [h3])]; exact key [] (by simp)
        · rw [if_pos (by simp [h2]; simpa using h3), if_pos ⟨h2, by simpa using h3⟩]
          exact ⟨_, rfl, .inl ⟨rfl, rfl⟩⟩
    · rw [if_pos (by simpa using h1), if_neg h1, gd_t _ (by omega), gd_t _ (by simp; omega)]
      exact key (now ++ [c]) (by simp; omega)
/-- Whether the last byte of a text, that goes on behind a mark, is a letter. -/
def ends : Str → Str → Bool
  | now, [] => now == []
  | now, c :: l => ends (if sm c then [] else now ++ [c]) l
theorem ends_last : ∀ (l now : Str) (h : l ≠ []), ends now l = sm (l.getLast h)
  | [c], now, _ => by
    simp only [ends, List.getLast_singleton]
    by_cases h : sm c = true
    · rw [if_pos h, h]; rfl
    · rw [if_neg h]
      have : sm c = false := by simpa using h
      rw [this]; simp
  | c :: d :: l, now, _ => by
    rw [ends, ends_last (d :: l) _ (by simp)]; rfl
def V (now l : Str) : Bool := refGo now l && ends now l
theorem V_cons_s {now l : Str} {c : UInt8} (h : sm c = true) (hm : now = [] ∨ markS now = true) : V now (c :: l) = V [] l := by
  unfold V
  rw [refGo, if_pos h, if_neg (by rintro ⟨a, b⟩; rcases hm with hm | hm; exact a hm; rw [hm] at b; cases b), ends, if_pos h]
theorem V_cons_m {now l : Str} {c : UInt8} (h : ¬ sm c = true) : V now (c :: l) = V (now ++ [c]) l := by
  unfold V
  rw [refGo, if_neg h, ends, if_neg h]
theorem V_bad : ∀ (l now : Str), now ≠ [] → (∀ e, markS (now ++ e) = false) → V now l = false
  | [], now, h, _ => by simp [V, ends, h]
  | c :: l, now, h, hb => by
    by_cases h1 : sm c = true
    · unfold V; rw [refGo, if_pos h1, if_pos ⟨h, by simpa using hb []⟩]; rfl
    · rw [V_cons_m h1]
      exact V_bad l (now ++ [c]) (by simp) (fun e => by rw [List.append_assoc]; exact hb _)
def good (now : Str) : Prop := now = [] ∨ now = [46] ∨ now = [95] ∨ now = [95, 95] ∨ ∃ k, now = List.replicate (k + 1) 45
theorem sm_marks : sm 45 = false ∧ sm 46 = false ∧ sm 95 = false := by decide
theorem all45 (k : Nat) : (List.replicate k (45 : UInt8)).all (· == 45) = true := by simp
theorem rep_ne (k : Nat) (c : UInt8) (hc : c ≠ 45) (e : Str) : markS (List.replicate (k + 1) 45 ++ [c] ++ e) = false := by
  unfold markS
  rw [List.replicate_succ]
  simp [hc]
theorem part_eq : ∀ (l now : Str) (p : UInt8), good now → (∀ q, now.getLast? = some q → p = q) → (now = [] → sm p = true) → partGo now.length p l = V now l
  | [], now, p, _, _, _ => by
    rw [partGo, V, refGo, ends]; cases now <;> simp
  | c :: l, now, p, hg, hp, hs => by
    rw [partGo]
    by_cases h1 : sm c = true
    · rw [if_pos h1, V_cons_s h1]
      · exact part_eq l [] c (.inl rfl) (by simp) (fun _ => h1)
      · rcases hg with rfl | rfl | rfl | rfl | ⟨k, rfl⟩
        · exact .inl rfl
        · exact .inr rfl
        · exact .inr rfl
        · exact .inr rfl
        · right; unfold markS; rw [all45]; simp
    · rw [if_neg h1, V_cons_m h1]
      have go := fun (h : good (now ++ [c])) => part_eq l (now ++ [c]) c h (by simp) (by simp)
      simp only [List.length_append, List.length_singleton] at go
      have bad := fun (h : ∀ e, markS (now ++ [c] ++ e) = false) => (V_bad l (now ++ [c]) (by simp) h).symm
      rcases hg with rfl | rfl | rfl | rfl | ⟨k, rfl⟩
      · by_cases h2 : c = 45
        · rw [if_pos h2, if_neg (by simp)]; exact go (.inr (.inr (.inr (.inr ⟨0, by simp [h2]⟩))))
        · rw [if_neg h2, if_neg (by simp)]
          by_cases h3 : c = 95
          · rw [if_pos ⟨.inl h3, rfl⟩]; exact go (.inr (.inr (.inl (by simp [h3]))))
          · by_cases h4 : c = 46
            · rw [if_pos ⟨.inr h4, rfl⟩]; exact go (.inr (.inl (by simp [h4])))
            · rw [if_neg (by simp [h3, h4])]; exact bad (fun e => by simp [markS, h2, h3, h4])
      · obtain rfl := hp 46 rfl
        by_cases h2 : c = 45
        · rw [if_pos h2, if_pos (by decide)]; exact bad (fun e => by simp [markS])
        · rw [if_neg h2, if_neg (by simp), if_neg (by simp)]; exact bad (fun e => by simp [markS])
      · obtain rfl := hp 95 rfl
        by_cases h2 : c = 45
        · rw [if_pos h2, if_pos (by decide)]; exact bad (fun e => by simp [markS, h2])
        · rw [if_neg h2]
          by_cases h3 : c = 95
          · rw [if_pos ⟨h3, rfl, rfl⟩]; exact go (.inr (.inr (.inr (.inl (by simp [h3])))))
          · rw [if_neg (by simp [h3]), if_neg (by simp)]; exact bad (fun e => by simp [markS, h3])
      · obtain rfl := hp 95 rfl
        by_cases h2 : c = 45
        · rw [if_pos h2, if_pos (by decide)]; exact bad (fun e => by simp [markS])
        · rw [if_neg h2, if_neg (by simp), if_neg (by simp)]; exact bad (fun e => by simp [markS])
      · obtain rfl : p = 45 := hp 45 (by rw [List.getLast?_replicate]; simp)
        by_cases h2 : c = 45
        · rw [if_pos h2, if_neg (by simp)]
          exact go (.inr (.inr (.inr (.inr ⟨k + 1, by rw [h2]; exact (List.replicate_succ' ..).symm⟩))))
        · rw [if_neg h2, if_neg (by simp), if_neg (by simp)]; exact bad (fun e => rep_ne k c h2 e)
theorem refPart_ok (s : Str) (hb : s.length < 4611686018427387904) : f_ref03_Part s = some (partS s) := by
  unfold f_ref03_Part
  cases s with
  | nil => rfl
  | cons c l =>
    have hne : ((c :: l : Str) == []) = false := by simp
    rw [hne, gd_t _ (fun _ => by simp), show gx (!false) (f_ref03_small (bn ((c :: l).getD 0 0))) default = some (sm c) from rsmall_ok c, Option.bind_some]
    have hw : IntKind.i64.wrap (((c :: l).length : Int) - 1) = (l.length : Int) := by rw [w_i64 (by omega) (by simp at hb ⊢; omega)]; simp
    rw [hw, gd_t _ (fun _ => by simp; omega), Int.toNat_natCast, partS]
    by_cases h1 : sm c = true
    · have hlast : (c :: l).getD l.length 0 = (c :: l).getLast (by simp) := by
        rw [List.getLast_eq_getElem, List.getD_eq_getElem?_getD, List.getElem?_eq_getElem (by simp)]; simp
      rw [h1, hlast, show gx (!(false || !true)) (f_ref03_small (bn ((c :: l).getLast (by simp)))) default = some (sm ((c :: l).getLast (by simp))) from rsmall_ok _, Option.bind_some]
      have hE := ends_last (c :: l) [] (by simp)
      have hV : partGo 0 c l = V [] l := part_eq l [] c (.inl rfl) (by simp) (fun _ => h1)
      have hV2 : V [] (c :: l) = V [] l := V_cons_s h1 (.inl rfl)
      rw [hV, ← hV2, V, hE]
      by_cases h2 : sm ((c :: l).getLast (by simp)) = true
      · rw [h2, if_neg (by decide)]
        obtain ⟨r, h3, h4⟩ := part12_ok (c :: l) hb (c :: l) [] [] ((((c :: l).length : Int) - 0).toNat + 1) rfl (by simp) (by simp)
        simp only [List.length_nil] at h3
        rw [show (0 : Int) = ((0 : Nat) : Int) from rfl] at *
        rw [h3, Option.bind_some]
        rcases h4 with ⟨h5, rfl⟩ | ⟨h5, q, rfl⟩ <;> (rw [h5]; rfl)
      · have h3 : sm ((c :: l).getLast (by simp)) = false := by simpa using h2
        rw [h3, if_pos (by decide)]; simp
    · have h2 : sm c = false := by simpa using h1
      rw [h2, show gx (!(false || !false)) (f_ref03_small (bn ((c :: l).getD l.length 0))) default = some default from rfl, Option.bind_some, if_pos (by simp)]; rfl
end Go.Proofs.YtdcokepmblcdmaaDoor.V.M
end

section
/- Names: repositories and tags, by both texts. -/
namespace Go.Proofs.YtdcokepmblcdmaaDoor.V.M
set_option linter.unusedVariables false
set_option linter.unusedSimpArgs false
open Go Go.RowKit
theorem splitOnB_len (c : UInt8) : ∀ (s : Str), (splitOnB c s).length ≤ s.length + 1 ∧ ∀ x ∈ splitOnB c s, x.length ≤ s.length
  | [] => ⟨by simp [splitOnB], by simp [splitOnB]⟩
  | x :: l => by
    obtain ⟨h1, h2⟩ := splitOnB_len c l
    unfold splitOnB
    by_cases h : x = c
    · rw [if_pos h]
      refine ⟨by simp; omega, fun y hy => ?_⟩
      rcases List.mem_cons.1 hy with rfl | hy
      · simp
      · have := h2 y hy; simp; omega
    · rw [if_neg h]
      split
      · rename_i y t e
        rw [e] at h1 h2
        simp only [List.length_cons] at h1
        refine ⟨by simp; omega, fun z hz => ?_⟩
        rcases List.mem_cons.1 hz with rfl | hz
        · have := h2 y (List.mem_cons_self ..); simp; omega
        · have := h2 z (List.mem_cons_of_mem _ hz); simp; omega
      · simp
/-- The pieces that come when now stands ahead of the first one. -/
def glue (now : Str) : List Str → List Str
  | [] => [now]
  | h :: t => (now ++ h) :: t
theorem glue_nil (c : UInt8) (s : Str) : glue [] (splitOnB c s) = splitOnB c s := by
  cases h : splitOnB c s with
  | nil => exact absurd h (splitOnB_ne c s)
  | cons x l => rfl
theorem glue_cons (c x : UInt8) (now l : Str) (h : x ≠ c) : glue now (splitOnB c (x :: l)) = glue (now ++ [x]) (splitOnB c l) := by
  rw [splitOnB, if_neg h]
  cases e : splitOnB c l with
  | nil => exact absurd e (splitOnB_ne c l)
  | cons y t => simp [glue]
theorem glue_hit (c : UInt8) (now l : Str) : glue now (splitOnB c (c :: l)) = now :: splitOnB c l := by
  rw [splitOnB, if_pos rfl]; simp [glue]
theorem split10_ok (b : UInt8) (s : Str) (hb : s.length < 1000000000000) : ∀ (suf pre now : Str) (out : List Str) (m : Nat), s = pre ++ suf → now.length ≤ pre.length → out.length ≤ pre.length → suf.length < m →
    ∃ q now' out', f_ref03_Split_l10 s (bn b) m now (pre.length : Int) out = some (now', q, out') ∧ out'.length ≤ s.length ∧ out' ++ [now'] = out ++ glue now (splitOnB b suf) := by
  intro suf
  induction suf with
  | nil =>
    intro pre now out m hs hn ho hm
    obtain ⟨m, rfl⟩ : ∃ k, m = k + 1 := ⟨m - 1, by omega⟩
    have hl : s.length = pre.length := by rw [hs]; simp
    rw [f_ref03_Split_l10.eq_2, if_neg (by simp; omega)]
    exact ⟨_, _, _, rfl, by omega, by simp [splitOnB, glue]⟩
  | cons c l ih =>
    intro pre now out m hs hn ho hm
    obtain ⟨m, rfl⟩ : ∃ k, m = k + 1 := ⟨m - 1, by omega⟩
    have hl : s.length = pre.length + 1 + l.length := by rw [hs]; simp; omega
    simp only [List.length_cons] at hm
    have e1 : ix s (pre.length : Int) = some c := by rw [hs]; exact ix_app _ _ _ _ rfl
    have e2 : cut s (pre.length : Int) ((pre.length + 1 : Nat) : Int) = [c] := by
      unfold cut; rw [hs, show pre ++ c :: l = (pre ++ [c]) ++ l by simp, Int.toNat_natCast, Int.toNat_natCast, List.take_append_of_le_length (by simp), List.take_of_length_le (by simp)]; simp
    have key := fun (n : Str) (o : List Str) (h : n.length ≤ pre.length + 1) (h2 : o.length ≤ pre.length + 1) => ih (pre ++ [c]) n o m (by rw [hs]; simp) (by simpa using h) (by simpa using h2) (by omega)
    simp only [List.length_append, List.length_singleton] at key
    rw [f_ref03_Split_l10.eq_2, if_pos (by simp; omega), e1, Option.bind_some, w_s (by omega), e2]
    by_cases h : c = b
    · subst h
      rw [if_pos (by simp), gd_t _ (by omega)]
      obtain ⟨q, n', o', h1, h2, h3⟩ := key [] (out ++ [now]) (by simp) (by simp; omega)
      refine ⟨q, n', o', h1, h2, ?_⟩
      rw [h3, glue_nil, glue_hit]; simp
    · rw [if_neg (by
        intro e
        apply h
        have : bn c = bn b := by simpa using e
        unfold bn at this
        exact UInt8.toNat_inj.1 (by omega)), gd_t _ (by omega), gd_t _ (by simp; omega)]
      obtain ⟨q, n', o', h1, h2, h3⟩ := key (now ++ [c]) out (by simp; omega) (by omega)
      refine ⟨q, n', o', h1, h2, ?_⟩
      rw [h3, glue_cons _ _ _ _ h]
theorem split_ok (b : UInt8) (s : Str) (hb : s.length < 1000000000000) : f_ref03_Split s (bn b) = some (splitOnB b s) := by
  obtain ⟨q, n', o', h1, h2, h3⟩ := split10_ok b s hb s [] [] [] (((s.length : Int) - 0).toNat + 1) rfl (by simp) (by simp) (by omega)
  unfold f_ref03_Split
  simp only [List.length_nil] at h1
  rw [show (0 : Int) = ((0 : Nat) : Int) from rfl] at *
  rw [h1, Option.bind_some, gd_t _ (by dsimp only; omega)]
  dsimp only
  rw [h3, glue_nil]; rfl
def repoS (s : Str) : Bool := decide (s.length ≤ 128) && (splitOnB 47 s).all partS
theorem allO_ok {α : Type} {f : α → Option Bool} {g : α → Bool} : ∀ (l : List α), (∀ x ∈ l, f x = some (g x)) → allO f l = some (l.all g)
  | [], _ => rfl
  | x :: l, h => by
    rw [allO, h x (List.mem_cons_self ..), Option.bind_some, List.all_cons]
    cases g x with
    | true => rw [if_pos rfl, allO_ok l (fun y hy => h y (List.mem_cons_of_mem _ hy))]; rfl
    | false => rfl
theorem repo_ok (s : Str) (hb : s.length < 1000000000000) : f_name_Repo s = some (repoS s) := by
  unfold f_name_Repo repoOf repoS
  by_cases h : 128 < s.length
  · rw [if_pos h]
    have : decide (s.length ≤ 128) = false := by simp; omega
    rw [this]; rfl
  · rw [if_neg h, allO_ok (g := partS) _ (fun x hx => part_ok x (by have := (splitOnB_len 47 s).2 x hx; omega))]
    have : decide (s.length ≤ 128) = true := by simp; omega
    rw [this]; rfl
theorem rrepo7_ok (s : Str) (t : List Str) (ht : t.length < 4611686018427387904) (hp : ∀ x ∈ t, x.length < 4611686018427387904) : ∀ (suf pre : List Str) (m : Nat), t = pre ++ suf → suf.length < m → f_ref03_Repo_l7 s t m (pre.length : Int) = some (if suf.all partS then .inl (t.length : Int) else .inr false) := by
  intro suf
  induction suf with
  | nil =>
    intro pre m hs hm
    obtain ⟨m, rfl⟩ : ∃ k, m = k + 1 := ⟨m - 1, by omega⟩
    have hl : t.length = pre.length := by rw [hs]; simp
    rw [f_ref03_Repo_l7.eq_2, if_neg (by simp; omega), hl]; rfl
  | cons c l ih =>
    intro pre m hs hm
    obtain ⟨m, rfl⟩ : ∃ k, m = k + 1 := ⟨m - 1, by omega⟩
    have hl : t.length = pre.length + 1 + l.length := by rw [hs]; simp; omega
    simp only [List.length_cons] at hm
    rw [f_ref03_Repo_l7.eq_2, if_pos (by simp; omega), show ix t (pre.length : Int) = some c by rw [hs]; exact ix_app _ _ _ _ rfl, Option.bind_some, refPart_ok c (hp c (by rw [hs]; simp)), Option.bind_some, w_s (by omega)]
    by_cases h : partS c = true
    · rw [if_neg (by simp [h])]
      have := ih (pre ++ [c]) m (by rw [hs]; simp) (by omega)
      simp only [List.length_append, List.length_singleton] at this
      rw [this, List.all_cons, h]; rfl
    · rw [if_pos (by simpa using h), List.all_cons]
      have : partS c = false := by simpa using h
      rw [this]; rfl
theorem refRepo_ok (s : Str) (hb : s.length < 1000000000000) : f_ref03_Repo s = some (repoS s) := by
  unfold f_ref03_Repo
  have hL := splitOnB_len 47 s
  rw [show (47 : Int) = bn 47 from rfl, split_ok 47 s hb, Option.bind_some]
  have := rrepo7_ok s (splitOnB 47 s) (by omega) (fun x hx => by have := hL.2 x hx; omega) (splitOnB 47 s) [] ((((splitOnB 47 s).length : Int) - 0).toNat + 1) rfl (by omega)
  simp only [List.length_nil] at this
  rw [show (0 : Int) = ((0 : Nat) : Int) from rfl] at *
  rw [this, Option.bind_some, repoS]
  by_cases h : (splitOnB 47 s).all partS = true
  · rw [if_pos h, h]
    have e : decide ((s.length : Int) ≤ 128) = decide (s.length ≤ 128) := by rw [decide_eq_decide]; omega
    simp [e]
  · rw [if_neg h]
    have : (splitOnB 47 s).all partS = false := by simpa using h
    rw [this]; simp
/-- A byte of a tag; at its begin. -/
def tg (c : UInt8) : Bool := sm c || (decide (65 ≤ c.toNat) && decide (c.toNat ≤ 90)) || decide (c = 95)
def tgm (c : UInt8) : Bool := decide (c = 46) || decide (c = 45)
def tagS : Str → Bool
  | [] => false
  | c :: l => decide ((c :: l).length ≤ 128) && (tg c && l.all fun c => tg c || tgm c)
theorem tg_ok (c : UInt8) : ((sm c || ((decide ((bn c) ≥ 65)) && (decide ((bn c) ≤ 90)))) || ((bn c) == 95)) = tg c := u8_all (P := fun c => ((sm c || ((decide ((bn c) ≥ 65)) && (decide ((bn c) ≤ 90)))) || ((bn c) == 95)) = tg c) (by kernel_rfl) c
theorem tgm_ok (c : UInt8) : (((bn c) == 46) || ((bn c) == 45)) = tgm c := u8_all (P := fun c => (((bn c) == 46) || ((bn c) == 45)) = tgm c) (by kernel_rfl) c
theorem tag8_ok (s : Str) (hb : s.length < 4611686018427387904) : ∀ (suf pre : Str) (m : Nat), s = pre ++ suf → 0 < pre.length → suf.length < m → f_name_Tag_l8 s m (pre.length : Int) = some (if suf.all (fun c => tg c || tgm c) then .inl (s.length : Int) else .inr false) := by
  intro suf
  induction suf with
  | nil =>
    intro pre m hs h0 hm
    obtain ⟨m, rfl⟩ : ∃ k, m = k + 1 := ⟨m - 1, by omega⟩
    have hl : s.length = pre.length := by rw [hs]; simp
    rw [f_name_Tag_l8.eq_2, if_neg (by simp; omega), hl]; rfl
  | cons c l ih =>
    intro pre m hs h0 hm
    obtain ⟨m, rfl⟩ : ∃ k, m = k + 1 := ⟨m - 1, by omega⟩
    have hl : s.length = pre.length + 1 + l.length := by rw [hs]; simp; omega
    simp only [List.length_cons] at hm
    rw [f_name_Tag_l8.eq_2, if_pos (by simp; omega), show ix s (pre.length : Int) = some c by rw [hs]; exact ix_app _ _ _ _ rfl, Option.bind_some, nsmall_ok, Option.bind_some, w_s (by omega), tg_ok, tgm_ok, show decide ((pre.length : Int) > 0) = true by simp; omega, Bool.true_and, List.all_cons]
    by_cases h : (tg c || tgm c) = true
    · rw [if_pos h]
      have := ih (pre ++ [c]) m (by rw [hs]; simp) (by simp) (by omega)
      simp only [List.length_append, List.length_singleton] at this
      rw [this, h]; rfl
    · rw [if_neg h]
      have : (tg c || tgm c) = false := by simpa using h
      rw [this]; rfl
theorem tag_ok (s : Str) (hb : s.length < 4611686018427387904) : f_name_Tag s = some (tagS s) := by
  unfold f_name_Tag
  cases s with
  | nil => rfl
  | cons c l =>
    rw [show ((((c :: l).length : Int) : Int) - 0).toNat + 1 = (l.length + 1) + 1 by simp, f_name_Tag_l8.eq_2, if_pos (by simp), show ix (c :: l) 0 = some c from rfl, Option.bind_some, nsmall_ok, Option.bind_some, tg_ok, tgm_ok, show decide ((0 : Int) > 0) = false from rfl, Bool.false_and, Bool.or_false, show IntKind.i64.wrap ((0 : Int) + 1) = (([c] : Str).length : Int) from rfl, tag8_ok (c :: l) hb l [c] _ rfl (by simp) (by omega), tagS]
    have e : decide (((c :: l).length : Int) ≤ 128) = decide ((c :: l).length ≤ 128) := by rw [decide_eq_decide]; omega
    by_cases h1 : tg c = true
    · rw [if_pos h1, Option.bind_some, h1, e]
      by_cases h2 : l.all (fun c => tg c || tgm c) = true
      · rw [if_pos h2, h2]; simp
      · rw [if_neg h2]
        have : l.all (fun c => tg c || tgm c) = false := by simpa using h2
        rw [this]; simp
    · rw [if_neg h1, Option.bind_some]
      have : tg c = false := by simpa using h1
      rw [this]; simp
theorem rtg_ok (c : UInt8) : (((((!sm c) && ((decide ((bn c) < 65)) || (decide ((bn c) > 90)))) && ((bn c) != 95)) && ((bn c) != 46)) && ((bn c) != 45)) = !(tg c || tgm c) := u8_all (P := fun c => (((((!sm c) && ((decide ((bn c) < 65)) || (decide ((bn c) > 90)))) && ((bn c) != 95)) && ((bn c) != 46)) && ((bn c) != 45)) = !(tg c || tgm c)) (by kernel_rfl) c
theorem rtag7_ok (s : Str) (hb : s.length < 4611686018427387904) : ∀ (suf pre : Str) (m : Nat), s = pre ++ suf → suf.length < m → f_ref03_Tag_l7 s m (pre.length : Int) = some (if suf.all (fun c => tg c || tgm c) then .inl (s.length : Int) else .inr false) := by
  intro suf
  induction suf with
  | nil =>
    intro pre m hs hm
    obtain ⟨m, rfl⟩ : ∃ k, m = k + 1 := ⟨m - 1, by omega⟩
    have hl : s.length = pre.length := by rw [hs]; simp
    rw [f_ref03_Tag_l7.eq_2, if_neg (by simp; omega), hl]; rfl
  | cons c l ih =>
    intro pre m hs hm
    obtain ⟨m, rfl⟩ : ∃ k, m = k + 1 := ⟨m - 1, by omega⟩
    have hl : s.length = pre.length + 1 + l.length := by rw [hs]; simp; omega
    simp only [List.length_cons] at hm
    rw [f_ref03_Tag_l7.eq_2, if_pos (by simp; omega), show ix s (pre.length : Int) = some c by rw [hs]; exact ix_app _ _ _ _ rfl, Option.bind_some, rsmall_ok, Option.bind_some, w_s (by omega), rtg_ok, List.all_cons]
    by_cases h : (tg c || tgm c) = true
    · rw [h, if_neg (by decide)]
      have := ih (pre ++ [c]) m (by rw [hs]; simp) (by omega)
      simp only [List.length_append, List.length_singleton] at this
      rw [this]; rfl
    · have h' : (tg c || tgm c) = false := by simpa using h
      rw [h', if_pos (by decide)]; rfl
theorem tg_first (c : UInt8) : (((bn c) != 46) && ((bn c) != 45) && (tg c || tgm c)) = tg c := u8_all (P := fun c => (((bn c) != 46) && ((bn c) != 45) && (tg c || tgm c)) = tg c) (by kernel_rfl) c
theorem refTag_ok (s : Str) (hb : s.length < 4611686018427387904) : f_ref03_Tag s = some (tagS s) := by
  unfold f_ref03_Tag
  have := rtag7_ok s hb s [] (((s.length : Int) - 0).toNat + 1) rfl (by omega)
  simp only [List.length_nil] at this
  rw [show f_ref03_Tag_l7 s (((s.length : Int) - 0).toNat + 1) 0 = f_ref03_Tag_l7 s (((s.length : Int) - 0).toNat + 1) ((0 : Nat) : Int) from rfl, this, Option.bind_some]
  cases s with
  | nil => rfl
  | cons c l =>
    have hf := tg_first c
    have e : decide (((c :: l).length : Int) ≤ 128) = decide ((c :: l).length ≤ 128) := by rw [decide_eq_decide]; omega
    rw [List.all_cons, tagS]
    by_cases h : ((tg c || tgm c) && l.all (fun c => tg c || tgm c)) = true
    · rw [if_pos h]
      dsimp only
      rw [gd_t _ (fun _ => by simp), gd_t _ (fun _ => by simp), e, show ((c :: l).getD 0 0) = c from rfl, show decide (((c :: l).length : Int) > 0) = true by simp]
      simp only [Bool.and_eq_true] at h
      rw [h.1, Bool.and_true] at hf
      rw [← hf, h.2]
      cases decide ((c :: l).length ≤ 128) <;> simp
    · rw [if_neg h]
      have h' : ((tg c || tgm c) && l.all (fun c => tg c || tgm c)) = false := by simpa using h
      rw [← hf]
      cases hq : (tg c || tgm c) with
      | false => simp
      | true => rw [hq, Bool.true_and] at h'; rw [h']; simp
end Go.Proofs.YtdcokepmblcdmaaDoor.V.M
end

section
/- Names: references, by both texts. -/
namespace Go.Proofs.YtdcokepmblcdmaaDoor.V.M
set_option linter.unusedVariables false
set_option linter.unusedSimpArgs false
open Go Go.RowKit
theorem gx_some {α : Type} (g : Bool) (x d : α) : gx g (some x) d = some (if g then x else d) := by cases g <;> rfl
theorem nshort_ok (s : Str) : f_law03_short s = some (s.take 220) := by
  obtain ⟨h1, h2⟩ := take_if s 220 220 rfl
  unfold f_law03_short
  rw [gd_t _ h2, h1]
theorem nalive_ok : f_law03_alive = some true := by kernel_rfl
def dig2 (d : Str) : Bool := (parseS d).2 == 0
theorem dig2_nil : dig2 [] = false := by decide
theorem refParse2 (s : Str) : (refParseS s).2 = dig2 s := by
  unfold dig2
  rcases parseS_cases s with ⟨x, h1, _, h2⟩ | ⟨h1, h2⟩ <;> (rw [h1, h2]; rfl)
def printS (r : api_Ref) : Str × Int := if repoS r.Repo = false then ([], 1) else if r.Digest = [] ∧ tagS r.Tag = true then (r.Repo ++ [58] ++ r.Tag, 0) else if r.Tag = [] ∧ dig2 r.Digest = true then (r.Repo ++ [64] ++ r.Digest, 0) else ([], 1)
def small3 (r : api_Ref) : Prop := r.Repo.length < 1000000000000 ∧ r.Tag.length < 1000000000000 ∧ r.Digest.length < 1000000000000
theorem print_ok (r : api_Ref) (h : small3 r) : f_name_Print r = some (printS r) := by
  obtain ⟨h1, h2, h3⟩ := h
  unfold f_name_Print printS
  have g1 : ∀ k : Option (Str × Int), gd (r.Repo.length + 1 ≤ 9223372036854775807) k = k := fun k => gd_t k (by omega)
  have g2 : ∀ k : Option (Str × Int), gd ((r.Repo ++ ([58] : Str)).length + r.Tag.length ≤ 9223372036854775807) k = k := fun k => gd_t k (by simp; omega)
  have g3 : ∀ k : Option (Str × Int), gd ((r.Repo ++ ([64] : Str)).length + r.Digest.length ≤ 9223372036854775807) k = k := fun k => gd_t k (by simp; omega)
  rw [parse_ok _ (by omega), Option.bind_some, repo_ok _ h1, Option.bind_some, tag_ok _ (by omega), gx_some, Option.bind_some, g1, g2, g1, g3]
  unfold dig2
  by_cases hr : repoS r.Repo = true
  · by_cases hd : r.Digest = []
    · by_cases ht : tagS r.Tag = true
      · simp [hr, hd, ht]
      · have : (parseS []).2 = 6 := by decide
        simp [hr, hd, ht, this]
    · by_cases ht : r.Tag = []
      · by_cases hp : (parseS r.Digest).2 = 0
        · simp [hr, hd, ht, hp]
        · simp [hr, hd, ht, hp]
      · simp [hr, hd, ht]
  · simp [hr]
theorem right_ok (r : api_Ref) (h : small3 r) : f_ref03_Right r = some (repoS r.Repo && ((r.Digest == [] && tagS r.Tag) || (r.Tag == [] && dig2 r.Digest))) := by
  obtain ⟨h1, h2, h3⟩ := h
  unfold f_ref03_Right
  rw [refParse_ok, Option.bind_some, refRepo_ok _ h1, Option.bind_some, refTag_ok _ (by omega), gx_some, Option.bind_some, refParse2]
  cases repoS r.Repo <;> cases (r.Digest == []) <;> cases tagS r.Tag <;> cases (r.Tag == []) <;> cases dig2 r.Digest <;> rfl
theorem text_ok (r : api_Ref) (h : small3 r) : f_ref03_Text r = some (if r.Digest = [] then r.Repo ++ [58] ++ r.Tag else r.Repo ++ [64] ++ r.Digest) := by
  obtain ⟨h1, h2, h3⟩ := h
  unfold f_ref03_Text
  by_cases hd : r.Digest = []
  · rw [if_pos (by simpa using hd), if_pos hd, gd_t _ (by omega), gd_t _ (by simp; omega)]
  · rw [if_neg (by simpa using hd), if_neg hd, gd_t _ (by omega), gd_t _ (by simp; omega)]
def cutS (c : UInt8) : Str → Str × Str × Bool
  | [] => ([], [], false)
  | x :: l => if x = c then ([], l, true) else (x :: (cutS c l).1, (cutS c l).2.1, (cutS c l).2.2)
theorem cutS_eq (c : UInt8) : ∀ (s : Str), (Lib.indexByte s c < 0 ∧ cutS c s = (s, [], false)) ∨ ∃ i : Nat, Lib.indexByte s c = i ∧ i < s.length ∧ cutS c s = (s.take i, s.drop (i + 1), true)
  | [] => .inl ⟨by unfold Lib.indexByte; decide, rfl⟩
  | x :: l => by
    unfold Lib.indexByte
    by_cases h : x = c
    · subst h
      exact .inr ⟨0, by simp, by simp, by simp [cutS]⟩
    · rw [if_neg (by simpa using h), cutS, if_neg h]
      have g := Lib.indexByte_ge l c
      rcases cutS_eq c l with ⟨h1, h2⟩ | ⟨i, h1, h2, h3⟩
      · have : Lib.indexByte l c = -1 := by omega
        rw [this, h2]; exact .inl ⟨by decide, rfl⟩
      · rw [if_neg (by rw [h1]; simp), h3, h1]
        exact .inr ⟨i + 1, by omega, by simp; omega, by simp⟩
theorem cut_ok (c : UInt8) (s : Str) (hb : s.length < 4611686018427387904) : f_strings_Cut s [c] = some (cutS c s) := by
  unfold f_strings_Cut f_internal_stringslite_Cut
  rw [show f_internal_stringslite_Index s [c] = some (Lib.indexByte s c) from rfl, Option.bind_some]
  rcases cutS_eq c s with ⟨h1, h2⟩ | ⟨i, h1, h2, h3⟩
  · rw [if_neg (by simpa using h1), Option.bind_some, h2]
  · have hw : IntKind.i64.wrap ((i : Int) + (([c] : Str).length : Int)) = ((i + 1 : Nat) : Int) := w_s (by omega)
    rw [h1, if_pos (by simp), hw, gd_t _ (by omega), gd_t _ (by omega), cut_zero, cut_all, Option.bind_some, h3]
theorem cutS_true {c : UInt8} : ∀ {s : Str}, (cutS c s).2.2 = true → s = (cutS c s).1 ++ c :: (cutS c s).2.1 ∧ c ∉ (cutS c s).1
  | [], h => by cases h
  | x :: l, h => by
    rw [cutS] at h ⊢
    by_cases hx : x = c
    · rw [if_pos hx]; simp [hx]
    · rw [if_neg hx] at h ⊢
      obtain ⟨h1, h2⟩ := cutS_true (s := l) h
      refine ⟨by dsimp only; rw [List.cons_append, ← h1], by simp only [List.mem_cons, not_or]; exact ⟨fun e => hx e.symm, h2⟩⟩
theorem cutS_false {c : UInt8} : ∀ {s : Str}, (cutS c s).2.2 = false → c ∉ s ∧ (cutS c s).1 = s ∧ (cutS c s).2.1 = []
  | [], _ => by simp [cutS]
  | x :: l, h => by
    rw [cutS] at h ⊢
    by_cases hx : x = c
    · rw [if_pos hx] at h; cases h
    · rw [if_neg hx] at h ⊢
      obtain ⟨h1, h2, h3⟩ := cutS_false (s := l) h
      exact ⟨by simp only [List.mem_cons, not_or]; exact ⟨fun e => hx e.symm, h1⟩, by dsimp only; rw [h2], h3⟩
theorem cutS_mem {c : UInt8} {s : Str} (h : c ∈ s) : (cutS c s).2.2 = true := by
  cases e : (cutS c s).2.2 with
  | true => rfl
  | false => exact absurd h (cutS_false e).1
theorem cutS_app {c : UInt8} : ∀ {a : Str} (b : Str), c ∉ a → cutS c (a ++ c :: b) = (a, b, true)
  | [], b, _ => by simp [cutS]
  | x :: a, b, h => by
    simp only [List.mem_cons, not_or] at h
    rw [List.cons_append, cutS, if_neg (fun e => h.1 e.symm), cutS_app b h.2]
theorem cutS_no {c : UInt8} {s : Str} (h : c ∉ s) : cutS c s = (s, [], false) := by
  cases e : (cutS c s).2.2 with
  | true => have := cutS_true e; exact absurd (by rw [this.1]; simp) h
  | false =>
    obtain ⟨_, h2, h3⟩ := cutS_false e
    exact Prod.ext h2 (Prod.ext h3 e)
/-- What a text's reference is. -/
def parseR (s : Str) : Option api_Ref :=
  if (cutS 64 s).2.2 = true then (if repoS (cutS 64 s).1 = true ∧ dig2 (cutS 64 s).2.1 = true then some (api_Ref.mk (cutS 64 s).1 [] (cutS 64 s).2.1) else none)
  else if repoS (cutS 58 s).1 = true ∧ tagS (cutS 58 s).2.1 = true then some (api_Ref.mk (cutS 58 s).1 (cutS 58 s).2.1 []) else none
def parsed (o : Option api_Ref) : api_Ref × Int := match o with
  | some r => (r, 0)
  | none => (api_Ref.mk [] [] [], 5)
theorem cutS_len (c : UInt8) (s : Str) : (cutS c s).1.length ≤ s.length ∧ (cutS c s).2.1.length ≤ s.length := by
  cases e : (cutS c s).2.2 with
  | true =>
    have := congrArg List.length (cutS_true e).1
    simp only [List.length_append, List.length_cons] at this
    omega
  | false =>
    obtain ⟨_, h2, h3⟩ := cutS_false e
    rw [h2, h3]; simp
theorem tag_nil : tagS [] = false := rfl
theorem nparse_ok (s : Str) (hb : s.length < 1000000000000) : f_name_Parse s = some (parsed (parseR s)) := by
  unfold f_name_Parse
  have l64 := cutS_len 64 s
  have l58 := cutS_len 58 s
  rw [cut_ok 64 s (by omega), Option.bind_some]
  by_cases h : (cutS 64 s).2.2 = true
  · obtain ⟨h1, h2⟩ := cutS_true h
    rw [if_pos h, Option.bind_some, print_ok _ ⟨by dsimp only; omega, by simp, by dsimp only; omega⟩, Option.bind_some, parseR, if_pos h]
    unfold printS
    dsimp only
    generalize (cutS 64 s).1 = a at *
    generalize (cutS 64 s).2.1 = b at *
    by_cases hr : repoS a = true
    · by_cases hd : dig2 b = true
      · have : a ++ [64] ++ b = s := by rw [h1]; simp
        simp [hr, hd, tag_nil, parsed, h1]
      · simp [hr, hd, tag_nil, parsed]
    · simp [hr, parsed]
  · rw [if_neg h, cut_ok 58 s (by omega), Option.bind_some, Option.bind_some, print_ok _ ⟨by dsimp only; omega, by dsimp only; omega, by simp⟩, Option.bind_some, parseR, if_neg h]
    unfold printS
    dsimp only
    have hc : tagS (cutS 58 s).2.1 = true → s = (cutS 58 s).1 ++ 58 :: (cutS 58 s).2.1 := by
      intro ht
      cases e : (cutS 58 s).2.2 with
      | true => exact (cutS_true e).1
      | false => rw [(cutS_false e).2.2, tag_nil] at ht; cases ht
    generalize (cutS 58 s).1 = a at *
    generalize (cutS 58 s).2.1 = b at *
    by_cases hr : repoS a = true
    · by_cases ht : tagS b = true
      · simp [hr, ht, parsed, hc ht]
      · simp [hr, ht, dig2_nil, parsed]
    · simp [hr, parsed]
/-- The bytes of a name. -/
def nb8 (c : UInt8) : Bool := sm c || c == 45 || c == 95 || c == 46
theorem partGo_mem : ∀ (l : Str) (run : Nat) (p : UInt8), partGo run p l = true → ∀ c ∈ l, nb8 c = true
  | [], _, _, _, c, h => by cases h
  | x :: l, run, p, h, c, hc => by
    rw [partGo] at h
    have go : ∀ (q : Bool) (r : Nat), (if q = true then partGo r x l else false) = true → nb8 x = true → nb8 c = true := by
      intro q r h1 h2
      rcases List.mem_cons.1 hc with rfl | hc
      · exact h2
      · cases q with
        | true => rw [if_pos rfl] at h1; exact partGo_mem l _ _ h1 c hc
        | false => cases h1
    by_cases h1 : sm x = true
    · rw [if_pos h1] at h; exact go true 0 h (by simp [nb8, h1])
    · rw [if_neg h1] at h
      by_cases h2 : x = 45
      · rw [if_pos h2] at h
        by_cases h3 : run ≠ 0 ∧ p ≠ 45
        · rw [if_pos h3] at h; cases h
        · rw [if_neg h3] at h; exact go true _ h (by simp [nb8, h2])
      · rw [if_neg h2] at h
        by_cases h4 : x = 95 ∧ run = 1 ∧ p = 95
        · rw [if_pos h4] at h; exact go true _ h (by simp [nb8, h4.1])
        · rw [if_neg h4] at h
          by_cases h5 : (x = 95 ∨ x = 46) ∧ run = 0
          · rw [if_pos h5] at h
            refine go true _ h ?_
            rcases h5.1 with e | e <;> simp [nb8, e]
          · rw [if_neg h5] at h; cases h
theorem part_mem {s : Str} (h : partS s = true) : ∀ c ∈ s, nb8 c = true := by
  cases s with
  | nil => cases h
  | cons x l =>
    rw [partS, Bool.and_eq_true] at h
    intro c hc
    rcases List.mem_cons.1 hc with rfl | hc
    · simp [nb8, h.1]
    · exact partGo_mem l _ _ h.2 c hc
theorem split_mem (b : UInt8) : ∀ (s : Str) (c : UInt8), c ∈ s → c = b ∨ ∃ x ∈ splitOnB b s, c ∈ x
  | [], c, h => by cases h
  | x :: l, c, h => by
    rw [splitOnB]
    by_cases hx : x = b
    · rw [if_pos hx]
      rcases List.mem_cons.1 h with rfl | h
      · exact .inl hx
      · rcases split_mem b l c h with e | ⟨y, hy, hc⟩
        · exact .inl e
        · exact .inr ⟨y, List.mem_cons_of_mem _ hy, hc⟩
    · rw [if_neg hx]
      cases e : splitOnB b l with
      | nil => exact absurd e (splitOnB_ne b l)
      | cons y t =>
        dsimp only
        rcases List.mem_cons.1 h with rfl | h
        · exact .inr ⟨c :: y, List.mem_cons_self .., List.mem_cons_self ..⟩
        · rcases split_mem b l c h with e1 | ⟨z, hz, hc⟩
          · exact .inl e1
          · rw [e] at hz
            rcases List.mem_cons.1 hz with rfl | hz
            · exact .inr ⟨x :: z, List.mem_cons_self .., List.mem_cons_of_mem _ hc⟩
            · exact .inr ⟨z, List.mem_cons_of_mem _ hz, hc⟩
theorem repo_mem {s : Str} (h : repoS s = true) (c : UInt8) (hc : c ∈ s) : (c == 47 || nb8 c) = true := by
  unfold repoS at h
  rw [Bool.and_eq_true] at h
  rcases split_mem 47 s c hc with rfl | ⟨x, hx, hcx⟩
  · rfl
  · have := part_mem (List.all_eq_true.1 h.2 x hx) c hcx
    rw [this]; simp
theorem repo_clean {s : Str} (h : repoS s = true) : 58 ∉ s ∧ 64 ∉ s := ⟨fun hc => absurd (repo_mem h 58 hc) (by decide), fun hc => absurd (repo_mem h 64 hc) (by decide)⟩
theorem tag_clean {s : Str} (h : tagS s = true) : 58 ∉ s ∧ 64 ∉ s := by
  cases s with
  | nil => cases h
  | cons x l =>
    rw [tagS, Bool.and_eq_true, Bool.and_eq_true] at h
    have key : ∀ c ∈ x :: l, (tg c || tgm c) = true := by
      intro c hc
      rcases List.mem_cons.1 hc with rfl | hc
      · rw [h.2.1]; rfl
      · exact List.all_eq_true.1 h.2.2 c hc
    exact ⟨fun hc => absurd (key 58 hc) (by decide), fun hc => absurd (key 64 hc) (by decide)⟩
end Go.Proofs.YtdcokepmblcdmaaDoor.V.M
end

section
/- Names: the laws NameMay, NameParses, NameBack, NameParts, NameMarks. -/
namespace Go.Proofs.YtdcokepmblcdmaaDoor.V.M
set_option linter.unusedVariables false
set_option linter.unusedSimpArgs false
open Go Go.RowKit
def refFind : Str → Str → Option api_Ref
  | _, [] => none
  | pre, c :: l => if c = 64 ∧ repoS pre = true ∧ dig2 l = true then some (api_Ref.mk pre [] l) else if c = 58 ∧ repoS pre = true ∧ tagS l = true then some (api_Ref.mk pre l []) else refFind (pre ++ [c]) l
theorem refFind_bad : ∀ (l pre : Str), repoS pre = false → (58 ∈ pre ∨ 64 ∈ pre) → refFind pre l = none
  | [], _, _, _ => rfl
  | c :: l, pre, h, hm => by
    rw [refFind, if_neg (by simp [h]), if_neg (by simp [h])]
    have hm2 : 58 ∈ pre ++ [c] ∨ 64 ∈ pre ++ [c] := hm.imp (fun h => List.mem_append_left _ h) (fun h => List.mem_append_left _ h)
    refine refFind_bad l (pre ++ [c]) ?_ hm2
    cases e : repoS (pre ++ [c]) with
    | false => rfl
    | true => rcases hm2 with h | h; exact absurd h (repo_clean e).1; exact absurd h (repo_clean e).2
theorem bad_of {pre : Str} (hm : 58 ∈ pre ∨ 64 ∈ pre) : repoS pre = false := by
  cases e : repoS pre with
  | false => rfl
  | true => rcases hm with h | h; exact absurd h (repo_clean e).1; exact absurd h (repo_clean e).2
def parseR2 (pre s : Str) : Option api_Ref :=
  if (cutS 64 s).2.2 = true then (if repoS (pre ++ (cutS 64 s).1) = true ∧ dig2 (cutS 64 s).2.1 = true then some (api_Ref.mk (pre ++ (cutS 64 s).1) [] (cutS 64 s).2.1) else none)
  else if repoS (pre ++ (cutS 58 s).1) = true ∧ tagS (cutS 58 s).2.1 = true then some (api_Ref.mk (pre ++ (cutS 58 s).1) (cutS 58 s).2.1 []) else none
theorem find_eq : ∀ (l pre : Str), refFind pre l = parseR2 pre l
  | [], pre => by simp [refFind, parseR2, cutS, tag_nil]
  | c :: l, pre => by
    rw [refFind]
    by_cases h1 : c = 64
    · subst h1
      rw [parseR2, show cutS 64 (64 :: l) = ([], l, true) by rw [cutS, if_pos rfl], if_pos rfl]
      dsimp only
      rw [List.append_nil, if_neg (show ¬ ((64 : UInt8) = 58 ∧ repoS pre = true ∧ tagS l = true) by simp), refFind_bad l (pre ++ [64]) (bad_of (.inr (by simp))) (.inr (by simp))]
      simp
    · rw [if_neg (by simp [h1])]
      have e64 : cutS 64 (c :: l) = (c :: (cutS 64 l).1, (cutS 64 l).2.1, (cutS 64 l).2.2) := by rw [cutS, if_neg h1]
      by_cases h2 : c = 58
      · subst h2
        have e58 : cutS 58 (58 :: l) = ([], l, true) := by rw [cutS, if_pos rfl]
        rw [refFind_bad l (pre ++ [58]) (bad_of (.inl (by simp))) (.inl (by simp)), parseR2, e64, e58]
        dsimp only
        rw [List.append_nil]
        by_cases ht : tagS l = true
        · rw [cutS_no (tag_clean ht).2]; simp [ht]
        · rw [if_neg (by simp [ht]), if_neg (show ¬ (repoS pre = true ∧ tagS l = true) by simp [ht]), bad_of (pre := pre ++ 58 :: (cutS 64 l).1) (.inl (by simp))]
          simp
      · rw [if_neg (by simp [h2]), find_eq l (pre ++ [c]), parseR2, parseR2, e64, show cutS 58 (c :: l) = (c :: (cutS 58 l).1, (cutS 58 l).2.1, (cutS 58 l).2.2) by rw [cutS, if_neg h2]]
        simp only [List.append_assoc, List.singleton_append]
theorem parse9_ok (s : Str) (hb : s.length < 1000000000000) : ∀ (suf pre : Str) (m : Nat), s = pre ++ suf → suf.length < m → ∃ r, f_ref03_Parse_l9 s m (pre.length : Int) = some r ∧ (refFind pre suf = none ∧ (∃ q, r = .inl q) ∨ ∃ x, refFind pre suf = some x ∧ r = .inr (x, true)) := by
  intro suf
  induction suf with
  | nil =>
    intro pre m hs hm
    obtain ⟨m, rfl⟩ : ∃ k, m = k + 1 := ⟨m - 1, by omega⟩
    have hl : s.length = pre.length := by rw [hs]; simp
    rw [f_ref03_Parse_l9.eq_2, if_neg (by simp; omega)]
    exact ⟨_, rfl, .inl ⟨rfl, _, rfl⟩⟩
  | cons c l ih =>
    intro pre m hs hm
    obtain ⟨m, rfl⟩ : ∃ k, m = k + 1 := ⟨m - 1, by omega⟩
    have hl : s.length = pre.length + 1 + l.length := by rw [hs]; simp; omega
    simp only [List.length_cons] at hm
    have e1 : ix s (pre.length : Int) = some c := by rw [hs]; exact ix_app _ _ _ _ rfl
    have e2 : cut s 0 (pre.length : Int) = pre := by rw [cut_zero, hs]; simp
    have e3 : cut s ((pre.length + 1 : Nat) : Int) (s.length : Int) = l := by rw [cut_all, hs]; simp
    have key := ih (pre ++ [c]) m (by rw [hs]; simp) (by omega)
    simp only [List.length_append, List.length_singleton] at key
    rw [f_ref03_Parse_l9.eq_2, if_pos (by simp; omega), gd_t _ (by omega), w_s (by omega), gd_t _ (by omega), e1, Option.bind_some, e3, e2, bn64, refFind]
    by_cases h1 : c = 64
    · subst h1
      rw [if_pos (by decide), gd_t _ (by omega), gd_t _ (by omega), Option.bind_some]
      dsimp only
      rw [right_ok _ ⟨by dsimp only; omega, by simp, by dsimp only; omega⟩, Option.bind_some, text_ok _ ⟨by dsimp only; omega, by simp, by dsimp only; omega⟩, gx_some, Option.bind_some]
      dsimp only
      by_cases hr : repoS pre = true
      · by_cases hd : dig2 l = true
        · have hne : l ≠ [] := by rintro rfl; rw [dig2_nil] at hd; cases hd
          rw [if_pos (by simp [hr, hd, hne, hs]), if_pos ⟨rfl, hr, hd⟩]
          exact ⟨_, rfl, .inr ⟨_, rfl, rfl⟩⟩
        · rw [if_neg (by simp [hr, hd, tag_nil]), if_neg (by simp [hd]), if_neg (by simp)]; exact key
      · rw [if_neg (by simp [hr]), if_neg (by simp [hr]), if_neg (by simp)]; exact key
    · rw [if_neg (by simpa using h1), Option.bind_some]
      dsimp only
      rw [right_ok _ ⟨by dsimp only; omega, by dsimp only; omega, by simp⟩, Option.bind_some, text_ok _ ⟨by dsimp only; omega, by dsimp only; omega, by simp⟩, gx_some, Option.bind_some, if_neg (show ¬ (c = 64 ∧ repoS pre = true ∧ dig2 l = true) by simp [h1])]
      dsimp only
      by_cases hr : repoS pre = true
      · by_cases ht : tagS l = true
        · by_cases h2 : c = 58
          · rw [if_pos (by simp [hr, ht, hs, h2]), if_pos ⟨h2, hr, ht⟩]
            exact ⟨_, rfl, .inr ⟨_, rfl, rfl⟩⟩
          · rw [if_neg (by simp [hr, ht, hs]; exact fun e => h2 e.symm), if_neg (by simp [h2])]; exact key
        · rw [if_neg (by simp [hr, ht, dig2_nil]), if_neg (by simp [ht])]; exact key
      · rw [if_neg (by simp [hr]), if_neg (by simp [hr])]; exact key
theorem rparse_ok (s : Str) (hb : s.length < 1000000000000) : f_ref03_Parse s = some (match parseR s with | some r => (r, true) | none => (api_Ref.mk [] [] [], false)) := by
  unfold f_ref03_Parse
  obtain ⟨r, h1, h2⟩ := parse9_ok s hb s [] (((s.length : Int) - 0).toNat + 1) rfl (by omega)
  have e : parseR s = refFind [] s := by rw [find_eq]; rfl
  rw [show f_ref03_Parse_l9 s (((s.length : Int) - 0).toNat + 1) 0 = f_ref03_Parse_l9 s (((s.length : Int) - 0).toNat + 1) (([] : Str).length : Int) from rfl, h1, Option.bind_some, e]
  rcases h2 with ⟨h2, q, rfl⟩ | ⟨x, h2, rfl⟩ <;> rw [h2]
theorem take_lt (s : Str) : (s.take 220).length < 1000000000000 := by rw [List.length_take]; omega
theorem nameMay_true (s : Str) (rv : api_Ref) : f_law03_NameMay s rv = some true := by
  unfold f_law03_NameMay
  rw [nshort_ok, Option.bind_some, nshort_ok, Option.bind_some, nshort_ok, Option.bind_some, nshort_ok, Option.bind_some]
  have l0 := take_lt s
  have l1 := take_lt rv.Repo
  have l2 := take_lt rv.Tag
  have l3 := take_lt rv.Digest
  generalize s.take 220 = s at *
  generalize rv.Repo.take 220 = a at *
  generalize rv.Tag.take 220 = b at *
  generalize rv.Digest.take 220 = d at *
  have hs : small3 (api_Ref.mk a b d) := ⟨l1, l2, l3⟩
  rw [print_ok _ hs, Option.bind_some, repo_ok _ l0, Option.bind_some, refRepo_ok _ l0, Option.bind_some, tag_ok _ (by omega), gx_some, Option.bind_some, refTag_ok _ (by omega), gx_some, Option.bind_some, nalive_ok, gx_some, Option.bind_some, right_ok _ hs, Option.bind_some, text_ok _ hs, gx_some, Option.bind_some]
  unfold printS
  dsimp only
  by_cases hr : repoS a = true
  · by_cases hd : d = []
    · by_cases ht : tagS b = true
      · simp [hr, hd, ht]
      · simp [hr, hd, ht, dig2_nil]
    · by_cases ht : b = []
      · by_cases hp : dig2 d = true
        · simp [hr, hd, ht, hp]
        · simp [hr, hd, ht, hp]
      · simp [hr, hd, ht]
  · simp [hr]
theorem nameParses_true (s : Str) : f_law03_NameParses s = some true := by
  unfold f_law03_NameParses
  rw [nshort_ok, Option.bind_some]
  have l0 := take_lt s
  generalize s.take 220 = s at *
  rw [nparse_ok _ l0, Option.bind_some, rparse_ok _ l0, Option.bind_some, nalive_ok, Option.bind_some]
  cases parseR s with
  | none => rfl
  | some r => simp [parsed]
/-- What is printed of a reference that may be is parsed to it. -/
theorem parse_print (r : api_Ref) (h : (printS r).2 = 0) : parseR (printS r).1 = some r := by
  unfold printS at h ⊢
  obtain ⟨a, b, d⟩ := r
  dsimp only at h ⊢
  by_cases hr : repoS a = true
  · rw [if_neg (by simp [hr])] at h ⊢
    obtain ⟨c58, c64⟩ := repo_clean hr
    by_cases h1 : d = [] ∧ tagS b = true
    · rw [if_pos h1]
      obtain ⟨rfl, ht⟩ := h1
      dsimp only
      obtain ⟨t58, t64⟩ := tag_clean ht
      rw [parseR, List.append_assoc, List.singleton_append, cutS_no (c := 64) (by simp [c64, t64]), cutS_app b c58]
      simp [hr, ht]
    · rw [if_neg h1] at h ⊢
      by_cases h2 : b = [] ∧ dig2 d = true
      · rw [if_pos h2]
        obtain ⟨rfl, hd⟩ := h2
        dsimp only
        rw [parseR, List.append_assoc, List.singleton_append, cutS_app d c64]
        simp [hr, hd]
      · rw [if_neg h2] at h; cases h
  · rw [if_pos (by simpa using hr)] at h; cases h
theorem parse_right {s : Str} {r : api_Ref} (h : parseR s = some r) : printS r = (s, 0) ∧ r.Repo.length ≤ s.length ∧ r.Tag.length ≤ s.length ∧ r.Digest.length ≤ s.length := by
  unfold parseR at h
  have l64 := cutS_len 64 s
  have l58 := cutS_len 58 s
  by_cases h1 : (cutS 64 s).2.2 = true
  · rw [if_pos h1] at h
    split at h
    · rename_i h2
      cases h
      have e := (cutS_true h1).1
      refine ⟨?_, by dsimp only; omega, by simp, by dsimp only; omega⟩
      unfold printS
      dsimp only
      rw [if_neg (by simp [h2.1]), if_neg (by simp [tag_nil]), if_pos ⟨rfl, h2.2⟩, List.append_assoc, List.singleton_append, ← e]
    · cases h
  · rw [if_neg h1] at h
    split at h
    · rename_i h2
      cases h
      have hc : (cutS 58 s).2.2 = true := by
        cases e : (cutS 58 s).2.2 with
        | true => rfl
        | false => rw [(cutS_false e).2.2, tag_nil] at h2; exact absurd h2.2 (by decide)
      refine ⟨?_, by dsimp only; omega, by dsimp only; omega, by simp⟩
      unfold printS
      dsimp only
      rw [if_neg (by simp [h2.1]), if_pos ⟨rfl, h2.2⟩, List.append_assoc, List.singleton_append, ← (cutS_true hc).1]
    · cases h
theorem print_len (r : api_Ref) : (printS r).1.length ≤ r.Repo.length + r.Tag.length + r.Digest.length + 1 := by
  unfold printS
  split
  · simp
  · split
    · simp; omega
    · split
      · simp; omega
      · simp
theorem nameBack_true (rv : api_Ref) (s : Str) : f_law03_NameBack rv s = some true := by
  unfold f_law03_NameBack
  rw [nshort_ok, Option.bind_some, nshort_ok, Option.bind_some, nshort_ok, Option.bind_some, nshort_ok]
  have l0 := take_lt s
  have l1 : (rv.Repo.take 220).length ≤ 220 := by rw [List.length_take]; omega
  have l2 : (rv.Tag.take 220).length ≤ 220 := by rw [List.length_take]; omega
  have l3 : (rv.Digest.take 220).length ≤ 220 := by rw [List.length_take]; omega
  generalize s.take 220 = s at *
  generalize rv.Repo.take 220 = a at *
  generalize rv.Tag.take 220 = b at *
  generalize rv.Digest.take 220 = d at *
  have hs : small3 (api_Ref.mk a b d) := ⟨by dsimp only; omega, by dsimp only; omega, by dsimp only; omega⟩
  have hl := print_len (api_Ref.mk a b d)
  dsimp only at hl
  rw [print_ok _ hs, Option.bind_some, nparse_ok _ (by omega), Option.bind_some]
  have first : (if ((printS (api_Ref.mk a b d)).2 == 0) = true then (if (((parsed (parseR (printS (api_Ref.mk a b d)).1)).2 != 0) || (!(((parsed (parseR (printS (api_Ref.mk a b d)).1)).1.Repo == a) && (((parsed (parseR (printS (api_Ref.mk a b d)).1)).1.Tag == b) && ((parsed (parseR (printS (api_Ref.mk a b d)).1)).1.Digest == d))))) = true then some (Sum.inr false) else some (Sum.inl ())) else some (Sum.inl ())) = (some (Sum.inl ()) : Option (Unit ⊕ Bool)) := by
    by_cases h : (printS (api_Ref.mk a b d)).2 = 0
    · rw [parse_print _ h, if_pos (by simpa using h)]; simp [parsed]
    · rw [if_neg (by simpa using h)]
  rw [first, Option.bind_some]
  dsimp only
  rw [Option.bind_some, nparse_ok _ l0, Option.bind_some, nalive_ok, Option.bind_some]
  cases h : parseR s with
  | none => rfl
  | some r =>
    obtain ⟨h1, h2, h3, h4⟩ := parse_right h
    rw [if_neg (by simp [parsed]), show (parsed (some r)).1 = r from rfl, print_ok r ⟨by omega, by omega, by omega⟩, Option.bind_some, Option.bind_some, h1, gx_some, Option.bind_some]
    simp
theorem split_app (c : UInt8) : ∀ (a b : Str), splitOnB c (a ++ c :: b) = splitOnB c a ++ splitOnB c b
  | [], b => by
    have : splitOnB c (c :: b) = [] :: splitOnB c b := by rw [splitOnB.eq_2, if_pos rfl]
    rw [List.nil_append, this]; rfl
  | x :: a, b => by
    rw [List.cons_append, splitOnB, splitOnB]
    by_cases h : x = c
    · rw [if_pos h, if_pos h, split_app c a b]; rfl
    · rw [if_neg h, if_neg h, split_app c a b]
      cases e : splitOnB c a with
      | nil => exact absurd e (splitOnB_ne c a)
      | cons y t => rfl
theorem nameParts_true (a b : Str) : f_law03_NameParts a b = some true := by
  unfold f_law03_NameParts
  rw [nshort_ok, Option.bind_some, nshort_ok, Option.bind_some]
  have l1 : (a.take 220).length ≤ 220 := by rw [List.length_take]; omega
  have l2 : (b.take 220).length ≤ 220 := by rw [List.length_take]; omega
  generalize a.take 220 = a at *
  generalize b.take 220 = b at *
  have hw : IntKind.i64.wrap ((IntKind.i64.wrap ((a.length : Int) + (b.length : Int))) + 1) = (a.length : Int) + b.length + 1 := by rw [w_i64 (n := (a.length : Int) + b.length) (by omega) (by omega), w_i64 (by omega) (by omega)]
  have g : ∀ (p : Prop) [Decidable p] (k : Option Bool), p → gd p k = k := fun p _ k h => gd_t k h
  rw [repo_ok _ (by omega), Option.bind_some, repo_ok _ (by omega), gx_some, Option.bind_some, nalive_ok, Option.bind_some, gd_t _ (fun _ => by omega), gd_t _ (fun _ => by simp; omega), repo_ok _ (by simp; omega), gx_some, Option.bind_some, gd_t _ (fun _ => by omega), gd_t _ (fun _ => by simp; omega), repo_ok _ (by simp; omega), gx_some, Option.bind_some, gd_t _ (fun _ => by omega), repo_ok _ (by simp; omega), gx_some, Option.bind_some, gd_t _ (fun _ => by omega), repo_ok _ (by simp; omega), gx_some, Option.bind_some, hw]
  have e1 : repoS (a ++ [47] ++ b) = (repoS a && repoS b && decide ((a.length : Int) + b.length + 1 ≤ 128)) := by
    unfold repoS
    rw [show a ++ [47] ++ b = a ++ 47 :: b by simp, split_app, List.all_append]
    have : decide ((a ++ 47 :: b).length ≤ 128) = decide ((a.length : Int) + b.length + 1 ≤ 128) := by rw [decide_eq_decide]; simp; omega
    rw [this]
    by_cases h : (a.length : Int) + b.length + 1 ≤ 128
    · have h1 : a.length ≤ 128 := by omega
      have h2 : b.length ≤ 128 := by omega
      simp [h, h1, h2]
    · simp [h]
  have e2 : repoS (a ++ [47, 47] ++ b) = false := by
    unfold repoS
    rw [show a ++ [47, 47] ++ b = a ++ 47 :: ([] ++ 47 :: b) by simp, split_app, split_app]
    simp [splitOnB, partS]
  have e3 : repoS ([47] ++ a) = false := by
    unfold repoS
    rw [show ([47] : Str) ++ a = [] ++ 47 :: a by simp, split_app]
    simp [splitOnB, partS]
  have e4 : repoS (a ++ [47]) = false := by
    unfold repoS
    rw [show a ++ ([47] : Str) = a ++ 47 :: [] by simp, split_app]
    simp [splitOnB, partS]
  rw [e1, e2, e3, e4]
  cases repoS a <;> cases repoS b <;> cases decide ((a.length : Int) + b.length + 1 ≤ 128) <;> rfl
end Go.Proofs.YtdcokepmblcdmaaDoor.V.M
end

section
/- Names: the laws NameMarks and NameRefs. -/
namespace Go.Proofs.YtdcokepmblcdmaaDoor.V.M
set_option linter.unusedVariables false
set_option linter.unusedSimpArgs false
open Go Go.RowKit
theorem tm_range (a c : Int) (n : Nat) (hn : c = (n : Int)) (h0 : 0 < n) (hx : n < 1000000) : ∃ k : Nat, k < n ∧ (IntKind.i64.wrap ((a.tmod c) + c)).tmod c = (k : Int) := by
  subst hn
  have h1 := Int.lt_tmod_of_pos a (b := (n : Int)) (by omega)
  have h2 := Int.tmod_lt_of_pos a (b := (n : Int)) (by omega)
  have h3 : 0 ≤ a.tmod n + n := by omega
  have h4 := Int.emod_nonneg (a.tmod n + n) (show (n : Int) ≠ 0 by omega)
  have h5 := Int.emod_lt_of_pos (a.tmod n + n) (show 0 < (n : Int) by omega)
  rw [w_i64 (by omega) (by omega), Int.tmod_eq_emod_of_nonneg h3]
  exact ⟨((a.tmod n + n) % n).toNat, by omega, by omega⟩
theorem marks9_ok (a b many : Int) (N : Nat) (hN : IntKind.i64.wrap (1 + ((IntKind.i64.wrap ((many.tmod 6) + 6)).tmod 6)) = (N : Int)) (hx : N < 100) (k : Nat) : ∀ (i m : Nat), i + k = N → k < m → f_law03_NameMarks_l9 a b many m (List.replicate i 45) (i : Int) = some (List.replicate N 45, (N : Int)) := by
  induction k with
  | zero =>
    intro i m hi hm
    obtain ⟨m, rfl⟩ : ∃ k, m = k + 1 := ⟨m - 1, by omega⟩
    rw [f_law03_NameMarks_l9.eq_2, hN, if_neg (by simp; omega)]
    obtain rfl : i = N := by omega
    rfl
  | succ k ih =>
    intro i m hi hm
    obtain ⟨m, rfl⟩ : ∃ k, m = k + 1 := ⟨m - 1, by omega⟩
    rw [f_law03_NameMarks_l9.eq_2, hN, if_pos (by simp; omega), gd_t _ (by simp; omega), w_s (by omega), ← List.replicate_succ' (n := i)]
    exact ih (i + 1) m (by omega) (by omega)
def mk4 : List Str := [([46] : Str), ([95] : Str), ([95, 95] : Str), ([45] : Str)]
def marksB (x y d : Str) : Bool := repoS (([97] ++ x) ++ [98, 49]) && repoS (([97] ++ d) ++ [98, 49]) && (repoS (([97] ++ (x ++ y)) ++ [98, 49]) == ((x ++ y) == [95, 95] || (x ++ y) == [45, 45])) && !repoS (x ++ [98, 49]) && !repoS ([97] ++ x) && repoS (((([97] ++ x) ++ [98, 49]) ++ y) ++ [97])
theorem marks_all : (mk4.all fun x => mk4.all fun y => (List.range 6).all fun n => marksB x y (List.replicate (n + 1) 45)) = true := by kernel_rfl
theorem mk4_len : ∀ x ∈ mk4, x.length ≤ 2 := by decide
theorem nameMarks_true (a b many : Int) : f_law03_NameMarks a b many = some true := by
  unfold f_law03_NameMarks
  obtain ⟨i, hi, ei⟩ := tm_range a 4 4 rfl (by omega) (by omega)
  obtain ⟨j, hj, ej⟩ := tm_range b 4 4 rfl (by omega) (by omega)
  obtain ⟨n, hn, en⟩ := tm_range many 6 6 rfl (by omega) (by omega)
  have hN : IntKind.i64.wrap (1 + ((IntKind.i64.wrap ((many.tmod 6) + 6)).tmod 6)) = ((n + 1 : Nat) : Int) := by rw [en, w_i64 (by omega) (by omega)]; omega
  have h9 := marks9_ok a b many (n + 1) hN (by omega) (n + 1) 0 ((((n + 1 : Nat) : Int) - 0).toNat + 1) (by omega) (by omega)
  have e0 : f_law03_NameMarks_l9 a b many ((((n + 1 : Nat) : Int) - 0).toNat + 1) ([] : Str) 0 = some (List.replicate (n + 1) 45, ((n + 1 : Nat) : Int)) := h9
  rw [hN, e0, Option.bind_some, ei, ej]
  obtain ⟨x, hx⟩ : ∃ x, mk4[i]? = some x := ⟨mk4[i]'(by simpa [mk4] using hi), List.getElem?_eq_getElem _⟩
  obtain ⟨y, hy⟩ : ∃ x, mk4[j]? = some x := ⟨mk4[j]'(by simpa [mk4] using hj), List.getElem?_eq_getElem _⟩
  have mx := List.mem_of_getElem? hx
  have my := List.mem_of_getElem? hy
  have lx := mk4_len x mx
  have ly := mk4_len y my
  have hT := List.all_eq_true.1 (List.all_eq_true.1 (List.all_eq_true.1 marks_all x mx) y my) n (List.mem_range.2 hn)
  rw [show ix ([([46] : Str), ([95] : Str), ([95, 95] : Str), ([45] : Str)] : List Str) (i : Int) = some x from (ix_nat _ _).trans hx, Option.bind_some, show ix ([([46] : Str), ([95] : Str), ([95, 95] : Str), ([45] : Str)] : List Str) (j : Int) = some y from (ix_nat _ _).trans hy, Option.bind_some]
  have ld : (List.replicate (n + 1) (45 : UInt8)).length ≤ 6 := by simp; omega
  dsimp only
  generalize List.replicate (n + 1) (45 : UInt8) = d at *
  have lxy : (x ++ y).length ≤ 4 := by simp; omega
  have l1 : (([97] : Str) ++ x).length ≤ 3 := by simp; omega
  have l2 : (([97] : Str) ++ d).length ≤ 7 := by simp; omega
  have l3 : (([97] : Str) ++ (x ++ y)).length ≤ 5 := by simp; omega
  have l4 : ((([97] : Str) ++ x) ++ ([98, 49] : Str)).length ≤ 5 := by simp; omega
  have l5 : (((([97] : Str) ++ x) ++ ([98, 49] : Str)) ++ y).length ≤ 7 := by simp; omega
  rw [gd_t _ (by omega), nalive_ok, Option.bind_some, gd_t _ (fun _ => by omega), gd_t _ (fun _ => by omega), repo_ok _ (by simp; omega), gx_some, Option.bind_some, gd_t _ (fun _ => by omega), gd_t _ (fun _ => by omega), repo_ok _ (by simp; omega), gx_some, Option.bind_some, gd_t _ (fun _ => by omega), gd_t _ (fun _ => by omega), repo_ok _ (by simp; omega), gx_some, Option.bind_some, gd_t _ (fun _ => by omega), repo_ok _ (by simp; omega), gx_some, Option.bind_some, gd_t _ (fun _ => by omega), repo_ok _ (by simp; omega), gx_some, Option.bind_some, gd_t _ (fun _ => by omega), gd_t _ (fun _ => by omega), gd_t _ (fun _ => by omega), gd_t _ (fun _ => by omega), repo_ok _ (by simp; omega), gx_some, Option.bind_some]
  unfold marksB at hT
  simp only [Bool.and_eq_true, Bool.not_eq_true'] at hT
  obtain ⟨⟨⟨⟨⟨h1, h2⟩, h3⟩, h4⟩, h5⟩, h6⟩ := hT
  rw [h1, h2, h4, h5, h6]
  simp only [if_true, Bool.and_true, Bool.true_and, Bool.not_false]
  rw [h3]; rfl
theorem dig2_len {d : Str} (h : dig2 d = true) : d.length = 71 := by
  unfold dig2 at h
  rcases parseS_cases d with ⟨x, h1, _, h2⟩ | ⟨h1, h2⟩
  · unfold refParseS at h2
    split at h2
    · rename_i c; exact c.1
    · cases h2
  · rw [h1] at h; cases h
end Go.Proofs.YtdcokepmblcdmaaDoor.V.M
end

section
/- The functions' proofs and the plain laws, side by side. -/
namespace Go.Proofs.YtdcokepmblcdmaaDoor.V
set_option linter.unusedVariables false
set_option linter.unusedSimpArgs false
theorem nameMay_true (s : Str) (rv : api_Ref) : f_law03_NameMay s rv = some true := M.nameMay_true s rv
theorem nameParses_true (s : Str) : f_law03_NameParses s = some true := M.nameParses_true s
theorem nameBack_true (rv : api_Ref) (s : Str) : f_law03_NameBack rv s = some true := M.nameBack_true rv s
theorem nameParts_true (a b : Str) : f_law03_NameParts a b = some true := M.nameParts_true a b
theorem nameMarks_true (a b many : Int) : f_law03_NameMarks a b many = some true := M.nameMarks_true a b many
end Go.Proofs.YtdcokepmblcdmaaDoor.V
end

section
/- The row of the law NameMarks: for every input that the row speaks of the law returns true; each argument reads behind the call as it read before. -/
namespace Go.Proofs.YtdcokepmblcdmaaDoor.nameMarks
open Go.ChangeShapes Go.WideShapes Go.ChangeAt Go.RowKit Go.Proofs.YtdcokepmblcdmaaDoor.V Go.Proofs.YtdcokepmblcdmaaDoorW.PrintWords
set_option linter.unusedVariables false
theorem own : ownKnob Tryd.prog.godebug = none := by kernel_rfl
theorem laidOut : laidOutB Tryd.prog = true := by kernel_rfl
theorem gn0 : Tryd.prog.globalNamed "unicode/utf8.acceptRanges" = some 3 := by kernel_rfl
theorem gt0 : (Tryd.prog.globals[3]?).map (·.type) = some 89 := by kernel_rfl
theorem gn1 : Tryd.prog.globalNamed "unicode/utf8.first" = some 2 := by kernel_rfl
theorem gt1 : (Tryd.prog.globals[2]?).map (·.type) = some 86 := by kernel_rfl
noncomputable def doorW (os : Os) : World := (let w0 := World.doorLaid Tryd.prog 400 os; { w0 with heap := w0.heap.modify 2 fun | .cells _ t fz => .cells ((Go.Pinned.utf8FirstZ.map fun (n : Nat) => Value.int .u8 n).toArray) t fz | o => o })
theorem door_met (os : Os) (args : Array Value) : laidMetH Tryd.prog Rows.nameMarksRow.laid ((doorW os).forCall (fun _ _ => 0) ⟨#[], args, []⟩).memory :=
  laidMetH_of_parts3 (fuel := 8) (laidMet_of_run' 8 (by kernel_rfl) (by kernel_rfl)) (by kernel_rfl) (by kernel_rfl)
theorem gl_ok {W : World} (h : laidMetH Tryd.prog Rows.nameMarksRow.laid W) : GlOk glP W (fun k => k < W.heap.size) := fun g cs hg => by cases hg
set_option maxRecDepth 100000 in
theorem lifted (os : Os) (started : os.Started) (H : Type) (enc : TypeId × Value → H) :
    ReturnsInHanded {} Tryd.checked os 7 .any (fun w args => (Rows.nameMarksSpec.pre enc Tryd.prog Tryd.f7 [] false w args ∧ laidMetH Tryd.prog Rows.nameMarksRow.laid w) ∧ sizedMet enc Tryd.prog Tryd.f7 (OpenSpec.ofChange Rows.nameMarksSpec) false w args) (Rows.nameMarksSpec.post enc Tryd.prog Tryd.f7 false true false false) := by
  refine returnsInHanded_of_change_and (C := Tryd.checked) (X := fun w _ => laidMetH Tryd.prog Rows.nameMarksRow.laid w) (fun _ _ _ hh h => h.of_heap hh) own started (by kernel_rfl) Tryd.func7
    (ChangeSpec.witness_shaped (enc := enc) (C := Tryd.checked) (os := os) (X := fun w _ => laidMetH Tryd.prog Rows.nameMarksRow.laid w) false (doorW os) #[.int .i64 0, .int .i64 0, .int .i64 0] 8 rfl (World.shaped_of_RefB (by kernel_rfl) (by kernel_rfl)) (by kernel_rfl) (by kernel_rfl) (by kernel_rfl) (door_met os _)) ?_
  intro W base args ds gs before hval0 hW hcnd hsz0 hL _
  have hsz : (DataW.weightsEach Tryd.prog (Tryd.f7.params.toList ++ Rows.nameMarksSpec.plain.varTypes Tryd.prog) (ds ++ gs)).all (· ≤ reachBytes) = true := hsz0
  have hval : ∀ (j : Nat) t v, Tryd.f7.params[j]? = some t → args[j]? = some v → Value.okWide Tryd.prog W .any base t v := hval0
  have hW' := hW
  obtain ⟨p, q, hA0, hV, rfl, hfz, hnd⟩ := hW
  have hA : DataW.TrodAll enc Tryd.prog W 0 (fun _ => true) true Tryd.f7.params.toList args.toList ds p := hA0
  rw [Tryd.params7] at hA hval hsz
  obtain ⟨v0, vs0, d0, ds0, p0, q0, hargs, rfl, rfl, h0, r0⟩ := trodAll_cons hA
  obtain ⟨v1, vs1, d1, ds1, p1, q1, rfl, rfl, rfl, h1, r1⟩ := trodAll_cons r0
  obtain ⟨v2, vs2, d2, ds2, p2, q2, rfl, rfl, rfl, h2, r2⟩ := trodAll_cons r1
  obtain ⟨rfl, rfl, rfl⟩ := trodAll_nil r2
  obtain rfl : args = #[v0, v1, v2] := by cases args; simp_all
  obtain ⟨rfl, rfl⟩ := trodVars_none hV
  have k0 := h0
  have lt0 : ∀ x ∈ p0, x.block < W.heap.size := by obtain ⟨m, hm⟩ := k0; exact DataW.trod_lt m _ _ _ hm
  obtain ⟨a0, e0, w0⟩ := arg_int Tryd.underlying3 (hval 0 3 v0 rfl rfl) h0
  have k1 := h1
  have lt1 : ∀ x ∈ p1, x.block < W.heap.size := by obtain ⟨m, hm⟩ := k1; exact DataW.trod_lt m _ _ _ hm
  obtain ⟨a1, e1, w1⟩ := arg_int Tryd.underlying3 (hval 1 3 v1 rfl rfl) h1
  have k2 := h2
  have lt2 : ∀ x ∈ p2, x.block < W.heap.size := by obtain ⟨m, hm⟩ := k2; exact DataW.trod_lt m _ _ _ hm
  obtain ⟨a2, e2, w2⟩ := arg_int Tryd.underlying3 (hval 2 3 v2 rfl rfl) h2
  refine (Fun.lawG (xs := [_, _, _]) (vs := [v0, v1, v2]) (w := W) (f_law03_NameMarks_ok a0 a1 a2 true (by first | exact nameMarks_true a0 a1 a2 w0 w1 w2 | exact nameMarks_true a0 a1 a2 | (apply nameMarks_true <;> assumption))) (gl_ok hL) ⟨e0, e1, e2, trivial⟩).mono fun e W' ⟨he, bel⟩ => ?_
  subst he
  exact ⟨_, rfl, _, _, _, [], _, [], hW', trodAll_mk1 (shut_bool Tryd.underlying4 _), (trodAll_cons_mk (Below.trod laidOut (by kernel_rfl) (of_decide_eq_true (by kernel_rfl)) k0 bel lt0) (trodAll_cons_mk (Below.trod laidOut (by kernel_rfl) (of_decide_eq_true (by kernel_rfl)) k1 bel lt1) (trodAll_cons_mk (Below.trod laidOut (by kernel_rfl) (of_decide_eq_true (by kernel_rfl)) k2 bel lt2) trodAll_mk0))), rfl, bel.frame _, fun h => by cases h⟩
theorem over : Rows.nameMarksRow.holds Tryd.pinned (OpenSpec.ofChange Rows.nameMarksSpec) :=
  OpenClaim.holds_of_wide 7 Tryd.f7 rfl rfl rfl rfl rfl rfl rfl ⟨rfl, rfl, rfl, rfl, rfl⟩ rfl rfl rfl rfl rfl (by kernel_rfl) Tryd.func7 (by kernel_rfl)
    (of_decide_eq_true (by kernel_rfl)) (by unfold Func.isWrapper; first | (rw [if_pos (by decide +kernel)]; kernel_rfl) | (rw [if_neg (by decide +kernel)]; exact ⟨rfl, rfl⟩))
    (fun os started H enc _ => lifted os started H enc)
theorem proved : Rows.NameMarksSaid := over
end Go.Proofs.YtdcokepmblcdmaaDoor.nameMarks
namespace Go.Proofs.YtdcokepmblcdmaaDoor
/-- The statement, under a short name, for the claim. -/
theorem nameMarks_holds : Rows.NameMarksCardSaid :=
  Claim7.holds_tied_plain_at .later [] [.data, .pinned] true (true, "6a6288614213b700c310f529358ed855be540a775ed779d0411f7f6f1a9501cd") false
    nameMarks.proved (fun _ h => by cases h) (by kernel_rfl) (fun _ h => by cases h) nameMarks_row_tie rfl ⟨rfl, rfl⟩ (by kernel_rfl) rfl
    (fun f fn hf hfn => by
      obtain rfl : f = 7 := Option.some.inj ((show Tryd.prog.funcNamed "consignor/consignorlaw03.NameMarks" = some 7 by kernel_rfl).symm.trans hf) |>.symm
      obtain rfl : fn = Tryd.f7 := (Option.some.inj (Tryd.func7.symm.trans hfn)).symm
      exact ⟨by kernel_rfl, fun j t ht => by
        rw [Tryd.params7] at ht
        have hm : t ∈ [3, 3, 3] := by simpa using Array.mem_of_getElem? ht
        have hall : ([3, 3, 3].all fun u => !Tryd.prog.wantsStandIn u) = true := by kernel_rfl
        exact (show Tryd.prog.wantsStandIn t = false by simpa using List.all_eq_true.1 hall t hm)⟩)
    (by kernel_rfl)
#print axioms nameMarks_holds
end Go.Proofs.YtdcokepmblcdmaaDoor
end
