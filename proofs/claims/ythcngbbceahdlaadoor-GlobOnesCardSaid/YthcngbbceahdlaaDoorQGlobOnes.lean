/- The row of the law GlobOnes: for every input that the row speaks of the law returns true; each argument reads behind the call as it read before. -/
import Derived.Laws.BytesArg
import Derived.Below
import Derived.Test.YthcngbbceahdlaaDoorQGlobOnesD
import Derived.Lib.Bytealg
import Derived.Lib.Join
import Derived.Lib.Repeat
import Derived.Test.YthcngbbceahdlaaDoorQGlobOnesC
import Derived.OwnWalk
import Derived.Orders
import Derived.WalkKit
import Derived.Laws.Slices
import Derived.LaidMore
import Derived.FnData
import Derived.Test.YthcngbbceahdlaaDoorRows
import Derived.Test.YthcngbbceahdlaaDoorTie
import Derived.Test.YthcngbbceahdlaaDoorCards
import Derived.ProofKit
import Derived.OpenShut
import Derived.ShutString
import Derived.ChangeOld
import Derived.SizedLaws
import Derived.SliceStrings
import Derived.Carry
import Derived.KernelRfl
import Derived.Stop.Joined
import Derived.SevenTiedAt
import Derived.Test.YthcngbbceahdlaaDoorWSized
section
/- Plain lemmas of layer 1 (octet): digits, numbers in bytes; no program in sight. -/
namespace Go.Proofs.YthcngbbceahdlaaDoor
set_option linter.unusedVariables false
set_option linter.unusedSimpArgs false
/-- The sixteen digits. -/
def digs : List UInt8 := [48, 49, 50, 51, 52, 53, 54, 55, 56, 57, 97, 98, 99, 100, 101, 102]
def dig (n : Nat) : UInt8 := digs.getD n 0
def hex2 (c : UInt8) : List UInt8 := [dig (c.toNat / 16), dig (c.toNat % 16)]
def hexl (l : List UInt8) : List UInt8 := l.flatMap hex2
theorem hexl_nil : hexl [] = [] := rfl
theorem hexl_append (a b : List UInt8) : hexl (a ++ b) = hexl a ++ hexl b := by simp [hexl]
theorem hexl_length (l : List UInt8) : (hexl l).length = 2 * l.length := by
  induction l with
  | nil => rfl
  | cons c l ih => simp only [hexl, List.flatMap_cons, List.length_append, List.length_cons] at *; simp only [hex2, List.length_cons, List.length_nil]; omega
theorem take_snoc (s : ByteArray) (k : Nat) (h : k < s.size) : s.data.toList.take (k + 1) = s.data.toList.take k ++ [s[k]] := by
  rw [List.take_succ_eq_append_getElem (by simpa using h)]; rfl
theorem hexl_snoc (s : ByteArray) (k : Nat) (h : k < s.size) : hexl (s.data.toList.take (k + 1)) = hexl (s.data.toList.take k) ++ [dig (s[k].toNat / 16)] ++ [dig (s[k].toNat % 16)] := by
  rw [take_snoc s k h, hexl_append]; simp [hexl, hex2]
theorem dig_get (n : Nat) (h : n < (ByteArray.mk #[48, 49, 50, 51, 52, 53, 54, 55, 56, 57, 97, 98, 99, 100, 101, 102]).size) : ((ByteArray.mk #[48, 49, 50, 51, 52, 53, 54, 55, 56, 57, 97, 98, 99, 100, 101, 102])[n].toNat : Int) = ((dig n).toNat : Int) := by
  have h' : n < 16 := h
  rcases n with _ | _ | _ | _ | _ | _ | _ | _ | _ | _ | _ | _ | _ | _ | _ | _ | n
  all_goals first | rfl | omega
/-- A number's bytes, the lowest one first. -/
def wideL (n : Int) (m : Nat) : List Int := (List.range m).map fun i => n / 2 ^ (8 * i) % 256
/-- Its error: 1 for a size that may not be, 2 for a number that does not fit. -/
def wideE (n size : Int) : Int := if size < 0 ∨ 8 < size then 1 else if size < 8 ∧ n / 2 ^ (8 * size.toNat) ≠ 0 then 2 else 0
def wideS (n size : Int) : ByteArray := if wideE n size = 0 then strOfNums (wideL n size.toNat) else ⟨#[]⟩
theorem wideL_length (n : Int) (m : Nat) : (wideL n m).length = m := by simp [wideL]
theorem wideL_succ (n : Int) (m : Nat) : wideL n (m + 1) = wideL n m ++ [n / 2 ^ (8 * m) % 256] := by simp [wideL, List.range_succ]
theorem wideL_set (n : Int) (k m : Nat) (h : k < m) : (wideL n k ++ List.replicate (m - k) (0 : Int)).set k (n / 2 ^ (8 * k) % 256) = wideL n (k + 1) ++ List.replicate (m - (k + 1)) 0 := by
  obtain ⟨j, hj⟩ : ∃ j, m - k = j + 1 := ⟨m - k - 1, by omega⟩
  rw [hj, show m - (k + 1) = j by omega, wideL_succ, List.set_append_right _ _ (by rw [wideL_length]; omega), wideL_length, Nat.sub_self, List.replicate_succ, List.set_cons_zero, List.append_assoc, List.singleton_append]
theorem wideE_arg {n size : Int} (h : size < 0 ∨ 8 < size) : wideE n size = 1 := by unfold wideE; rw [if_pos h]
theorem wideE_long {n : Int} {m : Nat} (h : m < 8 ∧ n / 2 ^ (8 * m) ≠ 0) : wideE n m = 2 := by
  unfold wideE; rw [if_neg (by omega), Int.toNat_natCast, if_pos ⟨by omega, h.2⟩]
theorem wideE_ok {n : Int} {m : Nat} (hm : m ≤ 8) (hf : m < 8 → n / 2 ^ (8 * m) = 0) : wideE n m = 0 := by
  unfold wideE; rw [if_neg (by omega), Int.toNat_natCast, if_neg (fun h => h.2 (hf (by omega)))]
theorem wideS_err {n size : Int} (h : wideE n size ≠ 0) : wideS n size = ⟨#[]⟩ := by unfold wideS; rw [if_neg h]
theorem wideS_ok {n : Int} {m : Nat} (hm : m ≤ 8) (hf : m < 8 → n / 2 ^ (8 * m) = 0) : wideS n m = strOfNums (wideL n m) := by
  unfold wideS; rw [if_pos (wideE_ok hm hf), Int.toNat_natCast]
theorem cut_size (s : ByteArray) (m : Nat) : (s.extract 0 (if (m : Int) < (s.size : Int) then (m : Int) else (s.size : Int)).toNat).size ≤ m := by
  rw [ByteArray.size_extract]; split <;> omega
theorem tmod8_lo (n : Int) : -7 ≤ n.tmod 8 := by have := Int.lt_tmod_of_pos n (b := 8) (by decide); omega
theorem tmod8_hi (n : Int) : n.tmod 8 ≤ 7 := by have := Int.tmod_lt_of_pos n (b := 8) (by decide); omega
/-- A text's digits. -/
def hexS (s : ByteArray) : ByteArray := ⟨(hexl s.data.toList).toArray⟩
theorem hexS_size (s : ByteArray) : (hexS s).size = 2 * s.size := by
  show (hexl s.data.toList).toArray.size = _
  rw [List.size_toArray, hexl_length, Array.length_toList]; rfl
theorem hexS_append (a b : ByteArray) : hexS (a ++ b) = hexS a ++ hexS b := by
  unfold hexS
  apply ByteArray.ext
  rw [ByteArray.data_append, ByteArray.data_append, Array.toList_append, hexl_append, List.append_toArray]
theorem wideE_zero {n : Int} {m : Nat} (hm : m ≤ 7) (h : wideE n m = 0) : n / 2 ^ (8 * m) = 0 := by
  unfold wideE at h
  rw [if_neg (by omega), Int.toNat_natCast] at h
  refine Decidable.not_not.1 fun hn => ?_
  rw [if_pos ⟨by omega, hn⟩] at h
  exact absurd h (by decide)
theorem div_pow_zero {n : Int} {a b : Nat} (h : n / 2 ^ a = 0) : n / 2 ^ (a + b) = 0 := by
  rw [Int.pow_add, ← Int.ediv_ediv_of_nonneg (Int.pow_nonneg (by decide)), h, Int.zero_ediv]
theorem wideE_moreN {n : Int} {m : Nat} (hm : m ≤ 7) (h : wideE n m = 0) : wideE n (↑m + 1) = 0 := by
  have h0 := wideE_zero hm h
  rw [show (m : Int) + 1 = ((m + 1 : Nat) : Int) by omega]
  exact wideE_ok (by omega) fun _ => by rw [Nat.mul_add]; exact div_pow_zero h0
theorem wideS_sizeN {n : Int} {m : Nat} (hm : m ≤ 7) (h : wideE n m = 0) : (wideS n m).size = m := by
  unfold wideS; rw [if_pos h, strOfNums_size, wideL_length, Int.toNat_natCast]
theorem strOfNums_append (xs ys : List Int) : strOfNums (xs ++ ys) = strOfNums xs ++ strOfNums ys := by
  apply ByteArray.ext
  rw [ByteArray.data_append]
  simp only [strOfNums, List.map_append, List.append_toArray]
theorem wideS_moreN {n : Int} {m : Nat} (hm : m ≤ 7) (h : wideE n m = 0) : wideS n (↑m + 1) = wideS n m ++ ⟨#[0]⟩ := by
  have h0 := wideE_zero hm h
  have h1 := wideE_moreN hm h
  unfold wideS
  rw [if_pos h, if_pos h1, show (m : Int) + 1 = ((m + 1 : Nat) : Int) by omega, Int.toNat_natCast, Int.toNat_natCast, wideL_succ, strOfNums_append, h0]
  rfl
theorem wideE_more {n q : Int} (h0 : 0 ≤ q) (h7 : q ≤ 7) (h : wideE n q = 0) : wideE n (q + 1) = 0 := by
  obtain ⟨m, rfl⟩ := Int.eq_ofNat_of_zero_le h0; exact wideE_moreN (by omega) h
theorem wideS_size {n q : Int} (h0 : 0 ≤ q) (h7 : q ≤ 7) (h : wideE n q = 0) : (wideS n q).size ≤ 8 := by
  obtain ⟨m, rfl⟩ := Int.eq_ofNat_of_zero_le h0; rw [wideS_sizeN (by omega) h]; omega
theorem wideS_more {n q : Int} (h0 : 0 ≤ q) (h7 : q ≤ 7) (h : wideE n q = 0) : wideS n (q + 1) = wideS n q ++ ⟨#[0]⟩ := by
  obtain ⟨m, rfl⟩ := Int.eq_ofNat_of_zero_le h0; exact wideS_moreN (by omega) h
/-- Byte k of a text, as a number; 0 behind its end. -/
def bN (s : ByteArray) (k : Nat) : Nat := (s.data.toList.getD k 0).toNat
theorem bN_at (s : ByteArray) : ∀ (n : Nat) (h : n < s.size), (s[n]'h).toNat = bN s n := fun n h => by
  unfold bN
  rw [List.getD_eq_getElem?_getD, List.getElem?_eq_getElem (by rw [Array.length_toList]; exact h)]
  rfl
theorem bN_lt (s : ByteArray) (k : Nat) : bN s k < 256 := UInt8.toNat_lt _
/-- A digit's number; 16: it is none. -/
def hv (c : Nat) : Nat := if 48 ≤ c ∧ c ≤ 57 then c - 48 else if 97 ≤ c ∧ c ≤ 102 then c - 87 else 16
theorem hv_le (c : Nat) : hv c ≤ 16 := by unfold hv; split <;> (try split) <;> omega
/-- Are texts digits, of whole bytes? -/
def hexOk (s : ByteArray) : Prop := s.size % 2 = 0 ∧ ∀ j, j < s.size → hv (bN s j) < 16
def hexAt (s : ByteArray) (j : Nat) : Int := hv (bN s (2 * j)) * 16 + hv (bN s (2 * j + 1))
def hexTo (s : ByteArray) (k : Nat) : List Int := (List.range k).map (hexAt s)
def unhexS (s : ByteArray) : ByteArray := strOfNums (hexTo s (s.size / 2))
theorem hexTo_length (s : ByteArray) (k : Nat) : (hexTo s k).length = k := by simp [hexTo]
theorem hexTo_succ (s : ByteArray) (k : Nat) : hexTo s (k + 1) = hexTo s k ++ [hexAt s k] := by simp [hexTo, List.range_succ]
theorem hexTo_set (s : ByteArray) (k m : Nat) (h : k < m) : (hexTo s k ++ List.replicate (m - k) (0 : Int)).set k (hexAt s k) = hexTo s (k + 1) ++ List.replicate (m - (k + 1)) 0 := by
  obtain ⟨j, hj⟩ : ∃ j, m - k = j + 1 := ⟨m - k - 1, by omega⟩
  rw [hj, show m - (k + 1) = j by omega, hexTo_succ, List.set_append_right _ _ (by rw [hexTo_length]; omega), hexTo_length, Nat.sub_self, List.replicate_succ, List.set_cons_zero, List.append_assoc, List.singleton_append]
/-- A number of bytes, the lowest one first. -/
def leN : List UInt8 → Nat
  | [] => 0
  | c :: l => c.toNat + 256 * leN l
theorem leN_append (a b : List UInt8) : leN (a ++ b) = leN a + 256 ^ a.length * leN b := by
  induction a with
  | nil => simp [leN]
  | cons c a ih => simp only [List.cons_append, leN, ih, List.length_cons, Nat.pow_succ, Nat.mul_add, Nat.mul_comm, Nat.mul_assoc, Nat.mul_left_comm]; omega
theorem leN_lt (l : List UInt8) : leN l < 256 ^ l.length := by
  induction l with
  | nil => simp [leN]
  | cons c l ih => have := c.toNat_lt; simp only [leN, List.length_cons, Nat.pow_succ]; omega
def wholeN (s : ByteArray) : Nat := leN s.data.toList
theorem take_all (s : ByteArray) : s.data.toList.take s.size = s.data.toList := List.take_of_length_le (by rw [Array.length_toList]; exact Nat.le_refl _)
/-- A half's digit, as the reference writes it. -/
theorem dig_low (n : Nat) (h : n < 10) : ((dig n).toNat : Int) = 48 + n := by
  have : ∀ n : Fin 10, ((dig n.val).toNat : Int) = 48 + n.val := by decide
  exact this ⟨n, h⟩
theorem dig_high (n : Nat) (h : n < 16) (h1 : ¬ n < 10) : ((dig n).toNat : Int) = 97 + n - 10 := by
  have : ∀ n : Fin 16, ¬ n.val < 10 → ((dig n.val).toNat : Int) = 97 + n.val - 10 := by decide
  exact this ⟨n, h⟩ h1
def numsOf (l : List UInt8) : List Int := l.map fun c => (c.toNat : Int)
theorem numsOf_append (a b : List UInt8) : numsOf (a ++ b) = numsOf a ++ numsOf b := by simp [numsOf]
theorem numsOf_length (a : List UInt8) : (numsOf a).length = a.length := by simp [numsOf]
theorem str_numsOf (l : List UInt8) : strOfNums (numsOf l) = ⟨l.toArray⟩ := by
  unfold strOfNums numsOf
  congr 2
  rw [List.map_map]
  conv => rhs; rw [← List.map_id l]
  apply List.map_congr_left
  intro c _
  simp
def numsHex (c : Nat) : List Int := [((dig (c / 16)).toNat : Int), ((dig (c % 16)).toNat : Int)]
theorem hexl_snocN (s : ByteArray) (k : Nat) (h : k < s.size) : numsOf (hexl (s.data.toList.take (k + 1))) = numsOf (hexl (s.data.toList.take k)) ++ numsHex (bN s k) := by
  rw [hexl_snoc s k h, numsOf_append, numsOf_append, bN_at s k h, List.append_assoc]; rfl
theorem nh0 (A : List Int) (c : Nat) (x : Int) (h : ((dig (c / 16)).toNat : Int) = x) : A ++ (numsHex c).take 0 ++ [x] = A ++ (numsHex c).take 1 := by simp [numsHex, h]
theorem nh1 (A : List Int) (c : Nat) (x : Int) (h : ((dig (c % 16)).toNat : Int) = x) : A ++ (numsHex c).take 1 ++ [x] = A ++ (numsHex c).take 2 := by simp [numsHex, h]
theorem imod_mul (n : Int) (hn : 0 ≤ n) (a b : Nat) : n % ((a : Int) * b) = n % a + a * (n / a % b) := by
  obtain ⟨N, rfl⟩ := Int.eq_ofNat_of_zero_le hn
  exact_mod_cast (Nat.mod_mul (x := N) (a := a) (b := b))
theorem leN_wide (n : Int) (hn : 0 ≤ n) (m : Nat) : (leN ((wideL n m).map fun x => UInt8.ofNat x.toNat) : Int) = n % 2 ^ (8 * m) := by
  induction m with
  | zero => simp [wideL, leN, Int.emod_one]
  | succ m ih =>
    rw [wideL_succ, List.map_append, leN_append, List.length_map, wideL_length, Int.natCast_add, ih]
    have h0 : 0 ≤ n / 2 ^ (8 * m) := Int.ediv_nonneg hn (Int.pow_nonneg (by decide))
    have h1 : 0 ≤ n / 2 ^ (8 * m) % 256 := Int.emod_nonneg _ (by decide)
    have h2 : n / 2 ^ (8 * m) % 256 < 256 := Int.emod_lt_of_pos _ (by decide)
    have h3 : leN ([n / 2 ^ (8 * m) % 256].map fun x => UInt8.ofNat x.toNat) = (n / 2 ^ (8 * m) % 256).toNat := by
      simp only [List.map_cons, List.map_nil, leN, UInt8.toNat_ofNat']
      omega
    have e : (256 : Int) ^ m = 2 ^ (8 * m) := by rw [Int.pow_mul]; rfl
    rw [h3, Int.natCast_mul, Int.natCast_pow, Int.toNat_of_nonneg h1, show ((256 : Nat) : Int) = 256 from rfl, e, Nat.mul_add, Int.pow_add, show (2 : Int) ^ (8 * 1) = 256 from rfl]
    exact (imod_mul n hn (2 ^ (8 * m)) 256).symm
theorem wholeN_wide (n : Int) (hn : 0 ≤ n) (m : Nat) : (wholeN (strOfNums (wideL n m)) : Int) = n % 2 ^ (8 * m) := leN_wide n hn m
/-- What the laws of layer 1 speak of: so many texts, cut. -/
def fewL (xs : List ByteArray) : List ByteArray := (xs.take 66).map fun s => s.extract 0 (min s.size 4100)
/-- Texts that may be bound, and what they are bound to. -/
def mayBind (xs : List ByteArray) : Prop := xs.length ≤ 64 ∧ ∀ x ∈ xs, x.size ≤ 4096
def bind1 (x : ByteArray) : List UInt8 := (wideS x.size 2).data.toList ++ x.data.toList
def bindL (xs : List ByteArray) : List UInt8 := xs.flatMap bind1
def bindS (xs : List ByteArray) : ByteArray := ⟨(bindL xs).toArray⟩
theorem getD_at {α : Type} (xs : List α) (k : Nat) (d : α) (h : k < xs.length) : xs.getD k d = xs[k] := by rw [List.getD_eq_getElem?_getD, List.getElem?_eq_getElem h]; rfl
theorem take_next (xs : List ByteArray) (k : Nat) (h : k < xs.length) : xs.take (k + 1) = xs.take k ++ [xs.getD k ByteArray.empty] := by
  rw [List.take_succ_eq_append_getElem h, getD_at _ _ _ h]
theorem bindL_take (xs : List ByteArray) (k : Nat) (h : k < xs.length) : bindL (xs.take (k + 1)) = bindL (xs.take k) ++ (wideS (xs.getD k ByteArray.empty).size 2).data.toList ++ (xs.getD k ByteArray.empty).data.toList := by
  rw [take_next xs k h]; simp [bindL, bind1]
theorem all_take {p : ByteArray → Prop} (xs : List ByteArray) (k : Nat) (h : k < xs.length) (ha : ∀ x ∈ xs.take k, p x) : p (xs.getD k ByteArray.empty) → ∀ x ∈ xs.take (k + 1), p x := fun hp x hx => by
  rw [take_next xs k h, List.mem_append, List.mem_singleton] at hx
  rcases hx with hx | rfl
  · exact ha x hx
  · exact hp
theorem no_take (xs : List ByteArray) (k : Nat) (h : k < xs.length) : 4096 < (xs.getD k ByteArray.empty).size → ¬ mayBind xs := fun h4 hm => by
  have := hm.2 (xs.getD k ByteArray.empty) (by rw [getD_at _ _ _ h]; exact List.getElem_mem h)
  omega
theorem wide2_size (n : Nat) (h : n ≤ 4096) : (wideS n 2).size = 2 := by
  have hf : (2 : Nat) < 8 → (n : Int) / 2 ^ (8 * 2) = 0 := fun _ => by omega
  rw [show (2 : Int) = ((2 : Nat) : Int) from rfl, wideS_ok (by omega) hf, strOfNums_size, wideL_length]
theorem wide2_err (n : Nat) (h : n ≤ 4096) : wideE n 2 = 0 := by
  have hf : (2 : Nat) < 8 → (n : Int) / 2 ^ (8 * 2) = 0 := fun _ => by omega
  exact wideE_ok (m := 2) (by omega) hf
theorem bind1_length (x : ByteArray) (h : x.size ≤ 4096) : (bind1 x).length = 2 + x.size := by
  rw [bind1, List.length_append, Array.length_toList, Array.length_toList]
  show (wideS x.size 2).size + x.size = _
  rw [wide2_size _ h]
theorem bindL_le (l : List ByteArray) (ha : ∀ x ∈ l, x.size ≤ 4096) : (bindL l).length ≤ 4098 * l.length := by
  induction l with
  | nil => simp [bindL]
  | cons x l ih =>
    have h1 := bind1_length x (ha x List.mem_cons_self)
    have h2 := ih fun y hy => ha y (List.mem_cons_of_mem _ hy)
    have h3 := ha x List.mem_cons_self
    simp only [bindL, List.flatMap_cons, List.length_append, List.length_cons] at *
    omega
theorem bindL_length (xs : List ByteArray) (k : Nat) (h : k ≤ xs.length) (ha : ∀ x ∈ xs.take k, x.size ≤ 4096) : (bindL (xs.take k)).length ≤ 4098 * k := by
  have := bindL_le _ ha
  rwa [List.length_take, Nat.min_eq_left h] at this
theorem bindL_append (a b : List ByteArray) : bindL (a ++ b) = bindL a ++ bindL b := by simp [bindL]
theorem bindS_append (a b : List ByteArray) : bindS (a ++ b) = bindS a ++ bindS b := by
  apply ByteArray.ext
  rw [ByteArray.data_append]
  simp only [bindS, bindL_append, List.append_toArray]
theorem mayBind_one {s : ByteArray} (h : s.size ≤ 4096) : mayBind [s] := ⟨by simp, fun x hx => by rw [List.mem_singleton] at hx; rw [hx]; exact h⟩
theorem mayBind_snoc {l : List ByteArray} {s : ByteArray} (hl : mayBind l) (h : s.size ≤ 4096) : mayBind (l ++ [s]) ↔ l.length ≠ 64 := by
  have h1 := hl.1
  constructor
  · intro hm; have := hm.1; rw [List.length_append] at this; simp at this; omega
  · intro hn
    refine ⟨by rw [List.length_append]; simp; omega, fun x hx => ?_⟩
    rw [List.mem_append, List.mem_singleton] at hx
    rcases hx with hx | rfl
    · exact hl.2 x hx
    · exact h
theorem wide2_inj {a b : Nat} (ha : a ≤ 4096) (hb : b ≤ 4096) (h : wideS a 2 = wideS b 2) : a = b := by
  have fa : (2 : Nat) < 8 → (a : Int) / 2 ^ (8 * 2) = 0 := fun _ => by omega
  have fb : (2 : Nat) < 8 → (b : Int) / 2 ^ (8 * 2) = 0 := fun _ => by omega
  rw [show (2 : Int) = ((2 : Nat) : Int) from rfl, wideS_ok (by omega) fa, wideS_ok (by omega) fb] at h
  have h1 := wholeN_wide a (by omega) 2
  have h2 := wholeN_wide b (by omega) 2
  rw [h, h2] at h1
  omega
theorem bindL_inj : ∀ (l m : List ByteArray), (∀ x ∈ l, x.size ≤ 4096) → (∀ x ∈ m, x.size ≤ 4096) → bindL l = bindL m → l = m
  | [], [], _, _, _ => rfl
  | [], y :: m, _, hm, h => by
    have := bind1_length y (hm y List.mem_cons_self)
    have h2 := congrArg List.length h
    simp only [bindL, List.flatMap_nil, List.flatMap_cons, List.length_append, List.length_nil] at h2
    omega
  | x :: l, [], hl, _, h => by
    have := bind1_length x (hl x List.mem_cons_self)
    have h2 := congrArg List.length h
    simp only [bindL, List.flatMap_nil, List.flatMap_cons, List.length_append, List.length_nil] at h2
    omega
  | x :: l, y :: m, hl, hm, h => by
    have hx := hl x List.mem_cons_self
    have hy := hm y List.mem_cons_self
    simp only [bindL, List.flatMap_cons, bind1, List.append_assoc] at h
    have sx := wide2_size x.size hx
    have sy := wide2_size y.size hy
    obtain ⟨e1, e2⟩ := List.append_inj h (by rw [Array.length_toList, Array.length_toList]; exact sx.trans sy.symm)
    have e3 := wide2_inj hx hy (ByteArray.ext (Array.toList_inj.1 e1))
    obtain ⟨e4, e5⟩ := List.append_inj e2 (by rw [Array.length_toList, Array.length_toList]; exact e3)
    rw [ByteArray.ext (Array.toList_inj.1 e4), bindL_inj l m (fun z hz => hl z (List.mem_cons_of_mem _ hz)) (fun z hz => hm z (List.mem_cons_of_mem _ hz)) e5]
theorem bindS_inj {l m : List ByteArray} (hl : mayBind l) (hm : mayBind m) : bindS l = bindS m ↔ l = m :=
  ⟨fun h => bindL_inj l m hl.2 hm.2 (by have := congrArg ByteArray.data h; simpa [bindS] using this), fun h => by rw [h]⟩
theorem bindS_size {l : List ByteArray} (hl : mayBind l) : (bindS l).size ≤ 262272 := by
  have h1 := bindL_le l hl.2
  have h2 := hl.1
  show (bindL l).toArray.size ≤ _
  rw [List.size_toArray]; omega
end Go.Proofs.YthcngbbceahdlaaDoor
end

section
/- Hex, read and written, in both ways. -/
namespace Go.Proofs.YthcngbbceahdlaaDoor.V.M
set_option linter.unusedVariables false
set_option linter.unusedSimpArgs false
open Go Go.RowKit
theorem bn_dig (n : Nat) (h : n < 16) : bn (dig n) = if n < 10 then 48 + (n : Int) else 97 + (n : Int) - 10 := by
  have : ∀ n : Fin 16, bn (dig n.val) = if n.val < 10 then 48 + (n.val : Int) else 97 + (n.val : Int) - 10 := by decide
  exact this ⟨n, h⟩
end Go.Proofs.YthcngbbceahdlaaDoor.V.M
end

section
/- Hex read back, in both ways; digests parsed in both ways. -/
namespace Go.Proofs.YthcngbbceahdlaaDoor.V.M
set_option linter.unusedVariables false
set_option linter.unusedSimpArgs false
open Go Go.RowKit
def hx (c : UInt8) : Nat := if 48 ≤ c.toNat ∧ c.toNat ≤ 57 then c.toNat - 48 else if 97 ≤ c.toNat ∧ c.toNat ≤ 102 then c.toNat - 87 else 16
def un : Str → Option Str
  | [] => some []
  | [_] => none
  | a :: b :: r => if hx a < 16 ∧ hx b < 16 then (un r).map (UInt8.ofNat (16 * hx a + hx b) :: ·) else none
theorem u8_all {P : UInt8 → Prop} [DecidablePred P] (h : (List.range 256).all (fun n => decide (P (UInt8.ofNat n))) = true) (c : UInt8) : P c := by
  have := (List.all_eq_true.mp h) c.toNat (List.mem_range.mpr c.toNat_lt)
  simpa using this
abbrev dgs : Str := [48, 49, 50, 51, 52, 53, 54, 55, 56, 57, 97, 98, 99, 100, 101, 102]
theorem ib_ok (c : UInt8) : f_strings_IndexByte dgs (bn c) = some (if hx c < 16 then (hx c : Int) else -1) :=
  u8_all (P := fun c => f_strings_IndexByte dgs (bn c) = some (if hx c < 16 then (hx c : Int) else -1)) (by kernel_rfl) c
theorem hx_le (c : UInt8) : hx c ≤ 16 := by unfold hx; split <;> (try split) <;> omega
theorem hx_dig (n : Nat) (h : n < 16) : hx (dig n) = n := by
  have : ∀ n : Fin 16, hx (dig n.val) = n.val := by decide
  exact this ⟨n, h⟩
theorem un_hexl (x : Str) : un (hexl x) = some x := by
  induction x with
  | nil => rfl
  | cons c x ih =>
    have hc := c.toNat_lt
    show un (dig (c.toNat / 16) :: dig (c.toNat % 16) :: hexl x) = _
    rw [un, hx_dig _ (by omega), hx_dig _ (by omega), if_pos (by omega), ih, show 16 * (c.toNat / 16) + c.toNat % 16 = c.toNat by omega]; simp
theorem un_len : ∀ (n : Nat) (s x : Str), s.length ≤ n → un s = some x → s.length = 2 * x.length := by
  intro n
  induction n with
  | zero => intro s x h e; obtain rfl : s = [] := List.length_eq_zero_iff.mp (by omega); cases e; rfl
  | succ n ih =>
    intro s x h e
    match s, e with
    | [], e => cases e; rfl
    | [_], e => cases e
    | a :: b :: r, e =>
      rw [un] at e
      split at e
      · obtain ⟨y, hy, rfl⟩ := Option.map_eq_some_iff.mp e
        have := ih r y (by simp only [List.length_cons] at h; omega) hy
        simp only [List.length_cons]; omega
      · cases e
theorem w8h (a b : UInt8) (ha : hx a < 16) (hb : hx b < 16) : IntKind.u8.wrap (IntKind.i64.wrap ((IntKind.i64.wrap ((hx a : Int) * 16)) + (hx b : Int))) = bn (UInt8.ofNat (16 * hx a + hx b)) := by
  rw [w_i64 (n := (hx a : Int) * 16) (by omega) (by omega), w_i64 (by omega) (by omega), w_u8]; unfold bn; rw [UInt8.toNat_ofNat']; omega
theorem drop2 (s : Str) (v : Nat) (h : 2 * v + 1 < s.length) : s.drop (2 * v) = s.getD (2 * v) 0 :: s.getD (2 * v + 1) 0 :: s.drop (2 * (v + 1)) := by
  rw [List.drop_eq_getElem_cons (by omega), List.drop_eq_getElem_cons (i := 2 * v + 1) (by omega), List.getD_eq_getElem?_getD, List.getD_eq_getElem?_getD, List.getElem?_eq_getElem (by omega), List.getElem?_eq_getElem (by omega)]; rfl
abbrev pfx : Str := [115, 104, 97, 50, 53, 54, 58]
def parseS (s : Str) : Str × Int := if s.take 7 = pfx then (match un (s.drop 7) with | some x => if x.length = 32 then (x, 0) else ([], 6) | none => ([], 6)) else ([], 6)
end Go.Proofs.YthcngbbceahdlaaDoor.V.M
end

section
/- A text parted at a byte: plain. -/
namespace Go.Proofs.YthcngbbceahdlaaDoor
set_option linter.unusedVariables false
set_option linter.unusedSimpArgs false
def splitOnB (c : UInt8) : List UInt8 → List (List UInt8)
  | [] => [[]]
  | x :: l => if x = c then [] :: splitOnB c l else match splitOnB c l with
    | h :: t => (x :: h) :: t
    | [] => [[x]]
/-- All of a row, one by one, until one is not. -/
def allO {α : Type} (f : α → Option Bool) : List α → Option Bool
  | [] => some true
  | x :: l => (f x).bind fun b => if b then allO f l else some false
def repoOf (f : List UInt8 → Option Bool) (s : List UInt8) : Option Bool := if 128 < s.length then some false else allO f (splitOnB 47 s)
theorem splitOnB_ne (c : UInt8) (l : List UInt8) : splitOnB c l ≠ [] := by
  cases l with
  | nil => simp [splitOnB]
  | cons x l => unfold splitOnB; split <;> (try split) <;> simp
theorem splitOnB_none {c : UInt8} {s : List UInt8} (h : Go.Lib.indexByte s c < 0) : splitOnB c s = [s] := by
  induction s with
  | nil => rfl
  | cons x l ih =>
    unfold Go.Lib.indexByte at h
    have g := Go.Lib.indexByte_ge l c
    unfold splitOnB
    by_cases hx : x = c
    · subst hx; simp at h
    · rw [if_neg hx]
      rw [if_neg (by simpa using hx)] at h
      rw [ih (by
        by_cases h1 : Go.Lib.indexByte l c = -1
        · omega
        · rw [if_neg (by simpa using h1)] at h; omega)]
theorem splitOnB_some {c : UInt8} {s : List UInt8} (h : ¬ Go.Lib.indexByte s c < 0) : ∃ i : Nat, Go.Lib.indexByte s c = i ∧ i < s.length ∧ splitOnB c s = s.take i :: splitOnB c (s.drop (i + 1)) := by
  induction s with
  | nil => exact absurd (by unfold Go.Lib.indexByte; decide) h
  | cons x l ih =>
    unfold Go.Lib.indexByte at h ⊢
    by_cases hx : x = c
    · subst hx
      refine ⟨0, by simp, by simp, ?_⟩
      rw [splitOnB, if_pos rfl]; rfl
    · rw [if_neg (by simpa using hx)] at h ⊢
      have g := Go.Lib.indexByte_ge l c
      by_cases h1 : Go.Lib.indexByte l c = -1
      · rw [if_pos (by simpa using h1)] at h; exact absurd (by decide) h
      · rw [if_neg (by simpa using h1)] at h ⊢
        obtain ⟨i, h2, h3, h4⟩ := ih (by omega)
        refine ⟨i + 1, by omega, by simp; omega, ?_⟩
        rw [splitOnB, if_neg hx, h4]; rfl
end Go.Proofs.YthcngbbceahdlaaDoor
end

section
/- Texts: prefixes, places of a byte, what is cut and parted at one. -/
namespace Go.Proofs.YthcngbbceahdlaaDoor.V.M
set_option linter.unusedVariables false
set_option linter.unusedSimpArgs false
open Go Go.RowKit
theorem wG_nat {n : Nat} (h : n < 9223372036854775808) : IntKind.i64.wrap (n : Int) = n := w_i64 (by omega) (by omega)
theorem wG_s {n : Nat} (h : n + 1 < 9223372036854775808) : IntKind.i64.wrap ((n : Int) + 1) = ((n + 1 : Nat) : Int) := by rw [w_i64 (by omega) (by omega)]; rfl
theorem cutG_mid {α : Type} (l : List α) (a b : Nat) : cut l (a : Int) ((a + b : Nat) : Int) = (l.drop a).take b := by
  unfold cut
  rw [Int.toNat_natCast, Int.toNat_natCast, List.take_drop]
def hasP (s p : Str) : Bool := decide (p.length ≤ s.length) && (s.take p.length == p)
theorem hasPrefix_ok (s p : Str) : f_strings_HasPrefix s p = some (hasP s p) := by
  unfold f_strings_HasPrefix f_internal_stringslite_HasPrefix hasP
  rw [gd_t _ (fun h => by simp at h; omega), cut_zero, Option.bind_some]
  congr 2
  rw [decide_eq_decide]; omega
theorem hasP_iff {s p : Str} : hasP s p = true ↔ p.length ≤ s.length ∧ s.take p.length = p := by unfold hasP; simp
theorem hasP_pre {s p : Str} : hasP s p = true ↔ ∃ t, s = p ++ t := by
  rw [hasP_iff]
  constructor
  · rintro ⟨_, h⟩; exact ⟨s.drop p.length, by conv => lhs; rw [← List.take_append_drop p.length s, h]⟩
  · rintro ⟨t, rfl⟩; simp
def hasSf (s p : Str) : Bool := decide (p.length ≤ s.length) && (s.drop (s.length - p.length) == p)
theorem hasSuffix_ok (s p : Str) (hs : s.length < 4611686018427387904) (hp : p.length < 4611686018427387904) : f_strings_HasSuffix s p = some (hasSf s p) := by
  unfold f_strings_HasSuffix f_internal_stringslite_HasSuffix hasSf
  rw [w_i64 (by omega) (by omega)]
  by_cases c : p.length ≤ s.length
  · rw [gd_t _ (fun _ => by omega), show ((s.length : Int) - (p.length : Int)) = ((s.length - p.length : Nat) : Int) by omega, cut_all, Option.bind_some]
    congr 2
    rw [decide_eq_decide]; omega
  · have e : (decide ((s.length : Int) ≥ (p.length : Int))) = false := decide_eq_false (by omega)
    rw [e, gd_t _ (fun h => by cases h), show decide (p.length ≤ s.length) = false from decide_eq_false c]; rfl
theorem hasSf_suf {s p : Str} : hasSf s p = true ↔ ∃ t, s = t ++ p := by
  unfold hasSf
  rw [Bool.and_eq_true, decide_eq_true_eq, beq_iff_eq]
  constructor
  · rintro ⟨_, h⟩; exact ⟨s.take (s.length - p.length), by conv => lhs; rw [← List.take_append_drop (s.length - p.length) s, h]⟩
  · rintro ⟨t, rfl⟩
    refine ⟨by simp, ?_⟩
    rw [List.length_append, Nat.add_sub_cancel]; exact List.drop_left' rfl
theorem index_ok (s : Str) (c : UInt8) : f_strings_Index s [c] = some (Lib.indexByte s c) := rfl
theorem indexByte_mem (s : Str) (c : UInt8) : 0 ≤ Lib.indexByte s c ↔ c ∈ s := by
  induction s with
  | nil => simp [Lib.indexByte]
  | cons x l ih =>
    have g := Lib.indexByte_ge l c
    unfold Lib.indexByte
    by_cases hx : x = c
    · subst hx; simp
    · rw [if_neg (by simpa using hx)]
      by_cases h1 : Lib.indexByte l c = -1
      · rw [if_pos (by simpa using h1)]
        have : ¬ c ∈ l := by rw [← ih]; omega
        simp [this]; exact fun h => hx h.symm
      · rw [if_neg (by simpa using h1)]
        have : c ∈ l := by rw [← ih]; omega
        simp [this]; omega
theorem indexByte_at {s : Str} {c : UInt8} (h : 0 ≤ Lib.indexByte s c) : ∃ i : Nat, Lib.indexByte s c = i ∧ i < s.length ∧ s = s.take i ++ c :: s.drop (i + 1) ∧ c ∉ s.take i := by
  induction s with
  | nil => exact absurd h (by simp [Lib.indexByte])
  | cons x l ih =>
    have g := Lib.indexByte_ge l c
    unfold Lib.indexByte at h ⊢
    by_cases hx : x = c
    · subst hx; exact ⟨0, by simp, by simp, by simp, by simp⟩
    · rw [if_neg (by simpa using hx)] at h ⊢
      by_cases h1 : Lib.indexByte l c = -1
      · rw [if_pos (by simpa using h1)] at h; exact absurd h (by decide)
      · rw [if_neg (by simpa using h1)] at h ⊢
        obtain ⟨i, e1, e2, e3, e4⟩ := ih (by omega)
        refine ⟨i + 1, by omega, by simp; omega, ?_, ?_⟩
        · rw [List.take_succ_cons, List.drop_succ_cons, List.cons_append, ← e3]
        · rw [List.take_succ_cons, List.mem_cons]; rintro (h2 | h2); exact hx h2.symm; exact e4 h2
theorem contains_ok (s : Str) (c : UInt8) : f_strings_Contains s [c] = some (decide (c ∈ s)) := by
  unfold f_strings_Contains
  rw [index_ok, Option.bind_some]
  congr 1
  rw [decide_eq_decide]; exact indexByte_mem s c
/-- What is ahead of a byte, and behind it. -/
def cutS (s : Str) (c : UInt8) : Str × Str × Bool := if 0 ≤ Lib.indexByte s c then (s.take (Lib.indexByte s c).toNat, s.drop ((Lib.indexByte s c).toNat + 1), true) else (s, [], false)
theorem cut_ok (s : Str) (c : UInt8) (hs : s.length < 4611686018427387904) : f_strings_Cut s [c] = some (cutS s c) := by
  unfold f_strings_Cut f_internal_stringslite_Cut cutS
  rw [show f_internal_stringslite_Index s [c] = some (Lib.indexByte s c) from rfl, Option.bind_some]
  by_cases h : 0 ≤ Lib.indexByte s c
  · obtain ⟨i, e1, e2, e3, _⟩ := indexByte_at h
    rw [if_pos h, e1, if_pos (by simp), gd_t _ (by omega)]
    have w : IntKind.i64.wrap ((i : Int) + (([c] : Str).length : Int)) = ((i + 1 : Nat) : Int) := wG_s (by omega)
    rw [w, gd_t _ (by omega), cut_zero, cut_all, Int.toNat_natCast]; rfl
  · rw [if_neg h, if_neg (by simpa using h)]; rfl
theorem count_split (c : UInt8) : ∀ s : Str, (splitOnB c s).length = s.count c + 1
  | [] => rfl
  | x :: l => by
    unfold splitOnB
    by_cases hx : x = c
    · subst hx; rw [if_pos rfl, List.length_cons, count_split x l, List.count_cons_self]
    · rw [if_neg hx, List.count_cons_of_ne hx, ← count_split c l]
      have := splitOnB_ne c l
      split
      · rename_i h t e; rw [e]; rfl
      · rename_i e; exact absurd e this
theorem split17_ok (s0 : Str) (c : UInt8) (n2 : Int) (N : Nat) (hn : n2 = ((N + 1 : Nat) : Int)) (hN : N < 1000000) (k : Nat) : ∀ (i m : Nat) (s : Str) (a : List Str), i + k = N → k < m → s.count c = k → s.length ≤ 1000000 → a.length = N + 1 →
    ∃ s3 a2, f_strings_genSplit_l17 s0 [c] 0 n2 m s (i : Int) a = some (s3, (N : Int), a2) ∧ a2.length = N + 1 ∧ a.take i ++ splitOnB c s = a2.take N ++ [s3] := by
  subst hn
  induction k with
  | zero =>
    intro i m s a hi hm hc hs ha
    obtain ⟨m, rfl⟩ : ∃ k, m = k + 1 := ⟨m - 1, by omega⟩
    rw [f_strings_genSplit_l17, w_i64 (n := (((N + 1 : Nat) : Int) - 1)) (by omega) (by omega), if_neg (by simp; omega)]
    refine ⟨s, a, by rw [show i = N by omega], ha, ?_⟩
    have hneg : Lib.indexByte s c < 0 := by
      rw [← Int.not_le, indexByte_mem]
      exact List.count_eq_zero.mp hc
    rw [splitOnB_none hneg, show i = N by omega]
  | succ k ih =>
    intro i m s a hi hm hc hs ha
    obtain ⟨m, rfl⟩ : ∃ k, m = k + 1 := ⟨m - 1, by omega⟩
    have hpos : 0 ≤ Lib.indexByte s c := by
      rw [indexByte_mem, ← List.count_pos_iff]; omega
    obtain ⟨j, e1, e2, e3⟩ := splitOnB_some (c := c) (s := s) (by omega)
    have hcount : (s.drop (j + 1)).count c = k := by
      have h2 := count_split c s
      rw [e3, List.length_cons, count_split] at h2
      omega
    have w1 : IntKind.i64.wrap ((j : Int) + 0) = (j : Int) := by rw [Int.add_zero, wG_nat (by omega)]
    have w2 : IntKind.i64.wrap ((j : Int) + (([c] : Str).length : Int)) = ((j + 1 : Nat) : Int) := wG_s (by omega)
    rw [f_strings_genSplit_l17, w_i64 (n := (((N + 1 : Nat) : Int) - 1)) (by omega) (by omega), if_pos (by simp; omega), index_ok, Option.bind_some, e1, if_neg (by simp), w1, w2, gd_t _ (by omega), ix_nat, List.getElem?_eq_getElem (by omega), Option.bind_some, gd_t _ (by omega), cut_zero, cut_all, wG_s (by omega), Int.toNat_natCast]
    obtain ⟨s3, a2, q1, q2, q3⟩ := ih (i + 1) m (s.drop (j + 1)) (a.set i (s.take j)) (by omega) (by omega) hcount (by rw [List.length_drop]; omega) (by rw [List.length_set]; exact ha)
    refine ⟨s3, a2, q1, q2, ?_⟩
    rw [← q3, e3, List.take_add_one, List.getElem?_set_self (by omega), List.take_set_of_le (Nat.le_refl i)]
    simp
theorem split_ok (s : Str) (c : UInt8) (hs : s.length < 1000000) : f_strings_Split s [c] = some (splitOnB c s) := by
  unfold f_strings_Split f_strings_genSplit
  have hc : s.count c ≤ s.length := List.count_le_length
  rw [if_neg (by decide), if_neg (by simp), if_pos (by decide), show f_strings_Count s [c] = some ((s.count c : Nat) : Int) from rfl, Option.bind_some, wG_s (by omega), Option.bind_some, wG_s (by omega), if_neg (by omega), Option.bind_some, gd_t _ (by omega)]
  obtain ⟨s3, a2, q1, q2, q3⟩ := split17_ok s c ((s.count c + 1 : Nat) : Int) (s.count c) rfl (by omega) (s.count c) 0 (((IntKind.i64.wrap (((s.count c + 1 : Nat) : Int) - 1)) - 0).toNat + 1) s (List.replicate ((s.count c + 1 : Nat) : Int).toNat []) (by omega) (by rw [w_i64 (by omega) (by omega)]; omega) rfl (by omega) (by simp)
  rw [show ((0 : Nat) : Int) = 0 from rfl] at q1
  rw [q1, Option.bind_some]
  dsimp only
  rw [ix_nat, List.getElem?_eq_getElem (by omega), Option.bind_some, wG_s (by omega), gd_t _ (by omega), cut_zero, Int.toNat_natCast, Option.bind_some]
  rw [List.take_zero, List.nil_append] at q3
  rw [q3, List.take_add_one, List.getElem?_set_self (by omega), List.take_set_of_le (Nat.le_refl _)]; rfl
theorem seekB (s : List Int) (f : Int → Option Bool) (p : Int → Bool) (hf : ∀ x, f x = some (p x)) (hb : s.length < 4611686018427387904) (k : Nat) : ∀ (i m : Nat), i + k = s.length → k < m →
    ∃ r, f_slices_IndexFunc_byte_byte_l7 s f m (i : Int) = some r ∧ (((s.drop i).any p) = true → ∃ j : Nat, r = .inr (j : Int)) ∧ (((s.drop i).any p) = false → ∃ z, r = .inl z) := by
  induction k with
  | zero =>
    intro i m hi hm
    obtain ⟨m, rfl⟩ : ∃ k, m = k + 1 := ⟨m - 1, by omega⟩
    rw [f_slices_IndexFunc_byte_byte_l7, if_neg (by simp; omega), List.drop_eq_nil_of_le (by omega)]
    exact ⟨_, rfl, (fun h => by simp at h), (fun _ => ⟨(i : Int), rfl⟩)⟩
  | succ k ih =>
    intro i m hi hm
    obtain ⟨m, rfl⟩ : ∃ k, m = k + 1 := ⟨m - 1, by omega⟩
    rw [f_slices_IndexFunc_byte_byte_l7, if_pos (by simp; omega), ix_nat, List.getElem?_eq_getElem (by omega), Option.bind_some, hf, Option.bind_some, List.drop_eq_getElem_cons (show i < s.length by omega), List.any_cons]
    by_cases c : p (s[i]'(by omega)) = true
    · rw [if_pos c, c]; exact ⟨_, rfl, (fun h => ⟨i, rfl⟩), (fun h => by simp at h)⟩
    · rw [if_neg c, wG_s (by omega)]
      have c2 : p (s[i]'(by omega)) = false := by simpa using c
      rw [c2, Bool.false_or]
      exact ih (i + 1) m (by omega) (by omega)
theorem containsB (s : List Int) (f : Int → Option Bool) (p : Int → Bool) (hf : ∀ x, f x = some (p x)) (hb : s.length < 4611686018427387904) : f_slices_ContainsFunc_byte_byte s f = some (s.any p) := by
  unfold f_slices_ContainsFunc_byte_byte f_slices_IndexFunc_byte_byte
  obtain ⟨r, e, h1, h2⟩ := seekB s f p hf hb s.length 0 ((((s.length : Int) : Int) - 0).toNat + 1) (by omega) (by omega)
  rw [show ((0 : Nat) : Int) = 0 from rfl] at e
  rw [List.drop_zero] at h1 h2
  rw [e, Option.bind_some]
  cases c : s.any p with
  | true => obtain ⟨j, rfl⟩ := h1 c; exact congrArg some (decide_eq_true (Int.natCast_nonneg j))
  | false => obtain ⟨z, rfl⟩ := h2 c; rfl
theorem seekGS (s : List Str) (f : Str → Option Bool) (p : Str → Bool) (hf : ∀ x ∈ s, f x = some (p x)) (hb : s.length < 4611686018427387904) (k : Nat) : ∀ (i m : Nat), i + k = s.length → k < m →
    ∃ r, f_slices_IndexFunc_string_string_l7 s f m (i : Int) = some r ∧ (((s.drop i).any p) = true → ∃ j : Nat, r = .inr (j : Int)) ∧ (((s.drop i).any p) = false → ∃ z, r = .inl z) := by
  induction k with
  | zero =>
    intro i m hi hm
    obtain ⟨m, rfl⟩ : ∃ k, m = k + 1 := ⟨m - 1, by omega⟩
    rw [f_slices_IndexFunc_string_string_l7, if_neg (by simp; omega), List.drop_eq_nil_of_le (by omega)]
    exact ⟨_, rfl, (fun h => by simp at h), (fun _ => ⟨(i : Int), rfl⟩)⟩
  | succ k ih =>
    intro i m hi hm
    obtain ⟨m, rfl⟩ : ∃ k, m = k + 1 := ⟨m - 1, by omega⟩
    rw [f_slices_IndexFunc_string_string_l7, if_pos (by simp; omega), ix_nat, List.getElem?_eq_getElem (by omega), Option.bind_some, hf _ (List.getElem_mem _), Option.bind_some, List.drop_eq_getElem_cons (show i < s.length by omega), List.any_cons]
    by_cases c : p (s[i]'(by omega)) = true
    · rw [if_pos c, c]; exact ⟨_, rfl, (fun h => ⟨i, rfl⟩), (fun h => by simp at h)⟩
    · rw [if_neg c, wG_s (by omega)]
      have c2 : p (s[i]'(by omega)) = false := by simpa using c
      rw [c2, Bool.false_or]
      exact ih (i + 1) m (by omega) (by omega)
theorem containsGS (s : List Str) (f : Str → Option Bool) (p : Str → Bool) (hf : ∀ x ∈ s, f x = some (p x)) (hb : s.length < 4611686018427387904) : f_slices_ContainsFunc_string_string s f = some (s.any p) := by
  unfold f_slices_ContainsFunc_string_string f_slices_IndexFunc_string_string
  obtain ⟨r, e, h1, h2⟩ := seekGS s f p hf hb s.length 0 ((((s.length : Int) : Int) - 0).toNat + 1) (by omega) (by omega)
  rw [show ((0 : Nat) : Int) = 0 from rfl] at e
  rw [List.drop_zero] at h1 h2
  rw [e, Option.bind_some]
  cases c : s.any p with
  | true => obtain ⟨j, rfl⟩ := h1 c; exact congrArg some (decide_eq_true (Int.natCast_nonneg j))
  | false => obtain ⟨z, rfl⟩ := h2 c; rfl
end Go.Proofs.YthcngbbceahdlaaDoor.V.M
end

section
/- Octet: numbers in bytes, read and written; the loose reader; what is bound. -/
namespace Go.Proofs.YthcngbbceahdlaaDoor.V.M
set_option linter.unusedVariables false
set_option linter.unusedSimpArgs false
open Go Go.RowKit
theorem cut_take {α : Type} (l : List α) (k : Nat) : cut l 0 (if (k : Int) < (l.length : Int) then (k : Int) else (l.length : Int)) = l.take k := by
  by_cases c : k < l.length
  · rw [if_pos (by omega)]; exact cut_zero l k
  · rw [if_neg (by omega), cut_zero, List.take_of_length_le (by omega), List.take_of_length_le (by omega)]
theorem cut_gd {α : Type} (l : List α) (k : Nat) : 0 ≤ (if (k : Int) < (l.length : Int) then (k : Int) else (l.length : Int)) ∧ (if (k : Int) < (l.length : Int) then (k : Int) else (l.length : Int)) ≤ (l.length : Int) := by
  split <;> omega
theorem cut_gdI {α : Type} (l : List α) (k : Int) (hk : 0 ≤ k) : 0 ≤ (if k < (l.length : Int) then k else (l.length : Int)) ∧ (if k < (l.length : Int) then k else (l.length : Int)) ≤ (l.length : Int) := by
  split <;> omega
def fewL (l : List Str) : List Str := (l.take 66).map (·.take 4100)
theorem fewL_len (l : List Str) : (fewL l).length ≤ 66 := by unfold fewL; rw [List.length_map, List.length_take]; omega
/-- What a text's bytes say, the lowest one first. -/
def wholeN : Str → Nat
  | [] => 0
  | c :: l => c.toNat + 256 * wholeN l
theorem wholeN_lt : ∀ l : Str, wholeN l < 2 ^ (8 * l.length)
  | [] => by decide
  | c :: l => by
    have := wholeN_lt l
    have hc := c.toNat_lt
    rw [wholeN, List.length_cons, show 8 * (l.length + 1) = 8 * l.length + 8 by omega, Nat.pow_add]
    omega
theorem wholeN_snoc (l : Str) (c : UInt8) : wholeN (l ++ [c]) = wholeN l + c.toNat * 2 ^ (8 * l.length) := by
  induction l with
  | nil => simp [wholeN]
  | cons a l ih => rw [List.cons_append, wholeN, wholeN, ih, List.length_cons, show 8 * (l.length + 1) = 8 * l.length + 8 by omega, Nat.pow_add, Nat.mul_add, ← Nat.mul_assoc, show 2 ^ (8 * l.length) * 2 ^ 8 = 256 * 2 ^ (8 * l.length) by omega, ← Nat.mul_assoc, Nat.mul_comm 256 c.toNat]; omega
theorem w_u64n {n : Nat} (h : n < 18446744073709551616) : IntKind.u64.wrap (n : Int) = (n : Int) := w_u64 (by omega) (by omega)
theorem or_step (n : Nat) (c : UInt8) (k : Nat) (hk : k < 8) (hn : n < 2 ^ (8 * k)) :
    IntKind.u64.wrap ((BitVec.ofInt IntKind.u64.bits (n : Int) ||| BitVec.ofInt IntKind.u64.bits (IntKind.u64.wrap ((IntKind.u64.wrap (bn c)) * 2 ^ (min (IntKind.i64.wrap (8 * (k : Int))).toNat IntKind.u64.bits)))).toNat) = ((n + c.toNat * 2 ^ (8 * k) : Nat) : Int) := by
  have hc := c.toNat_lt
  have hp : 2 ^ (8 * k) ≤ 2 ^ 56 := Nat.pow_le_pow_right (by decide) (by omega)
  have hm : c.toNat * 2 ^ (8 * k) ≤ 255 * 2 ^ 56 := Nat.mul_le_mul (by omega) hp
  have hs : n + c.toNat * 2 ^ (8 * k) < 18446744073709551616 := by
    have : c.toNat * 2 ^ (8 * k) + 2 ^ (8 * k) ≤ 256 * 2 ^ 56 := by
      have : (c.toNat + 1) * 2 ^ (8 * k) ≤ 256 * 2 ^ 56 := Nat.mul_le_mul (by omega) hp
      rw [Nat.add_mul] at this; omega
    omega
  rw [show bn c = ((c.toNat : Nat) : Int) from rfl, w_u64n (n := c.toNat) (by omega), w_i64 (by omega) (by omega), show (8 * (k : Int)).toNat = 8 * k by omega, show min (8 * k) IntKind.u64.bits = 8 * k by show min (8 * k) 64 = _; omega,
    show ((c.toNat : Int) * 2 ^ (8 * k)) = ((c.toNat * 2 ^ (8 * k) : Nat) : Int) by rw [Int.natCast_mul, Int.natCast_pow]; rfl, w_u64n (n := c.toNat * 2 ^ (8 * k)) (by omega), BitVec.toNat_or, BitVec.toNat_ofInt, BitVec.toNat_ofInt]
  show IntKind.u64.wrap (((((n : Int) % (18446744073709551616 : Int)).toNat ||| (((c.toNat * 2 ^ (8 * k) : Nat) : Int) % (18446744073709551616 : Int)).toNat : Nat)) : Int) = _
  rw [show ((n : Int) % (18446744073709551616 : Int)).toNat = n by omega, show (((c.toNat * 2 ^ (8 * k) : Nat) : Int) % (18446744073709551616 : Int)).toNat = c.toNat * 2 ^ (8 * k) by omega]
  have e := Nat.shiftLeft_add_eq_or_of_lt hn c.toNat
  rw [Nat.shiftLeft_eq] at e
  rw [Nat.or_comm, ← e, Nat.add_comm, w_u64n hs]
/-- The loose reader. -/
def looseG : Nat → Str → List Str → List Str × Int
  | 0, _, _ => ([], 0)
  | m + 1, s, out =>
    if s = [] then (out, 0)
    else if s.length < 2 then ([], 3)
    else if 4096 < wholeN (s.take 2) ∨ out.length = 64 then ([], 2)
    else if (s.drop 2).length < wholeN (s.take 2) then ([], 3)
    else looseG m ((s.drop 2).drop (wholeN (s.take 2))) (out ++ [(s.drop 2).take (wholeN (s.take 2))])
def looseS (s : Str) : List Str × Int := looseG (s.length + 1) s []
def sumG (p : List Str × Int) : (Str × (List Str)) ⊕ ((List Str) × Int) := if p.2 = 0 then .inl ([], p.1) else .inr p
theorem lg_nil (m : Nat) (out : List Str) : looseG (m + 1) [] out = (out, 0) := by rw [looseG, if_pos rfl]
theorem lg_one (m : Nat) (s : Str) (out : List Str) (c : s ≠ []) (c1 : s.length < 2) : looseG (m + 1) s out = ([], 3) := by rw [looseG, if_neg c, if_pos c1]
theorem lg_big (m : Nat) (s : Str) (out : List Str) (c : s ≠ []) (c1 : ¬ s.length < 2) (c2 : 4096 < wholeN (s.take 2) ∨ out.length = 64) : looseG (m + 1) s out = ([], 2) := by rw [looseG, if_neg c, if_neg c1, if_pos c2]
theorem lg_short (m : Nat) (s : Str) (out : List Str) (c : s ≠ []) (c1 : ¬ s.length < 2) (c2 : ¬ (4096 < wholeN (s.take 2) ∨ out.length = 64)) (c3 : (s.drop 2).length < wholeN (s.take 2)) : looseG (m + 1) s out = ([], 3) := by rw [looseG, if_neg c, if_neg c1, if_neg c2, if_pos c3]
theorem lg_step (m : Nat) (s : Str) (out : List Str) (c : s ≠ []) (c1 : ¬ s.length < 2) (c2 : ¬ (4096 < wholeN (s.take 2) ∨ out.length = 64)) (c3 : ¬ (s.drop 2).length < wholeN (s.take 2)) : looseG (m + 1) s out = looseG m ((s.drop 2).drop (wholeN (s.take 2))) (out ++ [(s.drop 2).take (wholeN (s.take 2))]) := by rw [looseG, if_neg c, if_neg c1, if_neg c2, if_neg c3]
end Go.Proofs.YthcngbbceahdlaaDoor.V.M
end

section
/- Globs: pieces, what each takes, and whether a text is what pieces stand for. -/
namespace Go.Proofs.YthcngbbceahdlaaDoor.V.M
set_option linter.unusedVariables false
set_option linter.unusedSimpArgs false
open Go Go.RowKit
inductive Pc where
  | plain (c : UInt8)
  | one
  | many (slash : Bool)
  | words (l : List Str)
def Pc.enc : Pc → Sc
  | .plain c => .ifc tyPlain false [.int .u8 (bn c)]
  | .one => .ifc tyOne true []
  | .many b => .ifc tyMany true [.bool b]
  | .words l => .ifc tyWords false [.sl (l.map eS)]
/-- Whether a text is what a piece stands for. -/
def Pc.is : Pc → Str → Bool
  | .plain c, u => u == [c]
  | .one, u => match u with | [c] => !(c == 47) | _ => false
  | .many b, u => b || !(u.contains 47)
  | .words l, u => l.contains u
/-- How many bytes of a text a piece may take. -/
def Pc.takes : Pc → Str → List Nat
  | .plain c, s => if s.head? = some c then [1] else []
  | .one, s => match s with | [] => [] | c :: _ => if c = 47 then [] else [1]
  | .many b, s => (List.range (s.length + 1)).filter fun n => b || !((s.take n).contains 47)
  | .words l, s => ((l.filter fun x => hasP s x).map List.length).eraseDups
theorem Pc.takes_iff (p : Pc) (s : Str) (n : Nat) : n ∈ p.takes s ↔ n ≤ s.length ∧ p.is (s.take n) = true := by
  cases p with
  | plain c =>
    cases s with
    | nil => simp [takes, is]
    | cons x l =>
      simp only [takes, is, List.head?_cons, Option.some.injEq]
      by_cases h : x = c
      · subst h
        rw [if_pos rfl, List.mem_singleton]
        constructor
        · rintro rfl; simp
        · rintro ⟨h1, h2⟩
          have h3 := congrArg List.length (beq_iff_eq.mp h2)
          simp at h3 h1; omega
      · rw [if_neg h]
        simp
        intro _ h2
        cases n with
        | zero => simp at h2
        | succ n => simp at h2; exact absurd h2.1 h
  | one =>
    cases s with
    | nil => simp [takes, is]
    | cons x l =>
      simp only [takes, is]
      by_cases h : x = 47
      · subst h
        rw [if_pos rfl]
        simp
        intro h1
        cases n with
        | zero => simp
        | succ n => cases n with
          | zero => simp
          | succ n => cases l with
            | nil => simp at h1
            | cons y l => simp
      · rw [if_neg h, List.mem_singleton]
        constructor
        · rintro rfl; simp [h]
        · rintro ⟨h1, h2⟩
          cases n with
          | zero => simp at h2
          | succ n => cases n with
            | zero => rfl
            | succ n => cases l with
              | nil => simp at h1
              | cons y l => simp at h2
  | many b => simp [takes, is]; intro _; omega
  | words l =>
    simp only [takes, is, List.mem_eraseDups, List.mem_map, List.mem_filter, List.contains_iff_mem]
    constructor
    · rintro ⟨x, ⟨h1, h2⟩, rfl⟩
      obtain ⟨h3, h4⟩ := hasP_iff.mp h2
      exact ⟨h3, by rw [h4]; exact h1⟩
    · rintro ⟨h1, h2⟩
      exact ⟨s.take n, ⟨h2, hasP_iff.mpr ⟨by rw [List.length_take]; omega, by rw [List.length_take, Nat.min_eq_left h1]⟩⟩, by rw [List.length_take]; omega⟩
theorem bn_eqG (a b : UInt8) : (bn a == bn b) = decide (a = b) := by
  unfold bn
  rw [Bool.eq_iff_iff, beq_iff_eq, decide_eq_true_eq]
  constructor
  · intro h; exact UInt8.toNat_inj.mp (by omega)
  · rintro rfl; rfl
theorem plain_takes (c : UInt8) (s : Str) : f_glob_plain_takes (bn c) s = some (((Pc.plain c).takes s).map fun n : Nat => (n : Int)) := by
  unfold f_glob_plain_takes
  cases s with
  | nil => rfl
  | cons x l =>
    rw [gd_t _ (fun _ => by simp), show (x :: l).getD 0 0 = x from rfl, bn_eqG]
    simp only [Pc.takes, List.head?_cons, Option.some.injEq]
    by_cases h : x = c
    · rw [if_pos h, if_pos (by simp [h])]; rfl
    · rw [if_neg h, if_neg (by simp [h])]; rfl
theorem one_takes (s : Str) : f_glob_one_takes default s = some ((Pc.one.takes s).map fun n : Nat => (n : Int)) := by
  unfold f_glob_one_takes
  cases s with
  | nil => rfl
  | cons x l =>
    rw [gd_t _ (fun _ => by simp), show (x :: l).getD 0 0 = x from rfl, show ((bn x) != 47) = !(decide (x = 47)) by rw [bne, show (47 : Int) = bn 47 from rfl, bn_eqG]]
    simp only [Pc.takes]
    by_cases h : x = 47
    · rw [if_pos h, if_neg (by simp [h])]; rfl
    · rw [if_neg h, if_pos (by simp [h])]; rfl
theorem many8_ok (b : glob_many) (s : Str) (hs : s.length ≤ 1000000) (k : Nat) : ∀ (v m : Nat) (out : List Int), v + k = s.length → k < m → out = ((List.range (v + 1)).filter fun n => b.slash || !((s.take n).contains 47)).map (fun n : Nat => (n : Int)) → (b.slash = true ∨ (s.take v).contains 47 = false) → out.length ≤ v + 1 →
    ∃ z, f_glob_many_takes_l8 b s m (v : Int) out = some (z, ((Pc.many b.slash).takes s).map fun n : Nat => (n : Int)) := by
  induction k with
  | zero =>
    intro v m out hv hm ho _ _
    obtain ⟨m, rfl⟩ : ∃ k, m = k + 1 := ⟨m - 1, by omega⟩
    rw [f_glob_many_takes_l8, if_neg (by simp; omega), ho, show v = s.length by omega]
    exact ⟨_, rfl⟩
  | succ k ih =>
    intro v m out hv hm ho hc hl
    obtain ⟨m, rfl⟩ : ∃ k, m = k + 1 := ⟨m - 1, by omega⟩
    have et : s.take (v + 1) = s.take v ++ [s[v]'(by omega)] := by rw [List.take_add_one, List.getElem?_eq_getElem (by omega)]; rfl
    rw [f_glob_many_takes_l8, if_pos (by simp; omega), ix_nat, List.getElem?_eq_getElem (by omega), Option.bind_some, show ((bn (s[v]'(by omega))) == 47) = decide (s[v]'(by omega) = 47) by rw [show (47 : Int) = bn 47 from rfl, bn_eqG]]
    by_cases h : s[v]'(by omega) = 47 ∧ b.slash = false
    · rw [if_pos (by simp [h])]
      refine ⟨(v : Int), ?_⟩
      rw [ho]
      congr 2
      simp only [Pc.takes]
      congr 1
      -- no longer piece has no slash
      have e0 : List.range (s.length + 1) = List.range (v + 1) ++ List.map (fun x => v + 1 + x) (List.range (k + 1)) := by rw [← List.range_add]; congr 1; omega
      rw [e0, List.filter_append]
      have : (List.filter (fun n => b.slash || !((s.take n).contains 47)) (List.map (fun x => v + 1 + x) (List.range (k + 1)))) = [] := by
        rw [List.filter_eq_nil_iff]
        intro n hn
        obtain ⟨x, _, rfl⟩ := List.mem_map.mp hn
        rw [h.2, Bool.false_or]
        have : (47 : UInt8) ∈ s.take (v + 1 + x) := by
          rw [List.mem_take_iff_getElem]
          exact ⟨v, by omega, h.1⟩
        simp [this]
      rw [this, List.append_nil]
    · rw [if_neg (by simp; intro h1; cases hb : b.slash with | true => rfl | false => exact absurd ⟨h1, hb⟩ h), gd_t _ (by omega), wG_s (by omega)]
      have hc2 : b.slash = true ∨ (s.take (v + 1)).contains 47 = false := by
        cases hb : b.slash with
        | true => exact .inl rfl
        | false =>
          right
          rw [hb] at hc
          have h1 : (s.take v).contains 47 = false := by rcases hc with h2 | h2; cases h2; exact h2
          have h3 : ¬ s[v]'(by omega) = 47 := fun h2 => h ⟨h2, hb⟩
          rw [et]
          rw [Bool.eq_false_iff] at h1 ⊢
          simp only [ne_eq, List.contains_iff_mem, List.mem_append, List.mem_singleton] at h1 ⊢
          rintro (h2 | h2)
          · exact h1 h2
          · exact h3 h2.symm
      refine ih (v + 1) m _ (by omega) (by omega) ?_ hc2 (by simp; omega)
      rw [ho, List.range_succ (n := v + 1), List.filter_append, List.map_append]
      congr 1
      have : (b.slash || !((s.take (v + 1)).contains 47)) = true := by rcases hc2 with h2 | h2 <;> simp only [h2, Bool.true_or, Bool.not_false, Bool.or_true]
      rw [List.filter_cons, if_pos this]; rfl
theorem many_takes (b : Bool) (s : Str) (hs : s.length ≤ 1000000) : f_glob_many_takes (glob_many.mk b) s = some (((Pc.many b).takes s).map fun n : Nat => (n : Int)) := by
  unfold f_glob_many_takes
  obtain ⟨z, q⟩ := many8_ok (glob_many.mk b) s hs s.length 0 ((((s.length : Int) : Int) - 0).toNat + 1) [0] (by omega) (by omega) (by simp) (.inr (by simp)) (by simp)
  rw [show ((0 : Nat) : Int) = 0 from rfl] at q
  rw [q]; rfl
theorem seekI (s : List Int) (x : Int) (hb : s.length < 4611686018427387904) (k : Nat) : ∀ (i m : Nat), i + k = s.length → k < m →
    ∃ r, f_slices_Index_int_int_l7 s x m (i : Int) = some r ∧ (x ∈ s.drop i → ∃ j : Nat, r = .inr (j : Int)) ∧ (x ∉ s.drop i → ∃ z, r = .inl z) := by
  induction k with
  | zero =>
    intro i m hi hm
    obtain ⟨m, rfl⟩ : ∃ k, m = k + 1 := ⟨m - 1, by omega⟩
    rw [f_slices_Index_int_int_l7, if_neg (by simp; omega), List.drop_eq_nil_of_le (by omega)]
    exact ⟨_, rfl, (fun h => by simp at h), (fun _ => ⟨(i : Int), rfl⟩)⟩
  | succ k ih =>
    intro i m hi hm
    obtain ⟨m, rfl⟩ : ∃ k, m = k + 1 := ⟨m - 1, by omega⟩
    rw [f_slices_Index_int_int_l7, if_pos (by simp; omega), ix_nat, List.getElem?_eq_getElem (by omega), Option.bind_some, List.drop_eq_getElem_cons (show i < s.length by omega)]
    by_cases c : x = s[i]'(by omega)
    · rw [if_pos (by simpa using c)]; exact ⟨_, rfl, (fun h => ⟨i, rfl⟩), (fun h => by simp [← c] at h)⟩
    · rw [if_neg (by simpa using c), wG_s (by omega)]
      obtain ⟨r, q1, q2, q3⟩ := ih (i + 1) m (by omega) (by omega)
      refine ⟨r, q1, fun h => q2 ?_, fun h => q3 fun h2 => h (List.mem_cons_of_mem _ h2)⟩
      rcases List.mem_cons.mp h with h | h
      · exact absurd h c
      · exact h
theorem containsI (s : List Int) (x : Int) (hb : s.length < 4611686018427387904) : f_slices_Contains_int_int s x = some (decide (x ∈ s)) := by
  unfold f_slices_Contains_int_int f_slices_Index_int_int
  obtain ⟨r, e, h1, h2⟩ := seekI s x hb s.length 0 ((((s.length : Int) : Int) - 0).toNat + 1) (by omega) (by omega)
  rw [show ((0 : Nat) : Int) = 0 from rfl] at e
  rw [List.drop_zero] at h1 h2
  rw [e, Option.bind_some]
  by_cases c : x ∈ s
  · obtain ⟨j, rfl⟩ := h1 c; exact congrArg some ((decide_eq_true (Int.natCast_nonneg j)).trans (decide_eq_true c).symm)
  · obtain ⟨z, rfl⟩ := h2 c; exact congrArg some (decide_eq_false c).symm
end Go.Proofs.YthcngbbceahdlaaDoor.V.M
end

section
/- Globs: words; any piece; whether a text is what pieces stand for. -/
namespace Go.Proofs.YthcngbbceahdlaaDoor.V.M
set_option linter.unusedVariables false
set_option linter.unusedSimpArgs false
open Go Go.RowKit
abbrev intsN (l : List Nat) : List Int := l.map fun n : Nat => (n : Int)
theorem mem_intsN (l : List Nat) (n : Nat) : (n : Int) ∈ intsN l ↔ n ∈ l := by
  rw [List.mem_map]
  constructor
  · rintro ⟨a, h1, h2⟩; rwa [show a = n by omega] at h1
  · intro h; exact ⟨n, h, rfl⟩
/-- Lengths, each once. -/
def onceN : List Nat → List Nat → List Nat
  | out, [] => out
  | out, n :: r => if n ∈ out then onceN out r else onceN (out ++ [n]) r
theorem onceN_mem : ∀ (r out : List Nat) (n : Nat), n ∈ onceN out r ↔ n ∈ out ∨ n ∈ r
  | [], out, n => by simp [onceN]
  | x :: r, out, n => by
    rw [onceN]
    split
    · rename_i h
      rw [onceN_mem r out n, List.mem_cons]
      constructor
      · rintro (h1 | h1); exact .inl h1; exact .inr (.inr h1)
      · rintro (h1 | rfl | h1); exact .inl h1; exact .inl h; exact .inr h1
    · rw [onceN_mem r _ n, List.mem_append, List.mem_singleton, List.mem_cons, or_assoc]
theorem onceN_len : ∀ (r out : List Nat), (onceN out r).length ≤ out.length + r.length
  | [], out => by simp [onceN]
  | x :: r, out => by
    rw [onceN, List.length_cons]
    split
    · have := onceN_len r out; omega
    · have := onceN_len r (out ++ [x]); rw [List.length_append, List.length_singleton] at this; omega
theorem words8_ok (w : List Str) (s : Str) (hs : s.length ≤ 1000000) (hw : w.length ≤ 1000000) (k : Nat) : ∀ (v m : Nat) (out : List Nat), v + k = w.length → k < m → out.length ≤ v →
    ∃ z, f_glob_words_takes_l8 w s m (v : Int) (intsN out) = some (z, intsN (onceN out (((w.drop v).filter fun x => hasP s x).map List.length))) := by
  induction k with
  | zero =>
    intro v m out hv hm hl
    obtain ⟨m, rfl⟩ : ∃ k, m = k + 1 := ⟨m - 1, by omega⟩
    rw [f_glob_words_takes_l8, if_neg (by simp; omega), List.drop_eq_nil_of_le (by omega)]
    exact ⟨_, rfl⟩
  | succ k ih =>
    intro v m out hv hm hl
    obtain ⟨m, rfl⟩ : ∃ k, m = k + 1 := ⟨m - 1, by omega⟩
    rw [f_glob_words_takes_l8, if_pos (by simp; omega), ix_nat, List.getElem?_eq_getElem (by omega), Option.bind_some, hasPrefix_ok, Option.bind_some, List.drop_eq_getElem_cons (show v < w.length by omega), List.filter_cons, containsI _ _ (by simp; omega), wG_s (by omega)]
    have hlen : (intsN out).length = out.length := by simp
    cases hp : hasP s (w[v]'(by omega)) with
    | false =>
      rw [show gx false (some (decide (((w[v]'(by omega)).length : Int) ∈ intsN out))) default = some default from rfl, Option.bind_some, if_neg (by simp), if_neg (by decide)]
      exact ih (v + 1) m out (by omega) (by omega) (by omega)
    | true =>
      rw [show gx true (some (decide (((w[v]'(by omega)).length : Int) ∈ intsN out))) default = some (decide (((w[v]'(by omega)).length : Int) ∈ intsN out)) from rfl, Option.bind_some, if_pos rfl, List.map_cons, onceN]
      by_cases c : (w[v]'(by omega)).length ∈ out
      · rw [if_neg (by simp only [mem_intsN, c, decide_true]; decide), if_pos c]
        exact ih (v + 1) m out (by omega) (by omega) (by omega)
      · rw [if_pos (by simp only [mem_intsN, c, decide_false]; decide), if_neg c, gd_t _ (by rw [hlen]; omega)]
        have := ih (v + 1) m (out ++ [(w[v]'(by omega)).length]) (by omega) (by omega) (by simp; omega)
        rw [show intsN (out ++ [(w[v]'(by omega)).length]) = intsN out ++ [((w[v]'(by omega)).length : Int)] by simp] at this
        exact this
theorem unSs_map : ∀ l : List Str, unSs (l.map eS) = some l
  | [] => rfl
  | x :: l => by rw [List.map_cons, unSs, unSs_map l]; rfl
/-- What any piece takes, in some order. -/
theorem inv_takes (p : Pc) (s : Str) (hs : s.length ≤ 1000000) (hp : ∀ l, p = .words l → l.length ≤ 1000000) : m_glob_takes p.enc = true ∧ ∃ t : List Nat, f_inv_glob_takes p.enc s = some (intsN t) ∧ t.length ≤ 10000000 ∧ ∀ n, n ∈ t ↔ n ≤ s.length ∧ p.is (s.take n) = true := by
  cases p with
  | plain c => exact ⟨rfl, _, plain_takes c s, by simp only [Pc.takes]; split <;> simp, fun n => Pc.takes_iff _ s n⟩
  | one => exact ⟨rfl, _, one_takes s, by simp only [Pc.takes]; split; simp; split <;> simp, fun n => Pc.takes_iff _ s n⟩
  | many b => exact ⟨rfl, _, many_takes b s hs, by have := List.length_filter_le (fun n => b || !((s.take n).contains 47)) (List.range (s.length + 1)); rw [List.length_range] at this; simp only [Pc.takes]; omega, fun n => Pc.takes_iff _ s n⟩
  | words l =>
    have hl := hp l rfl
    refine ⟨rfl, ?_⟩
    have e : f_inv_glob_takes (Pc.words l).enc s = f_glob_words_takes l s := by
      show (if tyWords = tyWords then (unSs (l.map eS)).bind fun l => f_glob_words_takes l s else none) = _
      rw [if_pos rfl, unSs_map, Option.bind_some]
    obtain ⟨z, q⟩ := words8_ok l s hs hl l.length 0 ((((l.length : Int) : Int) - 0).toNat + 1) [] (by omega) (by omega) (by simp)
    rw [show ((0 : Nat) : Int) = 0 from rfl, List.drop_zero, show intsN [] = [] from rfl] at q
    refine ⟨onceN [] ((l.filter fun x => hasP s x).map List.length), ?_, ?_, fun n => ?_⟩
    · rw [e]; unfold f_glob_words_takes; rw [q]; rfl
    · have h1 := onceN_len ((l.filter fun x => hasP s x).map List.length) []
      have h2 := List.length_filter_le (fun x => hasP s x) l
      rw [List.length_map, List.length_nil] at h1; omega
    · rw [onceN_mem]
      have := Pc.takes_iff (.words l) s n
      simp only [Pc.takes, List.mem_eraseDups] at this
      rw [← this]; simp
/-- The places behind places, and a piece. -/
def stepB (p : Pc) (s : Str) (f : Nat → Bool) (j : Nat) : Bool := (List.range (j + 1)).any fun i => f i && p.is ((s.drop i).take (j - i))
theorem stepB_iff (p : Pc) (s : Str) (f : Nat → Bool) (j : Nat) : stepB p s f j = true ↔ ∃ i, i ≤ j ∧ f i = true ∧ p.is ((s.drop i).take (j - i)) = true := by
  unfold stepB
  rw [List.any_eq_true]
  constructor
  · rintro ⟨i, h1, h2⟩
    rw [Bool.and_eq_true] at h2
    exact ⟨i, by have := List.mem_range.mp h1; omega, h2.1, h2.2⟩
  · rintro ⟨i, h1, h2, h3⟩
    exact ⟨i, List.mem_range.mpr (by omega), by rw [h2, h3]; rfl⟩
theorem match16_ok (l : List Sc) (s : Str) (v21 : Int) (at_ : List Bool) (x2 : Sc) (v31 N : Nat) (hN : N ≤ 1000000) (t : List Nat) (ht : ∀ n ∈ t, v31 + n ≤ N) (htl : t.length ≤ 10000000) (k : Nat) : ∀ (v m : Nat) (next : List Bool), v + k = t.length → k < m → next.length = N + 1 →
    ∃ z n2, f_glob_match_l16 l s v21 at_ x2 (v31 : Int) (intsN t) m (v : Int) next = some (z, n2) ∧ n2.length = N + 1 ∧ ∀ j, n2[j]? = some true ↔ next[j]? = some true ∨ ∃ n, n ∈ t.drop v ∧ v31 + n = j := by
  induction k with
  | zero =>
    intro v m next hv hm hn
    obtain ⟨m, rfl⟩ : ∃ k, m = k + 1 := ⟨m - 1, by omega⟩
    rw [f_glob_match_l16, if_neg (by simp; omega), List.drop_eq_nil_of_le (by omega)]
    exact ⟨_, next, rfl, hn, fun j => by simp⟩
  | succ k ih =>
    intro v m next hv hm hn
    obtain ⟨m, rfl⟩ : ∃ k, m = k + 1 := ⟨m - 1, by omega⟩
    have hb := ht _ (List.getElem_mem (show v < t.length by omega))
    have ex : ix (intsN t) (v : Int) = some ((t[v]'(by omega) : Nat) : Int) := by rw [ix_nat, List.getElem?_map, List.getElem?_eq_getElem (by omega)]; rfl
    have w : IntKind.i64.wrap ((v31 : Int) + ((t[v]'(by omega) : Nat) : Int)) = ((v31 + t[v]'(by omega) : Nat) : Int) := by rw [w_i64 (by omega) (by omega)]; omega
    rw [f_glob_match_l16, if_pos (by simp; omega), ex, Option.bind_some, w, ix_nat, List.getElem?_eq_getElem (by omega), Option.bind_some, Int.toNat_natCast, wG_s (by omega)]
    obtain ⟨z, n2, q1, q2, q3⟩ := ih (v + 1) m (next.set (v31 + t[v]'(by omega)) true) (by omega) (by omega) (by rw [List.length_set]; exact hn)
    refine ⟨z, n2, q1, q2, fun j => ?_⟩
    rw [q3 j, List.drop_eq_getElem_cons (show v < t.length by omega)]
    by_cases c : v31 + t[v]'(by omega) = j
    · rw [← c, List.getElem?_set_self (by omega)]
      exact ⟨fun _ => .inr ⟨_, List.mem_cons_self .., rfl⟩, fun _ => .inl rfl⟩
    · rw [List.getElem?_set_ne c]
      constructor
      · rintro (h | ⟨n, h1, h2⟩)
        · exact .inl h
        · exact .inr ⟨n, List.mem_cons_of_mem _ h1, h2⟩
      · rintro (h | ⟨n, h1, h2⟩)
        · exact .inl h
        · rcases List.mem_cons.mp h1 with rfl | h1
          · exact absurd h2 c
          · exact .inr ⟨n, h1, h2⟩
/-- Places, as the program keeps them. -/
def Bools (f : Nat → Bool) (N : Nat) (l : List Bool) : Prop := l.length = N + 1 ∧ ∀ j, j ≤ N → (l[j]? = some true ↔ f j = true)
theorem length_bound {t : List Nat} {N : Nat} : True := trivial
theorem match18_ok (l : List Sc) (s : Str) (v21 : Int) (hs : s.length ≤ 1000) (at_ : List Bool) (p : Pc) (hp : ∀ l, p = .words l → l.length ≤ 1000000) (f : Nat → Bool) (hat : Bools f s.length at_) (k : Nat) : ∀ (v m : Nat) (next : List Bool), v + k = s.length + 1 → k < m → next.length = s.length + 1 →
    ∃ z n2, f_glob_match_l18 l s v21 at_ p.enc m (v : Int) next = some (z, n2) ∧ n2.length = s.length + 1 ∧ ∀ j, j ≤ s.length → (n2[j]? = some true ↔ next[j]? = some true ∨ ∃ i, v ≤ i ∧ i ≤ j ∧ f i = true ∧ p.is ((s.drop i).take (j - i)) = true) := by
  induction k with
  | zero =>
    intro v m next hv hm hn
    obtain ⟨m, rfl⟩ : ∃ k, m = k + 1 := ⟨m - 1, by omega⟩
    rw [f_glob_match_l18, hat.1, if_neg (by simp; omega)]
    refine ⟨_, next, rfl, hn, fun j hj => ?_⟩
    constructor
    · exact .inl
    · rintro (h | ⟨i, h1, h2, _⟩)
      · exact h
      · omega
  | succ k ih =>
    intro v m next hv hm hn
    obtain ⟨m, rfl⟩ : ∃ k, m = k + 1 := ⟨m - 1, by omega⟩
    have hv2 : v < at_.length := by rw [hat.1]; omega
    rw [f_glob_match_l18, if_pos (by rw [hat.1]; simp; omega), ix_nat, List.getElem?_eq_getElem hv2, Option.bind_some, wG_s (by omega)]
    have hf := hat.2 v (by omega)
    rw [List.getElem?_eq_getElem hv2, Option.some.injEq] at hf
    cases hb : at_[v]'hv2 with
    | false =>
      rw [if_pos (by decide)]
      obtain ⟨z, n2, q1, q2, q3⟩ := ih (v + 1) m next (by omega) (by omega) hn
      refine ⟨z, n2, q1, q2, fun j hj => ?_⟩
      rw [q3 j hj]
      constructor
      · rintro (h | ⟨i, h1, h2⟩)
        · exact .inl h
        · exact .inr ⟨i, by omega, h2⟩
      · rintro (h | ⟨i, h1, h2, h3, h4⟩)
        · exact .inl h
        · by_cases c : i = v
          · subst c; rw [hb] at hf; exact absurd (hf.mpr h3) (by decide)
          · exact .inr ⟨i, by omega, h2, h3, h4⟩
    | true =>
      have hfv : f v = true := hf.mp hb
      obtain ⟨hm1, t, ht1, htl, ht2⟩ := inv_takes p (s.drop v) (by rw [List.length_drop]; omega) hp
      rw [if_neg (by decide), gd_t _ (by omega), gd_t _ hm1, cut_all, ht1, Option.bind_some]
      obtain ⟨z1, n1, r1, r2, r3⟩ := match16_ok l s v21 at_ p.enc v s.length (by omega) t (fun n hn => by have := ((ht2 n).mp hn).1; rw [List.length_drop] at this; omega) htl t.length 0 ((((intsN t).length : Int) - 0).toNat + 1) next (by omega) (by simp) hn
      rw [show ((0 : Nat) : Int) = 0 from rfl] at r1
      rw [r1, Option.bind_some]
      obtain ⟨z, n2, q1, q2, q3⟩ := ih (v + 1) m n1 (by omega) (by omega) r2
      refine ⟨z, n2, q1, q2, fun j hj => ?_⟩
      rw [q3 j hj, r3 j, List.drop_zero]
      constructor
      · rintro ((h | ⟨n, h1, h2⟩) | ⟨i, h1, h2⟩)
        · exact .inl h
        · have h3 := (ht2 n).mp h1
          refine .inr ⟨v, Nat.le_refl _, by omega, hfv, ?_⟩
          rw [show j - v = n by omega]; exact h3.2
        · exact .inr ⟨i, by omega, h2⟩
      · rintro (h | ⟨i, h1, h2, h3, h4⟩)
        · exact .inl (.inl h)
        · by_cases c : i = v
          · subst c
            exact .inl (.inr ⟨j - i, (ht2 _).mpr ⟨by rw [List.length_drop]; omega, h4⟩, by omega⟩)
          · exact .inr ⟨i, by omega, h2, h3, h4⟩
end Go.Proofs.YthcngbbceahdlaaDoor.V.M
end

section
/- Globs: what matches, and which pieces a pattern has. -/
namespace Go.Proofs.YthcngbbceahdlaaDoor.V.M
set_option linter.unusedVariables false
set_option linter.unusedSimpArgs false
open Go Go.RowKit
def runB (l : List Pc) (s : Str) (f : Nat → Bool) : Nat → Bool := l.foldl (fun f p => stepB p s f) f
/-- Whether a text is what pieces stand for, one behind the other. -/
def isL : List Pc → Str → Prop
  | [], u => u = []
  | p :: r, u => ∃ a b, u = a ++ b ∧ p.is a = true ∧ isL r b
theorem isL_app : ∀ (a b : List Pc) (u : Str), isL (a ++ b) u ↔ ∃ x y, u = x ++ y ∧ isL a x ∧ isL b y
  | [], b, u => by
    constructor
    · intro h; exact ⟨[], u, rfl, rfl, h⟩
    · rintro ⟨x, y, rfl, h1, h2⟩
      obtain rfl : x = [] := h1
      exact h2
  | p :: a, b, u => by
    constructor
    · rintro ⟨x, y, rfl, h1, h2⟩
      obtain ⟨z, w, rfl, h3, h4⟩ := (isL_app a b y).mp h2
      exact ⟨x ++ z, w, by rw [List.append_assoc], ⟨x, z, rfl, h1, h3⟩, h4⟩
    · rintro ⟨x, y, rfl, ⟨z, w, rfl, h1, h2⟩, h3⟩
      exact ⟨z, w ++ y, by rw [List.append_assoc], h1, (isL_app a b _).mpr ⟨w, y, rfl, h2, h3⟩⟩
theorem isL_one (p : Pc) (u : Str) : isL [p] u ↔ p.is u = true := by
  constructor
  · rintro ⟨a, b, rfl, h1, h2⟩
    obtain rfl : b = [] := h2
    rw [List.append_nil]; exact h1
  · intro h; exact ⟨u, [], by simp, h, rfl⟩
theorem seg_split (s : Str) (i k j : Nat) (h1 : i ≤ k) (h2 : k ≤ j) : (s.drop i).take (j - i) = (s.drop i).take (k - i) ++ (s.drop k).take (j - k) := by
  have : j - i = (k - i) + (j - k) := by omega
  rw [this, List.take_add, List.drop_drop, show i + (k - i) = k by omega]
theorem runB_iff : ∀ (l : List Pc) (s : Str) (f : Nat → Bool) (j : Nat), j ≤ s.length → (runB l s f j = true ↔ ∃ i, i ≤ j ∧ f i = true ∧ isL l ((s.drop i).take (j - i)))
  | [], s, f, j, hj => by
    constructor
    · intro h; exact ⟨j, Nat.le_refl _, h, by show _ = []; simp⟩
    · rintro ⟨i, h1, h2, h3⟩
      have h4 : ((s.drop i).take (j - i)).length = 0 := by rw [show (s.drop i).take (j - i) = [] from h3]; rfl
      rw [List.length_take, List.length_drop] at h4
      rw [show j = i by omega]; exact h2
  | p :: r, s, f, j, hj => by
    show runB r s (stepB p s f) j = true ↔ _
    rw [runB_iff r s (stepB p s f) j hj]
    constructor
    · rintro ⟨k, h1, h2, h3⟩
      obtain ⟨i, h4, h5, h6⟩ := (stepB_iff p s f k).mp h2
      exact ⟨i, by omega, h5, _, _, seg_split s i k j h4 h1, h6, h3⟩
    · rintro ⟨i, h1, h2, a, b, h3, h4, h5⟩
      have hl : a.length + b.length = j - i := by
        rw [← List.length_append, ← h3, List.length_take, List.length_drop]; omega
      have e := seg_split s i (i + a.length) j (by omega) (by omega)
      rw [h3] at e
      have l1 : ((s.drop i).take (i + a.length - i)).length = a.length := by rw [List.length_take, List.length_drop]; omega
      obtain ⟨e1, e2⟩ := List.append_inj e l1.symm
      exact ⟨i + a.length, by omega, (stepB_iff p s f _).mpr ⟨i, by omega, h2, by rw [← e1]; exact h4⟩, by rw [← e2]; exact h5⟩
def okW (l : List Pc) : Prop := ∀ p ∈ l, ∀ w, p = .words w → w.length ≤ 1000000
theorem match21_ok (L : List Pc) (s : Str) (hs : s.length ≤ 1000) (hw : okW L) (hl : L.length ≤ 1000000) (k : Nat) : ∀ (v m : Nat) (at_ : List Bool) (f : Nat → Bool), v + k = L.length → k < m → Bools f s.length at_ →
    ∃ z a2, f_glob_match_l21 (L.map Pc.enc) s m (v : Int) at_ = some (z, a2) ∧ Bools (runB (L.drop v) s f) s.length a2 := by
  induction k with
  | zero =>
    intro v m at_ f hv hm hb
    obtain ⟨m, rfl⟩ : ∃ k, m = k + 1 := ⟨m - 1, by omega⟩
    rw [f_glob_match_l21, if_neg (by simp; omega), List.drop_eq_nil_of_le (by omega)]
    exact ⟨_, at_, rfl, hb⟩
  | succ k ih =>
    intro v m at_ f hv hm hb
    obtain ⟨m, rfl⟩ : ∃ k, m = k + 1 := ⟨m - 1, by omega⟩
    have ex : ix (L.map Pc.enc) (v : Int) = some (L[v]'(by omega)).enc := by rw [ix_nat, List.getElem?_map, List.getElem?_eq_getElem (by omega)]; rfl
    rw [f_glob_match_l21, if_pos (by simp; omega), ex, Option.bind_some, wG_s (by omega), gd_t _ (by omega), Int.toNat_natCast, wG_s (by omega)]
    obtain ⟨z, n2, q1, q2, q3⟩ := match18_ok (L.map Pc.enc) s (v : Int) hs at_ (L[v]'(by omega)) (hw _ (List.getElem_mem _)) f hb (s.length + 1) 0 ((((at_.length : Int) : Int) - 0).toNat + 1) (List.replicate (s.length + 1) false) (by omega) (by rw [hb.1]; omega) (by simp)
    rw [show ((0 : Nat) : Int) = 0 from rfl] at q1
    rw [q1, Option.bind_some]
    have hb2 : Bools (stepB (L[v]'(by omega)) s f) s.length n2 := by
      refine ⟨q2, fun j hj => ?_⟩
      rw [q3 j hj, stepB_iff]
      constructor
      · rintro (h | ⟨i, _, h1, h2⟩)
        · rw [List.getElem?_replicate] at h; split at h <;> cases h
        · exact ⟨i, h1, h2⟩
      · rintro ⟨i, h1, h2⟩; exact .inr ⟨i, Nat.zero_le _, h1, h2⟩
    obtain ⟨z2, a2, r1, r2⟩ := ih (v + 1) m n2 _ (by omega) (by omega) hb2
    refine ⟨z2, a2, r1, ?_⟩
    rw [List.drop_eq_getElem_cons (show v < L.length by omega)]; exact r2
theorem match_ok (L : List Pc) (s : Str) (hs : s.length ≤ 1000) (hw : okW L) (hl : L.length ≤ 1000000) : f_glob_match (L.map Pc.enc) s = some (runB L s (fun i => i == 0) s.length) := by
  unfold f_glob_match
  rw [wG_s (by omega), gd_t _ (by omega), Int.toNat_natCast, show ix (List.replicate (s.length + 1) false) 0 = some false from rfl, Option.bind_some]
  have hb : Bools (fun i => i == 0) s.length ((List.replicate (s.length + 1) false).set 0 true) := by
    refine ⟨by simp, fun j hj => ?_⟩
    by_cases c : j = 0
    · subst c; rw [List.getElem?_set_self (by simp)]; simp
    · rw [List.getElem?_set_ne (by omega), List.getElem?_replicate, if_pos (by omega)]; simp [c]
  obtain ⟨z, a2, q1, q2⟩ := match21_ok L s hs hw hl L.length 0 (((((L.map Pc.enc).length : Int) : Int) - 0).toNat + 1) _ _ (by omega) (by simp) hb
  rw [show ((0 : Nat) : Int) = 0 from rfl] at q1
  rw [q1, Option.bind_some, List.drop_zero] at *
  have hlt : s.length < a2.length := by rw [q2.1]; omega
  have := q2.2 s.length (Nat.le_refl _)
  rw [ix_nat, List.getElem?_eq_getElem hlt, Option.bind_some]
  rw [List.getElem?_eq_getElem hlt, Option.some.injEq] at this
  congr 1
  rw [Bool.eq_iff_iff]; exact this
theorem run_whole (L : List Pc) (s : Str) : runB L s (fun i => i == 0) s.length = true ↔ isL L s := by
  rw [runB_iff L s _ _ (Nat.le_refl _)]
  constructor
  · rintro ⟨i, h1, h2, h3⟩
    obtain rfl : i = 0 := by simpa using h2
    rw [List.drop_zero, Nat.sub_zero, List.take_length] at h3; exact h3
  · intro h
    exact ⟨0, Nat.zero_le _, rfl, by rw [List.drop_zero, Nat.sub_zero, List.take_length]; exact h⟩
/-- A pattern's pieces. -/
def piecesG : Nat → Str → List Pc → Option (List Pc)
  | 0, _, _ => none
  | m + 1, s, out => match s with
    | [] => some out
    | c :: r =>
      if hasP (c :: r) [42, 42] then piecesG m (r.drop 1) (out ++ [.many true])
      else if c = 42 then piecesG m r (out ++ [.many false])
      else if c = 63 then piecesG m r (out ++ [.one])
      else if c = 123 then
        if (cutS r 125).2.2 = false ∨ 123 ∈ (cutS r 125).1 then none
        else piecesG m (r.drop ((cutS r 125).1.length + 1)) (out ++ [.words (splitOnB 44 (cutS r 125).1)])
      else if c = 125 then none
      else piecesG m r (out ++ [.plain c])
def badC (c : UInt8) : Bool := decide (c.toNat < 33) || decide (126 < c.toNat)
def piecesS (p : Str) : Option (List Pc) := if p = [] ∨ 128 < p.length ∨ p.any badC = true then none else piecesG (p.length + 1) p []
theorem cutS_len (s : Str) (c : UInt8) : (cutS s c).1.length ≤ s.length := by
  unfold cutS; split
  · rw [List.length_take]; omega
  · exact Nat.le_refl _
theorem cutS_lt {s : Str} {c : UInt8} (h : (cutS s c).2.2 = true) : (cutS s c).1.length + 1 ≤ s.length := by
  unfold cutS at h ⊢
  split
  · rename_i h1
    obtain ⟨i, e1, e2, _⟩ := indexByte_at h1
    rw [e1, List.length_take]; omega
  · rename_i h1; rw [if_neg h1] at h; cases h
def resX (o : Option (List Pc)) : (Str × (List Sc)) ⊕ ((List Sc) × Bool) := match o with | some l => .inl ([], l.map Pc.enc) | none => .inr ([], false)
theorem bnG (c : UInt8) (n : Nat) (h : n < 256) : (bn c == (n : Int)) = decide (c = UInt8.ofNat n) := by
  have e : (n : Int) = bn (UInt8.ofNat n) := by unfold bn; rw [UInt8.toNat_ofNat']; congr 1; omega
  rw [e, bn_eqG]
theorem pieces24_ok (b : Bool) (m : Nat) : ∀ (s : Str) (out : List Pc), s.length < m → s.length ≤ 1000 → out.length + s.length ≤ 2000 → f_glob_pieces_l24 b m s (out.map Pc.enc) = some (resX (piecesG m s out)) := by
  induction m with
  | zero => intro s out h _ _; omega
  | succ m ih =>
    intro s out hm hs ho
    rw [f_glob_pieces_l24]
    cases s with
    | nil => rfl
    | cons c r =>
      simp only [List.length_cons] at hm hs ho
      have go := fun (x : Pc) (u : Str) (hu : u.length ≤ r.length) => ih u (out ++ [x]) (by omega) (by omega) (by simp; omega)
      simp only [List.map_append, List.map_cons, List.map_nil] at go
      have hl : (out.map Pc.enc).length = out.length := List.length_map _
      rw [if_pos (by simp), show ix (c :: r) 0 = some c from rfl, Option.bind_some, hasPrefix_ok, Option.bind_some, piecesG]
      by_cases h0 : hasP (c :: r) [42, 42] = true
      · have h2 : 2 ≤ (c :: r).length := (hasP_iff.mp h0).1
        rw [if_pos h0, if_pos h0, gd_t _ (by omega), gd_t _ (by omega), show cut (c :: r) 2 (((c :: r).length : Nat) : Int) = r.drop 1 from cut_all (c :: r) 2]
        exact go (.many true) _ (by rw [List.length_drop]; omega)
      · rw [if_neg h0, if_neg h0]
        rw [show ((bn c) == 42) = decide (c = 42) from bnG c 42 (by decide), show ((bn c) == 63) = decide (c = 63) from bnG c 63 (by decide), show ((bn c) == 123) = decide (c = 123) from bnG c 123 (by decide), show ((bn c) == 125) = decide (c = 125) from bnG c 125 (by decide)]
        have e1 : cut (c :: r) 1 (((c :: r).length : Nat) : Int) = r := cut_all (c :: r) 1
        by_cases h1 : c = 42
        · rw [if_pos (decide_eq_true h1), if_pos h1, gd_t _ (by omega), gd_t _ (by simp; omega), e1]
          exact go (.many false) _ (Nat.le_refl _)
        · rw [if_neg (by simpa using h1), if_neg h1]
          by_cases h2 : c = 63
          · rw [if_pos (decide_eq_true h2), if_pos h2, gd_t _ (by omega), gd_t _ (by simp; omega), e1]
            exact go .one _ (Nat.le_refl _)
          · rw [if_neg (by simpa using h2), if_neg h2]
            by_cases h3 : c = 123
            · have hc := cutS_len r 125
              rw [if_pos (decide_eq_true h3), if_pos h3, gd_t _ (by simp; omega), e1, cut_ok r 125 (by omega), Option.bind_some, contains_ok]
              cases hx : (cutS r 125).2.2 with
              | false => rw [if_pos (.inl rfl)]; rfl
              | true =>
                have hlt := cutS_lt hx
                rw [show gx (!(!true)) (some (decide ((123 : UInt8) ∈ (cutS r 125).1))) default = some (decide ((123 : UInt8) ∈ (cutS r 125).1)) from rfl, Option.bind_some]
                by_cases h4 : 123 ∈ (cutS r 125).1
                · rw [if_pos (by simp [h4]), if_pos (.inr h4)]; rfl
                · rw [if_neg (by simp [h4]), if_neg (by rintro (h5 | h5); cases h5; exact h4 h5), split_ok _ _ (by omega), Option.bind_some, gd_t _ (by omega)]
                  have w : IntKind.i64.wrap (((cutS r 125).1.length : Int) + 2) = (((cutS r 125).1.length + 2 : Nat) : Int) := by rw [w_i64 (by omega) (by omega)]; omega
                  rw [w, gd_t _ (by simp; omega), show cut (c :: r) (((cutS r 125).1.length + 2 : Nat) : Int) (((c :: r).length : Nat) : Int) = r.drop ((cutS r 125).1.length + 1) from (cut_all (c :: r) _).trans rfl]
                  exact go (.words (splitOnB 44 (cutS r 125).1)) _ (by rw [List.length_drop]; omega)
            · rw [if_neg (by simpa using h3), if_neg h3]
              by_cases h4 : c = 125
              · rw [if_pos (decide_eq_true h4), if_pos h4]; rfl
              · rw [if_neg (by simpa using h4), if_neg h4, gd_t _ (by omega), gd_t _ (by simp; omega), e1]
                exact go (.plain c) _ (Nat.le_refl _)
def resP (o : Option (List Pc)) : List Sc × Bool := match o with | some l => (l.map Pc.enc, true) | none => ([], false)
theorem pieces_ok (p : Str) (hp : p.length < 4611686018427387904) : f_glob_pieces p = some (resP (piecesS p)) := by
  unfold f_glob_pieces piecesS
  by_cases h0 : p = []
  · subst h0; rfl
  · rw [if_neg (by simpa using h0)]
    by_cases h1 : 128 < p.length
    · rw [if_pos (by simp; omega), if_pos (.inr (.inl h1))]; rfl
    · rw [if_neg (by simp; omega), containsB (p.map bn) f_glob_pieces_1 (fun c => decide (c < 33) || decide (c > 126)) (fun x => rfl) (by simp; omega), Option.bind_some, Option.bind_some]
      have e : (p.map bn).any (fun c => decide (c < 33) || decide (c > 126)) = p.any badC := by
        rw [List.any_map]
        congr 1
        funext c
        unfold badC bn
        simp only [Function.comp]
        congr 1
        · rw [decide_eq_decide]; omega
        · rw [decide_eq_decide]; omega
      rw [e]
      cases h2 : p.any badC with
      | true => rw [if_pos rfl, if_pos (.inr (.inr rfl))]; rfl
      | false =>
        rw [if_neg (by decide), if_neg (by rintro (h | h | h); exact h0 h; exact h1 h; cases h)]
        have q := pieces24_ok false (p.length + 1) p [] (by omega) (by omega) (by simp; omega)
        rw [List.map_nil] at q
        rw [q, Option.bind_some]
        cases piecesG (p.length + 1) p [] <;> rfl
theorem piecesG_okW : ∀ (m : Nat) (s : Str) (out l : List Pc), piecesG m s out = some l → s.length ≤ 1000 → okW out → out.length + s.length ≤ 100000 → okW l ∧ l.length ≤ out.length + s.length
  | 0, _, _, _, h, _, _, _ => by cases h
  | m + 1, s, out, l, h, hs, ho, hl => by
    cases s with
    | nil => rw [piecesG] at h; cases h; exact ⟨ho, by simp⟩
    | cons c r =>
      rw [piecesG] at h
      simp only [List.length_cons] at hs hl ⊢
      have app : ∀ x : Pc, (∀ w, x = .words w → w.length ≤ 1000000) → okW (out ++ [x]) := by
        intro x hx p hp
        rcases List.mem_append.mp hp with hp | hp
        · exact ho p hp
        · rw [List.mem_singleton.mp hp]; exact hx
      have go := fun (x : Pc) (hx : ∀ w, x = .words w → w.length ≤ 1000000) (u : Str) (hu : u.length ≤ r.length) (h : piecesG m u (out ++ [x]) = some l) => by
        have := piecesG_okW m u (out ++ [x]) l h (by omega) (app x hx) (by simp; omega)
        simp only [List.length_append, List.length_singleton] at this
        exact (⟨this.1, by omega⟩ : okW l ∧ l.length ≤ out.length + (r.length + 1))
      split at h
      · exact go _ (fun w h => by cases h) _ (by rw [List.length_drop]; omega) h
      · split at h
        · exact go _ (fun w h => by cases h) _ (Nat.le_refl _) h
        · split at h
          · exact go _ (fun w h => by cases h) _ (Nat.le_refl _) h
          · split at h
            · split at h
              · cases h
              · refine go _ (fun w h => ?_) _ (by rw [List.length_drop]; omega) h
                cases h
                have h1 := count_split 44 (cutS r 125).1
                have h2 : (cutS r 125).1.count 44 ≤ (cutS r 125).1.length := List.count_le_length
                have h3 := cutS_len r 125
                omega
            · split at h
              · cases h
              · exact go _ (fun w h => by cases h) _ (Nat.le_refl _) h
theorem piecesS_okW {p : Str} {l : List Pc} (h : piecesS p = some l) : okW l ∧ l.length ≤ 128 := by
  unfold piecesS at h
  split at h
  · cases h
  · rename_i hn
    have := piecesG_okW _ _ _ _ h (by omega) (by intro p hp; cases hp) (by simp; omega)
    simp only [List.length_nil] at this
    exact ⟨this.1, by omega⟩
def matchS (p s : Str) : Bool := match piecesS p with
  | some l => decide (s.length ≤ 200) && runB l s (fun i => i == 0) s.length
  | none => false
theorem Match_ok (p s : Str) (hp : p.length < 4611686018427387904) : f_glob_Match p s = some (matchS p s) := by
  unfold f_glob_Match matchS
  rw [pieces_ok p hp, Option.bind_some]
  cases h : piecesS p with
  | none => rfl
  | some l =>
    obtain ⟨h1, h2⟩ := piecesS_okW h
    dsimp only [resP]
    by_cases c : s.length ≤ 200
    · rw [show decide ((s.length : Int) ≤ 200) = true from decide_eq_true (by omega), decide_eq_true c, match_ok l s (by omega) h1 (by omega)]; rfl
    · rw [show decide ((s.length : Int) ≤ 200) = false from decide_eq_false (by omega), decide_eq_false c]; rfl
theorem matchS_iff (p s : Str) : matchS p s = true ↔ s.length ≤ 200 ∧ ∃ l, piecesS p = some l ∧ isL l s := by
  unfold matchS
  cases h : piecesS p with
  | none => simp
  | some l => rw [Bool.and_eq_true, decide_eq_true_eq, run_whole]; simp
theorem Right_ok (p : Str) (hp : p.length < 4611686018427387904) : f_glob_Right p = some (piecesS p).isSome := by
  unfold f_glob_Right
  rw [pieces_ok p hp, Option.bind_some]
  cases piecesS p <;> rfl
end Go.Proofs.YthcngbbceahdlaaDoor.V.M
end

section
/- Globs: the law GlobStars. -/
namespace Go.Proofs.YthcngbbceahdlaaDoor.V.M
set_option linter.unusedVariables false
set_option linter.unusedSimpArgs false
open Go Go.RowKit
theorem galive_ok : f_law07_alive = some true := by kernel_rfl
theorem gx_some {α : Type} (γ : Bool) (x d : α) : gx γ (some x) d = some (bif γ then x else d) := by cases γ <;> rfl
theorem piecesG_fuel : ∀ (m : Nat) (s : Str) (out : List Pc) (n : Nat), s.length < m → s.length < n → piecesG m s out = piecesG n s out
  | 0, s, _, _, h, _ => by omega
  | m + 1, s, out, n, h, h2 => by
    obtain ⟨n, rfl⟩ : ∃ k, n = k + 1 := ⟨n - 1, by omega⟩
    cases s with
    | nil => rw [piecesG, piecesG]
    | cons c r =>
      simp only [List.length_cons] at h h2
      have go := fun (u : Str) (o : List Pc) (hu : u.length ≤ r.length) => piecesG_fuel m u o n (by omega) (by omega)
      rw [piecesG, piecesG, go (r.drop 1) _ (by rw [List.length_drop]; omega), go r _ (Nat.le_refl _), go r _ (Nat.le_refl _), go r _ (Nat.le_refl _), go (r.drop ((cutS r 125).1.length + 1)) _ (by rw [List.length_drop]; omega)]
/-- A plain byte. -/
def plainC (c : UInt8) : Prop := badC c = false ∧ c ≠ 42 ∧ c ≠ 63 ∧ c ≠ 123 ∧ c ≠ 125
theorem hasP_star {c : UInt8} {r : Str} : hasP (c :: r) [42, 42] = true ↔ c = 42 ∧ ∃ t, r = 42 :: t := by
  rw [hasP_pre]
  constructor
  · rintro ⟨t, h⟩
    obtain ⟨h1, h2⟩ := List.cons.inj h
    exact ⟨h1, t, h2⟩
  · rintro ⟨rfl, t, rfl⟩; exact ⟨t, rfl⟩
theorem plain_step (m : Nat) (c : UInt8) (hc : plainC c) (r : Str) (out : List Pc) : piecesG (m + 1) (c :: r) out = piecesG m r (out ++ [.plain c]) := by
  rw [piecesG, if_neg (fun h => hc.2.1 (hasP_star.mp h).1), if_neg hc.2.1, if_neg hc.2.2.1, if_neg hc.2.2.2.1, if_neg hc.2.2.2.2]
theorem plain_pieces : ∀ (a : Str), (∀ c ∈ a, plainC c) → ∀ (s : Str) (out : List Pc) (m : Nat), piecesG (m + a.length) (a ++ s) out = piecesG m s (out ++ a.map .plain)
  | [], _, s, out, m => by simp
  | c :: a, h, s, out, m => by
    rw [List.length_cons, ← Nat.add_assoc, List.cons_append, plain_step _ c (h c (List.mem_cons_self ..)), plain_pieces a (fun x hx => h x (List.mem_cons_of_mem _ hx)), List.append_assoc]; rfl
theorem isL_plain : ∀ (a u : Str), isL (a.map .plain) u ↔ u = a
  | [], u => Iff.rfl
  | c :: a, u => by
    constructor
    · rintro ⟨x, y, rfl, h1, h2⟩
      rw [(isL_plain a y).mp h2, beq_iff_eq.mp h1]; rfl
    · rintro rfl; exact ⟨[c], a, rfl, by simp [Pc.is], (isL_plain a a).mpr rfl⟩
theorem star_step (b : Str) (hb : ∀ c ∈ b, plainC c) (m : Nat) (out : List Pc) : piecesG (m + 1) (42 :: b) out = piecesG m b (out ++ [.many false]) := by
  rw [piecesG, if_neg (fun h => by
    obtain ⟨_, t, rfl⟩ := hasP_star.mp h
    exact (hb 42 (List.mem_cons_self ..)).2.1 rfl), if_pos rfl]
theorem stars_step (b : Str) (m : Nat) (out : List Pc) : piecesG (m + 1) (42 :: 42 :: b) out = piecesG m b (out ++ [.many true]) := by
  rw [piecesG, if_pos (hasP_star.mpr ⟨rfl, b, rfl⟩)]; rfl
theorem piecesS_of {p : Str} {l : List Pc} (h0 : p ≠ []) (h1 : p.length ≤ 128) (h2 : ∀ c ∈ p, badC c = false) (h3 : piecesG (p.length + 1) p [] = some l) : piecesS p = some l := by
  unfold piecesS
  rw [if_neg, h3]
  rintro (h | h | h)
  · exact h0 h
  · omega
  · obtain ⟨c, hc, hc2⟩ := List.any_eq_true.mp h
    rw [h2 c hc] at hc2; cases hc2
theorem match_plain {a s : Str} (h0 : a ≠ []) (h1 : a.length ≤ 128) (ha : ∀ c ∈ a, plainC c) (hs : s.length ≤ 200) : matchS a s = (s == a) := by
  have e : piecesS a = some (a.map .plain) := by
    refine piecesS_of h0 h1 (fun c hc => (ha c hc).1) ?_
    have := plain_pieces a ha [] [] 1
    rw [List.append_nil, Nat.add_comm] at this
    rw [this]; rfl
  rw [Bool.eq_iff_iff, matchS_iff, beq_iff_eq, e]
  constructor
  · rintro ⟨_, l, h, h2⟩
    obtain rfl := Option.some.inj h
    exact (isL_plain a s).mp h2
  · rintro rfl; exact ⟨hs, _, rfl, (isL_plain _ _).mpr rfl⟩
theorem badC_42 : badC 42 = false := by decide
theorem match_star {a b s : Str} {sl : Bool} {st : Str} (hst : st = if sl then [42, 42] else [42]) (ha : ∀ c ∈ a, plainC c) (hb : ∀ c ∈ b, plainC c) (h1 : a.length ≤ 40) (h2 : b.length ≤ 40) (hs : s.length ≤ 200) :
    matchS (a ++ st ++ b) s = true ↔ ∃ u, s = a ++ u ++ b ∧ (Pc.many sl).is u = true := by
  have e : piecesS (a ++ st ++ b) = some (a.map .plain ++ ([.many sl] ++ b.map .plain)) := by
    refine piecesS_of ?_ ?_ ?_ ?_
    · subst hst; cases sl <;> simp
    · subst hst; cases sl <;> simp <;> omega
    · subst hst
      intro c hc
      rw [List.append_assoc] at hc
      rcases List.mem_append.mp hc with hc | hc
      · exact (ha c hc).1
      · rcases List.mem_append.mp hc with hc | hc
        · have : c = 42 := by cases sl <;> simpa using hc
          rw [this]; exact badC_42
        · exact (hb c hc).1
    · have hl : (a ++ st ++ b).length + 1 = (st.length + b.length + 1) + a.length := by simp; omega
      rw [hl, List.append_assoc, plain_pieces a ha, List.nil_append]
      have hp := plain_pieces b hb [] (a.map .plain ++ [.many sl])
      simp only [List.append_nil] at hp
      cases sl with
      | true =>
        subst hst
        rw [show (if true = true then ([42, 42] : Str) else [42]) ++ b = 42 :: 42 :: b from rfl]
        rw [show (if true = true then ([42, 42] : Str) else [42]).length + b.length + 1 = (2 + b.length) + 1 by simp, stars_step, hp 2, piecesG, List.append_assoc]
      | false =>
        subst hst
        rw [show (if false = true then ([42, 42] : Str) else [42]) ++ b = 42 :: b from rfl]
        rw [show (if false = true then ([42, 42] : Str) else [42]).length + b.length + 1 = (1 + b.length) + 1 by simp, star_step b hb, hp 1, piecesG, List.append_assoc]
  rw [matchS_iff, e]
  constructor
  · rintro ⟨_, l, h, h3⟩
    obtain rfl := Option.some.inj h
    obtain ⟨x, y, rfl, h4, h5⟩ := (isL_app _ _ _).mp h3
    obtain ⟨z, w, rfl, h6, h7⟩ := (isL_app _ _ _).mp h5
    rw [(isL_plain a x).mp h4, (isL_plain b w).mp h7]
    exact ⟨z, by rw [List.append_assoc], (isL_one _ _).mp h6⟩
  · rintro ⟨u, rfl, h⟩
    refine ⟨hs, _, rfl, (isL_app _ _ _).mpr ⟨a, u ++ b, by rw [List.append_assoc], (isL_plain a a).mpr rfl, (isL_app _ _ _).mpr ⟨u, b, rfl, (isL_one _ _).mpr h, (isL_plain b b).mpr rfl⟩⟩⟩
/-- Begins so, ends so, and is long enough. -/
def wantB (a b s : Str) : Bool := decide (a.length + b.length ≤ s.length) && hasP s a && hasSf s b
theorem want_iff {a b s : Str} : wantB a b s = true ↔ ∃ u, s = a ++ u ++ b := by
  unfold wantB
  rw [Bool.and_eq_true, Bool.and_eq_true, decide_eq_true_eq, hasP_pre, hasSf_suf]
  constructor
  · rintro ⟨⟨h1, t, h2⟩, v, h3⟩
    refine ⟨t.take (t.length - b.length), ?_⟩
    have hl : s.length = a.length + t.length := by rw [h2, List.length_append]
    have hd : t.drop (t.length - b.length) = b := by
      have e1 : s.drop (s.length - b.length) = b := by rw [h3, List.length_append, Nat.add_sub_cancel]; exact List.drop_left' rfl
      rw [h2, List.length_append, show a.length + t.length - b.length = a.length + (t.length - b.length) by omega, List.drop_append, List.drop_of_length_le (by omega), List.nil_append, show a.length + (t.length - b.length) - a.length = t.length - b.length by omega] at e1
      exact e1
    rw [List.append_assoc]
    conv => lhs; rw [h2, ← List.take_append_drop (t.length - b.length) t, hd]
  · rintro ⟨u, rfl⟩
    exact ⟨⟨by simp only [List.length_append]; omega, u ++ b, by rw [List.append_assoc]⟩, a ++ u, rfl⟩
theorem want_seg {a b u : Str} : cut (a ++ u ++ b) (if ((a ++ u ++ b).length : Int) < (a.length : Int) then ((a ++ u ++ b).length : Int) else (a.length : Int)) (if ((a ++ u ++ b).length : Int) - (b.length : Int) < (if ((a ++ u ++ b).length : Int) < (a.length : Int) then ((a ++ u ++ b).length : Int) else (a.length : Int)) then (if ((a ++ u ++ b).length : Int) < (a.length : Int) then ((a ++ u ++ b).length : Int) else (a.length : Int)) else ((a ++ u ++ b).length : Int) - (b.length : Int)) = u := by
  have hl : (a ++ u ++ b).length = a.length + u.length + b.length := by simp only [List.length_append]
  rw [hl, if_neg (by omega), if_neg (by omega), show (((a.length + u.length + b.length : Nat) : Int) - (b.length : Int)) = ((a.length + u.length : Nat) : Int) by omega, cutG_mid, List.append_assoc, List.drop_left' rfl, List.take_left' rfl]
theorem byte_back (c : UInt8) : (bn c).toNat.toUInt8 = c := by unfold bn; simp
theorem plain_of {c : UInt8} (h1 : ¬ (bn c < 33)) (h2 : ¬ (bn c > 126)) (h3 : c ∉ ([42, 63, 123, 125] : Str)) : plainC c := by
  simp only [List.mem_cons, List.not_mem_nil, or_false, not_or] at h3
  refine ⟨?_, h3.1, h3.2.1, h3.2.2.1, h3.2.2.2⟩
  unfold bn at h1 h2
  unfold badC
  rw [decide_eq_false (by omega), decide_eq_false (by omega)]; rfl
theorem stars10_ok (a b s : Str) (t : Str) (ht : (cut a 0 (if 40 < (a.length : Int) then 40 else (a.length : Int))) ++ (cut b 0 (if 40 < (b.length : Int) then 40 else (b.length : Int))) = t) (hl : t.length ≤ 1000) (k : Nat) : ∀ (v m : Nat), v + k = t.length → k < m →
    f_law07_GlobStars_l10 a b s m (v : Int) = some (.inr true) ∨ (∃ z, f_law07_GlobStars_l10 a b s m (v : Int) = some (.inl z)) ∧ ∀ c ∈ t.drop v, plainC c := by
  induction k with
  | zero =>
    intro v m hv hm
    obtain ⟨m, rfl⟩ : ∃ k, m = k + 1 := ⟨m - 1, by omega⟩
    rw [f_law07_GlobStars_l10, ht, if_neg (by simp; omega), List.drop_eq_nil_of_le (by omega)]
    exact .inr ⟨⟨_, rfl⟩, fun c hc => by cases hc⟩
  | succ k ih =>
    intro v m hv hm
    obtain ⟨m, rfl⟩ : ∃ k, m = k + 1 := ⟨m - 1, by omega⟩
    have ex : ix (t.map bn) (v : Int) = some (bn (t[v]'(by omega))) := by rw [ix_nat, List.getElem?_map, List.getElem?_eq_getElem (by omega)]; rfl
    rw [f_law07_GlobStars_l10, ht, if_pos (by simp; omega), ex, Option.bind_some, show f_strings_IndexByte ([42, 63, 123, 125] : Str) (bn (t[v]'(by omega))) = some (Lib.indexByte ([42, 63, 123, 125] : Str) (t[v]'(by omega))) from by show some (Lib.indexByte _ (bn _).toNat.toUInt8) = _; rw [byte_back], gx_some, Option.bind_some, wG_s (by omega), List.drop_eq_getElem_cons (show v < t.length by omega)]
    generalize t[v]'(by omega) = c
    by_cases h1 : bn c < 33
    · rw [if_pos (by simp [h1])]; exact .inl rfl
    · by_cases h2 : bn c > 126
      · rw [if_pos (by simp [h2])]; exact .inl rfl
      · rw [decide_eq_false h1, decide_eq_false h2]
        by_cases h3 : c ∈ ([42, 63, 123, 125] : Str)
        · rw [if_pos (by have := (indexByte_mem _ _).mpr h3; simp only [Bool.or_self, Bool.not_false, cond_true, Bool.false_or, decide_eq_true_eq]; omega)]; exact .inl rfl
        · rw [if_neg (by have := fun h => h3 ((indexByte_mem _ _).mp h); simp only [Bool.or_self, Bool.not_false, cond_true, Bool.false_or, decide_eq_true_eq]; omega)]
          rcases ih (v + 1) m (by omega) (by omega) with h | ⟨h, h4⟩
          · exact .inl h
          · refine .inr ⟨h, fun x hx => ?_⟩
            rcases List.mem_cons.mp hx with rfl | hx
            · exact plain_of h1 h2 h3
            · exact h4 x hx
theorem globStars_true (a b s : Str) : f_law07_GlobStars a b s = some true := by
  unfold f_law07_GlobStars
  rw [gd_t _ (cut_gdI a 40 (by decide)), gd_t _ (cut_gdI b 40 (by decide)), gd_t _ (cut_gdI s 100 (by decide))]
  have ha : (cut a 0 (if 40 < (a.length : Int) then 40 else (a.length : Int))).length ≤ 40 := by rw [show cut a 0 (if 40 < (a.length : Int) then 40 else (a.length : Int)) = a.take 40 from cut_take a 40, List.length_take]; omega
  have hb : (cut b 0 (if 40 < (b.length : Int) then 40 else (b.length : Int))).length ≤ 40 := by rw [show cut b 0 (if 40 < (b.length : Int) then 40 else (b.length : Int)) = b.take 40 from cut_take b 40, List.length_take]; omega
  have hs : (cut s 0 (if 100 < (s.length : Int) then 100 else (s.length : Int))).length ≤ 100 := by rw [show cut s 0 (if 100 < (s.length : Int) then 100 else (s.length : Int)) = s.take 100 from cut_take s 100, List.length_take]; omega
  have h10 := stars10_ok a b s _ rfl (by rw [List.length_append]; omega) (((cut a 0 (if 40 < (a.length : Int) then 40 else (a.length : Int))) ++ (cut b 0 (if 40 < (b.length : Int) then 40 else (b.length : Int)))).length) 0 ((((((cut a 0 (if 40 < (a.length : Int) then 40 else (a.length : Int))) ++ (cut b 0 (if 40 < (b.length : Int) then 40 else (b.length : Int)))).length : Int) : Int) - 0).toNat + 1) (by omega) (by omega)
  rw [show ((0 : Nat) : Int) = 0 from rfl, List.drop_zero] at h10
  generalize cut a 0 (if 40 < (a.length : Int) then 40 else (a.length : Int)) = A at *
  generalize cut b 0 (if 40 < (b.length : Int) then 40 else (b.length : Int)) = B at *
  generalize cut s 0 (if 100 < (s.length : Int) then 100 else (s.length : Int)) = S at *
  have hAll : matchS [42, 42] S = true := (matchS_iff _ _).mpr ⟨by omega, [.many true], rfl, (isL_one _ _).mpr rfl⟩
  rw [Match_ok _ _ (by decide), Option.bind_some, hAll, galive_ok, gx_some, Option.bind_some, if_neg (by decide), gd_t _ (by omega)]
  rcases h10 with h | ⟨⟨z, h⟩, hp⟩
  · rw [h]; rfl
  · rw [h, Option.bind_some]
    dsimp only
    have hpa : ∀ c ∈ A, plainC c := fun c hc => hp c (List.mem_append.mpr (.inl hc))
    have hpb : ∀ c ∈ B, plainC c := fun c hc => hp c (List.mem_append.mpr (.inr hc))
    have lAB : (A ++ B).length = A.length + B.length := List.length_append
    have M1 : A ++ B ≠ [] → matchS (A ++ B) S = (S == A ++ B) := fun h0 => match_plain h0 (by omega) hp (by omega)
    have M2 : matchS (A ++ [42, 42] ++ B) S = wantB A B S := by
      rw [Bool.eq_iff_iff, match_star (sl := true) (st := [42, 42]) rfl hpa hpb ha hb (by omega), want_iff]
      exact ⟨fun ⟨u, h, _⟩ => ⟨u, h⟩, fun ⟨u, h⟩ => ⟨u, h, rfl⟩⟩
    rw [w_i64 (n := (A.length : Int) + (B.length : Int)) (by omega) (by omega), hasPrefix_ok, gx_some, Option.bind_some, hasSuffix_ok _ _ (by omega) (by omega), gx_some, Option.bind_some, gd_t _ (by omega), gd_t _ (fun _ => by omega), Match_ok _ _ (by omega), gx_some, Option.bind_some, gd_t _ (fun _ => by omega), gd_t _ (fun _ => by omega), gd_t _ (fun _ => by simp; omega), Match_ok _ _ (by simp; omega), gx_some, Option.bind_some]
    have eW : (((decide ((S.length : Int) ≥ (A.length : Int) + (B.length : Int))) && (bif decide ((S.length : Int) ≥ (A.length : Int) + (B.length : Int)) then hasP S A else default)) && (bif (decide ((S.length : Int) ≥ (A.length : Int) + (B.length : Int)) && bif decide ((S.length : Int) ≥ (A.length : Int) + (B.length : Int)) then hasP S A else default) then hasSf S B else default)) = wantB A B S := by
      unfold wantB
      rw [show decide ((S.length : Int) ≥ (A.length : Int) + (B.length : Int)) = decide (A.length + B.length ≤ S.length) by rw [decide_eq_decide]; omega]
      cases decide (A.length + B.length ≤ S.length) <;> cases hasP S A <;> cases hasSf S B <;> rfl
    rw [eW]
    have e1 : ((!((A ++ B) == ([] : Str))) && (!((bif (!((A ++ B) == ([] : Str))) then matchS (A ++ B) S else default) == (S == (A ++ B))))) = false := by
      by_cases h0 : A ++ B = []
      · rw [show ((A ++ B) == ([] : Str)) = true from beq_iff_eq.mpr h0]; rfl
      · rw [show ((A ++ B) == ([] : Str)) = false from by simpa using h0, M1 h0]; simp
    rw [e1]
    rw [show (bif (!false) then matchS (A ++ [42, 42] ++ B) S else default) = wantB A B S from M2, show (!(wantB A B S == wantB A B S)) = false by simp, if_neg (by decide), gd_t _ (by omega), gd_t _ (by simp; omega), Match_ok _ _ (by simp; omega), Option.bind_some, w_i64 (n := (S.length : Int) - (B.length : Int)) (by omega) (by omega)]
    cases hw : wantB A B S with
    | false =>
      rw [gd_t _ (fun h => by cases h)]
      have e3 : matchS (A ++ [42] ++ B) S = false := by
        rw [Bool.eq_false_iff]
        intro h2
        obtain ⟨u, h3, _⟩ := (match_star (sl := false) (st := [42]) rfl hpa hpb ha hb (by omega)).mp h2
        rw [want_iff.mpr ⟨u, h3⟩] at hw; cases hw
      rw [e3, show gx false (f_strings_Contains (cut S (if (S.length : Int) < (A.length : Int) then (S.length : Int) else (A.length : Int)) (if (S.length : Int) - (B.length : Int) < (if (S.length : Int) < (A.length : Int) then (S.length : Int) else (A.length : Int)) then (if (S.length : Int) < (A.length : Int) then (S.length : Int) else (A.length : Int)) else (S.length : Int) - (B.length : Int))) ([47] : Str)) default = some default from rfl]; rfl
    | true =>
      obtain ⟨u, rfl⟩ := want_iff.mp hw
      rw [gd_t _ (fun _ => by rw [show (A ++ u ++ B).length = A.length + u.length + B.length by simp only [List.length_append], if_neg (by omega), if_neg (by omega)]; omega), want_seg, contains_ok, gx_some, Option.bind_some]
      have e3 : matchS (A ++ [42] ++ B) (A ++ u ++ B) = !decide ((47 : UInt8) ∈ u) := by
        rw [Bool.eq_iff_iff, match_star (sl := false) (st := [42]) rfl hpa hpb ha hb (by omega)]
        constructor
        · rintro ⟨v, h2, h3⟩
          have : v = u := by
            rw [List.append_assoc, List.append_assoc] at h2
            have := List.append_cancel_left h2
            exact (List.append_cancel_right this).symm
          subst this
          simpa [Pc.is] using h3
        · intro h2; exact ⟨u, rfl, by simpa [Pc.is] using h2⟩
      rw [e3]; simp
end Go.Proofs.YthcngbbceahdlaaDoor.V.M
end

section
/- Globs: the laws GlobNames, GlobWords. -/
namespace Go.Proofs.YthcngbbceahdlaaDoor.V.M
set_option linter.unusedVariables false
set_option linter.unusedSimpArgs false
open Go Go.RowKit
def someR (s : Str) (l : List Str) : Bool × Int := if 200 < s.length ∨ (l.any fun p => !(piecesS p).isSome) = true then (false, 1) else ((l.length == 0) || l.any (fun p => matchS p s), 0)
theorem some_ok (s : Str) (l : List Str) (hl : l.length < 1000000) (hp : ∀ p ∈ l, p.length < 4611686018427387904) : f_glob_Some s l = some (someR s l) := by
  unfold f_glob_Some someR
  rw [containsGS l f_glob_Some_1 (fun p => !(piecesS p).isSome) (fun x hx => by unfold f_glob_Some_1; rw [Right_ok _ (hp x hx)]; rfl) (by omega), gx_some, Option.bind_some]
  rw [containsGS l (fun a0 => f_glob_Some_2 a0 s) (fun p => matchS p s) (fun x hx => by show (f_glob_Match x s).bind _ = _; rw [Match_ok _ _ (hp x hx)]; rfl) (by omega), gx_some]
  have e0 : ((l.length : Int) == 0) = (l.length == 0) := by rw [Bool.eq_iff_iff]; simp
  by_cases c : 200 < s.length
  · rw [if_pos (by simp; omega), if_pos (.inl c)]
  · rw [show decide ((s.length : Int) > 200) = false from decide_eq_false (by omega)]
    cases h : l.any fun p => !(piecesS p).isSome with
    | true => rw [if_pos (by rfl), if_pos (.inr rfl)]
    | false =>
      rw [if_neg (by decide), if_neg (by rintro (h | h); exact c h; cases h), Option.bind_some, e0]
      cases (l.length == 0) <;> rfl
theorem names10_ok (s : Str) (l : List Str) (t : List Str) (ht : ([] : List Str) ++ (cut l 0 (if 5 < (l.length : Int) then 5 else (l.length : Int))) = t) (htl : t.length ≤ 5) (suf : List Str) : ∀ (pre : List Str) (m : Nat) (one may : Bool), pre.length + suf.length = t.length → suf.length < m →
    f_law07_GlobNames_l10 s l m one may (pre.length : Int) (pre ++ suf) = some (one || suf.any (fun x => matchS (x.take 100) (cut s 0 (if 100 < (s.length : Int) then 100 else (s.length : Int)))), may && suf.all (fun x => (piecesS (x.take 100)).isSome), (t.length : Int), pre ++ suf.map (·.take 100)) := by
  induction suf with
  | nil =>
    intro pre m one may hl hm
    obtain ⟨m, rfl⟩ : ∃ k, m = k + 1 := ⟨m - 1, by omega⟩
    simp only [List.length_nil] at hl
    rw [f_law07_GlobNames_l10, ht, if_neg (by simp; omega)]
    simp [show t.length = pre.length by omega]
  | cons x r ih =>
    intro pre m one may hl hm
    obtain ⟨m, rfl⟩ : ∃ k, m = k + 1 := ⟨m - 1, by omega⟩
    simp only [List.length_cons] at hl hm
    have e1 : ix (pre ++ x :: r) (pre.length : Int) = some x := by rw [ix_nat]; simp
    have ecut : cut x 0 (if 100 < (x.length : Int) then 100 else (x.length : Int)) = x.take 100 := cut_take x 100
    have eset : (pre ++ x :: r).set ((pre.length : Int)).toNat (x.take 100) = pre ++ x.take 100 :: r := by rw [Int.toNat_natCast, List.set_append_right _ _ (Nat.le_refl _), Nat.sub_self, List.set_cons_zero]
    have e2 : ix (pre ++ x.take 100 :: r) (pre.length : Int) = some (x.take 100) := by rw [ix_nat]; simp
    have lx : (x.take 100).length < 4611686018427387904 := by rw [List.length_take]; omega
    rw [f_law07_GlobNames_l10, ht, if_pos (by simp; omega), e1, Option.bind_some, gd_t _ (cut_gdI x 100 (by decide)), ecut, Option.bind_some, eset, e2, gx_some, Option.bind_some, wG_s (by omega)]
    have q := fun a b => ih (pre ++ [x.take 100]) m a b (by simp; omega) (by omega)
    simp only [List.length_append, List.length_singleton, List.append_assoc, List.singleton_append] at q
    have fin : ∀ (a b : Bool), a = (one || matchS (x.take 100) (cut s 0 (if 100 < (s.length : Int) then 100 else (s.length : Int)))) → b = (may && (piecesS (x.take 100)).isSome) →
        f_law07_GlobNames_l10 s l m a b ((pre.length + 1 : Nat) : Int) (pre ++ x.take 100 :: r) = some (one || (x :: r).any (fun x => matchS (x.take 100) (cut s 0 (if 100 < (s.length : Int) then 100 else (s.length : Int)))), may && (x :: r).all (fun x => (piecesS (x.take 100)).isSome), (t.length : Int), pre ++ (x :: r).map (·.take 100)) := by
      rintro a b rfl rfl
      rw [q, List.any_cons, List.all_cons, List.map_cons, Bool.or_assoc, Bool.and_assoc]
    cases one with
    | true =>
      rw [show gx (!true) (f_glob_Match (bif (!true) then x.take 100 else default) (cut s 0 (if 100 < (s.length : Int) then 100 else (s.length : Int)))) default = some default from rfl, Option.bind_some, gx_some, Option.bind_some]
      cases may with
      | true => rw [show (bif true then x.take 100 else default) = x.take 100 from rfl, Right_ok _ lx, gx_some, Option.bind_some]; exact fin _ _ rfl rfl
      | false => rw [show gx false (f_glob_Right (bif false then x.take 100 else default)) default = some default from rfl, Option.bind_some]; exact fin _ _ rfl rfl
    | false =>
      rw [show (bif (!false) then x.take 100 else default) = x.take 100 from rfl, Match_ok _ _ lx, gx_some, Option.bind_some, gx_some, Option.bind_some]
      cases may with
      | true => rw [show (bif true then x.take 100 else default) = x.take 100 from rfl, Right_ok _ lx, gx_some, Option.bind_some]; exact fin _ _ rfl rfl
      | false => rw [show gx false (f_glob_Right (bif false then x.take 100 else default)) default = some default from rfl, Option.bind_some]; exact fin _ _ rfl rfl
theorem stars_all (s : Str) (h : s.length ≤ 200) : matchS [42, 42] s = true := (matchS_iff _ _).mpr ⟨h, [.many true], rfl, (isL_one _ _).mpr rfl⟩
theorem globNames_true (s : Str) (l : List Str) : f_law07_GlobNames s l = some true := by
  unfold f_law07_GlobNames
  have et : ([] : List Str) ++ (cut l 0 (if 5 < (l.length : Int) then 5 else (l.length : Int))) = l.take 5 := cut_take l 5
  have tl : (l.take 5).length ≤ 5 := by rw [List.length_take]; omega
  have hs : (cut s 0 (if 100 < (s.length : Int) then 100 else (s.length : Int))).length ≤ 100 := by rw [show cut s 0 (if 100 < (s.length : Int) then 100 else (s.length : Int)) = s.take 100 from cut_take s 100, List.length_take]; omega
  have q := names10_ok s l (l.take 5) et tl (l.take 5) [] (((((([] : List Str) ++ (cut l 0 (if 5 < (l.length : Int) then 5 else (l.length : Int)))).length : Int) : Int) - 0).toNat + 1) false true (by simp) (by rw [et]; omega)
  rw [gd_t _ (cut_gdI s 100 (by decide)), gd_t _ (cut_gdI l 5 (by decide)), gd_t _ (by rw [show cut l 0 (if 5 < (l.length : Int) then 5 else (l.length : Int)) = l.take 5 from cut_take l 5]; omega)]
  rw [show ((([] : List Str).length : Nat) : Int) = 0 from rfl] at q
  rw [et] at q ⊢
  rw [List.nil_append] at q
  rw [q, Option.bind_some]
  generalize cut s 0 (if 100 < (s.length : Int) then 100 else (s.length : Int)) = S at *
  generalize l.take 5 = T at tl
  dsimp only
  rw [List.nil_append]
  have hp : ∀ p ∈ T.map (·.take 100), p.length < 4611686018427387904 := by
    intro p hp
    obtain ⟨y, _, rfl⟩ := List.mem_map.mp hp
    rw [List.length_take]; omega
  have hm : (T.map (·.take 100)).length = T.length := List.length_map _
  rw [some_ok S _ (by omega) hp, Option.bind_some]
  have hr : (T.map (·.take 100)).any (fun p => !(piecesS p).isSome) = !(T.all fun x => (piecesS (x.take 100)).isSome) := by
    rw [List.any_map]; induction T with
    | nil => rfl
    | cons x r ih => rw [List.any_cons, List.all_cons, Bool.not_and, ih (by simp at tl; omega) (fun p hp2 => hp p (by simp at hp2 ⊢; exact .inr hp2)) (List.length_map _)]; rfl
  have hma : (T.map (·.take 100)).any (fun p => matchS p S) = T.any fun x => matchS (x.take 100) S := by rw [List.any_map]; rfl
  cases may : T.all fun x => (piecesS (x.take 100)).isSome with
  | false =>
    rw [if_pos (by decide), galive_ok]
    unfold someR
    rw [if_pos (.inr (by rw [hr, may]; rfl))]; rfl
  | true =>
    have hp2 : ∀ p ∈ T.map (·.take 100) ++ [[42, 42]], p.length < 4611686018427387904 := by
      intro p hp3
      rcases List.mem_append.mp hp3 with h | h
      · exact hp p h
      · rw [List.mem_singleton.mp h]; decide
    rw [if_neg (by decide), gd_t _ (by omega), some_ok S _ (by simp; omega) hp2, Option.bind_some]
    unfold someR
    rw [if_neg (by rintro (h | h); omega; rw [hr, may] at h; cases h), if_neg (by
      rintro (h | h)
      · omega
      · rw [List.any_append, hr, may] at h
        exact absurd h (by decide)), galive_ok, List.any_append, hma]
    have hz : (((T.map (·.take 100)).length : Int) == 0) = ((T.map (·.take 100)).length == 0) := by rw [Bool.eq_iff_iff]; simp
    rw [hz]
    have h42 : ([([42, 42] : Str)] : List Str).any (fun p => matchS p S) = true := by rw [List.any_cons, stars_all S (by omega)]; rfl
    rw [h42]
    generalize (T.any fun x => matchS (x.take 100) S) = a
    generalize ((List.map (fun x : Str => List.take 100 x) T).length == 0) = b
    generalize ((List.map (fun x : Str => List.take 100 x) T ++ [[42, 42]]).length == 0) = c
    cases a <;> cases b <;> cases c <;> rfl
end Go.Proofs.YthcngbbceahdlaaDoor.V.M
end

section
/- Globs: the laws GlobWords, GlobOnes. -/
namespace Go.Proofs.YthcngbbceahdlaaDoor.V.M
set_option linter.unusedVariables false
set_option linter.unusedSimpArgs false
open Go Go.RowKit
theorem splitOnB_app (c : UInt8) : ∀ (x t : Str), c ∉ x → splitOnB c (x ++ c :: t) = x :: splitOnB c t
  | [], t, _ => by rw [List.nil_append, splitOnB, if_pos rfl]
  | y :: x, t, h => by
    have h1 : ¬ y = c := fun e => h (by rw [e]; exact List.mem_cons_self ..)
    have h2 : c ∉ x := fun e => h (List.mem_cons_of_mem _ e)
    rw [List.cons_append, splitOnB, if_neg h1, splitOnB_app c x t h2]
theorem splitOnB_not (c : UInt8) (x : Str) (h : c ∉ x) : splitOnB c x = [x] := splitOnB_none (by rw [← Int.not_le, indexByte_mem]; exact h)
theorem splitOnB_join (c : UInt8) : ∀ (r : List Str) (x : Str), c ∉ x → (∀ y ∈ r, c ∉ y) → splitOnB c (x ++ Lib.joinTail [c] r) = x :: r
  | [], x, h, _ => by
    rw [show Lib.joinTail [c] [] = [] from rfl, List.append_nil, splitOnB_not c x h]
  | y :: r, x, h, hr => by
    rw [show Lib.joinTail [c] (y :: r) = c :: (y ++ Lib.joinTail [c] r) from rfl, splitOnB_app c x _ h, splitOnB_join c r y (hr y (List.mem_cons_self ..)) (fun z hz => hr z (List.mem_cons_of_mem _ hz))]
/-- A byte of a word. -/
def wordC (c : UInt8) : Prop := badC c = false ∧ c ≠ 123 ∧ c ≠ 125 ∧ c ≠ 44
theorem word_of {c : UInt8} (h1 : ¬ (bn c < 33)) (h2 : ¬ (bn c > 126)) (h3 : c ∉ ([123, 125, 44] : Str)) : wordC c := by
  simp only [List.mem_cons, List.not_mem_nil, or_false, not_or] at h3
  refine ⟨?_, h3.1, h3.2.1, h3.2.2⟩
  unfold bn at h1 h2
  unfold badC
  rw [decide_eq_false (by omega), decide_eq_false (by omega)]; rfl
theorem words13_ok (l : List Str) (s : Str) (is : Bool) (v22 : Int) (x : Str) (k : Nat) (hl : x.length ≤ 9223372036854775807) : ∀ (v m : Nat), v + k = x.length → k < m →
    f_law07_GlobWords_l13 l s is v22 x m (v : Int) = some (.inr true) ∨ (∃ z, f_law07_GlobWords_l13 l s is v22 x m (v : Int) = some (.inl z)) ∧ ∀ c ∈ x.drop v, wordC c := by
  induction k with
  | zero =>
    intro v m hv hm
    obtain ⟨m, rfl⟩ : ∃ k, m = k + 1 := ⟨m - 1, by omega⟩
    rw [f_law07_GlobWords_l13, if_neg (by simp; omega), List.drop_eq_nil_of_le (by omega)]
    exact .inr ⟨⟨_, rfl⟩, fun c hc => by cases hc⟩
  | succ k ih =>
    intro v m hv hm
    obtain ⟨m, rfl⟩ : ∃ k, m = k + 1 := ⟨m - 1, by omega⟩
    have ex : ix (x.map bn) (v : Int) = some (bn (x[v]'(by omega))) := by rw [ix_nat, List.getElem?_map, List.getElem?_eq_getElem (by omega)]; rfl
    rw [f_law07_GlobWords_l13, if_pos (by simp; omega), ex, Option.bind_some, show f_strings_IndexByte ([123, 125, 44] : Str) (bn (x[v]'(by omega))) = some (Lib.indexByte ([123, 125, 44] : Str) (x[v]'(by omega))) from by show some (Lib.indexByte _ (bn _).toNat.toUInt8) = _; rw [byte_back], gx_some, Option.bind_some, wG_s (by omega), List.drop_eq_getElem_cons (show v < x.length by omega), galive_ok]
    generalize x[v]'(by omega) = c
    by_cases h1 : bn c < 33
    · rw [if_pos (by simp [h1])]; exact .inl rfl
    · by_cases h2 : bn c > 126
      · rw [if_pos (by simp [h2])]; exact .inl rfl
      · rw [decide_eq_false h1, decide_eq_false h2]
        by_cases h3 : c ∈ ([123, 125, 44] : Str)
        · rw [if_pos (by have := (indexByte_mem _ _).mpr h3; simp only [Bool.or_self, Bool.not_false, cond_true, Bool.false_or, decide_eq_true_eq]; omega)]; exact .inl rfl
        · rw [if_neg (by have := fun h => h3 ((indexByte_mem _ _).mp h); simp only [Bool.or_self, Bool.not_false, cond_true, Bool.false_or, decide_eq_true_eq]; omega)]
          rcases ih (v + 1) m (by omega) (by omega) with h | ⟨h, h4⟩
          · exact .inl h
          · refine .inr ⟨h, fun x hx => ?_⟩
            rcases List.mem_cons.mp hx with rfl | hx
            · exact word_of h1 h2 h3
            · exact h4 x hx
theorem words18_ok (l : List Str) (s : Str) (t : List Str) (ht : cut l 0 (if 5 < (l.length : Int) then 5 else (l.length : Int)) = t) (htl : t.length ≤ 5) (hw : ∀ x ∈ t, x.length ≤ 9223372036854775807) (k : Nat) : ∀ (v m : Nat) (is : Bool), v + k = t.length → k < m →
    f_law07_GlobWords_l18 l s m is (v : Int) = some (.inr true) ∨ (∃ z, f_law07_GlobWords_l18 l s m is (v : Int) = some (.inl (is || (t.drop v).any (fun x => (cut s 0 (if 60 < (s.length : Int) then 60 else (s.length : Int))) == x), z))) ∧ ∀ x ∈ t.drop v, x.length ≤ 20 ∧ ∀ c ∈ x, wordC c := by
  induction k with
  | zero =>
    intro v m is hv hm
    obtain ⟨m, rfl⟩ : ∃ k, m = k + 1 := ⟨m - 1, by omega⟩
    rw [f_law07_GlobWords_l18, ht, if_neg (by simp; omega), List.drop_eq_nil_of_le (by omega)]
    exact .inr ⟨⟨_, by simp; rfl⟩, fun c hc => by cases hc⟩
  | succ k ih =>
    intro v m is hv hm
    obtain ⟨m, rfl⟩ : ∃ k, m = k + 1 := ⟨m - 1, by omega⟩
    have hx := hw _ (List.getElem_mem (show v < t.length by omega))
    rw [f_law07_GlobWords_l18, ht, if_pos (by simp; omega), ix_nat, List.getElem?_eq_getElem (by omega), Option.bind_some, List.drop_eq_getElem_cons (show v < t.length by omega), galive_ok, wG_s (by omega)]
    generalize t[v]'(by omega) = x at hx
    have q := words13_ok l s is (v : Int) x x.length hx 0 ((((x.length : Int) : Int) - 0).toNat + 1) (by omega) (by omega)
    rw [show ((0 : Nat) : Int) = 0 from rfl, List.drop_zero] at q
    rcases q with q | ⟨⟨z, q⟩, hq⟩
    · rw [q]; exact .inl rfl
    · rw [q, Option.bind_some]
      dsimp only
      by_cases c : 20 < x.length
      · rw [if_pos (by simp; omega)]; exact .inl rfl
      · rw [if_neg (by simp; omega)]
        rcases ih (v + 1) m (is || ((cut s 0 (if 60 < (s.length : Int) then 60 else (s.length : Int))) == x)) (by omega) (by omega) with h | ⟨⟨z2, h⟩, h4⟩
        · exact .inl h
        · refine .inr ⟨⟨z2, by rw [h, List.any_cons, Bool.or_assoc]⟩, fun y hy => ?_⟩
          rcases List.mem_cons.mp hy with rfl | hy
          · exact ⟨by omega, hq⟩
          · exact h4 y hy
theorem join_len : ∀ (l : List Str), (∀ x ∈ l, x.length ≤ 20) → (Lib.joinTail [44] l).length ≤ 21 * l.length
  | [], _ => by simp [Lib.joinTail]
  | x :: r, h => by
    have h1 := h x (List.mem_cons_self ..)
    have h2 := join_len r (fun y hy => h y (List.mem_cons_of_mem _ hy))
    rw [show Lib.joinTail [44] (x :: r) = 44 :: (x ++ Lib.joinTail [44] r) from rfl, List.length_cons, List.length_append, List.length_cons]
    omega
theorem joinTail_mem (l : List Str) (c : UInt8) : c ∈ Lib.joinTail [44] l → c = 44 ∨ ∃ x ∈ l, c ∈ x := by
  intro h
  unfold Lib.joinTail at h
  obtain ⟨y, h1, h2⟩ := List.mem_flatten.mp h
  obtain ⟨x, h3, rfl⟩ := List.mem_map.mp h1
  rcases List.mem_append.mp h2 with h4 | h4
  · exact .inl (by simpa using h4)
  · exact .inr ⟨x, h3, h4⟩
/-- Braces. -/
theorem match_braces (J s : Str) (h1 : J.length ≤ 120) (h2 : ∀ c ∈ J, badC c = false ∧ c ≠ 123 ∧ c ≠ 125) (hs : s.length ≤ 200) : matchS ([123] ++ J ++ [125]) s = (splitOnB 44 J).contains s := by
  have h125 : (125 : UInt8) ∉ J := fun h => (h2 _ h).2.2 rfl
  have hidx : Lib.indexByte (J ++ [125]) 125 = (J.length : Int) := by
    have hm : 0 ≤ Lib.indexByte (J ++ [125]) 125 := (indexByte_mem _ _).mpr (by simp)
    obtain ⟨i, e1, e2, e3, e4⟩ := indexByte_at hm
    rw [e1]
    have : (J ++ [125])[i]? = some 125 := by
      rw [e3, List.getElem?_append_right (by rw [List.length_take]; omega), List.length_take, Nat.min_eq_left (by omega), Nat.sub_self]; rfl
    by_cases c : i < J.length
    · rw [List.getElem?_append_left c] at this
      exact absurd (List.mem_of_getElem? this) h125
    · simp at e2; omega
  have hcut : cutS (J ++ [125]) 125 = (J, [], true) := by
    unfold cutS
    rw [hidx, if_pos (by omega), Int.toNat_natCast, List.take_left' rfl, List.drop_of_length_le (by simp)]
  have e : piecesS ([123] ++ J ++ [125]) = some [.words (splitOnB 44 J)] := by
    refine piecesS_of (by simp) (by simp; omega) (fun c hc => ?_) ?_
    · rw [List.append_assoc] at hc
      rcases List.mem_append.mp hc with hc | hc
      · rw [List.mem_singleton.mp hc]; decide
      · rcases List.mem_append.mp hc with hc | hc
        · exact (h2 c hc).1
        · rw [List.mem_singleton.mp hc]; decide
    · show piecesG _ (123 :: (J ++ [125])) [] = _
      rw [show ([123] ++ J ++ [125] : Str).length + 1 = (J.length + 2) + 1 by simp, piecesG, if_neg (fun h => absurd (hasP_star.mp h).1 (by decide)), if_neg (by decide), if_neg (by decide), if_pos rfl, hcut, if_neg (by
        rintro (h | h)
        · cases h
        · exact (h2 _ h).2.1 rfl)]
      rw [List.drop_of_length_le (by simp), piecesG]; rfl
  rw [Bool.eq_iff_iff, matchS_iff, e, List.contains_iff_mem]
  constructor
  · rintro ⟨_, l, h, h3⟩
    obtain rfl := Option.some.inj h
    have := (isL_one _ _).mp h3
    simpa [Pc.is] using this
  · intro h
    exact ⟨hs, _, rfl, (isL_one _ _).mpr (by simpa [Pc.is] using h)⟩
theorem globWords_true (l : List Str) (s : Str) (hw2 : ∀ x ∈ l, x.length ≤ 9223372036854775807) : f_law07_GlobWords l s = some true := by
  unfold f_law07_GlobWords
  have et : cut l 0 (if 5 < (l.length : Int) then 5 else (l.length : Int)) = l.take 5 := cut_take l 5
  have tl : (l.take 5).length ≤ 5 := by rw [List.length_take]; omega
  have hs : (cut s 0 (if 60 < (s.length : Int) then 60 else (s.length : Int))).length ≤ 60 := by rw [show cut s 0 (if 60 < (s.length : Int) then 60 else (s.length : Int)) = s.take 60 from cut_take s 60, List.length_take]; omega
  have q := words18_ok l s (l.take 5) et tl (fun x hx => hw2 x (List.mem_of_mem_take hx)) (l.take 5).length 0 ((((((cut l 0 (if 5 < (l.length : Int) then 5 else (l.length : Int))).length : Int) : Int) - 0).toNat + 1)) false (by omega) (by rw [et]; omega)
  rw [show ((0 : Nat) : Int) = 0 from rfl, List.drop_zero] at q
  rw [gd_t _ (cut_gdI l 5 (by decide)), gd_t _ (cut_gdI s 60 (by decide))]
  rcases q with q | ⟨⟨z, q⟩, hq⟩
  · rw [q]; rfl
  · rw [q, Option.bind_some, et]
    generalize cut s 0 (if 60 < (s.length : Int) then 60 else (s.length : Int)) = S at *
    generalize l.take 5 = T at *
    dsimp only
    rw [galive_ok]
    have hJ : ∀ c ∈ Lib.join T [44], badC c = false ∧ c ≠ 123 ∧ c ≠ 125 := by
      intro c hc
      cases T with
      | nil => cases hc
      | cons x r =>
        rw [Lib.join_cons] at hc
        rcases List.mem_append.mp hc with hc | hc
        · have := (hq x (List.mem_cons_self ..)).2 c hc
          exact ⟨this.1, this.2.1, this.2.2.1⟩
        · rcases joinTail_mem r c hc with rfl | ⟨y, h1, h2⟩
          · exact ⟨by decide, by decide, by decide⟩
          · have := (hq y (List.mem_cons_of_mem _ h1)).2 c h2
            exact ⟨this.1, this.2.1, this.2.2.1⟩
    have hJl : (Lib.join T [44]).length ≤ 120 := by
      cases T with
      | nil => simp [Lib.join]
      | cons x r =>
        have h1 := (hq x (List.mem_cons_self ..)).1
        have h2 := join_len r (fun y hy => (hq y (List.mem_cons_of_mem _ hy)).1)
        rw [Lib.join_cons, List.length_append]
        simp only [List.length_cons] at tl
        omega
    have eJ : f_strings_Join T [44] = some (Lib.join T [44]) := by unfold f_strings_Join; rw [gd_t _ ⟨by omega, by omega⟩]
    have key : ∀ k : Bool → Option Bool, (Option.bind (if ((T.length : Int) == 0) = true then some (S == ([] : Str)) else some (false || T.any fun x => S == x)) k) = k ((splitOnB 44 (Lib.join T [44])).contains S) := by
      intro k
      cases T with
      | nil =>
        rw [if_pos (by decide), Option.bind_some]
        congr 1
        rw [show splitOnB 44 (Lib.join [] [44]) = [[]] from rfl]
        cases S <;> rfl
      | cons x r =>
        rw [if_neg (by simp; omega), Option.bind_some, Lib.join_cons, splitOnB_join 44 r x (fun h => ((hq x (List.mem_cons_self ..)).2 _ h).2.2.2 rfl) (fun y hy h => ((hq y (List.mem_cons_of_mem _ hy)).2 _ h).2.2.2 rfl)]
        congr 1
        rw [Bool.false_or]
        induction (x :: r : List Str) with
        | nil => rfl
        | cons y t ih => rw [List.any_cons, List.contains_cons, ih]
    rw [key, Option.bind_some, eJ, gx_some, Option.bind_some]
    have lJ : ([123] ++ Lib.join T [44] : Str).length = 1 + (Lib.join T [44]).length := by simp; omega
    rw [show (bif true then Lib.join T [44] else default) = Lib.join T [44] from rfl, gd_t _ (fun _ => by omega), gd_t _ (fun _ => by omega), Match_ok _ _ (by rw [List.length_append, lJ]; simp; omega), match_braces _ _ hJl hJ (by omega), gx_some, Option.bind_some]
    simp
end Go.Proofs.YthcngbbceahdlaaDoor.V.M
end

section
/- Globs: the law GlobOnes. -/
namespace Go.Proofs.YthcngbbceahdlaaDoor.V.M
set_option linter.unusedVariables false
set_option linter.unusedSimpArgs false
open Go Go.RowKit
theorem ones_pieces : ∀ (n : Nat) (out : List Pc) (m : Nat), piecesG (m + n + 1) (List.replicate n 63) out = some (out ++ List.replicate n .one)
  | 0, out, m => by rw [List.replicate_zero, piecesG, List.replicate_zero, List.append_nil]
  | n + 1, out, m => by
    rw [List.replicate_succ, piecesG, if_neg (fun h => absurd (hasP_star.mp h).1 (by decide)), if_neg (by decide), if_pos rfl, show m + (n + 1) = m + n + 1 by omega, ones_pieces n, List.append_assoc, List.replicate_succ]; rfl
theorem isL_ones : ∀ (n : Nat) (u : Str), isL (List.replicate n .one) u ↔ u.length = n ∧ 47 ∉ u
  | 0, u => by
    constructor
    · intro h; rw [show u = [] from h]; simp
    · rintro ⟨h, _⟩; exact List.length_eq_zero_iff.mp h
  | n + 1, u => by
    rw [List.replicate_succ]
    constructor
    · rintro ⟨x, y, rfl, h1, h2⟩
      obtain ⟨h3, h4⟩ := (isL_ones n y).mp h2
      cases x with
      | nil => simp [Pc.is] at h1
      | cons c r => cases r with
        | nil =>
          simp [Pc.is] at h1
          refine ⟨by simp; omega, ?_⟩
          rw [List.singleton_append, List.mem_cons]
          rintro (h5 | h5)
          · exact h1 h5.symm
          · exact h4 h5
        | cons d r => simp [Pc.is] at h1
    · rintro ⟨h1, h2⟩
      cases u with
      | nil => simp at h1
      | cons c r =>
        refine ⟨[c], r, rfl, ?_, (isL_ones n r).mpr ⟨by simpa using h1, fun h => h2 (List.mem_cons_of_mem _ h)⟩⟩
        have : c ≠ 47 := fun e => h2 (by rw [e]; exact List.mem_cons_self ..)
        simp [Pc.is, this]
theorem match_ones {n : Nat} {s : Str} (h0 : 1 ≤ n) (h1 : n ≤ 128) (hs : s.length ≤ 200) : matchS (List.replicate n 63) s = ((s.length == n) && !decide ((47 : UInt8) ∈ s)) := by
  have e : piecesS (List.replicate n 63) = some (List.replicate n .one) := by
    refine piecesS_of (by simp; omega) (by simp; omega) (fun c hc => ?_) ?_
    · rw [(List.mem_replicate.mp hc).2]; decide
    · have := ones_pieces n [] 0
      rw [Nat.zero_add, List.nil_append] at this
      rw [List.length_replicate]; exact this
  rw [Bool.eq_iff_iff, matchS_iff, e]
  constructor
  · rintro ⟨_, l, h, h3⟩
    obtain rfl := Option.some.inj h
    have := (isL_ones n s).mp h3
    simp [this.1, this.2]
  · intro h
    simp at h
    exact ⟨hs, _, rfl, (isL_ones n s).mpr h⟩
theorem cutS_app {s t : Str} {c : UInt8} (h : (cutS s c).2.2 = true) : (cutS (s ++ t) c).1 = (cutS s c).1 ∧ (cutS (s ++ t) c).2.2 = true := by
  have h0 : 0 ≤ Lib.indexByte s c := by
    unfold cutS at h; split at h
    · assumption
    · cases h
  have h1 : 0 ≤ Lib.indexByte (s ++ t) c := (indexByte_mem _ _).mpr (List.mem_append.mpr (.inl ((indexByte_mem _ _).mp h0)))
  obtain ⟨i, e1, e2, e3, e4⟩ := indexByte_at h0
  obtain ⟨j, f1, f2, f3, f4⟩ := indexByte_at h1
  have gi : s[i]? = some c := by rw [e3, List.getElem?_append_right (by rw [List.length_take]; omega), List.length_take, Nat.min_eq_left (by omega), Nat.sub_self]; rfl
  have gj : (s ++ t)[j]? = some c := by rw [f3, List.getElem?_append_right (by rw [List.length_take]; omega), List.length_take, Nat.min_eq_left (by omega), Nat.sub_self]; rfl
  have hij : i = j := by
    rcases Nat.lt_trichotomy i j with h2 | h2 | h2
    · refine absurd ?_ f4
      have : (s ++ t)[i]? = some c := by rw [List.getElem?_append_left e2]; exact gi
      rw [List.mem_take_iff_getElem]
      obtain ⟨hl, he⟩ := List.getElem?_eq_some_iff.mp this
      exact ⟨i, by omega, he⟩
    · exact h2
    · refine absurd ?_ e4
      have : s[j]? = some c := by rw [List.getElem?_append_left (by omega)] at gj; exact gj
      rw [List.mem_take_iff_getElem]
      obtain ⟨hl, he⟩ := List.getElem?_eq_some_iff.mp this
      exact ⟨j, by omega, he⟩
  subst hij
  unfold cutS
  rw [if_pos h0, if_pos h1, e1, f1]
  refine ⟨?_, rfl⟩
  dsimp only
  rw [Int.toNat_natCast, List.take_append_of_le_length (by omega)]
theorem last_drop {r : Str} {n : Nat} (h : r.getLast? ≠ some 42) : (r.drop n).getLast? ≠ some 42 := by
  by_cases c : n < r.length
  · rw [List.getLast?_drop, if_neg (by omega)]; exact h
  · rw [List.drop_eq_nil_of_le (by omega)]; simp
theorem last_tail {c : UInt8} {r : Str} (h : (c :: r).getLast? ≠ some 42) : r.getLast? ≠ some 42 := by
  have := last_drop (n := 1) h
  exact this
/-- A pattern in front of another one. -/
theorem piecesG_app : ∀ (m : Nat) (s : Str) (out l : List Pc), piecesG m s out = some l → s.getLast? ≠ some 42 → ∀ (t : Str) (M : Nat), s.length + t.length < M → piecesG M (s ++ t) out = piecesG (t.length + 1) t l
  | 0, _, _, _, h, _, _, _, _ => by cases h
  | m + 1, s, out, l, h, hl, t, M, hM => by
    cases s with
    | nil =>
      rw [piecesG] at h; cases h
      rw [List.nil_append]
      exact piecesG_fuel M t out (t.length + 1) (by simp at hM; omega) (by omega)
    | cons c r =>
      obtain ⟨M, rfl⟩ : ∃ k, M = k + 1 := ⟨M - 1, by omega⟩
      simp only [List.length_cons] at hM
      rw [piecesG] at h
      rw [List.cons_append, piecesG]
      have go := fun (x : Pc) (u : Str) (hu : u.length ≤ r.length) (hul : u.getLast? ≠ some 42) (h : piecesG m u (out ++ [x]) = some l) => piecesG_app m u (out ++ [x]) l h hul t M (by omega)
      have hlr := last_tail hl
      split at h
      · rename_i h0
        obtain ⟨rfl, q, rfl⟩ := hasP_star.mp h0
        rw [if_pos (show hasP (42 :: (42 :: q ++ t)) [42, 42] = true from hasP_star.mpr ⟨rfl, q ++ t, rfl⟩)]
        exact go _ q (by simp) (last_tail hlr) h
      · rename_i h0
        rw [if_neg (fun h1 => by
          obtain ⟨rfl, q, hq⟩ := hasP_star.mp h1
          cases r with
          | nil => exact hl rfl
          | cons d r => obtain ⟨rfl, _⟩ := List.cons.inj hq; exact h0 (hasP_star.mpr ⟨rfl, r, rfl⟩))]
        split at h
        · rename_i h1; rw [if_pos h1]; exact go _ r (Nat.le_refl _) hlr h
        · rename_i h1; rw [if_neg h1]
          split at h
          · rename_i h2; rw [if_pos h2]; exact go _ r (Nat.le_refl _) hlr h
          · rename_i h2; rw [if_neg h2]
            split at h
            · rename_i h3; rw [if_pos h3]
              split at h
              · cases h
              · rename_i h4
                have h5 : (cutS r 125).2.2 = true := by
                  cases hx : (cutS r 125).2.2 with
                  | true => rfl
                  | false => exact absurd (.inl hx) h4
                obtain ⟨h6, h7⟩ := cutS_app (t := t) h5
                have h8 := cutS_lt h5
                rw [h6, h7, if_neg (by rintro (h9 | h9); cases h9; exact h4 (.inr h9)), List.drop_append_of_le_length (by omega)]
                exact go _ _ (by rw [List.length_drop]; omega) (last_drop hlr) h
            · rename_i h3; rw [if_neg h3]
              split at h
              · cases h
              · rename_i h4; rw [if_neg h4]; exact go _ r (Nat.le_refl _) hlr h
theorem piecesG_out : ∀ (m : Nat) (s : Str) (out l : List Pc), piecesG m s [] = some l → piecesG m s out = some (out ++ l) := by
  have key : ∀ (m : Nat) (s : Str) (o1 o2 l : List Pc), piecesG m s o2 = some l → piecesG m s (o1 ++ o2) = some (o1 ++ l) := by
    intro m
    induction m with
    | zero => intro s o1 o2 l h; cases h
    | succ m ih =>
      intro s o1 o2 l h
      cases s with
      | nil => rw [piecesG] at h ⊢; cases h; rfl
      | cons c r =>
        rw [piecesG] at h ⊢
        split at h
        · rename_i h0; rw [if_pos h0, List.append_assoc]; exact ih _ _ _ _ h
        · rename_i h0; rw [if_neg h0]
          split at h
          · rename_i h0; rw [if_pos h0, List.append_assoc]; exact ih _ _ _ _ h
          · rename_i h0; rw [if_neg h0]
            split at h
            · rename_i h0; rw [if_pos h0, List.append_assoc]; exact ih _ _ _ _ h
            · rename_i h0; rw [if_neg h0]
              split at h
              · rename_i h0; rw [if_pos h0]
                split at h
                · cases h
                · rename_i h0; rw [if_neg h0, List.append_assoc]; exact ih _ _ _ _ h
              · rename_i h0; rw [if_neg h0]
                split at h
                · cases h
                · rename_i h0; rw [if_neg h0, List.append_assoc]; exact ih _ _ _ _ h
  intro m s out l h
  have := key m s out [] l h
  rwa [List.append_nil] at this
theorem piecesS_app {p q : Str} {l k : List Pc} (hp : piecesS p = some l) (hq : piecesS q = some k) (hl : p.getLast? ≠ some 42) (hn : p.length + q.length ≤ 128) : piecesS (p ++ q) = some (l ++ k) := by
  unfold piecesS at hp hq
  split at hp
  · cases hp
  · rename_i h1
    split at hq
    · cases hq
    · rename_i h2
      refine piecesS_of (fun h => h1 (.inl (List.append_eq_nil_iff.mp h).1)) (by simp; omega) (fun c hc => ?_) ?_
      · have hb : ∀ x : Str, ¬ (x = [] ∨ 128 < x.length ∨ x.any badC = true) → ∀ c ∈ x, badC c = false := by
          intro x hx c hc
          cases h : badC c with
          | false => rfl
          | true => exact absurd (.inr (.inr (List.any_eq_true.mpr ⟨c, hc, h⟩))) hx
        rcases List.mem_append.mp hc with hc | hc
        · exact hb p h1 c hc
        · exact hb q h2 c hc
      · rw [piecesG_app _ p [] l hp hl q _ (by simp)]
        exact piecesG_out _ _ _ _ hq
theorem globOnes_true (n : Int) (s p q a b : Str) (hn : (Lit.int .i64 n).wf = true) : f_law07_GlobOnes n s p q a b = some true := by
  have hn1 := bounds_i64 hn
  unfold f_law07_GlobOnes
  rw [gd_t _ (cut_gdI s 60 (by decide)), gd_t _ (cut_gdI p 40 (by decide)), gd_t _ (cut_gdI q 40 (by decide)), gd_t _ (cut_gdI a 60 (by decide)), gd_t _ (cut_gdI b 60 (by decide))]
  have len : ∀ (x : Str) (k : Nat), (cut x 0 (if (k : Int) < (x.length : Int) then (k : Int) else (x.length : Int))).length ≤ k := fun x k => by rw [cut_take, List.length_take]; omega
  have hs := len s 60
  have hp := len p 40
  have hq := len q 40
  have ha := len a 60
  have hb := len b 60
  rw [show ((60 : Nat) : Int) = 60 from rfl] at hs ha hb
  rw [show ((40 : Nat) : Int) = 40 from rfl] at hp hq
  generalize cut s 0 (if 60 < (s.length : Int) then 60 else (s.length : Int)) = S at *
  generalize cut p 0 (if 40 < (p.length : Int) then 40 else (p.length : Int)) = P at *
  generalize cut q 0 (if 40 < (q.length : Int) then 40 else (q.length : Int)) = Q at *
  generalize cut a 0 (if 60 < (a.length : Int) then 60 else (a.length : Int)) = A at *
  generalize cut b 0 (if 60 < (b.length : Int) then 60 else (b.length : Int)) = B at *
  obtain ⟨k, k1, k2, ek⟩ : ∃ k : Nat, 1 ≤ k ∧ k ≤ 20 ∧ IntKind.i64.wrap (1 + ((IntKind.i64.wrap ((n.tmod 20) + 20)).tmod 20)) = (k : Int) := by
    have h1 := Int.lt_tmod_of_pos n (b := 20) (by omega)
    have h2 := Int.tmod_lt_of_pos n (b := 20) (by omega)
    generalize n.tmod 20 = z at h1 h2
    rw [w_i64 (n := z + 20) (by omega) (by omega), Int.tmod_eq_emod_of_nonneg (by omega), w_i64 (by omega) (by omega)]
    exact ⟨(1 + (z + 20) % 20).toNat, by omega, by omega, by omega⟩
  rw [ek]
  have er : f_strings_Repeat ([63] : Str) (k : Int) = some (List.replicate k 63) := by
    unfold f_strings_Repeat
    rw [gd_t _ ⟨by omega, by omega, by simp; omega⟩, Int.toNat_natCast]
    have := Lib.repeatL_replicate (63 : UInt8) 1 k
    rw [Nat.mul_one] at this
    exact congrArg some this
  rw [er, Option.bind_some, Match_ok _ _ (by simp; omega), Option.bind_some, contains_ok, gx_some, Option.bind_some, galive_ok, gx_some, Option.bind_some, match_ones k1 (by omega) (by omega)]
  have e1 : ((S.length : Int) == (k : Int)) = (S.length == k) := by rw [Bool.eq_iff_iff, beq_iff_eq, beq_iff_eq]; omega
  have e2 : ((S.length == k) && !(bif (S.length == k) then decide ((47 : UInt8) ∈ S) else default)) = ((S.length == k) && !decide ((47 : UInt8) ∈ S)) := by cases (S.length == k) <;> rfl
  rw [e1, e2]
  rw [show (!(((S.length == k) && !decide ((47 : UInt8) ∈ S)) == ((S.length == k) && !decide ((47 : UInt8) ∈ S)))) = false by simp, if_neg (by decide), Right_ok _ (by omega), Option.bind_some, Right_ok _ (by omega), gx_some, Option.bind_some, hasSuffix_ok _ _ (by omega) (by decide), gx_some, Option.bind_some]
  cases hP : piecesS P with
  | none => rfl
  | some l =>
    cases hQ : piecesS Q with
    | none => rfl
    | some r =>
      cases hS : hasSf P [42] with
      | true => rfl
      | false =>
        rw [if_neg (by simp), Match_ok _ _ (by omega), Option.bind_some, Match_ok _ _ (by omega), gx_some, Option.bind_some, gd_t _ (fun _ => by omega), gd_t _ (fun _ => by omega), Match_ok _ _ (by simp; omega), gx_some, Option.bind_some]
        cases hA : matchS P A with
        | false => rfl
        | true =>
          cases hB : matchS Q B with
          | false => rfl
          | true =>
            have hl : P.getLast? ≠ some 42 := by
              intro h
              obtain ⟨x, hx⟩ : ∃ x, P = x ++ [42] := by
                have := List.getLast?_eq_some_iff.mp h
                obtain ⟨x, hx⟩ := this
                exact ⟨x, hx⟩
              rw [hasSf_suf.mpr ⟨x, hx⟩] at hS; cases hS
            have e3 : matchS (P ++ Q) (A ++ B) = true := by
              obtain ⟨_, l1, h1, h2⟩ := (matchS_iff _ _).mp hA
              obtain ⟨_, r1, h3, h4⟩ := (matchS_iff _ _).mp hB
              rw [hP] at h1; cases h1
              rw [hQ] at h3; cases h3
              exact (matchS_iff _ _).mpr ⟨by simp; omega, _, piecesS_app hP hQ hl (by omega), (isL_app _ _ _).mpr ⟨A, B, rfl, h2, h4⟩⟩
            rw [e3]; rfl
end Go.Proofs.YthcngbbceahdlaaDoor.V.M
end

section
/- The functions' proofs and the plain laws, side by side. -/
namespace Go.Proofs.YthcngbbceahdlaaDoor.V
set_option linter.unusedVariables false
set_option linter.unusedSimpArgs false
theorem globStars_true (a b s : Str) : f_law07_GlobStars a b s = some true := M.globStars_true a b s
theorem globNames_true (s : Str) (l : List Str) : f_law07_GlobNames s l = some true := M.globNames_true s l
theorem globWords_true (l : List Str) (s : Str) (w0 : l.length ≤ 9223372036854775807 ∧ ∀ x ∈ l, x.length ≤ 9223372036854775807) (w1 : s.length ≤ 140737488351232) : f_law07_GlobWords l s = some true := M.globWords_true l s w0.2
theorem globOnes_true (n : Int) (s p q a b : Str) (w0 : (Lit.int .i64 n).wf = true) (w1 : s.length ≤ 140737488351232) (w2 : p.length ≤ 140737488351232) (w3 : q.length ≤ 140737488351232) (w4 : a.length ≤ 140737488351232) (w5 : b.length ≤ 140737488351232) : f_law07_GlobOnes n s p q a b = some true := M.globOnes_true n s p q a b w0
end Go.Proofs.YthcngbbceahdlaaDoor.V
end

section
/- Rows: what a row lays of type handles. -/
namespace Go.Proofs.YthcngbbceahdlaaDoor.V
open Go Go.RowKit
set_option linter.unusedVariables false
set_option linter.unusedSimpArgs false
theorem glrep_h {w : World} {g u b o : Nat} (h : w.cell? ⟨g, 0, none⟩ = some (.iface u (.agg #[.pointer (some ⟨b, o, none⟩)]))) : RepD w (fun k => k < w.heap.size) (.ref [.ifc u true [.z (.hnd b o)]] 0) (.pointer (some ⟨g, 0, none⟩)) := by
  refine .ref _ 0 g 0 (fun _ => .iface u (.agg #[.pointer (some ⟨b, o, none⟩)])) (cell?_lt h) (fun j sc hj => ?_) (fun j sc hj => ?_)
  · match j, hj with
    | 0, hj => exact h
  · match j, hj with
    | 0, hj =>
      obtain rfl := Option.some.inj hj
      refine .ifa u _ _ rfl fun j sc hj => ?_
      match j, hj with
      | 0, hj => obtain rfl := Option.some.inj hj; exact .z (.hnd b o)
theorem handle_met {P : Program} {laid : List (String × DataW Unit)} {W : World} {v : String} {d : DataW Unit} {g u b o n : Nat} {ty : TypeId} {name : List UInt8} (h : handlesMet P laid W) (hm : (v, d) ∈ laid) (hf : d.funcsIn? = none)
    (hn : d.handleName? = some name) (hg : P.globalNamed v = some g) (hu : (P.cutTypes.find? (·.1 == "internal/reflectlite.rtype")).map (·.2) = some u) (hsz : P.types.size = n)
    (hone : ((List.range n).filter fun t => P.rowNamed t name) = [ty]) (hh : typeHandle P ty = .pointer (some ⟨b, o, none⟩)) : W.cell? ⟨g, 0, none⟩ = some (.iface u (.agg #[.pointer (some ⟨b, o, none⟩)])) := by
  have h1 := h _ hm
  simp only [hf] at h1
  obtain ⟨name', u', ty', e1, e2, e3, e4, e5⟩ := h1
  obtain rfl := Option.some.inj (hn.symm.trans e1)
  obtain rfl := Option.some.inj (hu.symm.trans e2)
  have hm : ty' ∈ (List.range n).filter fun t => P.rowNamed t name := List.mem_filter.2 ⟨List.mem_range.2 (by rw [← hsz]; exact e3), e4⟩
  rw [hone] at hm
  obtain rfl := List.mem_singleton.1 hm
  rw [hh] at e5
  simpa using World.var?_cell hg e5 0
theorem laid_split {P : Program} {laid : List (String × DataW Unit)} {W : World} (h : laidMetH P laid W) (hne : (laid.filter fun x => x.2.handleName?.isSome).isEmpty = false) : laidMet P (laid.filter fun x => x.2.handleName?.isNone) W ∧ handlesMet P (laid.filter fun x => x.2.handleName?.isSome) W := by
  unfold laidMetH at h
  generalize (laid.filter fun x => x.2.handleName?.isSome) = hs at h hne
  match hs, h, hne with
  | a :: r, h, _ => exact h
end Go.Proofs.YthcngbbceahdlaaDoor.V
end

section
/- The row of the law GlobOnes: for every input that the row speaks of the law returns true; each argument reads behind the call as it read before. -/
namespace Go.Proofs.YthcngbbceahdlaaDoor.globOnes
open Go.ChangeShapes Go.WideShapes Go.ChangeAt Go.RowKit Go.Proofs.YthcngbbceahdlaaDoor.V Go.Proofs.YthcngbbceahdlaaDoorW.PrintWords
set_option linter.unusedVariables false
theorem own : ownKnob Tryd.prog.godebug = none := by kernel_rfl
theorem laidOut : laidOutB Tryd.prog = true := by kernel_rfl
theorem gn0 : Tryd.prog.globalNamed "unicode/utf8.acceptRanges" = some 2 := by kernel_rfl
theorem gt0 : (Tryd.prog.globals[2]?).map (·.type) = some 161 := by kernel_rfl
theorem gn1 : Tryd.prog.globalNamed "unicode/utf8.first" = some 1 := by kernel_rfl
theorem gt1 : (Tryd.prog.globals[1]?).map (·.type) = some 158 := by kernel_rfl
noncomputable def doorW (os : Os) : World := (let w0 := World.doorLaid Tryd.prog 400 os; { w0 with heap := w0.heap.modify 1 fun | .cells _ t fz => .cells ((Go.Pinned.utf8FirstZ.map fun (n : Nat) => Value.int .u8 n).toArray) t fz | o => o })
theorem door_met (os : Os) (args : Array Value) : laidMetH Tryd.prog Rows.globOnesRow.laid ((doorW os).forCall (fun _ _ => 0) ⟨#[], args, []⟩).memory :=
  laidMetH_of_parts3 (fuel := 8) (laidMet_of_run' 8 (by kernel_rfl) (by kernel_rfl)) (by kernel_rfl) (by kernel_rfl)
theorem gl_ok {W : World} (h : laidMetH Tryd.prog Rows.globOnesRow.laid W) : GlOk glP W (fun k => k < W.heap.size) := fun g cs hg => by cases hg
set_option maxRecDepth 100000 in
theorem lifted (os : Os) (started : os.Started) (H : Type) (enc : TypeId × Value → H) :
    ReturnsInHanded {} Tryd.checked os 6 .any (fun w args => (Rows.globOnesSpec.pre enc Tryd.prog Tryd.f6 [] false w args ∧ laidMetH Tryd.prog Rows.globOnesRow.laid w) ∧ sizedMet enc Tryd.prog Tryd.f6 (OpenSpec.ofChange Rows.globOnesSpec) false w args) (Rows.globOnesSpec.post enc Tryd.prog Tryd.f6 false true false false) := by
  refine returnsInHanded_of_change_and (C := Tryd.checked) (X := fun w _ => laidMetH Tryd.prog Rows.globOnesRow.laid w) (fun _ _ _ hh h => h.of_heap hh) own started (by kernel_rfl) Tryd.func6
    (ChangeSpec.witness_shaped (enc := enc) (C := Tryd.checked) (os := os) (X := fun w _ => laidMetH Tryd.prog Rows.globOnesRow.laid w) false (doorW os) #[.int .i64 0, .string ByteArray.empty, .string ByteArray.empty, .string ByteArray.empty, .string ByteArray.empty, .string ByteArray.empty] 8 rfl (World.shaped_of_RefB (by kernel_rfl) (by kernel_rfl)) (by kernel_rfl) (by kernel_rfl) (by kernel_rfl) (door_met os _)) ?_
  intro W base args ds gs before hval0 hW hcnd hsz0 hL _
  have hsz : (DataW.weightsEach Tryd.prog (Tryd.f6.params.toList ++ Rows.globOnesSpec.plain.varTypes Tryd.prog) (ds ++ gs)).all (· ≤ reachBytes) = true := hsz0
  have hval : ∀ (j : Nat) t v, Tryd.f6.params[j]? = some t → args[j]? = some v → Value.okWide Tryd.prog W .any base t v := hval0
  have hW' := hW
  obtain ⟨p, q, hA0, hV, rfl, hfz, hnd⟩ := hW
  have hA : DataW.TrodAll enc Tryd.prog W 0 (fun _ => true) true Tryd.f6.params.toList args.toList ds p := hA0
  rw [Tryd.params6] at hA hval hsz
  obtain ⟨v0, vs0, d0, ds0, p0, q0, hargs, rfl, rfl, h0, r0⟩ := trodAll_cons hA
  obtain ⟨v1, vs1, d1, ds1, p1, q1, rfl, rfl, rfl, h1, r1⟩ := trodAll_cons r0
  obtain ⟨v2, vs2, d2, ds2, p2, q2, rfl, rfl, rfl, h2, r2⟩ := trodAll_cons r1
  obtain ⟨v3, vs3, d3, ds3, p3, q3, rfl, rfl, rfl, h3, r3⟩ := trodAll_cons r2
  obtain ⟨v4, vs4, d4, ds4, p4, q4, rfl, rfl, rfl, h4, r4⟩ := trodAll_cons r3
  obtain ⟨v5, vs5, d5, ds5, p5, q5, rfl, rfl, rfl, h5, r5⟩ := trodAll_cons r4
  obtain ⟨rfl, rfl, rfl⟩ := trodAll_nil r5
  obtain rfl : args = #[v0, v1, v2, v3, v4, v5] := by cases args; simp_all
  obtain ⟨rfl, rfl⟩ := trodVars_none hV
  have k0 := h0
  have lt0 : ∀ x ∈ p0, x.block < W.heap.size := by obtain ⟨m, hm⟩ := k0; exact DataW.trod_lt m _ _ _ hm
  obtain ⟨a0, e0, w0⟩ := arg_int Tryd.underlying3 (hval 0 3 v0 rfl rfl) h0
  have k1 := h1
  have lt1 : ∀ x ∈ p1, x.block < W.heap.size := by obtain ⟨m, hm⟩ := k1; exact DataW.trod_lt m _ _ _ hm
  obtain ⟨a1, e1, rfl, z1⟩ := arg_str Tryd.underlying9 (hval 1 9 v1 rfl rfl) h1
  have w1 : a1.length ≤ 140737488351232 := sized_string hsz (j := 1) (t := 9) rfl rfl
  have k2 := h2
  have lt2 : ∀ x ∈ p2, x.block < W.heap.size := by obtain ⟨m, hm⟩ := k2; exact DataW.trod_lt m _ _ _ hm
  obtain ⟨a2, e2, rfl, z2⟩ := arg_str Tryd.underlying9 (hval 2 9 v2 rfl rfl) h2
  have w2 : a2.length ≤ 140737488351232 := sized_string hsz (j := 2) (t := 9) rfl rfl
  have k3 := h3
  have lt3 : ∀ x ∈ p3, x.block < W.heap.size := by obtain ⟨m, hm⟩ := k3; exact DataW.trod_lt m _ _ _ hm
  obtain ⟨a3, e3, rfl, z3⟩ := arg_str Tryd.underlying9 (hval 3 9 v3 rfl rfl) h3
  have w3 : a3.length ≤ 140737488351232 := sized_string hsz (j := 3) (t := 9) rfl rfl
  have k4 := h4
  have lt4 : ∀ x ∈ p4, x.block < W.heap.size := by obtain ⟨m, hm⟩ := k4; exact DataW.trod_lt m _ _ _ hm
  obtain ⟨a4, e4, rfl, z4⟩ := arg_str Tryd.underlying9 (hval 4 9 v4 rfl rfl) h4
  have w4 : a4.length ≤ 140737488351232 := sized_string hsz (j := 4) (t := 9) rfl rfl
  have k5 := h5
  have lt5 : ∀ x ∈ p5, x.block < W.heap.size := by obtain ⟨m, hm⟩ := k5; exact DataW.trod_lt m _ _ _ hm
  obtain ⟨a5, e5, rfl, z5⟩ := arg_str Tryd.underlying9 (hval 5 9 v5 rfl rfl) h5
  have w5 : a5.length ≤ 140737488351232 := sized_string hsz (j := 5) (t := 9) rfl rfl
  refine (Fun.lawG (xs := [_, _, _, _, _, _]) (vs := [v0, v1, v2, v3, v4, v5]) (w := W) (f_law07_GlobOnes_ok a0 a1 a2 a3 a4 a5 true (by first | exact globOnes_true a0 a1 a2 a3 a4 a5 w0 w1 w2 w3 w4 w5 | exact globOnes_true a0 a1 a2 a3 a4 a5 | (apply globOnes_true <;> assumption))) (gl_ok hL) ⟨e0, e1, e2, e3, e4, e5, trivial⟩).mono fun e W' ⟨he, bel⟩ => ?_
  subst he
  exact ⟨_, rfl, _, _, _, [], _, [], hW', trodAll_mk1 (shut_bool Tryd.underlying4 _), (trodAll_cons_mk (Below.trod laidOut (by kernel_rfl) (of_decide_eq_true (by kernel_rfl)) k0 bel lt0) (trodAll_cons_mk (Below.trod laidOut (by kernel_rfl) (of_decide_eq_true (by kernel_rfl)) k1 bel lt1) (trodAll_cons_mk (Below.trod laidOut (by kernel_rfl) (of_decide_eq_true (by kernel_rfl)) k2 bel lt2) (trodAll_cons_mk (Below.trod laidOut (by kernel_rfl) (of_decide_eq_true (by kernel_rfl)) k3 bel lt3) (trodAll_cons_mk (Below.trod laidOut (by kernel_rfl) (of_decide_eq_true (by kernel_rfl)) k4 bel lt4) (trodAll_cons_mk (Below.trod laidOut (by kernel_rfl) (of_decide_eq_true (by kernel_rfl)) k5 bel lt5) trodAll_mk0)))))), rfl, bel.frame _, fun h => by cases h⟩
theorem over : Rows.globOnesRow.holds Tryd.pinned (OpenSpec.ofChange Rows.globOnesSpec) :=
  OpenClaim.holds_of_wide 6 Tryd.f6 rfl rfl rfl rfl rfl rfl rfl ⟨rfl, rfl, rfl, rfl, rfl⟩ rfl rfl rfl rfl rfl (by kernel_rfl) Tryd.func6 (by kernel_rfl)
    (of_decide_eq_true (by kernel_rfl)) (by unfold Func.isWrapper; first | (rw [if_pos (by decide +kernel)]; kernel_rfl) | (rw [if_neg (by decide +kernel)]; exact ⟨rfl, rfl⟩))
    (fun os started H enc _ => lifted os started H enc)
theorem proved : Rows.GlobOnesSaid := over
end Go.Proofs.YthcngbbceahdlaaDoor.globOnes
namespace Go.Proofs.YthcngbbceahdlaaDoor
/-- The statement, under a short name, for the claim. -/
theorem globOnes_holds : Rows.GlobOnesCardSaid :=
  Claim7.holds_tied_plain_at .later [] [.data, .pinned] true (true, "9b67dd976cb790bfab13024b660aa57e4181461624236429e7c13590448c4756") true
    globOnes.proved (fun _ h => by cases h) (by kernel_rfl) (fun _ h => by cases h) globOnes_row_tie rfl ⟨rfl, rfl⟩ (by kernel_rfl) rfl
    (fun f fn hf hfn => by
      obtain rfl : f = 6 := Option.some.inj ((show Tryd.prog.funcNamed "consignor/consignorlaw07.GlobOnes" = some 6 by kernel_rfl).symm.trans hf) |>.symm
      obtain rfl : fn = Tryd.f6 := (Option.some.inj (Tryd.func6.symm.trans hfn)).symm
      exact ⟨by kernel_rfl, fun j t ht => by
        rw [Tryd.params6] at ht
        have hm : t ∈ [3, 9, 9, 9, 9, 9] := by simpa using Array.mem_of_getElem? ht
        have hall : ([3, 9, 9, 9, 9, 9].all fun u => !Tryd.prog.wantsStandIn u) = true := by kernel_rfl
        exact (show Tryd.prog.wantsStandIn t = false by simpa using List.all_eq_true.1 hall t hm)⟩)
    (by kernel_rfl)
#print axioms globOnes_holds
end Go.Proofs.YthcngbbceahdlaaDoor
end
