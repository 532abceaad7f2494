/- Plain lemmas of layer 1 (octet): digits, numbers in bytes; no program in sight. -/
import Derived.Laws.BytesArg
namespace Go.Proofs.Ytjhgkcbhllomaaa
set_option linter.unusedVariables false
set_option linter.unusedSimpArgs false
/-- The sixteen digits. -/
def digs : List UInt8 := [48, 49, 50, 51, 52, 53, 54, 55, 56, 57, 97, 98, 99, 100, 101, 102]
def dig (n : Nat) : UInt8 := digs.getD n 0
def hex2 (c : UInt8) : List UInt8 := [dig (c.toNat / 16), dig (c.toNat % 16)]
def hexl (l : List UInt8) : List UInt8 := l.flatMap hex2
theorem hexl_nil : hexl [] = [] := rfl
theorem hexl_append (a b : List UInt8) : hexl (a ++ b) = hexl a ++ hexl b := by simp [hexl]
theorem hexl_length (l : List UInt8) : (hexl l).length = 2 * l.length := by
  induction l with
  | nil => rfl
  | cons c l ih => simp only [hexl, List.flatMap_cons, List.length_append, List.length_cons] at *; simp only [hex2, List.length_cons, List.length_nil]; omega
theorem take_snoc (s : ByteArray) (k : Nat) (h : k < s.size) : s.data.toList.take (k + 1) = s.data.toList.take k ++ [s[k]] := by
  rw [List.take_succ_eq_append_getElem (by simpa using h)]; rfl
theorem hexl_snoc (s : ByteArray) (k : Nat) (h : k < s.size) : hexl (s.data.toList.take (k + 1)) = hexl (s.data.toList.take k) ++ [dig (s[k].toNat / 16)] ++ [dig (s[k].toNat % 16)] := by
  rw [take_snoc s k h, hexl_append]; simp [hexl, hex2]
theorem dig_get (n : Nat) (h : n < (ByteArray.mk #[48, 49, 50, 51, 52, 53, 54, 55, 56, 57, 97, 98, 99, 100, 101, 102]).size) : ((ByteArray.mk #[48, 49, 50, 51, 52, 53, 54, 55, 56, 57, 97, 98, 99, 100, 101, 102])[n].toNat : Int) = ((dig n).toNat : Int) := by
  have h' : n < 16 := h
  rcases n with _ | _ | _ | _ | _ | _ | _ | _ | _ | _ | _ | _ | _ | _ | _ | _ | n
  all_goals first | rfl | omega
/-- A number's bytes, the lowest one first. -/
def wideL (n : Int) (m : Nat) : List Int := (List.range m).map fun i => n / 2 ^ (8 * i) % 256
/-- Its error: 1 for a size that may not be, 2 for a number that does not fit. -/
def wideE (n size : Int) : Int := if size < 0 ∨ 8 < size then 1 else if size < 8 ∧ n / 2 ^ (8 * size.toNat) ≠ 0 then 2 else 0
def wideS (n size : Int) : ByteArray := if wideE n size = 0 then strOfNums (wideL n size.toNat) else ⟨#[]⟩
theorem wideL_length (n : Int) (m : Nat) : (wideL n m).length = m := by simp [wideL]
theorem wideL_succ (n : Int) (m : Nat) : wideL n (m + 1) = wideL n m ++ [n / 2 ^ (8 * m) % 256] := by simp [wideL, List.range_succ]
theorem wideL_set (n : Int) (k m : Nat) (h : k < m) : (wideL n k ++ List.replicate (m - k) (0 : Int)).set k (n / 2 ^ (8 * k) % 256) = wideL n (k + 1) ++ List.replicate (m - (k + 1)) 0 := by
  obtain ⟨j, hj⟩ : ∃ j, m - k = j + 1 := ⟨m - k - 1, by omega⟩
  rw [hj, show m - (k + 1) = j by omega, wideL_succ, List.set_append_right _ _ (by rw [wideL_length]; omega), wideL_length, Nat.sub_self, List.replicate_succ, List.set_cons_zero, List.append_assoc, List.singleton_append]
theorem wideE_arg {n size : Int} (h : size < 0 ∨ 8 < size) : wideE n size = 1 := by unfold wideE; rw [if_pos h]
theorem wideE_long {n : Int} {m : Nat} (h : m < 8 ∧ n / 2 ^ (8 * m) ≠ 0) : wideE n m = 2 := by
  unfold wideE; rw [if_neg (by omega), Int.toNat_natCast, if_pos ⟨by omega, h.2⟩]
theorem wideE_ok {n : Int} {m : Nat} (hm : m ≤ 8) (hf : m < 8 → n / 2 ^ (8 * m) = 0) : wideE n m = 0 := by
  unfold wideE; rw [if_neg (by omega), Int.toNat_natCast, if_neg (fun h => h.2 (hf (by omega)))]
theorem wideS_err {n size : Int} (h : wideE n size ≠ 0) : wideS n size = ⟨#[]⟩ := by unfold wideS; rw [if_neg h]
theorem wideS_ok {n : Int} {m : Nat} (hm : m ≤ 8) (hf : m < 8 → n / 2 ^ (8 * m) = 0) : wideS n m = strOfNums (wideL n m) := by
  unfold wideS; rw [if_pos (wideE_ok hm hf), Int.toNat_natCast]
theorem cut_size (s : ByteArray) (m : Nat) : (s.extract 0 (if (m : Int) < (s.size : Int) then (m : Int) else (s.size : Int)).toNat).size ≤ m := by
  rw [ByteArray.size_extract]; split <;> omega
theorem tmod8_lo (n : Int) : -7 ≤ n.tmod 8 := by have := Int.lt_tmod_of_pos n (b := 8) (by decide); omega
theorem tmod8_hi (n : Int) : n.tmod 8 ≤ 7 := by have := Int.tmod_lt_of_pos n (b := 8) (by decide); omega
/-- A text's digits. -/
def hexS (s : ByteArray) : ByteArray := ⟨(hexl s.data.toList).toArray⟩
theorem hexS_size (s : ByteArray) : (hexS s).size = 2 * s.size := by
  show (hexl s.data.toList).toArray.size = _
  rw [List.size_toArray, hexl_length, Array.length_toList]; rfl
theorem hexS_append (a b : ByteArray) : hexS (a ++ b) = hexS a ++ hexS b := by
  unfold hexS
  apply ByteArray.ext
  rw [ByteArray.data_append, ByteArray.data_append, Array.toList_append, hexl_append, List.append_toArray]
theorem wideE_zero {n : Int} {m : Nat} (hm : m ≤ 7) (h : wideE n m = 0) : n / 2 ^ (8 * m) = 0 := by
  unfold wideE at h
  rw [if_neg (by omega), Int.toNat_natCast] at h
  refine Decidable.not_not.1 fun hn => ?_
  rw [if_pos ⟨by omega, hn⟩] at h
  exact absurd h (by decide)
theorem div_pow_zero {n : Int} {a b : Nat} (h : n / 2 ^ a = 0) : n / 2 ^ (a + b) = 0 := by
  rw [Int.pow_add, ← Int.ediv_ediv_of_nonneg (Int.pow_nonneg (by decide)), h, Int.zero_ediv]
theorem wideE_moreN {n : Int} {m : Nat} (hm : m ≤ 7) (h : wideE n m = 0) : wideE n (↑m + 1) = 0 := by
  have h0 := wideE_zero hm h
  rw [show (m : Int) + 1 = ((m + 1 : Nat) : Int) by omega]
  exact wideE_ok (by omega) fun _ => by rw [Nat.mul_add]; exact div_pow_zero h0
theorem wideS_sizeN {n : Int} {m : Nat} (hm : m ≤ 7) (h : wideE n m = 0) : (wideS n m).size = m := by
  unfold wideS; rw [if_pos h, strOfNums_size, wideL_length, Int.toNat_natCast]
theorem strOfNums_append (xs ys : List Int) : strOfNums (xs ++ ys) = strOfNums xs ++ strOfNums ys := by
  apply ByteArray.ext
  rw [ByteArray.data_append]
  simp only [strOfNums, List.map_append, List.append_toArray]
theorem wideS_moreN {n : Int} {m : Nat} (hm : m ≤ 7) (h : wideE n m = 0) : wideS n (↑m + 1) = wideS n m ++ ⟨#[0]⟩ := by
  have h0 := wideE_zero hm h
  have h1 := wideE_moreN hm h
  unfold wideS
  rw [if_pos h, if_pos h1, show (m : Int) + 1 = ((m + 1 : Nat) : Int) by omega, Int.toNat_natCast, Int.toNat_natCast, wideL_succ, strOfNums_append, h0]
  rfl
theorem wideE_more {n q : Int} (h0 : 0 ≤ q) (h7 : q ≤ 7) (h : wideE n q = 0) : wideE n (q + 1) = 0 := by
  obtain ⟨m, rfl⟩ := Int.eq_ofNat_of_zero_le h0; exact wideE_moreN (by omega) h
theorem wideS_size {n q : Int} (h0 : 0 ≤ q) (h7 : q ≤ 7) (h : wideE n q = 0) : (wideS n q).size ≤ 8 := by
  obtain ⟨m, rfl⟩ := Int.eq_ofNat_of_zero_le h0; rw [wideS_sizeN (by omega) h]; omega
theorem wideS_more {n q : Int} (h0 : 0 ≤ q) (h7 : q ≤ 7) (h : wideE n q = 0) : wideS n (q + 1) = wideS n q ++ ⟨#[0]⟩ := by
  obtain ⟨m, rfl⟩ := Int.eq_ofNat_of_zero_le h0; exact wideS_moreN (by omega) h
end Go.Proofs.Ytjhgkcbhllomaaa
