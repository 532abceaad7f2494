/- Plain lemmas of layer 1 (octet): digits, numbers in bytes; no program in sight. -/
import Derived.Laws.BytesArg
import Derived.Below
namespace Go.Proofs.Ytdcokepmblcdmaa
set_option linter.unusedVariables false
set_option linter.unusedSimpArgs false
/-- The sixteen digits. -/
def digs : List UInt8 := [48, 49, 50, 51, 52, 53, 54, 55, 56, 57, 97, 98, 99, 100, 101, 102]
def dig (n : Nat) : UInt8 := digs.getD n 0
def hex2 (c : UInt8) : List UInt8 := [dig (c.toNat / 16), dig (c.toNat % 16)]
def hexl (l : List UInt8) : List UInt8 := l.flatMap hex2
theorem hexl_nil : hexl [] = [] := rfl
theorem hexl_append (a b : List UInt8) : hexl (a ++ b) = hexl a ++ hexl b := by simp [hexl]
theorem hexl_length (l : List UInt8) : (hexl l).length = 2 * l.length := by
  induction l with
  | nil => rfl
  | cons c l ih => simp only [hexl, List.flatMap_cons, List.length_append, List.length_cons] at *; simp only [hex2, List.length_cons, List.length_nil]; omega
theorem take_snoc (s : ByteArray) (k : Nat) (h : k < s.size) : s.data.toList.take (k + 1) = s.data.toList.take k ++ [s[k]] := by
  rw [List.take_succ_eq_append_getElem (by simpa using h)]; rfl
theorem hexl_snoc (s : ByteArray) (k : Nat) (h : k < s.size) : hexl (s.data.toList.take (k + 1)) = hexl (s.data.toList.take k) ++ [dig (s[k].toNat / 16)] ++ [dig (s[k].toNat % 16)] := by
  rw [take_snoc s k h, hexl_append]; simp [hexl, hex2]
theorem dig_get (n : Nat) (h : n < (ByteArray.mk #[48, 49, 50, 51, 52, 53, 54, 55, 56, 57, 97, 98, 99, 100, 101, 102]).size) : ((ByteArray.mk #[48, 49, 50, 51, 52, 53, 54, 55, 56, 57, 97, 98, 99, 100, 101, 102])[n].toNat : Int) = ((dig n).toNat : Int) := by
  have h' : n < 16 := h
  rcases n with _ | _ | _ | _ | _ | _ | _ | _ | _ | _ | _ | _ | _ | _ | _ | _ | n
  all_goals first | rfl | omega
/-- A number's bytes, the lowest one first. -/
def wideL (n : Int) (m : Nat) : List Int := (List.range m).map fun i => n / 2 ^ (8 * i) % 256
/-- Its error: 1 for a size that may not be, 2 for a number that does not fit. -/
def wideE (n size : Int) : Int := if size < 0 ∨ 8 < size then 1 else if size < 8 ∧ n / 2 ^ (8 * size.toNat) ≠ 0 then 2 else 0
def wideS (n size : Int) : ByteArray := if wideE n size = 0 then strOfNums (wideL n size.toNat) else ⟨#[]⟩
theorem wideL_length (n : Int) (m : Nat) : (wideL n m).length = m := by simp [wideL]
theorem wideL_succ (n : Int) (m : Nat) : wideL n (m + 1) = wideL n m ++ [n / 2 ^ (8 * m) % 256] := by simp [wideL, List.range_succ]
theorem wideL_set (n : Int) (k m : Nat) (h : k < m) : (wideL n k ++ List.replicate (m - k) (0 : Int)).set k (n / 2 ^ (8 * k) % 256) = wideL n (k + 1) ++ List.replicate (m - (k + 1)) 0 := by
  obtain ⟨j, hj⟩ : ∃ j, m - k = j + 1 := ⟨m - k - 1, by omega⟩
  rw [hj, show m - (k + 1) = j by omega, wideL_succ, List.set_append_right _ _ (by rw [wideL_length]; omega), wideL_length, Nat.sub_self, List.replicate_succ, List.set_cons_zero, List.append_assoc, List.singleton_append]
theorem wideE_arg {n size : Int} (h : size < 0 ∨ 8 < size) : wideE n size = 1 := by unfold wideE; rw [if_pos h]
theorem wideE_long {n : Int} {m : Nat} (h : m < 8 ∧ n / 2 ^ (8 * m) ≠ 0) : wideE n m = 2 := by
  unfold wideE; rw [if_neg (by omega), Int.toNat_natCast, if_pos ⟨by omega, h.2⟩]
theorem wideE_ok {n : Int} {m : Nat} (hm : m ≤ 8) (hf : m < 8 → n / 2 ^ (8 * m) = 0) : wideE n m = 0 := by
  unfold wideE; rw [if_neg (by omega), Int.toNat_natCast, if_neg (fun h => h.2 (hf (by omega)))]
theorem wideS_err {n size : Int} (h : wideE n size ≠ 0) : wideS n size = ⟨#[]⟩ := by unfold wideS; rw [if_neg h]
theorem wideS_ok {n : Int} {m : Nat} (hm : m ≤ 8) (hf : m < 8 → n / 2 ^ (8 * m) = 0) : wideS n m = strOfNums (wideL n m) := by
  unfold wideS; rw [if_pos (wideE_ok hm hf), Int.toNat_natCast]
theorem cut_size (s : ByteArray) (m : Nat) : (s.extract 0 (if (m : Int) < (s.size : Int) then (m : Int) else (s.size : Int)).toNat).size ≤ m := by
  rw [ByteArray.size_extract]; split <;> omega
theorem tmod8_lo (n : Int) : -7 ≤ n.tmod 8 := by have := Int.lt_tmod_of_pos n (b := 8) (by decide); omega
theorem tmod8_hi (n : Int) : n.tmod 8 ≤ 7 := by have := Int.tmod_lt_of_pos n (b := 8) (by decide); omega
/-- A text's digits. -/
def hexS (s : ByteArray) : ByteArray := ⟨(hexl s.data.toList).toArray⟩
theorem hexS_size (s : ByteArray) : (hexS s).size = 2 * s.size := by
  show (hexl s.data.toList).toArray.size = _
  rw [List.size_toArray, hexl_length, Array.length_toList]; rfl
theorem hexS_append (a b : ByteArray) : hexS (a ++ b) = hexS a ++ hexS b := by
  unfold hexS
  apply ByteArray.ext
  rw [ByteArray.data_append, ByteArray.data_append, Array.toList_append, hexl_append, List.append_toArray]
theorem wideE_zero {n : Int} {m : Nat} (hm : m ≤ 7) (h : wideE n m = 0) : n / 2 ^ (8 * m) = 0 := by
  unfold wideE at h
  rw [if_neg (by omega), Int.toNat_natCast] at h
  refine Decidable.not_not.1 fun hn => ?_
  rw [if_pos ⟨by omega, hn⟩] at h
  exact absurd h (by decide)
theorem div_pow_zero {n : Int} {a b : Nat} (h : n / 2 ^ a = 0) : n / 2 ^ (a + b) = 0 := by
  rw [Int.pow_add, ← Int.ediv_ediv_of_nonneg (Int.pow_nonneg (by decide)), h, Int.zero_ediv]
theorem wideE_moreN {n : Int} {m : Nat} (hm : m ≤ 7) (h : wideE n m = 0) : wideE n (↑m + 1) = 0 := by
  have h0 := wideE_zero hm h
  rw [show (m : Int) + 1 = ((m + 1 : Nat) : Int) by omega]
  exact wideE_ok (by omega) fun _ => by rw [Nat.mul_add]; exact div_pow_zero h0
theorem wideS_sizeN {n : Int} {m : Nat} (hm : m ≤ 7) (h : wideE n m = 0) : (wideS n m).size = m := by
  unfold wideS; rw [if_pos h, strOfNums_size, wideL_length, Int.toNat_natCast]
theorem strOfNums_append (xs ys : List Int) : strOfNums (xs ++ ys) = strOfNums xs ++ strOfNums ys := by
  apply ByteArray.ext
  rw [ByteArray.data_append]
  simp only [strOfNums, List.map_append, List.append_toArray]
theorem wideS_moreN {n : Int} {m : Nat} (hm : m ≤ 7) (h : wideE n m = 0) : wideS n (↑m + 1) = wideS n m ++ ⟨#[0]⟩ := by
  have h0 := wideE_zero hm h
  have h1 := wideE_moreN hm h
  unfold wideS
  rw [if_pos h, if_pos h1, show (m : Int) + 1 = ((m + 1 : Nat) : Int) by omega, Int.toNat_natCast, Int.toNat_natCast, wideL_succ, strOfNums_append, h0]
  rfl
theorem wideE_more {n q : Int} (h0 : 0 ≤ q) (h7 : q ≤ 7) (h : wideE n q = 0) : wideE n (q + 1) = 0 := by
  obtain ⟨m, rfl⟩ := Int.eq_ofNat_of_zero_le h0; exact wideE_moreN (by omega) h
theorem wideS_size {n q : Int} (h0 : 0 ≤ q) (h7 : q ≤ 7) (h : wideE n q = 0) : (wideS n q).size ≤ 8 := by
  obtain ⟨m, rfl⟩ := Int.eq_ofNat_of_zero_le h0; rw [wideS_sizeN (by omega) h]; omega
theorem wideS_more {n q : Int} (h0 : 0 ≤ q) (h7 : q ≤ 7) (h : wideE n q = 0) : wideS n (q + 1) = wideS n q ++ ⟨#[0]⟩ := by
  obtain ⟨m, rfl⟩ := Int.eq_ofNat_of_zero_le h0; exact wideS_moreN (by omega) h
/-- Byte k of a text, as a number; 0 behind its end. -/
def bN (s : ByteArray) (k : Nat) : Nat := (s.data.toList.getD k 0).toNat
theorem bN_at (s : ByteArray) : ∀ (n : Nat) (h : n < s.size), (s[n]'h).toNat = bN s n := fun n h => by
  unfold bN
  rw [List.getD_eq_getElem?_getD, List.getElem?_eq_getElem (by rw [Array.length_toList]; exact h)]
  rfl
theorem bN_lt (s : ByteArray) (k : Nat) : bN s k < 256 := UInt8.toNat_lt _
/-- A digit's number; 16: it is none. -/
def hv (c : Nat) : Nat := if 48 ≤ c ∧ c ≤ 57 then c - 48 else if 97 ≤ c ∧ c ≤ 102 then c - 87 else 16
theorem hv_le (c : Nat) : hv c ≤ 16 := by unfold hv; split <;> (try split) <;> omega
/-- Are texts digits, of whole bytes? -/
def hexOk (s : ByteArray) : Prop := s.size % 2 = 0 ∧ ∀ j, j < s.size → hv (bN s j) < 16
def hexAt (s : ByteArray) (j : Nat) : Int := hv (bN s (2 * j)) * 16 + hv (bN s (2 * j + 1))
def hexTo (s : ByteArray) (k : Nat) : List Int := (List.range k).map (hexAt s)
def unhexS (s : ByteArray) : ByteArray := strOfNums (hexTo s (s.size / 2))
theorem hexTo_length (s : ByteArray) (k : Nat) : (hexTo s k).length = k := by simp [hexTo]
theorem hexTo_succ (s : ByteArray) (k : Nat) : hexTo s (k + 1) = hexTo s k ++ [hexAt s k] := by simp [hexTo, List.range_succ]
theorem hexTo_set (s : ByteArray) (k m : Nat) (h : k < m) : (hexTo s k ++ List.replicate (m - k) (0 : Int)).set k (hexAt s k) = hexTo s (k + 1) ++ List.replicate (m - (k + 1)) 0 := by
  obtain ⟨j, hj⟩ : ∃ j, m - k = j + 1 := ⟨m - k - 1, by omega⟩
  rw [hj, show m - (k + 1) = j by omega, hexTo_succ, List.set_append_right _ _ (by rw [hexTo_length]; omega), hexTo_length, Nat.sub_self, List.replicate_succ, List.set_cons_zero, List.append_assoc, List.singleton_append]
/-- A number of bytes, the lowest one first. -/
def leN : List UInt8 → Nat
  | [] => 0
  | c :: l => c.toNat + 256 * leN l
theorem leN_append (a b : List UInt8) : leN (a ++ b) = leN a + 256 ^ a.length * leN b := by
  induction a with
  | nil => simp [leN]
  | cons c a ih => simp only [List.cons_append, leN, ih, List.length_cons, Nat.pow_succ, Nat.mul_add, Nat.mul_comm, Nat.mul_assoc, Nat.mul_left_comm]; omega
theorem leN_lt (l : List UInt8) : leN l < 256 ^ l.length := by
  induction l with
  | nil => simp [leN]
  | cons c l ih => have := c.toNat_lt; simp only [leN, List.length_cons, Nat.pow_succ]; omega
def wholeN (s : ByteArray) : Nat := leN s.data.toList
theorem take_all (s : ByteArray) : s.data.toList.take s.size = s.data.toList := List.take_of_length_le (by rw [Array.length_toList]; exact Nat.le_refl _)
/-- A half's digit, as the reference writes it. -/
theorem dig_low (n : Nat) (h : n < 10) : ((dig n).toNat : Int) = 48 + n := by
  have : ∀ n : Fin 10, ((dig n.val).toNat : Int) = 48 + n.val := by decide
  exact this ⟨n, h⟩
theorem dig_high (n : Nat) (h : n < 16) (h1 : ¬ n < 10) : ((dig n).toNat : Int) = 97 + n - 10 := by
  have : ∀ n : Fin 16, ¬ n.val < 10 → ((dig n.val).toNat : Int) = 97 + n.val - 10 := by decide
  exact this ⟨n, h⟩ h1
def numsOf (l : List UInt8) : List Int := l.map fun c => (c.toNat : Int)
theorem numsOf_append (a b : List UInt8) : numsOf (a ++ b) = numsOf a ++ numsOf b := by simp [numsOf]
theorem numsOf_length (a : List UInt8) : (numsOf a).length = a.length := by simp [numsOf]
theorem str_numsOf (l : List UInt8) : strOfNums (numsOf l) = ⟨l.toArray⟩ := by
  unfold strOfNums numsOf
  congr 2
  rw [List.map_map]
  conv => rhs; rw [← List.map_id l]
  apply List.map_congr_left
  intro c _
  simp
def numsHex (c : Nat) : List Int := [((dig (c / 16)).toNat : Int), ((dig (c % 16)).toNat : Int)]
theorem hexl_snocN (s : ByteArray) (k : Nat) (h : k < s.size) : numsOf (hexl (s.data.toList.take (k + 1))) = numsOf (hexl (s.data.toList.take k)) ++ numsHex (bN s k) := by
  rw [hexl_snoc s k h, numsOf_append, numsOf_append, bN_at s k h, List.append_assoc]; rfl
theorem nh0 (A : List Int) (c : Nat) (x : Int) (h : ((dig (c / 16)).toNat : Int) = x) : A ++ (numsHex c).take 0 ++ [x] = A ++ (numsHex c).take 1 := by simp [numsHex, h]
theorem nh1 (A : List Int) (c : Nat) (x : Int) (h : ((dig (c % 16)).toNat : Int) = x) : A ++ (numsHex c).take 1 ++ [x] = A ++ (numsHex c).take 2 := by simp [numsHex, h]
theorem imod_mul (n : Int) (hn : 0 ≤ n) (a b : Nat) : n % ((a : Int) * b) = n % a + a * (n / a % b) := by
  obtain ⟨N, rfl⟩ := Int.eq_ofNat_of_zero_le hn
  exact_mod_cast (Nat.mod_mul (x := N) (a := a) (b := b))
theorem leN_wide (n : Int) (hn : 0 ≤ n) (m : Nat) : (leN ((wideL n m).map fun x => UInt8.ofNat x.toNat) : Int) = n % 2 ^ (8 * m) := by
  induction m with
  | zero => simp [wideL, leN, Int.emod_one]
  | succ m ih =>
    rw [wideL_succ, List.map_append, leN_append, List.length_map, wideL_length, Int.natCast_add, ih]
    have h0 : 0 ≤ n / 2 ^ (8 * m) := Int.ediv_nonneg hn (Int.pow_nonneg (by decide))
    have h1 : 0 ≤ n / 2 ^ (8 * m) % 256 := Int.emod_nonneg _ (by decide)
    have h2 : n / 2 ^ (8 * m) % 256 < 256 := Int.emod_lt_of_pos _ (by decide)
    have h3 : leN ([n / 2 ^ (8 * m) % 256].map fun x => UInt8.ofNat x.toNat) = (n / 2 ^ (8 * m) % 256).toNat := by
      simp only [List.map_cons, List.map_nil, leN, UInt8.toNat_ofNat']
      omega
    have e : (256 : Int) ^ m = 2 ^ (8 * m) := by rw [Int.pow_mul]; rfl
    rw [h3, Int.natCast_mul, Int.natCast_pow, Int.toNat_of_nonneg h1, show ((256 : Nat) : Int) = 256 from rfl, e, Nat.mul_add, Int.pow_add, show (2 : Int) ^ (8 * 1) = 256 from rfl]
    exact (imod_mul n hn (2 ^ (8 * m)) 256).symm
theorem wholeN_wide (n : Int) (hn : 0 ≤ n) (m : Nat) : (wholeN (strOfNums (wideL n m)) : Int) = n % 2 ^ (8 * m) := leN_wide n hn m
/-- What the laws of layer 1 speak of: so many texts, cut. -/
def fewL (xs : List ByteArray) : List ByteArray := (xs.take 66).map fun s => s.extract 0 (min s.size 4100)
/-- Texts that may be bound, and what they are bound to. -/
def mayBind (xs : List ByteArray) : Prop := xs.length ≤ 64 ∧ ∀ x ∈ xs, x.size ≤ 4096
def bind1 (x : ByteArray) : List UInt8 := (wideS x.size 2).data.toList ++ x.data.toList
def bindL (xs : List ByteArray) : List UInt8 := xs.flatMap bind1
def bindS (xs : List ByteArray) : ByteArray := ⟨(bindL xs).toArray⟩
theorem getD_at {α : Type} (xs : List α) (k : Nat) (d : α) (h : k < xs.length) : xs.getD k d = xs[k] := by rw [List.getD_eq_getElem?_getD, List.getElem?_eq_getElem h]; rfl
theorem take_next (xs : List ByteArray) (k : Nat) (h : k < xs.length) : xs.take (k + 1) = xs.take k ++ [xs.getD k ByteArray.empty] := by
  rw [List.take_succ_eq_append_getElem h, getD_at _ _ _ h]
theorem bindL_take (xs : List ByteArray) (k : Nat) (h : k < xs.length) : bindL (xs.take (k + 1)) = bindL (xs.take k) ++ (wideS (xs.getD k ByteArray.empty).size 2).data.toList ++ (xs.getD k ByteArray.empty).data.toList := by
  rw [take_next xs k h]; simp [bindL, bind1]
theorem all_take {p : ByteArray → Prop} (xs : List ByteArray) (k : Nat) (h : k < xs.length) (ha : ∀ x ∈ xs.take k, p x) : p (xs.getD k ByteArray.empty) → ∀ x ∈ xs.take (k + 1), p x := fun hp x hx => by
  rw [take_next xs k h, List.mem_append, List.mem_singleton] at hx
  rcases hx with hx | rfl
  · exact ha x hx
  · exact hp
theorem no_take (xs : List ByteArray) (k : Nat) (h : k < xs.length) : 4096 < (xs.getD k ByteArray.empty).size → ¬ mayBind xs := fun h4 hm => by
  have := hm.2 (xs.getD k ByteArray.empty) (by rw [getD_at _ _ _ h]; exact List.getElem_mem h)
  omega
theorem wide2_size (n : Nat) (h : n ≤ 4096) : (wideS n 2).size = 2 := by
  have hf : (2 : Nat) < 8 → (n : Int) / 2 ^ (8 * 2) = 0 := fun _ => by omega
  rw [show (2 : Int) = ((2 : Nat) : Int) from rfl, wideS_ok (by omega) hf, strOfNums_size, wideL_length]
theorem wide2_err (n : Nat) (h : n ≤ 4096) : wideE n 2 = 0 := by
  have hf : (2 : Nat) < 8 → (n : Int) / 2 ^ (8 * 2) = 0 := fun _ => by omega
  exact wideE_ok (m := 2) (by omega) hf
theorem bind1_length (x : ByteArray) (h : x.size ≤ 4096) : (bind1 x).length = 2 + x.size := by
  rw [bind1, List.length_append, Array.length_toList, Array.length_toList]
  show (wideS x.size 2).size + x.size = _
  rw [wide2_size _ h]
theorem bindL_le (l : List ByteArray) (ha : ∀ x ∈ l, x.size ≤ 4096) : (bindL l).length ≤ 4098 * l.length := by
  induction l with
  | nil => simp [bindL]
  | cons x l ih =>
    have h1 := bind1_length x (ha x List.mem_cons_self)
    have h2 := ih fun y hy => ha y (List.mem_cons_of_mem _ hy)
    have h3 := ha x List.mem_cons_self
    simp only [bindL, List.flatMap_cons, List.length_append, List.length_cons] at *
    omega
theorem bindL_length (xs : List ByteArray) (k : Nat) (h : k ≤ xs.length) (ha : ∀ x ∈ xs.take k, x.size ≤ 4096) : (bindL (xs.take k)).length ≤ 4098 * k := by
  have := bindL_le _ ha
  rwa [List.length_take, Nat.min_eq_left h] at this
theorem bindL_append (a b : List ByteArray) : bindL (a ++ b) = bindL a ++ bindL b := by simp [bindL]
theorem bindS_append (a b : List ByteArray) : bindS (a ++ b) = bindS a ++ bindS b := by
  apply ByteArray.ext
  rw [ByteArray.data_append]
  simp only [bindS, bindL_append, List.append_toArray]
theorem mayBind_one {s : ByteArray} (h : s.size ≤ 4096) : mayBind [s] := ⟨by simp, fun x hx => by rw [List.mem_singleton] at hx; rw [hx]; exact h⟩
theorem mayBind_snoc {l : List ByteArray} {s : ByteArray} (hl : mayBind l) (h : s.size ≤ 4096) : mayBind (l ++ [s]) ↔ l.length ≠ 64 := by
  have h1 := hl.1
  constructor
  · intro hm; have := hm.1; rw [List.length_append] at this; simp at this; omega
  · intro hn
    refine ⟨by rw [List.length_append]; simp; omega, fun x hx => ?_⟩
    rw [List.mem_append, List.mem_singleton] at hx
    rcases hx with hx | rfl
    · exact hl.2 x hx
    · exact h
theorem wide2_inj {a b : Nat} (ha : a ≤ 4096) (hb : b ≤ 4096) (h : wideS a 2 = wideS b 2) : a = b := by
  have fa : (2 : Nat) < 8 → (a : Int) / 2 ^ (8 * 2) = 0 := fun _ => by omega
  have fb : (2 : Nat) < 8 → (b : Int) / 2 ^ (8 * 2) = 0 := fun _ => by omega
  rw [show (2 : Int) = ((2 : Nat) : Int) from rfl, wideS_ok (by omega) fa, wideS_ok (by omega) fb] at h
  have h1 := wholeN_wide a (by omega) 2
  have h2 := wholeN_wide b (by omega) 2
  rw [h, h2] at h1
  omega
theorem bindL_inj : ∀ (l m : List ByteArray), (∀ x ∈ l, x.size ≤ 4096) → (∀ x ∈ m, x.size ≤ 4096) → bindL l = bindL m → l = m
  | [], [], _, _, _ => rfl
  | [], y :: m, _, hm, h => by
    have := bind1_length y (hm y List.mem_cons_self)
    have h2 := congrArg List.length h
    simp only [bindL, List.flatMap_nil, List.flatMap_cons, List.length_append, List.length_nil] at h2
    omega
  | x :: l, [], hl, _, h => by
    have := bind1_length x (hl x List.mem_cons_self)
    have h2 := congrArg List.length h
    simp only [bindL, List.flatMap_nil, List.flatMap_cons, List.length_append, List.length_nil] at h2
    omega
  | x :: l, y :: m, hl, hm, h => by
    have hx := hl x List.mem_cons_self
    have hy := hm y List.mem_cons_self
    simp only [bindL, List.flatMap_cons, bind1, List.append_assoc] at h
    have sx := wide2_size x.size hx
    have sy := wide2_size y.size hy
    obtain ⟨e1, e2⟩ := List.append_inj h (by rw [Array.length_toList, Array.length_toList]; exact sx.trans sy.symm)
    have e3 := wide2_inj hx hy (ByteArray.ext (Array.toList_inj.1 e1))
    obtain ⟨e4, e5⟩ := List.append_inj e2 (by rw [Array.length_toList, Array.length_toList]; exact e3)
    rw [ByteArray.ext (Array.toList_inj.1 e4), bindL_inj l m (fun z hz => hl z (List.mem_cons_of_mem _ hz)) (fun z hz => hm z (List.mem_cons_of_mem _ hz)) e5]
theorem bindS_inj {l m : List ByteArray} (hl : mayBind l) (hm : mayBind m) : bindS l = bindS m ↔ l = m :=
  ⟨fun h => bindL_inj l m hl.2 hm.2 (by have := congrArg ByteArray.data h; simpa [bindS] using this), fun h => by rw [h]⟩
theorem bindS_size {l : List ByteArray} (hl : mayBind l) : (bindS l).size ≤ 262272 := by
  have h1 := bindL_le l hl.2
  have h2 := hl.1
  show (bindL l).toArray.size ≤ _
  rw [List.size_toArray]; omega
end Go.Proofs.Ytdcokepmblcdmaa
