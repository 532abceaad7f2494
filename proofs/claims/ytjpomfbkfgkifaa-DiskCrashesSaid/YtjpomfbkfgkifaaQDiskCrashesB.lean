/- The disk's calls that write. -/
import Derived.Test.YtjpomfbkfgkifaaQDiskCrashesA
import Derived.Below
import Derived.OwnWalk
import Derived.Orders
import Derived.WalkKit
import Derived.Laws.Slices
import Derived.Test.YtjpomfbkfgkifaaProg
import Derived.KernelRfl
section
/- Regions: in order, or in any order that the program may take. -/
namespace Go.Proofs.Ytjpomfbkfgkifaa.V
open Go Go.RowKit
set_option linter.unusedVariables false
set_option linter.unusedSimpArgs false
variable {P : Program} {gl : Gl} {ops : Array Oper} {a : Act} {w w1 : World} {S S1 : Nat → Prop} {ρ ρ1 : Nat → Option Nat} {N base : Nat} {s s1 : St} {Q : Exit → Act → World → Prop} {K : Act → World → Prop}
/-- The operations of a region, as they are told. -/
def cOpns (P : Program) (N : Nat) (ops : Array Oper) : List Oper → Option (List Opn)
  | [] => some []
  | o :: l => match cOpn P N ops o, cOpns P N ops l with | some a, some b => some (a :: b) | _, _ => none
theorem cOpns_get : ∀ {l : List Oper} {q : List Opn}, cOpns P N ops l = some q → q.length = l.length ∧ ∀ (j : Nat) x, q[j]? = some x → ∃ o, l[j]? = some o ∧ cOpn P N ops o = some x
  | [], q, h => by simp only [cOpns, Option.some.injEq] at h; subst h; simp
  | o :: l, q, h => by
    simp only [cOpns] at h
    split at h
    · rename_i x r h1 h2
      simp only [Option.some.injEq] at h; subst h
      obtain ⟨h3, h4⟩ := cOpns_get h2
      refine ⟨by simp [h3], fun j x hj => ?_⟩
      cases j with
      | zero => simp only [List.getElem?_cons_zero, Option.some.injEq] at hj; subst hj; exact ⟨o, rfl, h1⟩
      | succ j => exact h4 j x (by simpa using hj)
    · cases h
/-- What holds behind a piece of code. -/
def Then (gl : Gl) (N base : Nat) (s1 : St) (w : World) (S : Nat → Prop) (K : Act → World → Prop) : Prop :=
  ∀ a1 w1 S1 ρ1, Rel gl N base s1 a1 w1 S1 ρ1 → Below base w w1 → (∀ k, S1 k → S k ∨ base ≤ k) → K a1 w1
theorem Then.later (h : Then gl N base s1 w S K) (hb : Below base w w1) (hs : ∀ k, S1 k → S k ∨ base ≤ k) : Then gl N base s1 w1 S1 K := fun a2 w2 S2 ρ2 hr hb2 hs2 => h a2 w2 S2 ρ2 hr (hb.trans hb2) fun k hk => (hs2 k hk).elim (fun h => hs k h) .inr
/-- A region in order. -/
theorem seq_sound : ∀ (its : List Itm) (k : Nat) (s : St) (a : Act) (w : World) (S : Nat → Prop) (ρ : Nat → Option Nat), (∀ (j : Nat) x, its[j]? = some x → ∃ o, ops[k + j]? = some o ∧ cOpn P N ops o = some x.o) → Tr P gl its s s1 → Rel gl N base s a w S ρ → Then gl N base s1 w S (Q .normal) → wpOps P ops Q (List.range' k its.length) a w
  | [], k, s, a, w, S, ρ, _, ht, hr, hK => by
    have : s1 = s := ht
    subst this
    exact hK a w S ρ hr (Below.refl _ _) fun k hk => .inl hk
  | x :: its, k, s, a, w, S, ρ, hq, ht, hr, hK => by
    obtain ⟨h1, _, _, h4⟩ := ht
    obtain ⟨o, ho, hc⟩ := hq 0 x rfl
    rw [List.length_cons, List.range'_succ, wpOps_cons]
    refine step_sound hr (by simpa using ho) hc h1 fun a1 w1 S1 ρ1 hr1 hb1 hs1 => ?_
    exact seq_sound its (k + 1) _ a1 w1 S1 ρ1 (fun j y hj => by
      obtain ⟨o, ho, hc⟩ := hq (j + 1) y (by simpa using hj)
      exact ⟨o, by rw [← ho]; congr 1; omega, hc⟩) h4 hr1 (hK.later hb1 hs1)
/-- Which operations come before which: masks. -/
def ancOk (ops : Array Oper) (A : List Nat) : Bool :=
  (List.range ops.size).all fun i => match ops[i]? with
    | some o => o.after.toList.all (fun e => !Region.binds .any e || decide (e.on < i)) && A.getD i 0 == o.after.toList.foldl (fun s e => if Region.binds .any e then s ||| 2 ^ e.on ||| A.getD e.on 0 else s) 0
    | none => false
/-- In which order all operations come on: a rank that goes up along what binds. -/
def rankOk (md : Region.Mode) (ops : Array Oper) (R : List Nat) : Bool :=
  (List.range ops.size).all fun i => match ops[i]? with
    | some o => o.after.toList.all (fun e => !Region.binds md e || (decide (e.on < ops.size) && decide (R.getD e.on 0 < R.getD i 0)))
    | none => false
theorem foldl_mask (A : List Nat) (j : Nat) : ∀ (l : List Edge) (s : Nat), (l.foldl (fun s e => if Region.binds .any e then s ||| 2 ^ e.on ||| A.getD e.on 0 else s) s).testBit j = true → s.testBit j = true ∨ ∃ e, e ∈ l ∧ Region.binds .any e = true ∧ (j = e.on ∨ (A.getD e.on 0).testBit j = true)
  | [], s, h => .inl h
  | e :: l, s, h => by
    rw [List.foldl_cons] at h
    rcases foldl_mask A j l _ h with h | ⟨e1, h1, h2⟩
    · by_cases hb : Region.binds .any e = true
      · rw [if_pos hb, Nat.testBit_or, Nat.testBit_or, Bool.or_eq_true, Bool.or_eq_true, Nat.testBit_two_pow] at h
        rcases h with (h | h) | h
        · exact .inl h
        · exact .inr ⟨e, List.mem_cons_self .., hb, .inl (by simpa using (of_decide_eq_true h).symm)⟩
        · exact .inr ⟨e, List.mem_cons_self .., hb, .inr h⟩
      · rw [if_neg hb] at h; exact .inl h
    · exact .inr ⟨e1, List.mem_cons_of_mem _ h1, h2⟩
def Listed (listed : Array Bool) (i : Nat) : Prop := listed[i]? = some true
structure Closed (ops : Array Oper) (listed : Array Bool) : Prop where
  size : listed.size = ops.size
  down : ∀ (i : Nat) o, ops[i]? = some o → Listed listed i → ∀ e, e ∈ o.after.toList → Region.binds .any e = true → Listed listed e.on
theorem anc_listed {A : List Nat} (hA : ancOk ops A = true) {listed : Array Bool} (hc : Closed ops listed) : ∀ (i : Nat) o, ops[i]? = some o → (∀ e, e ∈ o.after.toList → Region.binds .any e = true → Listed listed e.on) → ∀ j, (A.getD i 0).testBit j = true → Listed listed j := by
  intro i
  induction i using Nat.strongRecOn with
  | _ i ih =>
    intro o ho hd j hj
    have hi : i < ops.size := (Array.getElem?_eq_some_iff.1 ho).1
    have h1 := List.all_eq_true.1 hA i (List.mem_range.2 hi)
    rw [ho] at h1
    simp only [Bool.and_eq_true, List.all_eq_true, beq_iff_eq] at h1
    rw [h1.2] at hj
    rcases foldl_mask A j _ 0 hj with h | ⟨e, he, hb, h⟩
    · simp at h
    · have hlt : e.on < i := by have := h1.1 e he; rw [hb] at this; simpa using this
      rcases h with rfl | h
      · exact hd e he hb
      · have hel := hd e he hb
        cases hoe : ops[e.on]? with
        | none => have := Array.getElem?_eq_none_iff.1 hoe; omega
        | some oe => exact ih e.on hlt oe hoe (hc.down e.on oe hoe hel) j h
theorem least_of {p : Nat → Prop} (h : ∃ n, p n) : ∃ n, p n ∧ ∀ m, m < n → ¬ p m := by
  obtain ⟨n, hn⟩ := h
  induction n using Nat.strongRecOn with
  | _ n ih =>
    by_cases hm : ∃ m, m < n ∧ p m
    · obtain ⟨m, h1, h2⟩ := hm; exact ih m h1 h2
    · exact ⟨n, hn, fun m h1 h2 => hm ⟨m, h1, h2⟩⟩
/-- The operations that are left. -/
def left (listed : Array Bool) (l : List (Itm × Nat)) : List (Itm × Nat) := l.filter fun p => listed[p.2]? == some false
theorem left_set {listed : Array Bool} {i : Nat} (hi : listed[i]? = some false) (l : List (Itm × Nat)) : left (listed.setIfInBounds i true) l = (left listed l).filter fun p => p.2 != i := by
  unfold left
  rw [List.filter_filter]
  apply List.filter_congr
  intro p _
  have hlt := (Array.getElem?_eq_some_iff.1 hi).1
  by_cases hp : p.2 = i
  · rw [hp, Array.getElem?_setIfInBounds_self_of_lt hlt]; simp
  · rw [Array.getElem?_setIfInBounds_ne (by omega)]; simp [hp]
theorem ready_iff {md : Region.Mode} {listed : Array Bool} (hc : Closed ops listed) {i : Nat} : i ∈ Region.ready md ops listed ↔ listed[i]? = some false ∧ ∃ o, ops[i]? = some o ∧ ∀ e, e ∈ o.after.toList → Region.binds md e = true → Listed listed e.on := by
  unfold Region.ready
  simp only [List.mem_filter, List.mem_range, Bool.and_eq_true, Bool.not_eq_true']
  constructor
  · rintro ⟨h1, h2, h3⟩
    have hlt : i < listed.size := by rw [hc.size]; exact h1
    have h4 : listed[i]? = some false := by
      rw [Array.getElem?_eq_getElem hlt]
      rw [Array.getD_eq_getD_getElem?, Array.getElem?_eq_getElem hlt] at h2
      simpa using h2
    refine ⟨h4, ops[i], Array.getElem?_eq_getElem h1, fun e he hb => ?_⟩
    rw [Array.getElem?_eq_getElem h1] at h3
    simp only [Option.map_some, Option.getD_some, ← Array.all_toList] at h3
    have := List.all_eq_true.1 h3 e he
    rw [hb] at this
    simp only [Bool.not_true, Bool.false_or] at this
    rw [Array.getD_eq_getD_getElem?] at this
    unfold Listed
    cases hx : listed[e.on]? with
    | none => rw [hx] at this; simp at this
    | some b => rw [hx] at this; simp at this; rw [this]
  · rintro ⟨h1, o, ho, h2⟩
    refine ⟨(Array.getElem?_eq_some_iff.1 ho).1, by rw [Array.getD_eq_getD_getElem?, h1]; rfl, ?_⟩
    rw [ho]
    simp only [Option.map_some, Option.getD_some, ← Array.all_toList]
    rw [List.all_eq_true]
    intro e he
    cases hb : Region.binds md e with
    | false => rfl
    | true =>
      have := h2 e he hb
      unfold Listed at this
      rw [Array.getD_eq_getD_getElem?, this]; rfl
/-- Two operations, of which neither is told to come ahead of the other, do not meet. -/
def AllInd (A : List Nat) (its : List Itm) : Prop := ∀ (i j : Nat) x y, its[i]? = some x → its[j]? = some y → i < j → (A.getD j 0).testBit i = false → Ind x y
theorem any_binds {md : Region.Mode} {e : Edge} (h : Region.binds .any e = true) : Region.binds md e = true := by
  unfold Region.binds at h ⊢
  split at h <;> first | rfl | (simp at h)
theorem any_sound {md : Region.Mode} {A rk : List Nat} {its : List Itm} (hR : rankOk md ops rk = true) (hA : ancOk ops A = true) (hI : AllInd A its) (hlen : its.length = ops.size) (hq : ∀ (j : Nat) x, its[j]? = some x → ∃ o, ops[j]? = some o ∧ cOpn P N ops o = some x.o) :
    ∀ (fuel : Nat) (listed : Array Bool) (s : St) (a : Act) (w : World) (S : Nat → Prop) (ρ : Nat → Option Nat), Closed ops listed → (left listed its.zipIdx).length ≤ fuel → Tr P gl ((left listed its.zipIdx).map (·.1)) s s1 → Rel gl N base s a w S ρ → Then gl N base s1 w S (Q .normal) → wpAny P md ops Q fuel listed a w := by
  have hzip : ∀ (p : Itm × Nat), p ∈ its.zipIdx → its[p.2]? = some p.1 := by
    intro p hp
    have := List.mem_zipIdx_iff_getElem?.1 hp
    exact this
  have hdone : ∀ (listed : Array Bool) (s : St) (a : Act) (w : World) (S : Nat → Prop) (ρ : Nat → Option Nat), Closed ops listed → Tr P gl ((left listed its.zipIdx).map (·.1)) s s1 → Rel gl N base s a w S ρ → Then gl N base s1 w S (Q .normal) → Region.ready md ops listed = [] → Q .normal a w := by
    intro listed s a w S ρ hc ht hr hK hready
    have hnil : left listed its.zipIdx = [] := by
      cases hl : left listed its.zipIdx with
      | nil => rfl
      | cons p rest =>
        exfalso
        have hex : ∃ i, i < ops.size ∧ listed[i]? = some false := by
          have hp : p ∈ left listed its.zipIdx := by rw [hl]; exact List.mem_cons_self ..
          obtain ⟨h1, h2⟩ := List.mem_filter.1 hp
          have := (List.getElem?_eq_some_iff.1 (hzip p h1)).1
          exact ⟨p.2, by omega, by simpa using h2⟩
        have hmin : ∃ r, (∃ i, i < ops.size ∧ listed[i]? = some false ∧ rk.getD i 0 = r) ∧ ∀ q, q < r → ¬ ∃ i, i < ops.size ∧ listed[i]? = some false ∧ rk.getD i 0 = q := by
          obtain ⟨i, h1, h2⟩ := hex
          exact least_of ⟨rk.getD i 0, i, h1, h2, rfl⟩
        obtain ⟨r, ⟨i, h1, h2, h0⟩, h3⟩ := hmin
        have hm : i ∈ Region.ready md ops listed := by
          refine (ready_iff hc).2 ⟨h2, ops[i], Array.getElem?_eq_getElem h1, fun e he hbm => ?_⟩
          have h4 := List.all_eq_true.1 hR i (List.mem_range.2 h1)
          rw [Array.getElem?_eq_getElem h1] at h4
          simp only [List.all_eq_true] at h4
          have h5 := h4 e he
          rw [hbm] at h5
          simp only [Bool.not_true, Bool.false_or, Bool.and_eq_true, decide_eq_true_eq] at h5
          have hsz : e.on < listed.size := by rw [hc.size]; omega
          have h6 := h3 (rk.getD e.on 0) (by rw [← h0]; exact h5.2)
          unfold Listed
          rw [Array.getElem?_eq_getElem hsz]
          cases hb : listed[e.on] with
          | true => rfl
          | false => exact absurd ⟨e.on, h5.1, by rw [Array.getElem?_eq_getElem hsz, hb], rfl⟩ h6
        rw [hready] at hm
        cases hm
    rw [hnil] at ht
    have : s1 = s := ht
    subst this
    exact hK a w S ρ hr (Below.refl _ _) fun k hk => .inl hk
  intro fuel
  induction fuel with
  | zero =>
    intro listed s a w S ρ hc hf ht hr hK
    have hready : Region.ready md ops listed = [] := by
      apply List.eq_nil_iff_forall_not_mem.2
      intro i hi
      obtain ⟨h1, o, ho, _⟩ := (ready_iff hc).1 hi
      have hlt : i < its.length := by rw [hlen]; exact (Array.getElem?_eq_some_iff.1 ho).1
      have : (its[i], i) ∈ left listed its.zipIdx := List.mem_filter.2 ⟨List.mem_zipIdx_iff_getElem?.2 (List.getElem?_eq_getElem hlt), by simp [h1]⟩
      have h0 : left listed its.zipIdx = [] := List.eq_nil_of_length_eq_zero (by omega)
      rw [h0] at this
      cases this
    exact ⟨hready, hdone listed s a w S ρ hc ht hr hK hready⟩
  | succ fuel ih =>
    intro listed s a w S ρ hc hf ht hr hK
    refine ⟨hdone listed s a w S ρ hc ht hr hK, fun i hi => ?_⟩
    obtain ⟨h1, o, ho, h2⟩ := (ready_iff hc).1 hi
    have hio : i < ops.size := (Array.getElem?_eq_some_iff.1 ho).1
    have hlt : i < its.length := by rw [hlen]; exact hio
    have hdeps : ∀ e, e ∈ o.after.toList → Region.binds .any e = true → Listed listed e.on := fun e he hb => h2 e he (any_binds hb)
    have hmem : (its[i], i) ∈ left listed its.zipIdx := List.mem_filter.2 ⟨List.mem_zipIdx_iff_getElem?.2 (List.getElem?_eq_getElem hlt), by simp [h1]⟩
    obtain ⟨pre, post, hsplit⟩ := List.append_of_mem hmem
    -- indexes of what is left are in order
    have hsorted : (left listed its.zipIdx).Pairwise (fun p q => p.2 < q.2) := by
      apply List.Pairwise.filter
      rw [List.pairwise_iff_getElem]
      intro p q hp hq hpq
      simp only [List.getElem_zipIdx]
      omega
    rw [hsplit] at hsorted
    have hpre : ∀ p, p ∈ pre → p.2 < i := fun p hp => (List.pairwise_append.1 hsorted).2.2 p hp (its[i], i) (List.mem_cons_self ..)
    have hpost : ∀ p, p ∈ post → i < p.2 := fun p hp => (List.pairwise_cons.1 (List.pairwise_append.1 hsorted).2.1).1 p hp
    rw [hsplit, List.map_append, List.map_cons] at ht
    have hind : ∀ x, x ∈ pre.map (·.1) → Ind x its[i] := by
      intro x hx
      obtain ⟨p, hp, rfl⟩ := List.mem_map.1 hx
      have hpm : p ∈ left listed its.zipIdx := by rw [hsplit]; exact List.mem_append.2 (.inl hp)
      obtain ⟨g1, g2⟩ := List.mem_filter.1 hpm
      refine hI p.2 i p.1 its[i] (hzip p g1) (List.getElem?_eq_getElem hlt) (hpre p hp) ?_
      rw [Bool.eq_false_iff]
      intro hb
      have := anc_listed hA hc i o ho hdeps p.2 hb
      unfold Listed at this
      rw [this] at g2
      simp at g2
    obtain ⟨t1, t2, t3, t4⟩ := Tr.front ht hind
    obtain ⟨o2, ho2, hco⟩ := hq i its[i] (List.getElem?_eq_getElem hlt)
    refine step_sound hr ho2 hco t1 fun a1 w1 S1 ρ1 hr1 hb1 hs1 => ?_
    have hleft : left (listed.setIfInBounds i true) its.zipIdx = pre ++ post := by
      rw [left_set h1, hsplit, List.filter_append, List.filter_cons]
      simp only [bne_self_eq_false, Bool.false_eq_true, if_false]
      rw [List.filter_eq_self.2 (fun p hp => by have := hpre p hp; simp; omega), List.filter_eq_self.2 (fun p hp => by have := hpost p hp; simp; omega)]
    refine ih _ _ a1 w1 S1 ρ1 ⟨by simp [hc.size], fun j oj hoj hj e he hbe => ?_⟩ ?_ ?_ hr1 (hK.later hb1 hs1)
    · have hil : i < listed.size := by rw [hc.size]; exact hio
      have hmono : ∀ k, Listed listed k → Listed (listed.setIfInBounds i true) k := by
        intro k hk
        unfold Listed at hk ⊢
        by_cases hki : k = i
        · rw [hki, Array.getElem?_setIfInBounds_self_of_lt hil]
        · rw [Array.getElem?_setIfInBounds_ne (by omega)]; exact hk
      by_cases hji : j = i
      · subst hji
        rw [ho] at hoj; cases hoj
        exact hmono _ (hdeps e he hbe)
      · unfold Listed at hj
        rw [Array.getElem?_setIfInBounds_ne (by omega)] at hj
        exact hmono _ (hc.down j oj hoj hj e he hbe)
    · rw [hleft]
      have : (left listed its.zipIdx).length = pre.length + (post.length + 1) := by rw [hsplit, List.length_append, List.length_cons]
      rw [List.length_append]; omega
    · rw [hleft, List.map_append]; exact t4
end Go.Proofs.Ytjpomfbkfgkifaa.V
end

section
/- Code: what is asked of a walk through it, and that this is enough. -/
namespace Go.Proofs.Ytjpomfbkfgkifaa.V
open Go Go.RowKit
set_option linter.unusedVariables false
set_option linter.unusedSimpArgs false
inductive C where
  | skip
  | reg (q : List Opn) (dr : Option (List Nat)) (keep : List Nat)
  | seq (x y : C)
  | cond (c : Od) (x y : C)
  | blk (id : Nat) (x : C)
  | loop (x : C)
  | exit (id : Nat)
  | ret
inductive It where
  | c (x : C)
  | blk (id : Nat)
  | lp (x : C)
/-- Whether two operations' temporaries keep apart. -/
def apart (x y : Opn) : Bool :=
  (match x.d with | some i => !(tmpsOf y).contains i && (match y.d with | some j => !(j == i) | none => true) | none => true) && (match y.d with | some i => !(tmpsOf x).contains i | none => true)
def apartAll (A : List Nat) (q : List Opn) : Bool :=
  q.zipIdx.all fun y => q.zipIdx.all fun x => !(decide (x.2 < y.2)) || (A.getD y.2 0).testBit x.2 || apart x.1 y.1
/-- The ways in which an order may be drawn, each with a rank. -/
def modesOf (P : Program) (ops : Array Oper) : List (Region.Mode × List Nat) :=
  if P.follows .mixedOrders || !Region.departs ops then [(.any, List.range ops.size)]
  else [(.text, List.range ops.size), (.gc, (List.range ops.size).map fun i => (Region.linearise .gc ops 0).idxOf i)]
def cC (P : Program) (N : Nat) (K : List (Nat × List Nat)) : Code → Option C
  | .skip => some .skip
  | .label _ => some .skip
  | .region id ops draw => match cOpns P N ops ops.toList with
    | some q => if draw then (if (modesOf P ops).all (fun m => rankOk m.1 ops m.2) && ancOk ops (Region.before ops).toList && apartAll (Region.before ops).toList q then some (.reg q (some (Region.before ops).toList) ((K.lookup id).getD [])) else none)
      else some (.reg q none ((K.lookup id).getD []))
    | none => none
  | .seq x y => match cC P N K x, cC P N K y with | some x, some y => some (.seq x y) | _, _ => none
  | .cond c x y => match cOd c, cC P N K x, cC P N K y with | some c, some x, some y => some (.cond c x y) | _, _, _ => none
  | .block id x => (cC P N K x).map (C.blk id)
  | .loop x => (cC P N K x).map C.loop
  | .exit id => some (.exit id)
  | .ret => some .ret
  | _ => none
def exitC (id : Nat) : List It → Option (List It)
  | .blk i :: k => if i == id then some k else exitC id k
  | _ :: k => exitC id k
  | [] => none
def mkT (l : List (Nat × Va)) : Nat → Va := fun t => (l.lookup t).getD .dead
def pr (keep : List Nat) (s : St) : St := ⟨mkT (keep.map fun t => (t, s.T t)), s.G⟩
section
variable (gl : Gl) (N base : Nat)
/-- All that is known in one state is known in another one. -/
def Imp (s s1 : St) : Prop := ∀ base a w S ρ, Rel gl N base s a w S ρ → ∃ S1 ρ1, Rel gl N base s1 a w S1 ρ1 ∧ ∀ k, S1 k → S k ∨ base ≤ k
end
/-- Rows that operations touched and wrote keep apart, where no order is told. -/
def meets (a b : List Nat) : Bool := a.any fun i => b.contains i
def dynAll (A : List Nat) (its : List Itm) : Prop := ∀ (i j : Nat) x y, its[i]? = some x → its[j]? = some y → i < j → (A.getD j 0).testBit i = false → meets x.wr y.fp = false ∧ meets y.wr x.fp = false ∧ meets x.wr y.wr = false
inductive W (P : Program) (gl : Gl) (N : Nat) : List It → St → (St → Prop) → Prop where
  | nil {s : St} {R : St → Prop} (h : R s) : W P gl N [] s R
  | ret {k : List It} {s : St} {R : St → Prop} (h : R s) : W P gl N (.c .ret :: k) s R
  | skip {k : List It} {s : St} {R : St → Prop} (h : W P gl N k s R) : W P gl N (.c .skip :: k) s R
  | seq {k : List It} {s : St} {R : St → Prop} {x y : C} (h : W P gl N (.c x :: .c y :: k) s R) : W P gl N (.c (.seq x y) :: k) s R
  | cond {k : List It} {s : St} {R : St → Prop} {c : Od} {x y : C} {p : Bool} (hc : evT gl s.T c = .b (.s (.d (.bool p)))) (ht : p = true → W P gl N (.c x :: k) s R) (hf : p = false → W P gl N (.c y :: k) s R) : W P gl N (.c (.cond c x y) :: k) s R
  | blk {k : List It} {s : St} {R : St → Prop} {id : Nat} {x : C} (h : W P gl N (.c x :: .blk id :: k) s R) : W P gl N (.c (.blk id x) :: k) s R
  | eblk {k : List It} {s : St} {R : St → Prop} {id : Nat} (h : W P gl N k s R) : W P gl N (.blk id :: k) s R
  | loop {k : List It} {s : St} {R : St → Prop} {x : C} (h : W P gl N (.c x :: .lp x :: k) s R) : W P gl N (.c (.loop x) :: k) s R
  | lp {k : List It} {s : St} {R : St → Prop} {x : C} (h : W P gl N (.c x :: .lp x :: k) s R) : W P gl N (.lp x :: k) s R
  | exit {k k1 : List It} {s : St} {R : St → Prop} {id : Nat} (hk : exitC id k = some k1) (h : W P gl N k1 s R) : W P gl N (.c (.exit id) :: k) s R
  | reg {k : List It} {s s1 : St} {R : St → Prop} {q : List Opn} {dr : Option (List Nat)} {keep : List Nat} (its : List Itm) (hq : its.map (·.o) = q) (ht : Tr P gl its s s1) (hd : ∀ A, dr = some A → dynAll A its) (h : W P gl N k (pr keep s1) R) : W P gl N (.c (.reg q dr keep) :: k) s R
  | nil2 {k : List It} {s : St} {R : St → Prop} {t : Nat} {rows : List (List Sc)} (ht : s.T t = .b (.s (.d (.sl rows)))) (h0 : rows = [] → W P gl N k ⟨updT s.T t (.b (.s .nils)), s.G⟩ R) (h1 : W P gl N k ⟨updT s.T t (.b (.s (.nn rows))), s.G⟩ R) : W P gl N k s R
  | weak {k : List It} {s s1 : St} {R : St → Prop} (hi : Imp gl N s s1) (h : W P gl N k s1 R) : W P gl N k s R
inductive Stk (P : Program) (N : Nat) (K : List (Nat × List Nat)) : List It → List Item → Prop where
  | nil : Stk P N K [] []
  | c {x : C} {y : Code} {k : List It} {l : List Item} (h : cC P N K y = some x) (hk : Stk P N K k l) : Stk P N K (.c x :: k) (.code y :: l)
  | blk {id : Nat} {k : List It} {l : List Item} (hk : Stk P N K k l) : Stk P N K (.blk id :: k) (.inBlock id :: l)
  | lp {x : C} {y : Code} {k : List It} {l : List Item} (h : cC P N K y = some x) (hk : Stk P N K k l) : Stk P N K (.lp x :: k) (.inLoop y :: l)
theorem Stk.exit {P : Program} {N : Nat} {K : List (Nat × List Nat)} {id : Nat} {k : List It} {l : List Item} (h : Stk P N K k l) : ∀ {k1}, exitC id k = some k1 → ∃ l1, exitTo id l = some l1 ∧ Stk P N K k1 l1 := by
  induction h with
  | nil => intro k1 h; cases h
  | c h hk ih => intro k1 h1; exact ih h1
  | @blk i k l hk ih =>
    intro k1 h1
    simp only [exitC] at h1
    by_cases hi : i = id
    · subst hi
      simp only [beq_self_eq_true, if_true, Option.some.injEq] at h1
      subst h1
      exact ⟨l, by simp [exitTo], hk⟩
    · have : (i == id) = false := by simpa using hi
      rw [this] at h1
      obtain ⟨l1, h2, h3⟩ := ih h1
      exact ⟨l1, by simp only [exitTo, this]; exact h2, h3⟩
  | lp h hk ih => intro k1 h1; exact ih h1
variable {P : Program} {gl : Gl} {N : Nat} {K : List (Nat × List Nat)} {a : Act} {w w1 : World} {S S1 : Nat → Prop} {ρ ρ1 : Nat → Option Nat} {base : Nat} {s s1 : St}
theorem mkT_keep (keep : List Nat) (T : Nat → Va) (t : Nat) : mkT (keep.map fun t => (t, T t)) t = T t ∨ mkT (keep.map fun t => (t, T t)) t = .dead := by
  unfold mkT
  induction keep with
  | nil => exact .inr rfl
  | cons x l ih =>
    rw [List.map_cons, List.lookup_cons]
    by_cases h : t = x
    · subst h; simp
    · have : (t == x) = false := by simpa using h
      rw [this]; exact ih
theorem Rel.prune (keep : List Nat) (h : Rel gl N base s a w S ρ) : Rel gl N base (pr keep s) a w S ρ := by
  refine ⟨h.hr, h.le, h.gl, h.size, fun t => ?_, h.defers⟩
  rcases mkT_keep keep s.T t with h1 | h1
  · show RepV w S ρ s.G (mkT _ t) _
    rw [h1]; exact h.tmps t
  · show RepV w S ρ s.G (mkT _ t) _
    rw [h1]; trivial
theorem apart_ind {x y : Itm} (h : apart x.o y.o = true) (h1 : meets x.wr y.fp = false) (h2 : meets y.wr x.fp = false) (h3 : meets x.wr y.wr = false) : Ind x y := by
  have hm : ∀ {a b : List Nat}, meets a b = false → ∀ i, i ∈ a → i ∉ b := by
    intro a b hab i hi hb
    unfold meets at hab
    rw [List.any_eq_false] at hab
    exact hab i hi (by simpa using hb)
  unfold apart at h
  simp only [Bool.and_eq_true] at h
  refine ⟨fun i hi => ?_, fun i hi => ?_, hm h1, hm h2, hm h3⟩
  · have h4 := h.1
    rw [hi] at h4
    simp only [Bool.and_eq_true, Bool.not_eq_true', List.contains_eq_mem, decide_eq_false_iff_not] at h4
    refine ⟨h4.1, fun e => ?_⟩
    have h5 := h4.2
    rw [e] at h5
    simp at h5
  · have h4 := h.2
    rw [hi] at h4
    simpa using h4
theorem region_sound {id : Nat} {ops : Array Oper} {draw : Bool} {q : List Opn} {dr : Option (List Nat)} {keep : List Nat} {its : List Itm} {Q : Exit → Act → World → Prop} (hc : cC P N K (.region id ops draw) = some (.reg q dr keep)) (hq : its.map (·.o) = q) (ht : Tr P gl its s s1) (hd : ∀ A, dr = some A → dynAll A its) (hr : Rel gl N base s a w S ρ) (hK : Then gl N base s1 w S (Q .normal)) : (Code.region id ops draw).wp P Q a w := by
  simp only [cC] at hc
  split at hc
  · rename_i q1 hq1
    obtain ⟨g1, g2⟩ := cOpns_get hq1
    have hlen : ∀ q2, q2 = q1 → its.map (·.o) = q2 → its.length = ops.size ∧ ∀ (j : Nat) x, its[j]? = some x → ∃ o, ops[j]? = some o ∧ cOpn P N ops o = some x.o := by
      rintro q2 rfl hq2
      refine ⟨by rw [← List.length_map (f := (·.o)), hq2, g1, Array.length_toList], fun j x hj => ?_⟩
      have : q2[j]? = some x.o := by rw [← hq2, List.getElem?_map, hj]; rfl
      obtain ⟨o, ho, hco⟩ := g2 j _ this
      exact ⟨o, by rw [← Array.getElem?_toList]; exact ho, hco⟩
    cases draw with
    | false =>
      simp only [Bool.false_eq_true, if_false, Option.some.injEq, C.reg.injEq] at hc
      obtain ⟨rfl, rfl, rfl⟩ := hc
      obtain ⟨h1, h2⟩ := hlen _ rfl hq
      apply wp_region
      rw [List.range_eq_range', ← h1]
      exact seq_sound its 0 s a w S ρ (fun j x hj => by rw [Nat.zero_add]; exact h2 j x hj) ht hr hK
    | true =>
      simp only [if_true] at hc
      split at hc
      · rename_i hh
        simp only [Option.some.injEq, C.reg.injEq] at hc
        obtain ⟨rfl, rfl, rfl⟩ := hc
        simp only [Bool.and_eq_true] at hh
        obtain ⟨⟨hdep, hanc⟩, hap⟩ := hh
        obtain ⟨h1, h2⟩ := hlen _ rfl hq
        have hdyn := hd _ rfl
        have hI : AllInd (Region.before ops).toList its := by
          intro i j x y hi hj hij hb
          obtain ⟨m1, m2, m3⟩ := hdyn i j x y hi hj hij hb
          refine apart_ind ?_ m1 m2 m3
          unfold apartAll at hap
          rw [List.all_eq_true] at hap
          have ky : (y.o, j) ∈ q1.zipIdx := List.mem_zipIdx_iff_getElem?.2 (by rw [← hq, List.getElem?_map, hj]; rfl)
          have kx : (x.o, i) ∈ q1.zipIdx := List.mem_zipIdx_iff_getElem?.2 (by rw [← hq, List.getElem?_map, hi]; rfl)
          have := List.all_eq_true.1 (hap _ ky) _ kx
          simp only [hij, decide_true, Bool.not_true, Bool.false_or, hb] at this
          exact this
        apply wp_region_draw
        intro t
        have hstep := hr.hr.step (w1 := { w with drawn := w.drawn + 1 }) (S1 := S) (fun _ _ => rfl) (Nat.le_refl _) (fun _ h => h) (fun k hk => ⟨.inl hk, hr.hr.lt k hk⟩)
        have hb : Below base w { w with drawn := w.drawn + 1 } := ⟨rfl, rfl, rfl, Nat.le_refl _, fun _ _ => rfl⟩
        have hr2 : Rel gl N base s a { w with drawn := w.drawn + 1 } S ρ := ⟨hstep.2, hr.le, hr.gl.ext hstep.1, hr.size, fun t => (hr.tmps t).mono hstep.1, hr.defers⟩
        have key : ∀ (md : Region.Mode) (rk : List Nat) (t : Nat), rankOk md ops rk = true → wpOps P ops Q (Region.linearise md ops t) a { w with drawn := w.drawn + 1 } := by
          intro md rk t hrk
          refine wpAny_sound ops.size t _ a _ ?_
          refine any_sound hrk hanc hI h1 h2 ops.size _ s a _ S ρ ⟨by simp, fun i o ho hl _ _ _ => ?_⟩ ?_ ?_ hr2 (hK.later hb (fun k hk => .inl hk))
          · unfold Listed at hl
            rw [Array.getElem?_replicate] at hl
            split at hl <;> simp at hl
          · have : (left (Array.replicate ops.size false) its.zipIdx).length ≤ its.zipIdx.length := List.length_filter_le _ _
            rw [List.length_zipIdx] at this; omega
          · have : left (Array.replicate ops.size false) its.zipIdx = its.zipIdx := by
              unfold left
              rw [List.filter_eq_self]
              intro p hp
              have := (List.getElem?_eq_some_iff.1 (List.mem_zipIdx_iff_getElem?.1 hp)).1
              rw [Array.getElem?_replicate, if_pos (by omega)]; rfl
            rw [this, List.zipIdx_map_fst]
            exact ht
        unfold modesOf at hdep
        unfold Region.schedule
        by_cases hm : (P.follows .mixedOrders || !Region.departs ops) = true
        · rw [if_pos hm] at hdep ⊢
          exact key .any _ t (by simpa using hdep)
        · rw [if_neg hm] at hdep ⊢
          simp only [List.all_cons, List.all_nil, Bool.and_true, Bool.and_eq_true] at hdep
          split
          · exact key .text _ _ hdep.1
          · exact key .gc _ _ hdep.2
      · cases hc
  · cases hc
/-- The walk goes through: the call comes to an end in such a state. -/
theorem W_sound {k : List It} {R : St → Prop} (h : W P gl N k s R) : ∀ (l : List Item), Stk P N K k l → ∀ base a w S ρ, Rel gl N base s a w S ρ → ∀ (b : Frame) (cs : List Frame),
    ∃ todo a1 w1 S1 ρ1 s1, R s1 ∧ Rel gl N base s1 a1 w1 S1 ρ1 ∧ Below base w w1 ∧ (∀ k, S1 k → S k ∨ base ≤ k) ∧ Steps P (lone (b.at a l) cs w) (lone { b.at a1 todo with mode := .returning } cs w1) := by
  induction h with
  | nil h =>
    intro l hl base a w S ρ hr b cs
    cases hl
    exact ⟨_, a, w, S, ρ, _, h, hr, Below.refl _ _, fun k hk => .inl hk, .one step_end⟩
  | ret h =>
    intro l hl base a w S ρ hr b cs
    cases hl with
    | c hc hk =>
      rename_i y l
      have : y = .ret := by
        cases y <;> first | rfl | (exfalso; simp only [cC] at hc; (repeat' split at hc) <;> first | (cases hc; done) | (obtain ⟨_, _, hc⟩ := Option.map_eq_some_iff.1 hc; cases hc; done) | (contradiction; done))
      subst this
      exact ⟨_, a, w, S, ρ, _, h, hr, Below.refl _ _, fun k hk => .inl hk, .one step_ret⟩
  | skip h ih =>
    intro l hl base a w S ρ hr b cs
    cases hl with
    | c hc hk =>
      rename_i y l
      have : y = .skip ∨ ∃ q, y = .label q := by
        cases y <;> first | exact .inl rfl | exact .inr ⟨_, rfl⟩ | (exfalso; simp only [cC] at hc; (repeat' split at hc) <;> first | (cases hc; done) | (obtain ⟨_, _, hc⟩ := Option.map_eq_some_iff.1 hc; cases hc; done) | (contradiction; done))
      obtain ⟨todo, a1, w1, S1, ρ1, s1, h1, h2, h3, h4, h5⟩ := ih l hk base a w S ρ hr b cs
      rcases this with rfl | ⟨q, rfl⟩
      · exact ⟨todo, a1, w1, S1, ρ1, s1, h1, h2, h3, h4, .head step_skip h5⟩
      · exact ⟨todo, a1, w1, S1, ρ1, s1, h1, h2, h3, h4, .head step_label h5⟩
  | @seq _ _ _ x1 y1 h ih =>
    intro l hl base a w S ρ hr b cs
    cases hl with
    | c hc hk =>
      rename_i y l
      obtain ⟨p, q, rfl, hp, hq⟩ : ∃ p q, y = .seq p q ∧ cC P N K p = some x1 ∧ cC P N K q = some y1 := by
        cases y <;> first | (exfalso; simp only [cC] at hc; (repeat' split at hc) <;> first | (cases hc; done) | (obtain ⟨_, _, hc⟩ := Option.map_eq_some_iff.1 hc; cases hc; done) | (contradiction; done)) | skip
        rename_i p q
        simp only [cC] at hc
        split at hc
        · rename_i g1 g2; cases hc; exact ⟨p, q, rfl, g1, g2⟩
        · cases hc
      obtain ⟨todo, a1, w1, S1, ρ1, s1, h1, h2, h3, h4, h5⟩ := ih _ (.c hp (.c hq hk)) base a w S ρ hr b cs
      exact ⟨todo, a1, w1, S1, ρ1, s1, h1, h2, h3, h4, .head step_seq h5⟩
  | @cond _ _ _ od x1 y1 pb hcv ht hf iht ihf =>
    intro l hl base a w S ρ hr b cs
    cases hl with
    | c hc hk =>
      rename_i y l
      obtain ⟨oc, p1, q1, rfl, ho, hp, hq⟩ : ∃ oc p q, y = .cond oc p q ∧ cOd oc = some od ∧ cC P N K p = some x1 ∧ cC P N K q = some y1 := by
        cases y <;> first | (exfalso; simp only [cC] at hc; (repeat' split at hc) <;> first | (cases hc; done) | (obtain ⟨_, _, hc⟩ := Option.map_eq_some_iff.1 hc; cases hc; done) | (contradiction; done)) | skip
        rename_i oc p q
        simp only [cC] at hc
        split at hc
        · rename_i g0 g1 g2; cases hc; exact ⟨oc, p, q, rfl, g0, g1, g2⟩
        · cases hc
      have hv := eval_rep hr ho
      rw [hcv, rep_bool] at hv
      cases pb with
      | true =>
        obtain ⟨todo, a1, w1, S1, ρ1, s1, h1, h2, h3, h4, h5⟩ := iht rfl _ (.c hp hk) base a w S ρ hr b cs
        exact ⟨todo, a1, w1, S1, ρ1, s1, h1, h2, h3, h4, .head (step_cond hv) h5⟩
      | false =>
        obtain ⟨todo, a1, w1, S1, ρ1, s1, h1, h2, h3, h4, h5⟩ := ihf rfl _ (.c hq hk) base a w S ρ hr b cs
        exact ⟨todo, a1, w1, S1, ρ1, s1, h1, h2, h3, h4, .head (step_cond hv) h5⟩
  | @blk _ _ _ id x1 h ih =>
    intro l hl base a w S ρ hr b cs
    cases hl with
    | c hc hk =>
      rename_i y l
      obtain ⟨p, rfl, hp⟩ : ∃ p, y = .block id p ∧ cC P N K p = some x1 := by
        cases y <;> first | (exfalso; simp only [cC] at hc; (repeat' split at hc) <;> first | (cases hc; done) | (obtain ⟨_, _, hc⟩ := Option.map_eq_some_iff.1 hc; cases hc; done) | (contradiction; done)) | skip
        rename_i id2 p
        simp only [cC] at hc
        obtain ⟨z, hz, hc⟩ := Option.map_eq_some_iff.1 hc
        cases hc
        exact ⟨p, rfl, hz⟩
      obtain ⟨todo, a1, w1, S1, ρ1, s1, h1, h2, h3, h4, h5⟩ := ih _ (.c hp (.blk hk)) base a w S ρ hr b cs
      exact ⟨todo, a1, w1, S1, ρ1, s1, h1, h2, h3, h4, .head step_block h5⟩
  | eblk h ih =>
    intro l hl base a w S ρ hr b cs
    cases hl with
    | blk hk =>
      obtain ⟨todo, a1, w1, S1, ρ1, s1, h1, h2, h3, h4, h5⟩ := ih _ hk base a w S ρ hr b cs
      exact ⟨todo, a1, w1, S1, ρ1, s1, h1, h2, h3, h4, .head step_inBlock h5⟩
  | @loop _ _ _ x1 h ih =>
    intro l hl base a w S ρ hr b cs
    cases hl with
    | c hc hk =>
      rename_i y l
      obtain ⟨p, rfl, hp⟩ : ∃ p, y = .loop p ∧ cC P N K p = some x1 := by
        cases y <;> first | (exfalso; simp only [cC] at hc; (repeat' split at hc) <;> first | (cases hc; done) | (obtain ⟨_, _, hc⟩ := Option.map_eq_some_iff.1 hc; cases hc; done) | (contradiction; done)) | skip
        rename_i p
        simp only [cC] at hc
        obtain ⟨z, hz, hc⟩ := Option.map_eq_some_iff.1 hc
        cases hc
        exact ⟨p, rfl, hz⟩
      obtain ⟨todo, a1, w1, S1, ρ1, s1, h1, h2, h3, h4, h5⟩ := ih _ (.c hp (.lp hp hk)) base a w S ρ hr b cs
      exact ⟨todo, a1, w1, S1, ρ1, s1, h1, h2, h3, h4, .head step_loop h5⟩
  | lp h ih =>
    intro l hl base a w S ρ hr b cs
    cases hl with
    | lp hc hk =>
      obtain ⟨todo, a1, w1, S1, ρ1, s1, h1, h2, h3, h4, h5⟩ := ih _ (.c hc (.lp hc hk)) base a w S ρ hr b cs
      exact ⟨todo, a1, w1, S1, ρ1, s1, h1, h2, h3, h4, .head step_inLoop h5⟩
  | @exit _ _ _ _ id hk1 h ih =>
    intro l hl base a w S ρ hr b cs
    cases hl with
    | c hc hk =>
      rename_i y l
      have : y = .exit id := by
        cases y <;> first | (exfalso; simp only [cC] at hc; (repeat' split at hc) <;> first | (cases hc; done) | (obtain ⟨_, _, hc⟩ := Option.map_eq_some_iff.1 hc; cases hc; done) | (contradiction; done)) | skip
        simp only [cC, Option.some.injEq, C.exit.injEq] at hc
        rw [hc]
      subst this
      obtain ⟨l1, g1, g2⟩ := hk.exit hk1
      obtain ⟨todo, a1, w1, S1, ρ1, s1, h1, h2, h3, h4, h5⟩ := ih _ g2 base a w S ρ hr b cs
      exact ⟨todo, a1, w1, S1, ρ1, s1, h1, h2, h3, h4, .head (step_exit g1) h5⟩
  | @reg _ s0 s2 R0 q dr keep its hq ht hd h ih =>
    intro l hl base a w S ρ hr b cs
    cases hl with
    | c hc hk =>
      rename_i y l
      obtain ⟨id, ops, draw, rfl⟩ : ∃ id ops draw, y = .region id ops draw := by
        cases y <;> first | exact ⟨_, _, _, rfl⟩ | (exfalso; simp only [cC] at hc; (repeat' split at hc) <;> first | (cases hc; done) | (obtain ⟨_, _, hc⟩ := Option.map_eq_some_iff.1 hc; cases hc; done) | (contradiction; done))
      have hwp := region_sound (Q := fun e a1 w1 => e = .normal ∧ ∃ S1 ρ1, Rel gl N base s2 a1 w1 S1 ρ1 ∧ Below base w w1 ∧ ∀ k, S1 k → S k ∨ base ≤ k) hc hq ht hd hr (fun a1 w1 S1 ρ1 h1 h2 h3 => ⟨rfl, S1, ρ1, h1, h2, h3⟩)
      obtain ⟨e, a1, w1, ⟨he, S1, ρ1, h1, h2, h3⟩, harr⟩ := hwp b l cs
      subst he
      obtain ⟨todo, a2, w2, S2, ρ2, s3, k1, k2, k3, k4, k5⟩ := ih l hk base a1 w1 S1 ρ1 (h1.prune keep) b cs
      exact ⟨todo, a2, w2, S2, ρ2, s3, k1, k2, h2.trans k3, fun k hk => (k4 k hk).elim (h3 k) .inr, Steps.trans harr k5⟩
  | nil2 ht h0 h1 ih0 ih1 =>
    rename_i s0 R0 t rows
    intro l hl base a w S ρ hr b cs
    have hv := hr.tmps t
    rw [ht] at hv
    have key : ∀ {v : Va}, RepV w S ρ s0.G v (a.tmps.getD t undef) → Rel gl N base ⟨updT s0.T t v, s0.G⟩ a w S ρ := by
      intro v hv
      refine ⟨hr.hr, hr.le, hr.gl, hr.size, fun t1 => ?_, hr.defers⟩
      show RepV w S ρ s0.G (updT s0.T t v t1) _
      unfold updT
      split
      · rename_i h; subst h; exact hv
      · exact hr.tmps t1
    generalize hu : a.tmps.getD t undef = u at hv key
    cases hv with | d _ _ hv =>
    have hv2 := hv
    cases hv with
    | sl _ p cap st bb o us hc hn0 hst ha hcell hu2 =>
      cases p with
      | some q => exact ih1 l hl base a w S ρ (key (.nn rows q cap hv2)) b cs
      | none =>
        have hrows : rows = [] := by
          cases rows with
          | nil => rfl
          | cons r rs => have := (ha (by simp)).1; cases this
        subst hrows
        have hc0 := hn0 rfl
        subst hc0
        exact ih0 rfl l hl base a w S ρ (key .nils) b cs
  | weak hi h ih =>
    intro l hl base a w S ρ hr b cs
    obtain ⟨S1, ρ1, h1, h2⟩ := hi base a w S ρ hr
    obtain ⟨todo, a2, w2, S2, ρ2, s3, k1, k2, k3, k4, k5⟩ := ih l hl base a w S1 ρ1 h1 b cs
    exact ⟨todo, a2, w2, S2, ρ2, s3, k1, k2, k3, fun k hk => (k4 k hk).elim (h2 k) .inr, k5⟩
end Go.Proofs.Ytjpomfbkfgkifaa.V
end

section
/- Functions: a walk through the body tells what a call comes to. -/
namespace Go.Proofs.Ytjpomfbkfgkifaa.V
open Go Go.RowKit
set_option linter.unusedVariables false
set_option linter.unusedSimpArgs false
variable {P : Program} {gl : Gl} {N : Nat} {K : List (Nat × List Nat)} {a : Act} {w w1 : World} {S S1 : Nat → Prop} {ρ ρ1 : Nat → Option Nat} {base : Nat} {s s1 : St} {k : List It} {R : St → Prop}
def ch0 : Ch := ⟨.dead, [], false, none⟩
inductive RV where
  | t (n : Nat)
  | c (n : Nat) (agg : Bool) (sz : Nat)
def cRV (P : Program) : ResultVar → Option RV
  | .tmp t => some (.t t)
  | .cell a t => match aggT P t, sizeT P t with | some g, some s => if g ∨ s = 1 then some (.c a g s) else none | _, _ => none
def cRVs (P : Program) : List ResultVar → Option (List RV)
  | [] => some []
  | x :: l => match cRV P x, cRVs P l with | some a, some b => some (a :: b) | _, _ => none
section
variable (P : Program) (gl : Gl)
def rvOut (s : St) : RV → Out
  | .t n => out1 (s.T n)
  | .c n agg sz => semI P gl ch0 none (.load agg sz (.t n)) (evT gl s.T) s.G
def convB (F : List Nat) (G : Hf) : Va → Option Vb
  | .b (.s (.full rows)) => some (.s (.full rows))
  | .b (.s x) => (conv F G 4 x).map fun y => .s (.d y)
  | .b (.agg cs) => (convC (conv F G 4) cs).map fun l => .agg (l.map Lc.d)
  | _ => none
def convBs (F : List Nat) (G : Hf) : List Va → Option (List Vb)
  | [] => some []
  | x :: l => match convB F G x, convBs F G l with | some a, some b => some (a :: b) | _, _ => none
def allOb (s : St) : List RV → Prop
  | [] => True
  | r :: l => (rvOut P gl s r).ob ∧ allOb s l
/-- What the results are. -/
def Ret (F : List Nat) (rs : List RV) (y : Va) (s : St) : Prop :=
  allOb P gl s rs ∧ match rs with
    | [r] => (convB F s.G (rvOut P gl s r).v).map Va.b = some y
    | _ => (convBs F s.G (rs.map fun r => (rvOut P gl s r).v)).map Va.tup = some y
end
theorem rv_run {r : ResultVar} {q : RV} (hr : Rel gl N base s a w S ρ) (hc : cRV P r = some q) (hob : (rvOut P gl s q).ob) :
    ∃ u, ((match r with | .tmp t => pure (a.tmps.getD t undef) | .cell x t => do loadVar t (← asAddr (a.tmps.getD x undef))) : Sem Value).run P w = .ok u w ∧ RepV w S ρ s.G (rvOut P gl s q).v u := by
  cases r with
  | tmp t =>
    simp only [cRV, Option.some.injEq] at hc; subst hc
    exact ⟨_, rfl, hr.tmps t⟩
  | cell x t =>
    simp only [cRV] at hc
    split at hc
    · rename_i g sz h1 h2
      split at hc
      · rename_i hh
        simp only [Option.some.injEq] at hc; subst hc
        have hx := hr.tmps x
        generalize hO : rvOut P gl s (.c x g sz) = out at hob ⊢
        simp only [rvOut, semI, evT] at hO
        split at hO
        · rename_i i n r q e1
          rw [e1] at hx
          split at hO
          · rename_i e hG
            split at hO
            · rename_i row hrow
              subst hO
              obtain ⟨hn, hl⟩ := hob
              obtain ⟨b, k2, k3, k4, k5⟩ := ptr_cells hr.hr hx hG hn hrow
              obtain ⟨u, k6, k7⟩ := run_loadVar (P := P) (w := w) (S := S) (ρ := ρ) (G := s.G) (t := t) (b := b) (k := r * e.st + q) (cs := row.drop q) h1 h2 hh (by rw [List.length_drop]; omega) (fun j lc hj => by
                rw [List.getElem?_drop] at hj
                obtain ⟨x, g1, _, g3⟩ := k5 _ lc hj
                exact ⟨x, by rw [Nat.add_assoc]; exact g1, g3⟩)
              refine ⟨u, by show ((do loadVar t (← asAddr (a.tmps.getD x undef))) : Sem Value).run P w = _; rw [k3]; simpa [asAddr] using k6, ?_⟩
              have : (row.drop q).getD 0 lcA = row.getD q lcA := by simp [List.getD]
              rw [this] at k7
              exact k7
            · subst hO; exact hob.elim
          · subst hO; exact hob.elim
        · rename_i cells q e1
          rw [e1] at hx
          subst hO
          obtain ⟨b, k, k2, k3⟩ := ref_cells hx
          have hl : q + sz ≤ cells.length := hob
          obtain ⟨u, k6, k7⟩ := run_loadVar (P := P) (w := w) (S := S) (ρ := ρ) (G := s.G) (t := t) (b := b) (k := k + q) (cs := (cells.drop q).map Lc.d) h1 h2 hh (by rw [List.length_map, List.length_drop]; omega) (fun j lc hj => by
            rw [List.getElem?_map, List.getElem?_drop, Option.map_eq_some_iff] at hj
            obtain ⟨sc, hj, rfl⟩ := hj
            obtain ⟨x, g1, g3⟩ := k3 _ sc hj
            exact ⟨x, by rw [Nat.add_assoc]; exact g1, .d _ _ g3⟩)
          refine ⟨u, by show ((do loadVar t (← asAddr (a.tmps.getD x undef))) : Sem Value).run P w = _; rw [k2]; simpa [asAddr] using k6, ?_⟩
          have e2 : ((cells.drop q).map Lc.d).getD 0 lcA = Lc.d (cells.getD q scA) := by
            simp only [List.getD, List.getElem?_map, List.getElem?_drop, Nat.add_zero]
            cases cells[q]? <;> rfl
          rw [e2, ← List.map_take] at k7
          exact k7
        · subst hO; exact hob.elim
      · cases hc
    · cases hc
theorem rvs_run (hr : Rel gl N base s a w S ρ) : ∀ {rs : List ResultVar} {qs : List RV}, cRVs P rs = some qs → allOb P gl s qs →
    ∃ us : List Value, (rs.mapM (fun | .tmp t => pure (a.tmps.getD t undef) | .cell x t => do loadVar t (← asAddr (a.tmps.getD x undef)) : ResultVar → Sem Value)).run P w = .ok us w ∧ us.length = qs.length ∧ ∀ (j : Nat) q, qs[j]? = some q → ∃ u, us[j]? = some u ∧ RepV w S ρ s.G (rvOut P gl s q).v u
  | [], qs, h, _ => by simp only [cRVs, Option.some.injEq] at h; subst h; exact ⟨[], rfl, rfl, by simp⟩
  | r :: rs, qs, h, hob => by
    simp only [cRVs] at h
    split at h
    · rename_i q l h1 h2
      simp only [Option.some.injEq] at h; subst h
      obtain ⟨u, k1, k2⟩ := rv_run hr h1 hob.1
      obtain ⟨us, k3, k4, k5⟩ := rvs_run hr h2 hob.2
      refine ⟨u :: us, ?_, by simp [k4], fun j q hj => ?_⟩
      · rw [List.mapM_cons]
        simp only [Sem.run_bind]
        rw [k1]
        simp only [Result.andThen_ok, k3, Sem.run_pure]
      · cases j with
        | zero => simp only [List.getElem?_cons_zero, Option.some.injEq] at hj; subst hj; exact ⟨u, rfl, k2⟩
        | succ j => exact k5 j q (by simpa using hj)
    · cases h
theorem convB_ok (hr : Hr w S ρ s.G base) {F : List Nat} {v : Va} {b : Vb} {u : Value} (h : convB F s.G v = some b) (hv : RepV w S ρ s.G v u) : RepB w (Sup S ρ F) (fun _ => none) (fun _ => none) b u := by
  unfold convB at h
  split at h
  · cases h
    have hv1 : RepL w S ρ s.G (.full _) u := hv
    cases hv1 with
    | full _ p h => exact .full _ p h.sup
  · obtain ⟨y, hy, rfl⟩ := Option.map_eq_some_iff.1 h
    exact .d _ _ (conv_sound hr F 4 _ y u hy hv)
  · obtain ⟨l, hl, rfl⟩ := Option.map_eq_some_iff.1 h
    obtain ⟨vs, g1, g2, g3⟩ := hv
    obtain ⟨k1, k2⟩ := convC_get hl
    refine ⟨vs, g1, by simp [g2, k1], fun i lc hi => ?_⟩
    rw [List.getElem?_map, Option.map_eq_some_iff] at hi
    obtain ⟨sc, hi, rfl⟩ := hi
    obtain ⟨q, hq1, hq2⟩ := k2 i sc hi
    exact .d _ _ (conv_sound hr F 4 q sc _ hq2 (g3 i q hq1))
  · cases h
theorem convBs_get {F : List Nat} {G : Hf} : ∀ {l : List Va} {r : List Vb}, convBs F G l = some r → r.length = l.length ∧ ∀ (j : Nat) b, r[j]? = some b → ∃ v, l[j]? = some v ∧ convB F G v = some b
  | [], r, h => by simp only [convBs, Option.some.injEq] at h; subst h; simp
  | x :: l, r, h => by
    simp only [convBs] at h
    split at h
    · rename_i a b h1 h2
      simp only [Option.some.injEq] at h; subst h
      obtain ⟨h3, h4⟩ := convBs_get h2
      refine ⟨by simp [h3], fun j s hj => ?_⟩
      cases j with
      | zero => simp only [List.getElem?_cons_zero, Option.some.injEq] at hj; subst hj; exact ⟨x, rfl, h1⟩
      | succ j => exact h4 j s (by simpa using hj)
    · cases h
theorem ret_ok {fn : Func} {F : List Nat} {rs : List RV} {y : Va} (hr : Rel gl N base s a w S ρ) (hc : cRVs P fn.results.toList = some rs) (h : Ret P gl F rs y s) :
    ∃ u, (results fn a.tmps).run P w = .ok u w ∧ RepV w (Sup S ρ F) (fun _ => none) (fun _ => none) y u := by
  obtain ⟨us, k1, k2, k3⟩ := rvs_run hr hc h.1
  have hm : (fn.results.mapM (fun | .tmp t => pure (a.tmps.getD t undef) | .cell x t => do loadVar t (← asAddr (a.tmps.getD x undef)) : ResultVar → Sem Value)).run P w = .ok us.toArray w := by
    rw [Array.mapM_eq_mapM_toList, Sem.run_map, k1]; rfl
  have hrun : (results fn a.tmps).run P w = .ok (if h : us.toArray.size = 1 then us.toArray[0] else .tuple us.toArray) w := by
    unfold results
    rw [Sem.run_bind]
    exact congrArg (fun r => Result.andThen r (fun (a : Array Value) w' => Sem.run P (pure (if h : a.size = 1 then a[0] else Value.tuple a)) w')) hm
  have h2 := h.2
  by_cases h1 : ∃ r, rs = [r]
  · obtain ⟨r, rfl⟩ := h1
    obtain ⟨b, hb, rfl⟩ := Option.map_eq_some_iff.1 h2
    obtain ⟨u, g1, g2⟩ := k3 0 r rfl
    have hl : us.toArray.size = 1 := by simpa using k2
    refine ⟨u, ?_, convB_ok hr.hr hb g2⟩
    rw [hrun, dif_pos hl]
    have : us[0]? = some u := g1
    simp only [List.getElem_toArray]
    rw [List.getElem?_eq_getElem (by have h9 : us.length = 1 := by simpa using hl
                                     omega)] at this
    rw [Option.some.inj this]
  · have h3 : (convBs F s.G (rs.map fun r => (rvOut P gl s r).v)).map Va.tup = some y := by
      cases rs with
      | nil => exact h2
      | cons r l => cases l with
        | nil => exact absurd ⟨r, rfl⟩ h1
        | cons _ _ => exact h2
    obtain ⟨bs, hbs, rfl⟩ := Option.map_eq_some_iff.1 h3
    obtain ⟨g1, g2⟩ := convBs_get hbs
    rw [List.length_map] at g1
    have hl : ¬ us.toArray.size = 1 := by
      simp only [List.size_toArray, k2]
      intro h4
      obtain ⟨r, hr1⟩ := List.length_eq_one_iff.1 h4
      exact h1 ⟨r, hr1⟩
    refine ⟨_, by rw [hrun, dif_neg hl], us.toArray, rfl, by simp [k2, g1], fun j x hj => ?_⟩
    obtain ⟨v, hv1, hv2⟩ := g2 j x hj
    rw [List.getElem?_map, Option.map_eq_some_iff] at hv1
    obtain ⟨q, hq, rfl⟩ := hv1
    obtain ⟨u, g3, g4⟩ := k3 j q hq
    have : us.toArray.getD j undef = u := by simp [Array.getD_eq_getD_getElem?, g3]
    rw [this]
    exact convB_ok hr.hr hv2 g4
def start (xs : List Va) : St := ⟨fun t => (xs[t]?).getD .dead, fun _ => none⟩
/-- What a function comes to, by a walk through its body. -/
theorem fun_of_W {f : FuncId} {fn : Func} {code : Code} {c : C} {rs : List RV} {F : List Nat} {xs : List Va} {y : Va} (hf : P.funcs[f]? = some fn) (hb : fn.body = some code) (hn : (fn.name == "runtime.NumGoroutine") = false) (hc : cC P fn.ntmps K code = some c) (hrs : cRVs P fn.results.toList = some rs) (hx : xs.length ≤ fn.ntmps)
    (h : W P gl fn.ntmps [.c c] (start xs) (Ret P gl F rs y)) : Fun P gl f xs y := by
  refine ⟨by simp [callable, hf, hb, hn], fun w S vs hS hgl hargs => ?_⟩
  intro cs
  let b : Frame := { (default : Frame) with fn := f, kind := .normal }
  have henter : Frame.enter P f vs .normal = b.at { tmps := vs ++ Array.replicate (fn.ntmps - vs.size) undef, defers := [] } [.code code] := by
    simp [Frame.enter, Frame.at, hf, hb, b]
  obtain ⟨hsz, hrep⟩ := hargs
  have hrel : Rel gl fn.ntmps w.heap.size (start xs) { tmps := vs ++ Array.replicate (fn.ntmps - vs.size) undef, defers := [] } w S (fun _ => none) := by
    refine ⟨⟨fun i e h => (by cases h), fun i j b h => (by cases h), fun i b h => (by cases h), fun i b h => (by cases h), hS⟩, Nat.le_refl _, hgl, by simp; omega, fun t => ?_, rfl⟩
    show RepV w S _ _ ((xs[t]?).getD .dead) _
    by_cases ht : t < xs.length
    · have := hrep t xs[t] (List.getElem?_eq_getElem ht)
      rw [List.getElem?_eq_getElem ht]
      have e1 : (vs ++ Array.replicate (fn.ntmps - vs.size) undef).getD t undef = vs.getD t undef := by
        rw [Array.getD_eq_getD_getElem?, Array.getElem?_append_left (by omega), Array.getD_eq_getD_getElem?]
      rw [e1]; exact this
    · rw [List.getElem?_eq_none (by omega)]; trivial
  obtain ⟨todo, a1, w1, S1, ρ1, s1, h1, h2, h3, h4, h5⟩ := W_sound h _ (.c hc .nil) w.heap.size _ w S _ hrel b cs
  obtain ⟨u, k1, k2⟩ := ret_ok h2 hrs h1
  have hext : Ext w1 (Sup S1 ρ1 F) (fun _ => none) (fun _ => none) w1 (fun k => S k ∨ Sup S1 ρ1 F k) (fun _ => none) (fun _ => none) := by
    refine ⟨fun k hk => .inr hk, fun _ _ => rfl, ?_, ?_⟩
    · intro i e h; cases h
    · intro i b arr ty fz h; cases h
  refine ⟨.returned u, w1, ({ b.at a1 todo with mode := .returning } : Frame), ⟨u, fun k => S k ∨ Sup S1 ρ1 F k, rfl, fun k hk => .inl hk, fun k hk => ?_, k2.mono hext, h3⟩, ?_, rfl, rfl, h2.defers, rfl, fn, hf, k1⟩
  · rcases hk with hk | hk | ⟨i, _, hi⟩
    · exact ⟨.inl hk, Nat.lt_of_lt_of_le (hS k hk) h3.size⟩
    · exact ⟨h4 k hk, h2.hr.lt k hk⟩
    · exact ⟨.inr (h2.hr.own i k hi), h2.hr.bound hi⟩
  · rw [henter]; exact h5
/-- The result is a new row. -/
def RetO (P : Program) (gl : Gl) (t : Nat) (st : Nat) (rows : List (List Sc)) (s : St) : Prop := ∃ i, s.T t = .b (.s (.own i rows.length)) ∧ s.G i = some ⟨st, rows.map (fun r => r.map Lc.d), false⟩
theorem funO_of_W {f : FuncId} {fn : Func} {code : Code} {c : C} {t : Nat} {st : Nat} {rows : List (List Sc)} {xs : List Va} (hf : P.funcs[f]? = some fn) (hb : fn.body = some code) (hn : (fn.name == "runtime.NumGoroutine") = false) (hc : cC P fn.ntmps K code = some c) (hrs : cRVs P fn.results.toList = some [.t t]) (hx : xs.length ≤ fn.ntmps)
    (h : W P gl fn.ntmps [.c c] (start xs) (RetO P gl t st rows)) : FunO P gl f xs st rows := by
  refine ⟨by simp [callable, hf, hb, hn], fun w S vs hS hgl hargs => ?_⟩
  intro cs
  let b : Frame := { (default : Frame) with fn := f, kind := .normal }
  have henter : Frame.enter P f vs .normal = b.at { tmps := vs ++ Array.replicate (fn.ntmps - vs.size) undef, defers := [] } [.code code] := by
    simp [Frame.enter, Frame.at, hf, hb, b]
  obtain ⟨hsz, hrep⟩ := hargs
  have hrel : Rel gl fn.ntmps w.heap.size (start xs) { tmps := vs ++ Array.replicate (fn.ntmps - vs.size) undef, defers := [] } w S (fun _ => none) := by
    refine ⟨⟨fun i e h => (by cases h), fun i j b h => (by cases h), fun i b h => (by cases h), fun i b h => (by cases h), hS⟩, Nat.le_refl _, hgl, by simp; omega, fun t => ?_, rfl⟩
    show RepV w S _ _ ((xs[t]?).getD .dead) _
    by_cases ht : t < xs.length
    · have := hrep t xs[t] (List.getElem?_eq_getElem ht)
      rw [List.getElem?_eq_getElem ht]
      have e1 : (vs ++ Array.replicate (fn.ntmps - vs.size) undef).getD t undef = vs.getD t undef := by
        rw [Array.getD_eq_getD_getElem?, Array.getElem?_append_left (by omega), Array.getD_eq_getD_getElem?]
      rw [e1]; exact this
    · rw [List.getElem?_eq_none (by omega)]; trivial
  obtain ⟨todo, a1, w1, S1, ρ1, s1, h1, h2, h3, h4, h5⟩ := W_sound h _ (.c hc .nil) w.heap.size _ w S _ hrel b cs
  obtain ⟨i, h6, h7⟩ := h1
  obtain ⟨us, k1, k2, k3⟩ := rvs_run h2 hrs (show allOb P gl s1 [.t t] from ⟨trivial, trivial⟩)
  obtain ⟨u, g1, g2⟩ := k3 0 _ rfl
  have hm : (fn.results.mapM (fun | .tmp t => pure (a1.tmps.getD t undef) | .cell x t => do loadVar t (← asAddr (a1.tmps.getD x undef)) : ResultVar → Sem Value)).run P w1 = .ok us.toArray w1 := by
    rw [Array.mapM_eq_mapM_toList, Sem.run_map, k1]; rfl
  have hl : us.toArray.size = 1 := by simpa using k2
  have hrun : (results fn a1.tmps).run P w1 = .ok u w1 := by
    have : (results fn a1.tmps).run P w1 = .ok (if h : us.toArray.size = 1 then us.toArray[0] else .tuple us.toArray) w1 := by
      unfold results
      rw [Sem.run_bind]
      exact congrArg (fun r => Result.andThen r (fun (a : Array Value) w' => Sem.run P (pure (if h : a.size = 1 then a[0] else Value.tuple a)) w')) hm
    rw [this, dif_pos hl]
    simp only [List.getElem_toArray]
    rw [List.getElem?_eq_getElem (by have h9 : us.length = 1 := by simpa using hl
                                     omega)] at g1
    rw [Option.some.inj g1]
  -- the row alone
  have hbk := h2.hr.blk i _ h7
  have hbS : ∀ b, ρ1 i = some b → ¬ S1 b := by
    intro b hb hS
    rcases hbk.2 with ⟨k, _⟩ | ⟨b1, arr, ty, fz, k, k4, _⟩
    · rw [hb] at k; cases k
    · rw [hb] at k; cases k
      have := k4.1 hS
      cases this
  let S2 : Nat → Prop := fun k => S k ∨ S1 k
  have hS2 : ∀ b, ρ1 i = some b → ¬ S2 b := by
    rintro b hb (h | h)
    · have := h2.hr.own i b hb
      have := hS b h
      omega
    · exact hbS b hb h
  let ρ2 : Nat → Option Nat := fun j => if j = 0 then ρ1 i else none
  let G2 : Hf := updG (fun _ => none) 0 ⟨st, rows.map (fun r => r.map Lc.d), false⟩
  have hcells : ∀ (j : Nat) sc, rows.flatten[j]? = some sc → (rows.map (fun r => r.map Lc.d)).flatten[j]? = some (Lc.d sc) := by
    intro j sc hj
    rw [map_d_flatten, List.getElem?_map, hj]; rfl
  have hr2 : Hr w1 S2 ρ2 G2 w.heap.size := by
    refine ⟨fun j e hj => ?_, fun p q b hp hq => ?_, fun j b hj => ?_, fun j b hj => ?_, fun k hk => ?_⟩
    · by_cases hj0 : j = 0
      · subst hj0
        simp only [G2, updG, if_true, Option.some.injEq] at hj
        subst hj
        refine ⟨hbk.1, ?_⟩
        rcases hbk.2 with ⟨k, k4⟩ | ⟨b1, arr, ty, fz, k, k4, k5, k6, k7⟩
        · exact .inl ⟨by simp [ρ2, k], k4⟩
        · refine .inr ⟨b1, arr, ty, fz, by simp [ρ2, k], ⟨fun h => (hS2 b1 k h).elim, fun h => (by cases h)⟩, k5, k6, fun q lc hq => ?_⟩
          obtain ⟨x, m1, m2⟩ := k7 q lc hq
          have hq2 : (rows.map (fun r => r.map Lc.d)).flatten[q]? = some lc := hq
          rw [map_d_flatten, List.getElem?_map, Option.map_eq_some_iff] at hq2
          obtain ⟨sc, hsc, rfl⟩ := hq2
          cases m2 with
          | d _ _ m2 => exact ⟨x, m1, .d _ _ (m2.mono (fun k hk => .inr hk) (fun _ _ => rfl))⟩
      · simp only [G2, updG, if_neg hj0] at hj; cases hj
    · simp only [ρ2] at hp hq
      split at hp <;> split at hq <;> first | omega | (cases hp; done) | (cases hq; done)
    · simp only [ρ2] at hj
      split at hj
      · exact h2.hr.own i b hj
      · cases hj
    · simp only [ρ2] at hj
      split at hj
      · rename_i h0; subst h0; simp [G2, updG]
      · cases hj
    · rcases hk with hk | hk
      · exact Nat.lt_of_lt_of_le (hS k hk) h3.size
      · exact h2.hr.lt k hk
  refine ⟨.returned u, w1, ({ b.at a1 todo with mode := .returning } : Frame), ⟨u, S2, ρ2, rfl, fun k hk => .inl hk, fun k hk => ?_, hr2, ?_, h3⟩, ?_, rfl, rfl, h2.defers, rfl, fn, hf, hrun⟩
  · rcases hk with hk | hk
    · exact ⟨.inl hk, Nat.lt_of_lt_of_le (hS k hk) h3.size⟩
    · exact ⟨h4 k hk, h2.hr.lt k hk⟩
  · have g3 : RepV w1 S1 ρ1 s1.G (s1.T t) u := g2
    rw [h6] at g3
    cases g3 with
    | own _ _ e0 _ hG0 hn0 hone hh =>
      rw [h7] at hG0; cases hG0
      refine .own 0 _ ⟨st, rows.map (fun r => r.map Lc.d), false⟩ u (by simp [G2, updG]) hn0 hone (fun h => ?_)
      obtain ⟨p, cap, m1, m2⟩ := hh h
      refine ⟨p, cap, m1, ?_⟩
      rcases m2 with m2 | ⟨b, arr, ty, fz, m2, m3⟩
      · exact .inl m2
      · exact .inr ⟨b, arr, ty, fz, by simp [ρ2, m2], m3⟩
  · rw [henter]; exact h5
end Go.Proofs.Ytjpomfbkfgkifaa.V
end

section
/- How a walk is typed: regions op by op, calls, loops, what is forgotten. -/
namespace Go.Proofs.Ytjpomfbkfgkifaa.V
open Go Go.RowKit
set_option linter.unusedVariables false
set_option linter.unusedSimpArgs false
variable {P : Program} {gl : Gl} {N : Nat} {a : Act} {w w1 : World} {S S1 : Nat → Prop} {ρ ρ1 : Nat → Option Nat} {base : Nat} {s s1 : St} {k : List It} {R : St → Prop}
section
variable (P : Program) (gl : Gl) (N : Nat) (k : List It) (R : St → Prop) (keep : List Nat)
/-- A call in a region, and what follows. -/
def CallStep (o : Opn) (s : St) (next : List Nat → List Nat → St → Prop) : Prop := ∃ c, okO P gl c o s ∧ next (touchO gl c o s.T) ((outO P gl c o s).ef.map (·.1)) (nextO P gl c o s)
def Rg : List Opn → St → Prop
  | [], s => W P gl N k (pr keep s) R
  | o :: l, s => if isCall o.i then CallStep P gl o s (fun _ _ s => Rg l s) else okO P gl ch0 o s ∧ Rg l (nextO P gl ch0 o s)
def dchk (m : Nat) : Nat → List (List Nat × List Nat) → List Nat → List Nat → Bool
  | _, [], _, _ => true
  | j, (f, w) :: l, fp, wr => (m.testBit j || (!meets w fp && !meets wr f && !meets w wr)) && dchk m (j + 1) l fp wr
def RgD (A : List Nat) : List (List Nat × List Nat) → List Opn → St → Prop
  | _, [], s => W P gl N k (pr keep s) R
  | done, o :: l, s => if isCall o.i then CallStep P gl o s (fun f w s => dchk (A.getD done.length 0) 0 done f w = true ∧ RgD A (done ++ [(f, w)]) l s)
    else okO P gl ch0 o s ∧ dchk (A.getD done.length 0) 0 done (touchO gl ch0 o s.T) ((outO P gl ch0 o s).ef.map (·.1)) = true ∧ RgD A (done ++ [(touchO gl ch0 o s.T, (outO P gl ch0 o s).ef.map (·.1))]) l (nextO P gl ch0 o s)
end
theorem Rg.tr {keep : List Nat} : ∀ {q : List Opn} {s : St}, Rg P gl N k R keep q s → ∃ its s1, its.map (·.o) = q ∧ Tr P gl its s s1 ∧ W P gl N k (pr keep s1) R
  | [], s, h => ⟨[], s, rfl, rfl, h⟩
  | o :: l, s, h => by
    have hh : ∃ c, okO P gl c o s ∧ Rg P gl N k R keep l (nextO P gl c o s) := by
      unfold Rg at h
      split at h
      · exact h
      · exact ⟨ch0, h⟩
    obtain ⟨c, h1, h2⟩ := hh
    obtain ⟨its, s1, h3, h4, h5⟩ := Rg.tr h2
    exact ⟨⟨o, c, touchO gl c o s.T, (outO P gl c o s).ef.map (·.1)⟩ :: its, s1, by simp [h3], ⟨h1, rfl, rfl, h4⟩, h5⟩
theorem Rg.walk {q : List Opn} {keep : List Nat} (h : Rg P gl N k R keep q s) : W P gl N (.c (.reg q none keep) :: k) s R := by
  obtain ⟨its, s1, h1, h2, h3⟩ := h.tr
  exact .reg its h1 h2 (fun A hA => by cases hA) h3
theorem dchk_get {m : Nat} {fp wr : List Nat} : ∀ {l : List (List Nat × List Nat)} {j : Nat}, dchk m j l fp wr = true → ∀ (i : Nat) f w, l[i]? = some (f, w) → m.testBit (j + i) = false → meets w fp = false ∧ meets wr f = false ∧ meets w wr = false
  | [], j, _, i, f, w, hi, _ => by simp at hi
  | (f0, w0) :: l, j, h, i, f, w, hi, hb => by
    simp only [dchk, Bool.and_eq_true] at h
    cases i with
    | zero =>
      simp only [List.getElem?_cons_zero, Option.some.injEq, Prod.mk.injEq] at hi
      obtain ⟨rfl, rfl⟩ := hi
      rw [Nat.add_zero] at hb
      have := h.1
      rw [hb] at this
      simp only [Bool.false_or, Bool.and_eq_true, Bool.not_eq_true'] at this
      exact ⟨this.1.1, this.1.2, this.2⟩
    | succ i => exact dchk_get h.2 i f w (by simpa using hi) (by rw [← hb]; congr 1; omega)
theorem RgD.tr {keep A : List Nat} : ∀ {q : List Opn} {done : List (List Nat × List Nat)} {s : St}, RgD P gl N k R keep A done q s → ∃ its s1, its.map (·.o) = q ∧ Tr P gl its s s1 ∧ W P gl N k (pr keep s1) R ∧
    (∀ (j : Nat) y, its[j]? = some y → (∀ (i : Nat) f w, done[i]? = some (f, w) → (A.getD (done.length + j) 0).testBit i = false → meets w y.fp = false ∧ meets y.wr f = false ∧ meets w y.wr = false) ∧
      ∀ (i : Nat) x, its[i]? = some x → i < j → (A.getD (done.length + j) 0).testBit (done.length + i) = false → meets x.wr y.fp = false ∧ meets y.wr x.fp = false ∧ meets x.wr y.wr = false)
  | [], done, s, h => ⟨[], s, rfl, rfl, h, fun j y hj => by simp at hj⟩
  | o :: l, done, s, h => by
    have hh : ∃ c, okO P gl c o s ∧ dchk (A.getD done.length 0) 0 done (touchO gl c o s.T) ((outO P gl c o s).ef.map (·.1)) = true ∧ RgD P gl N k R keep A (done ++ [(touchO gl c o s.T, (outO P gl c o s).ef.map (·.1))]) l (nextO P gl c o s) := by
      unfold RgD at h
      split at h
      · exact h
      · exact ⟨ch0, h⟩
    obtain ⟨c, h1, h2, h3⟩ := hh
    obtain ⟨its, s1, h4, h5, h6, h7⟩ := RgD.tr h3
    refine ⟨⟨o, c, touchO gl c o s.T, (outO P gl c o s).ef.map (·.1)⟩ :: its, s1, by simp [h4], ⟨h1, rfl, rfl, h5⟩, h6, fun j y hj => ?_⟩
    cases j with
    | zero =>
      simp only [List.getElem?_cons_zero, Option.some.injEq] at hj
      subst hj
      refine ⟨fun i f w hi hb => ?_, fun i x hi hij => by omega⟩
      exact dchk_get h2 i f w hi (by rw [Nat.zero_add]; exact hb)
    | succ j =>
      obtain ⟨g1, g2⟩ := h7 j y (by simpa using hj)
      rw [List.length_append, List.length_singleton] at g1 g2
      have e : done.length + (j + 1) = done.length + 1 + j := by omega
      rw [e]
      refine ⟨fun i f w hi hb => ?_, fun i x hi hij hb => ?_⟩
      · have hlt := (List.getElem?_eq_some_iff.1 hi).1
        exact g1 i f w (by rw [List.getElem?_append_left hlt]; exact hi) hb
      · cases i with
        | zero =>
          simp only [List.getElem?_cons_zero, Option.some.injEq] at hi
          subst hi
          exact g1 done.length _ _ (by rw [List.getElem?_append_right (Nat.le_refl _), Nat.sub_self]; rfl) (by rw [Nat.add_zero] at hb; exact hb)
        | succ i =>
          exact g2 i x (by simpa using hi) (by omega) (by rw [← hb]; congr 1; omega)
theorem RgD.walk {A : List Nat} {q : List Opn} {keep : List Nat} (h : RgD P gl N k R keep A [] q s) : W P gl N (.c (.reg q (some A) keep) :: k) s R := by
  obtain ⟨its, s1, h1, h2, h3, h4⟩ := h.tr
  refine .reg its h1 h2 (fun B hB => ?_) h3
  cases hB
  intro i j x y hi hj hij hb
  have := (h4 j y hj).2 i x hi hij
  simp only [List.length_nil, Nat.zero_add] at this
  exact this hb
/-- A loop: at its head the state is one of a family, and something goes down. -/
theorem W.lps {ι : Type} {x : C} (st : ι → St) (μ : ι → Nat) (round : ∀ i, (∀ j, μ j < μ i → W P gl N (.lp x :: k) (st j) R) → W P gl N (.c x :: .lp x :: k) (st i) R) (i : ι) : W P gl N (.lp x :: k) (st i) R := by
  have key : ∀ n i, μ i = n → W P gl N (.lp x :: k) (st i) R := by
    intro n
    induction n using Nat.strongRecOn with
    | _ n ih => exact fun i hi => .lp (round i fun j hj => ih (μ j) (by omega) j rfl)
  exact key _ i rfl
theorem W.loops {ι : Type} {x : C} (st : ι → St) (μ : ι → Nat) (i : ι) (hi : Imp gl N s (st i)) (round : ∀ i, (∀ j, μ j < μ i → W P gl N (.lp x :: k) (st j) R) → W P gl N (.c x :: .lp x :: k) (st i) R) : W P gl N (.c (.loop x) :: k) s R :=
  .weak hi (.loop (round i fun j _ => W.lps st μ round j))
def mkG (l : List (Nat × Ent)) : Hf := fun i => l.lookup i
def refsV (K : List Nat) : Va → Bool
  | .b (.s x) => refsIn K 4 x
  | .b (.agg cs) => refsC (refsIn K 4) cs
  | .tup l => l.all fun | .s x => refsIn K 4 x | .agg cs => refsC (refsIn K 4) cs
  | .gv _ x => refsV K x
  | .dead => true
theorem RepV.only {K : List Nat} {G : Hf} {v : Va} {u : Value} (h : refsV K v = true) (hv : RepV w S ρ G v u) : RepV w S (onlyR K ρ) (onlyG K G) v u := by
  have hB : ∀ {x : Vb} {u : Value}, (match x with | .s x => refsIn K 4 x | .agg cs => refsC (refsIn K 4) cs) = true → RepB w S ρ G x u → RepB w S (onlyR K ρ) (onlyG K G) x u := by
    intro x u h hv
    cases x with
    | s x => exact RepL.only K h hv
    | agg cs =>
      obtain ⟨vs, h1, h2, h3⟩ := hv
      exact ⟨vs, h1, h2, fun j lc hj => (h3 j lc hj).only K (refsC_get h j lc hj)⟩
  induction v with
  | b x => cases x with
    | s x => exact hB (x := .s x) h hv
    | agg cs => exact hB (x := .agg cs) h hv
  | tup l =>
    obtain ⟨vs, h1, h2, h3⟩ := hv
    refine ⟨vs, h1, h2, fun j x hj => hB ?_ (h3 j x hj)⟩
    have := List.all_eq_true.1 h x (List.mem_of_getElem? hj)
    cases x <;> exact this
  | gv g x ih => exact ⟨fun hg => ih h (hv.1 hg), hv.2⟩
  | dead => trivial
theorem lookup_mem {α : Type} {l : List (Nat × α)} {i : Nat} {x : α} (h : l.lookup i = some x) : (i, x) ∈ l := by
  induction l with
  | nil => cases h
  | cons p l ih =>
    obtain ⟨j, y⟩ := p
    rw [List.lookup_cons] at h
    by_cases hi : i = j
    · subst hi
      simp only [beq_self_eq_true] at h
      cases h; exact List.mem_cons_self ..
    · have : (i == j) = false := by simpa using hi
      rw [this] at h
      exact List.mem_cons_of_mem _ (ih h)
theorem lookup_none {α : Type} {l : List (Nat × α)} {i : Nat} (h : l.lookup i = none) : i ∉ l.map (·.1) := by
  induction l with
  | nil => simp
  | cons p l ih =>
    obtain ⟨j, y⟩ := p
    rw [List.lookup_cons] at h
    by_cases hi : i = j
    · subst hi; simp at h
    · have : (i == j) = false := by simpa using hi
      rw [this] at h
      simp only [List.map_cons, List.mem_cons, not_or]
      exact ⟨hi, ih h⟩
def allT (T : Nat → Va) : List (Nat × Va) → Prop
  | [] => True
  | (t, v) :: l => T t = v ∧ allT T l
def allE (G : Hf) : List (Nat × Ent) → Prop
  | [] => True
  | (i, e) :: l => G i = some e ∧ allE G l
theorem allT_mem {T : Nat → Va} : ∀ {l : List (Nat × Va)}, allT T l → ∀ p, p ∈ l → T p.1 = p.2
  | [], _, p, h => by cases h
  | (t, v) :: l, h, p, hp => by
    rcases List.mem_cons.1 hp with rfl | hp
    · exact h.1
    · exact allT_mem h.2 p hp
theorem allE_mem {G : Hf} : ∀ {l : List (Nat × Ent)}, allE G l → ∀ p, p ∈ l → G p.1 = some p.2
  | [], _, p, h => by cases h
  | (t, v) :: l, h, p, hp => by
    rcases List.mem_cons.1 hp with rfl | hp
    · exact h.1
    · exact allE_mem h.2 p hp
/-- What is forgotten: temporaries, and rows that nothing tells of any more. -/
theorem Imp.to (lT : List (Nat × Va)) (lG : List (Nat × Ent)) (hT : allT s.T lT) (hG : allE s.G lG) (hrT : lT.all (fun p => refsV (lG.map (·.1)) p.2) = true) (hrG : lG.all (fun p => p.2.rows.all (refsC (refsIn (lG.map (·.1)) 4))) = true) : Imp gl N s ⟨mkT lT, mkG lG⟩ := by
  intro base a w S ρ hr
  have hGe : onlyG (lG.map (·.1)) s.G = mkG lG := by
    funext i
    simp only [onlyG, mkG]
    cases h : lG.lookup i with
    | none => rw [if_neg (by simpa using lookup_none h)]
    | some e =>
      have hm := lookup_mem h
      rw [if_pos (by simp only [List.contains_iff_mem]; exact List.mem_map.2 ⟨_, hm, rfl⟩)]
      exact allE_mem hG _ hm
  refine ⟨S, onlyR (lG.map (·.1)) ρ, ⟨?_, hr.le, hr.gl, hr.size, fun t => ?_, hr.defers⟩, fun k hk => .inl hk⟩
  · rw [← hGe]
    refine hr.hr.only (lG.map (·.1)) 4 (fun i e hi hGi r hrr => ?_) (fun _ _ _ _ => trivial)
    obtain ⟨p, hp, rfl⟩ := List.mem_map.1 hi
    have h1 := allE_mem hG p hp
    rw [hGi] at h1; cases h1
    exact List.all_eq_true.1 (List.all_eq_true.1 hrG p hp) r hrr
  · rw [← hGe]
    show RepV w S _ _ (mkT lT t) _
    unfold mkT
    cases h : lT.lookup t with
    | none => trivial
    | some v =>
      have hm := lookup_mem h
      have := hr.tmps t
      rw [allT_mem hT _ hm] at this
      exact this.only (List.all_eq_true.1 hrT _ hm)
theorem Imp.trans {s2 : St} (h : Imp gl N s s1) (h1 : Imp gl N s1 s2) : Imp gl N s s2 := by
  intro base a w S ρ hr
  obtain ⟨S1, ρ1, h2, h3⟩ := h base a w S ρ hr
  obtain ⟨S2, ρ2, h4, h5⟩ := h1 base a w S1 ρ1 h2
  exact ⟨S2, ρ2, h4, fun k hk => (h5 k hk).elim (h3 k) .inr⟩
/-- Nothing at all becomes a row of the call's own. -/
theorem Imp.adopt (t i st : Nat) (ht : s.T t = .b (.s (.full []))) (hi : s.G i = none) : Imp gl N s ⟨updT s.T t (.b (.s (.own i 0))), updG s.G i ⟨st, [], false⟩⟩ := by
  intro base a w S ρ hr
  have hρ : ρ i = none := by
    cases h : ρ i with
    | none => rfl
    | some b => exact absurd hi (hr.hr.dom i b h)
  obtain ⟨k1, k2⟩ := hr.hr.upd (w1 := w) hr.le i ⟨st, [], false⟩ none (fun k _ _ => rfl) (Nat.le_refl _) (fun x hx => by rw [hi] at hx; cases hx) (fun b arr ty fz hb _ => by rw [hρ] at hb; cases hb) (.inl hρ.symm) rfl (by simp) (.inl ⟨rfl, rfl⟩)
  refine ⟨S, _, ⟨k2, hr.le, hr.gl, hr.size, fun t1 => ?_, hr.defers⟩, fun k hk => .inl hk⟩
  show RepV _ _ _ _ (updT s.T t _ t1) _
  unfold updT
  split
  · rename_i h; subst h
    have := hr.tmps t1
    rw [ht] at this
    generalize a.tmps.getD t1 undef = u at this ⊢
    cases this with
    | full _ p h => exact .own i 0 ⟨st, [], false⟩ _ (by simp [updG]) (Nat.le_refl _) rfl (fun _ => ⟨p, 0, rfl, .inl ⟨rfl, rfl⟩⟩)
  · exact (hr.tmps t1).mono k1
/-- The nil slice becomes a row of the call's own. -/
theorem Imp.adoptN (t i st : Nat) (ht : s.T t = .b (.s .nils)) (hi : s.G i = none) : Imp gl N s ⟨updT s.T t (.b (.s (.own i 0))), updG s.G i ⟨st, [], false⟩⟩ := by
  intro base a w S ρ hr
  have hρ : ρ i = none := by
    cases h : ρ i with
    | none => rfl
    | some b => exact absurd hi (hr.hr.dom i b h)
  obtain ⟨k1, k2⟩ := hr.hr.upd (w1 := w) hr.le i ⟨st, [], false⟩ none (fun k _ _ => rfl) (Nat.le_refl _) (fun x hx => by rw [hi] at hx; cases hx) (fun b arr ty fz hb _ => by rw [hρ] at hb; cases hb) (.inl hρ.symm) rfl (by simp) (.inl ⟨rfl, rfl⟩)
  refine ⟨S, _, ⟨k2, hr.le, hr.gl, hr.size, fun t1 => ?_, hr.defers⟩, fun k hk => .inl hk⟩
  show RepV _ _ _ _ (updT s.T t _ t1) _
  unfold updT
  split
  · rename_i h; subst h
    have := hr.tmps t1
    rw [ht] at this
    generalize a.tmps.getD t1 undef = u at this ⊢
    cases this with
    | nils => exact .own i 0 ⟨st, [], false⟩ _ (by simp [updG]) (Nat.le_refl _) rfl (fun _ => ⟨none, 0, rfl, .inl ⟨rfl, rfl⟩⟩)
  · exact (hr.tmps t1).mono k1
theorem fun_walk {f : FuncId} {fn : Func} {K : List (Nat × List Nat)} {c : C} {rs : List RV} {xs : List Va} {y : Va} (F : List Nat) (hf : P.funcs[f]? = some fn) (hN : fn.ntmps = N) (hbc : fn.body.bind (cC P N K) = some c) (hrs : cRVs P fn.results.toList = some rs) (hn : (fn.name == "runtime.NumGoroutine") = false) (hx : xs.length ≤ N)
    (h : W P gl N [.c c] (start xs) (Ret P gl F rs y)) : Fun P gl f xs y := by
  obtain ⟨code, hb, hc⟩ := Option.bind_eq_some_iff.1 hbc
  subst hN
  exact fun_of_W hf hb hn hc hrs hx h
theorem funO_walk {f : FuncId} {fn : Func} {K : List (Nat × List Nat)} {c : C} {t : Nat} {xs : List Va} {st : Nat} {rows : List (List Sc)} (hf : P.funcs[f]? = some fn) (hN : fn.ntmps = N) (hbc : fn.body.bind (cC P N K) = some c) (hrs : cRVs P fn.results.toList = some [.t t]) (hn : (fn.name == "runtime.NumGoroutine") = false) (hx : xs.length ≤ N)
    (h : W P gl N [.c c] (start xs) (RetO P gl t st rows)) : FunO P gl f xs st rows := by
  obtain ⟨code, hb, hc⟩ := Option.bind_eq_some_iff.1 hbc
  subst hN
  exact funO_of_W hf hb hn hc hrs hx h
end Go.Proofs.Ytjpomfbkfgkifaa.V
end

section
/- Words in which simp goes through a region. -/
namespace Go.Proofs.Ytjpomfbkfgkifaa.V
open Go Go.RowKit
set_option linter.unusedVariables false
set_option linter.unusedSimpArgs false
variable {P : Program} {gl : Gl} {N : Nat} {s s1 : St} {k : List It} {R : St → Prop} {keep : List Nat}
def lkT : List (Nat × Va) → Nat → Va
  | [], _ => .dead
  | (i, v) :: l, t => if t = i then v else lkT l t
def lkG : List (Nat × Ent) → Hf
  | [], _ => none
  | (i, v) :: l, t => if t = i then some v else lkG l t
def numd : Nat → List Va → List (Nat × Va)
  | _, [] => []
  | i, x :: l => (i, x) :: numd (i + 1) l
theorem lkT_nil (t : Nat) : lkT [] t = .dead := rfl
theorem lkT_cons (i : Nat) (v : Va) (l : List (Nat × Va)) (t : Nat) : lkT ((i, v) :: l) t = if t = i then v else lkT l t := rfl
theorem lkG_nil (t : Nat) : lkG [] t = none := rfl
theorem lkG_cons (i : Nat) (v : Ent) (l : List (Nat × Ent)) (t : Nat) : lkG ((i, v) :: l) t = if t = i then some v else lkG l t := rfl
theorem putT_lk (l : List (Nat × Va)) (i : Nat) (v : Va) : putT (lkT l) (some i) v = lkT ((i, v) :: l) := rfl
theorem putT_no (T : Nat → Va) (v : Va) : putT T none v = T := rfl
theorem lkT_upd (l : List (Nat × Va)) (i : Nat) (v : Va) : updT (lkT l) i v = lkT ((i, v) :: l) := rfl
theorem lkG_upd (l : List (Nat × Ent)) (i : Nat) (v : Ent) : updG (lkG l) i v = lkG ((i, v) :: l) := rfl
theorem lkT_mk : ∀ l, mkT l = lkT l
  | [] => rfl
  | (i, v) :: l => by
    funext t
    have ih := congrFun (lkT_mk l) t
    unfold mkT at ih ⊢
    rw [List.lookup_cons, lkT]
    by_cases h : t = i
    · subst h; simp
    · have : (t == i) = false := by simpa using h
      rw [this, if_neg h]; exact ih
theorem lkG_mk : ∀ l, mkG l = lkG l
  | [] => rfl
  | (i, v) :: l => by
    funext t
    have ih := congrFun (lkG_mk l) t
    unfold mkG at ih ⊢
    rw [List.lookup_cons, lkG]
    by_cases h : t = i
    · subst h; simp
    · have : (t == i) = false := by simpa using h
      rw [this, if_neg h]; exact ih
theorem numd_get : ∀ (xs : List Va) (i t : Nat), lkT (numd i xs) t = if i ≤ t then (xs[t - i]?).getD .dead else .dead
  | [], i, t => by simp [numd, lkT]
  | x :: xs, i, t => by
    rw [numd, lkT, numd_get xs (i + 1) t]
    by_cases h : t = i
    · subst h; simp
    · by_cases h1 : i + 1 ≤ t
      · rw [if_neg h, if_pos h1, if_pos (by omega)]
        have : t - i = (t - (i + 1)) + 1 := by omega
        rw [this, List.getElem?_cons_succ]
      · rw [if_neg h, if_neg h1, if_neg (by omega)]
theorem start_lk (xs : List Va) : start xs = ⟨lkT (numd 0 xs), lkG []⟩ := by
  unfold start
  congr 1
  funext t
  rw [numd_get, if_pos (Nat.zero_le _)]; rfl
def prL (T : Nat → Va) : List Nat → List (Nat × Va)
  | [] => []
  | t :: l => (t, T t) :: prL T l
theorem pr_lk (keep : List Nat) (T : Nat → Va) (G : Hf) : pr keep ⟨T, G⟩ = ⟨lkT (prL T keep), G⟩ := by
  unfold pr
  rw [lkT_mk]
  congr 2
  induction keep with
  | nil => rfl
  | cons t l ih => rw [List.map_cons, prL]; exact congrArg _ ih
def gAll (γ : Bool) (ev : Od → Va) : List Od → Prop
  | [] => True
  | x :: l => gOk γ (ev x) ∧ gAll γ ev l
theorem gAll_mem {γ : Bool} {ev : Od → Va} : ∀ {l : List Od}, gAll γ ev l → ∀ od, od ∈ l → gOk γ (ev od)
  | [], _, od, h => by cases h
  | x :: l, h, od, hm => by
    rcases List.mem_cons.1 hm with rfl | hm
    · exact h.1
    · exact gAll_mem h.2 od hm
section
variable (P : Program) (gl : Gl)
def evS (T : Nat → Va) : Od → Va := fun od => stripV (evT gl T od)
/-- The state behind an operation that comes to this. -/
def stO (o : Out) (d : Option Nat) (s : St) : St := ⟨putT s.T d o.v, apG s.G o.ef⟩
/-- An operation that isn't guarded, and what follows. -/
def Go1 (o : Out) (d : Option Nat) (s : St) (next : St → Prop) : Prop := o.ob ∧ next (stO o d s)
/-- An operation on a guard. -/
def Go2 (γ : Bool) (o : Out) (d : Option Nat) (s : St) (next : St → Prop) : Prop := (γ = true → o.ob) ∧ (o.ef = [] ∨ γ = true) ∧ next ⟨putT s.T d (.gv γ o.v), apG s.G o.ef⟩
def nx (f : St → Prop) : List Nat → List Nat → St → Prop := fun _ _ s => f s
def Gd (b : Option (Bool × Bool)) (w : Bool) (next : Bool → Prop) : Prop :=
  match b with
  | some (g, p) => next (g && (if w then p else !p))
  | none => False
end
theorem Go1_mk {ob : Prop} {v : Va} {ef : List (Nat × Ent)} {d : Option Nat} {next : St → Prop} : Go1 ⟨ob, v, ef⟩ d s next = (ob ∧ next ⟨putT s.T d v, apG s.G ef⟩) := rfl
theorem Go2_mk {γ ob} {v : Va} {ef : List (Nat × Ent)} {d : Option Nat} {next : St → Prop} : Go2 γ ⟨ob, v, ef⟩ d s next = ((γ = true → ob) ∧ (ef = [] ∨ γ = true) ∧ next ⟨putT s.T d (.gv γ v), apG s.G ef⟩) := rfl
theorem nx_mk (f : St → Prop) (a b : List Nat) (s : St) : nx f a b s = f s := rfl
theorem Gd_some {g p w : Bool} {next : Bool → Prop} : Gd (some (g, p)) w next = next (g && (if w then p else !p)) := rfl
section
variable (P : Program) (gl : Gl) (N : Nat) (k : List It) (R : St → Prop) (keep : List Nat)
/-- A walk through a region. -/
def Rw : List Opn → St → Prop
  | [], s => W P gl N k (pr keep s) R
  | ⟨d, g, .mv x⟩ :: l, s => match g with
    | none => Rw l ⟨putT s.T d (evT gl s.T x), s.G⟩
    | some (t, w) => Gd (boolV (s.T t)) w fun γ => gOk γ (evT gl s.T x) ∧ Rw l ⟨putT s.T d (.gv γ (stripV (evT gl s.T x))), s.G⟩
  | ⟨d, g, .pick x y z⟩ :: l, s => match g with
    | none => Go1 (semI P gl ch0 d (.pick x y z) (evT gl s.T) s.G) d s (Rw l)
    | some (t, w) => Gd (boolV (s.T t)) w fun γ => Go2 γ (semI P gl ch0 d (.pick x y z) (evT gl s.T) s.G) d s (Rw l)
  | ⟨d, g, .call f xs⟩ :: l, s => CallStep P gl ⟨d, g, .call f xs⟩ s (nx (Rw l))
  | ⟨d, g, i⟩ :: l, s => match g with
    | none => gAll true (evT gl s.T) (opsOf i) ∧ Go1 (semI P gl ch0 d i (evS gl s.T) s.G) d s (Rw l)
    | some (t, w) => Gd (boolV (s.T t)) w fun γ => gAll γ (evT gl s.T) (opsOf i) ∧ Go2 γ (semI P gl ch0 d i (evS gl s.T) s.G) d s (Rw l)
end
theorem okO_none {o : Opn} (hg : o.g = none) (h1 : bareI o = true ∨ ∀ od, od ∈ opsOf o.i → gOk true (evT gl s.T od)) (h2 : (outO P gl ch0 o s).ob) : okO P gl ch0 o s := ⟨true, by rw [hg]; rfl, h1, fun _ => h2, .inr rfl⟩
theorem okO_some {o : Opn} {t : Nat} {w g p : Bool} (hg : o.g = some (t, w)) (hb : boolV (s.T t) = some (g, p)) (h1 : bareI o = true ∨ ∀ od, od ∈ opsOf o.i → gOk (g && (if w then p else !p)) (evT gl s.T od)) (h2 : (g && (if w then p else !p)) = true → (outO P gl ch0 o s).ob) (h3 : (outO P gl ch0 o s).ef = [] ∨ (g && (if w then p else !p)) = true) : okO P gl ch0 o s :=
  ⟨_, by rw [hg]; simp only [gval, hb], h1, h2, h3⟩
theorem Gd.of {b : Option (Bool × Bool)} {w : Bool} {next : Bool → Prop} (h : Gd b w next) : ∃ g p, b = some (g, p) ∧ next (g && (if w then p else !p)) := by
  unfold Gd at h
  split at h
  · exact ⟨_, _, rfl, h⟩
  · exact h.elim
theorem Rw.rg : ∀ {q : List Opn} {s : St}, Rw P gl N k R keep q s → Rg P gl N k R keep q s
  | [], s, h => h
  | ⟨d, g, i⟩ :: l, s, h => by
    have hnone : ∀ (i : Ins), g = none → isCall i = false → (bareI ⟨d, g, i⟩ = true ∨ ∀ od, od ∈ opsOf i → gOk true (evT gl s.T od)) → (outO P gl ch0 ⟨d, g, i⟩ s).ob → Rg P gl N k R keep l (stO (outO P gl ch0 ⟨d, g, i⟩ s) d s) → Rg P gl N k R keep (⟨d, g, i⟩ :: l) s := by
      rintro i rfl hc h1 h2 h3
      unfold Rg
      rw [if_neg (by simp [hc])]
      exact ⟨okO_none rfl h1 h2, h3⟩
    have hsome : ∀ (i : Ins) (t : Nat) (w g1 p : Bool), g = some (t, w) → isCall i = false → boolV (s.T t) = some (g1, p) → (bareI ⟨d, g, i⟩ = true ∨ ∀ od, od ∈ opsOf i → gOk (g1 && (if w then p else !p)) (evT gl s.T od)) → ((g1 && (if w then p else !p)) = true → (outO P gl ch0 ⟨d, g, i⟩ s).ob) →
        ((outO P gl ch0 ⟨d, g, i⟩ s).ef = [] ∨ (g1 && (if w then p else !p)) = true) → Rg P gl N k R keep l ⟨putT s.T d (.gv (g1 && (if w then p else !p)) (outO P gl ch0 ⟨d, g, i⟩ s).v), apG s.G (outO P gl ch0 ⟨d, g, i⟩ s).ef⟩ → Rg P gl N k R keep (⟨d, g, i⟩ :: l) s := by
      rintro i t w g1 p rfl hc hb h1 h2 h3 h4
      unfold Rg
      rw [if_neg (by simp [hc])]
      refine ⟨okO_some rfl hb h1 h2 h3, ?_⟩
      have e : nextO P gl ch0 ⟨d, some (t, w), i⟩ s = ⟨putT s.T d (.gv (g1 && (if w then p else !p)) (outO P gl ch0 ⟨d, some (t, w), i⟩ s).v), apG s.G (outO P gl ch0 ⟨d, some (t, w), i⟩ s).ef⟩ := by
        simp only [nextO, valO, gval, hb, Option.getD_some]
      rw [e]; exact h4
    cases i with
    | mv x =>
      cases g with
      | none => exact hnone (.mv x) rfl rfl (.inl rfl) trivial (Rw.rg h)
      | some p =>
        obtain ⟨t, w⟩ := p
        simp only [Rw] at h
        obtain ⟨g1, p, hb, h1, h2⟩ := Gd.of h
        refine hsome (.mv x) t w g1 p rfl rfl hb (.inr ?_) (fun _ => trivial) (.inl rfl) (Rw.rg h2)
        intro od hod
        simp only [opsOf, List.mem_singleton] at hod
        subst hod; exact h1
    | pick x y z =>
      cases g with
      | none => exact hnone (.pick x y z) rfl rfl (.inl rfl) h.1 (Rw.rg h.2)
      | some p =>
        obtain ⟨t, w⟩ := p
        simp only [Rw] at h
        obtain ⟨g1, p, hb, h1, h2, h3⟩ := Gd.of h
        exact hsome (.pick x y z) t w g1 p rfl rfl hb (.inl rfl) h1 h2 (Rw.rg h3)
    | call f xs =>
      simp only [Rw] at h
      obtain ⟨c, h1, h2⟩ := h
      unfold Rg
      rw [if_pos (by rfl)]
      exact ⟨c, h1, Rw.rg h2⟩
    | _ =>
      cases g with
      | none =>
        simp only [Rw] at h
        obtain ⟨h1, h2, h3⟩ := h
        exact hnone _ rfl rfl (.inr (gAll_mem h1)) h2 (Rw.rg h3)
      | some p =>
        obtain ⟨t, w⟩ := p
        simp only [Rw] at h
        obtain ⟨g1, p, hb, h1, h2, h3, h4⟩ := Gd.of h
        exact hsome _ t w g1 p rfl rfl hb (.inr (gAll_mem h1)) h2 h3 (Rw.rg h4)
theorem Rw.walk {q : List Opn} (h : Rw P gl N k R keep q s) : W P gl N (.c (.reg q none keep) :: k) s R := h.rg.walk
/-- A call that isn't guarded; its rows stay the call's own (b) or are handed out (F). -/
theorem call_fun {f : Od} {xs : List Od} {d : Option Nat} {next : List Nat → List Nat → St → Prop} {fid : FuncId} {caps ys : List Va} {y : Va} (F : List Nat) (keepF : Bool) (hg : gAll true (evT gl s.T) (f :: xs)) (hf : fnV (evS gl s.T f) = some (fid, caps)) (hx : argsV F s.G 4 (xs.map (evS gl s.T) ++ caps) = some ys) (hfun : Fun P gl fid ys y)
    (hflat : keepF = false → flatV y = true) (hF : ∀ i, i ∈ F → ∀ e, s.G i = some e → (convR (conv F s.G 4) e.rows).isSome = true)
    (hn : next (touchO gl ⟨y, F, keepF, none⟩ ⟨d, none, .call f xs⟩ s.T) (if keepF then (F.filterMap fun i => (frz F 4 s.G i).map fun e => (i, e)).map (·.1) else []) ⟨putT s.T d y, if keepF then apG s.G (F.filterMap fun i => (frz F 4 s.G i).map fun e => (i, e)) else s.G⟩) : CallStep P gl ⟨d, none, .call f xs⟩ s next := by
  have hev : ∀ x, evO gl s.T ⟨d, none, .call f xs⟩ x = evS gl s.T x := fun x => rfl
  have he : outO P gl ⟨y, F, keepF, none⟩ ⟨d, none, .call f xs⟩ s = ⟨Fun P gl fid ys y ∧ (keepF = false → flatV y = true) ∧ (∀ i, i ∈ F → ∀ e, s.G i = some e → (convR (conv F s.G 4) e.rows).isSome = true), y, if keepF then F.filterMap (fun i => (frz F 4 s.G i).map fun e => (i, e)) else []⟩ := by
    simp only [outO, semI]
    have h1 : fnV (evO gl s.T ⟨d, none, .call f xs⟩ f) = some (fid, caps) := hf
    have h2 : argsV F s.G 4 (xs.map (evO gl s.T ⟨d, none, .call f xs⟩) ++ caps) = some ys := hx
    rw [h1]
    simp only [h2]
  refine ⟨⟨y, F, keepF, none⟩, ⟨true, rfl, .inr (gAll_mem hg), fun _ => by rw [he]; exact ⟨hfun, hflat, hF⟩, .inr rfl⟩, ?_⟩
  simp only [nextO, valO, he]
  cases keepF with
  | true => exact hn
  | false => exact hn
theorem call_funO {f : Od} {xs : List Od} {i : Nat} {next : List Nat → List Nat → St → Prop} {fid : FuncId} {caps ys : List Va} {st : Nat} {rows : List (List Sc)} (F : List Nat) (hg : gAll true (evT gl s.T) (f :: xs)) (hf : fnV (evS gl s.T f) = some (fid, caps)) (hx : argsV F s.G 4 (xs.map (evS gl s.T) ++ caps) = some ys) (hfun : FunO P gl fid ys st rows)
    (hi : s.G i = none) (hF : F = [] ∨ rows.all (fun r => r.all flatS) = true)
    (hn : next (touchO gl ⟨.dead, F, true, some (st, rows)⟩ ⟨some i, none, .call f xs⟩ s.T) [i] ⟨putT s.T (some i) (.b (.s (.own i rows.length))), updG s.G i ⟨st, rows.map (fun r => r.map Lc.d), false⟩⟩) : CallStep P gl ⟨some i, none, .call f xs⟩ s next := by
  have he : outO P gl ⟨.dead, F, true, some (st, rows)⟩ ⟨some i, none, .call f xs⟩ s = ⟨FunO P gl fid ys st rows ∧ s.G i = none ∧ (F = [] ∨ rows.all (fun r => r.all flatS) = true), .b (.s (.own i rows.length)), [(i, ⟨st, rows.map (fun r => r.map Lc.d), false⟩)]⟩ := by
    simp only [outO, semI]
    have h1 : fnV (evO gl s.T ⟨some i, none, .call f xs⟩ f) = some (fid, caps) := hf
    have h2 : argsV F s.G 4 (xs.map (evO gl s.T ⟨some i, none, .call f xs⟩) ++ caps) = some ys := hx
    rw [h1]
    simp only [h2]
  refine ⟨⟨.dead, F, true, some (st, rows)⟩, ⟨true, rfl, .inr (gAll_mem hg), fun _ => by rw [he]; exact ⟨hfun, hi, hF⟩, .inr rfl⟩, ?_⟩
  simp only [nextO, valO, he]
  exact hn
/-- A call on a guard: what it comes to hangs on no row, and no row is handed out for good. -/
theorem call_funG {f : Od} {xs : List Od} {d : Option Nat} {t : Nat} {w g p : Bool} {next : List Nat → List Nat → St → Prop} {fid : FuncId} {caps ys : List Va} {y : Va} (F : List Nat) (hb : boolV (s.T t) = some (g, p)) (hg : gAll (g && (if w then p else !p)) (evT gl s.T) (f :: xs)) (hf : fnV (evS gl s.T f) = some (fid, caps)) (hx : argsV F s.G 4 (xs.map (evS gl s.T) ++ caps) = some ys)
    (hfun : (g && (if w then p else !p)) = true → Fun P gl fid ys y) (hflat : flatV y = true) (hF : ∀ i, i ∈ F → ∀ e, s.G i = some e → (convR (conv F s.G 4) e.rows).isSome = true)
    (hn : next (touchO gl ⟨y, F, false, none⟩ ⟨d, some (t, w), .call f xs⟩ s.T) [] ⟨putT s.T d (.gv (g && (if w then p else !p)) y), s.G⟩) : CallStep P gl ⟨d, some (t, w), .call f xs⟩ s next := by
  have he : outO P gl ⟨y, F, false, none⟩ ⟨d, some (t, w), .call f xs⟩ s = ⟨Fun P gl fid ys y ∧ (false = false → flatV y = true) ∧ (∀ i, i ∈ F → ∀ e, s.G i = some e → (convR (conv F s.G 4) e.rows).isSome = true), y, []⟩ := by
    simp only [outO, semI]
    have h1 : fnV (evO gl s.T ⟨d, some (t, w), .call f xs⟩ f) = some (fid, caps) := hf
    have h2 : argsV F s.G 4 (xs.map (evO gl s.T ⟨d, some (t, w), .call f xs⟩) ++ caps) = some ys := hx
    rw [h1]
    simp only [h2]
    rfl
  refine ⟨⟨y, F, false, none⟩, ⟨_, by simp only [gval, hb], .inr (gAll_mem hg), fun h => by rw [he]; exact ⟨hfun h, fun _ => hflat, hF⟩, .inl (congrArg Out.ef he)⟩, ?_⟩
  simp only [nextO, valO, he, gval, hb, Option.getD_some]
  exact hn
section
variable {d : Option Nat} {g : Option (Nat × Bool)} {i : Ins} {l : List Opn}
theorem Rw_nil : Rw P gl N k R keep [] s = W P gl N k (pr keep s) R := rfl
theorem Rw_mv (x : Od) : Rw P gl N k R keep (⟨d, none, .mv x⟩ :: l) s = Rw P gl N k R keep l ⟨putT s.T d (evT gl s.T x), s.G⟩ := by simp only [Rw]
theorem Rw_mvg (x : Od) (t : Nat) (w : Bool) : Rw P gl N k R keep (⟨d, some (t, w), .mv x⟩ :: l) s = Gd (boolV (s.T t)) w fun γ => gOk γ (evT gl s.T x) ∧ Rw P gl N k R keep l ⟨putT s.T d (.gv γ (stripV (evT gl s.T x))), s.G⟩ := by simp only [Rw]
theorem Rw_pick (x y z : Od) : Rw P gl N k R keep (⟨d, none, .pick x y z⟩ :: l) s = Go1 (semI P gl ch0 d (.pick x y z) (evT gl s.T) s.G) d s (Rw P gl N k R keep l) := by simp only [Rw]
theorem Rw_pickg (x y z : Od) (t : Nat) (w : Bool) : Rw P gl N k R keep (⟨d, some (t, w), .pick x y z⟩ :: l) s = Gd (boolV (s.T t)) w fun γ => Go2 γ (semI P gl ch0 d (.pick x y z) (evT gl s.T) s.G) d s (Rw P gl N k R keep l) := by simp only [Rw]
theorem Rw_call (f : Od) (xs : List Od) : Rw P gl N k R keep (⟨d, g, .call f xs⟩ :: l) s = CallStep P gl ⟨d, g, .call f xs⟩ s (nx (Rw P gl N k R keep l)) := by simp only [Rw]
theorem Rw_op (hq : (quietI i || isCall i) = false) : Rw P gl N k R keep (⟨d, none, i⟩ :: l) s = (gAll true (evT gl s.T) (opsOf i) ∧ Go1 (semI P gl ch0 d i (evS gl s.T) s.G) d s (Rw P gl N k R keep l)) := by
  cases i <;> first | (simp [quietI, isCall] at hq; done) | simp only [Rw]
theorem Rw_opg (t : Nat) (w : Bool) (hq : (quietI i || isCall i) = false) : Rw P gl N k R keep (⟨d, some (t, w), i⟩ :: l) s = Gd (boolV (s.T t)) w fun γ => gAll γ (evT gl s.T) (opsOf i) ∧ Go2 γ (semI P gl ch0 d i (evS gl s.T) s.G) d s (Rw P gl N k R keep l) := by
  cases i <;> first | (simp [quietI, isCall] at hq; done) | simp only [Rw]
end
end Go.Proofs.Ytjpomfbkfgkifaa.V
end

section
/- Words in which simp goes through a region that draws its order. -/
namespace Go.Proofs.Ytjpomfbkfgkifaa.V
open Go Go.RowKit
set_option linter.unusedVariables false
set_option linter.unusedSimpArgs false
variable {P : Program} {gl : Gl} {N : Nat} {s s1 : St} {k : List It} {R : St → Prop} {keep : List Nat}
/-- Operations that don't touch a row, and write none, meet none. -/
def dck (m : Nat) (done : List (List Nat × List Nat)) (fp wr : List Nat) : Bool := match fp, wr with
  | [], [] => true
  | _, _ => dchk m 0 done fp wr
theorem meets_nil (a : List Nat) : meets a [] = false := by unfold meets; simp
theorem nil_meets (a : List Nat) : meets [] a = false := rfl
theorem dchk_nil (m : Nat) : ∀ (done : List (List Nat × List Nat)) (j : Nat), dchk m j done [] [] = true
  | [], j => rfl
  | (f, w) :: l, j => by simp only [dchk, meets_nil, nil_meets, dchk_nil m l (j + 1)]; simp
theorem dck_of {m : Nat} {done : List (List Nat × List Nat)} {fp wr : List Nat} (h : dck m done fp wr = true) : dchk m 0 done fp wr = true := by
  unfold dck at h
  split at h
  · exact dchk_nil m done 0
  · exact h
theorem dck_nil (m : Nat) (done : List (List Nat × List Nat)) : dck m done [] [] = true := rfl
theorem dck_fp (m : Nat) (done : List (List Nat × List Nat)) (x : Nat) (fp wr : List Nat) : dck m done (x :: fp) wr = dchk m 0 done (x :: fp) wr := rfl
theorem dck_wr (m : Nat) (done : List (List Nat × List Nat)) (fp wr : List Nat) (x : Nat) : dck m done fp (x :: wr) = dchk m 0 done fp (x :: wr) := by cases fp <;> rfl
def GoD1 (o : Out) (d : Option Nat) (s : St) (next : List Nat → St → Prop) : Prop := o.ob ∧ next (o.ef.map (·.1)) ⟨putT s.T d o.v, apG s.G o.ef⟩
def GoD2 (γ : Bool) (o : Out) (d : Option Nat) (s : St) (next : List Nat → St → Prop) : Prop := (γ = true → o.ob) ∧ (o.ef = [] ∨ γ = true) ∧ next (o.ef.map (·.1)) ⟨putT s.T d (.gv γ o.v), apG s.G o.ef⟩
theorem GoD1_mk {ob : Prop} {v : Va} {ef : List (Nat × Ent)} {d : Option Nat} {next : List Nat → St → Prop} : GoD1 ⟨ob, v, ef⟩ d s next = (ob ∧ next (ef.map (·.1)) ⟨putT s.T d v, apG s.G ef⟩) := rfl
theorem GoD2_mk {γ ob} {v : Va} {ef : List (Nat × Ent)} {d : Option Nat} {next : List Nat → St → Prop} : GoD2 γ ⟨ob, v, ef⟩ d s next = ((γ = true → ob) ∧ (ef = [] ∨ γ = true) ∧ next (ef.map (·.1)) ⟨putT s.T d (.gv γ v), apG s.G ef⟩) := rfl
def touchS (gl : Gl) (T : Nat → Va) (d : Option Nat) (i : Ins) : List Nat := touchI ch0 d i (evS gl T)
section
variable (P : Program) (gl : Gl) (N : Nat) (k : List It) (R : St → Prop) (keep A : List Nat)
/-- What is kept of an operation, for those that come behind it. -/
def nt (done : List (List Nat × List Nat)) (fp : List Nat) (F : List (List Nat × List Nat) → St → Prop) : List Nat → St → Prop := fun wr s => dck (A.getD done.length 0) done fp wr = true ∧ F (done ++ [(fp, wr)]) s
def ntc (done : List (List Nat × List Nat)) (F : List (List Nat × List Nat) → St → Prop) : List Nat → List Nat → St → Prop := fun fp wr s => dck (A.getD done.length 0) done fp wr = true ∧ F (done ++ [(fp, wr)]) s
def RwD : List Opn → List (List Nat × List Nat) → St → Prop
  | [], _, s => W P gl N k (pr keep s) R
  | ⟨d, g, .mv x⟩ :: l, done, s => match g with
    | none => RwD l (done ++ [([], [])]) ⟨putT s.T d (evT gl s.T x), s.G⟩
    | some (t, w) => Gd (boolV (s.T t)) w fun γ => gOk γ (evT gl s.T x) ∧ RwD l (done ++ [([], [])]) ⟨putT s.T d (.gv γ (stripV (evT gl s.T x))), s.G⟩
  | ⟨d, g, .pick x y z⟩ :: l, done, s => match g with
    | none => GoD1 (semI P gl ch0 d (.pick x y z) (evT gl s.T) s.G) d s (nt A done [] (RwD l))
    | some (t, w) => Gd (boolV (s.T t)) w fun γ => GoD2 γ (semI P gl ch0 d (.pick x y z) (evT gl s.T) s.G) d s (nt A done [] (RwD l))
  | ⟨d, g, .call f xs⟩ :: l, done, s => CallStep P gl ⟨d, g, .call f xs⟩ s (ntc A done (RwD l))
  | ⟨d, g, i⟩ :: l, done, s => match g with
    | none => gAll true (evT gl s.T) (opsOf i) ∧ GoD1 (semI P gl ch0 d i (evS gl s.T) s.G) d s (nt A done (touchS gl s.T d i) (RwD l))
    | some (t, w) => Gd (boolV (s.T t)) w fun γ => gAll γ (evT gl s.T) (opsOf i) ∧ GoD2 γ (semI P gl ch0 d i (evS gl s.T) s.G) d s (nt A done (touchS gl s.T d i) (RwD l))
end
theorem nt_mk (A : List Nat) (done : List (List Nat × List Nat)) (fp wr : List Nat) (F : List (List Nat × List Nat) → St → Prop) (s : St) : nt A done fp F wr s = (dck (A.getD done.length 0) done fp wr = true ∧ F (done ++ [(fp, wr)]) s) := rfl
theorem ntc_mk (A : List Nat) (done : List (List Nat × List Nat)) (fp wr : List Nat) (F : List (List Nat × List Nat) → St → Prop) (s : St) : ntc A done F fp wr s = (dck (A.getD done.length 0) done fp wr = true ∧ F (done ++ [(fp, wr)]) s) := rfl
theorem touch_quiet {d : Option Nat} {i : Ins} {ev : Od → Va} (h : quietI i = true) : touchI ch0 d i ev = [] := by
  cases i <;> first | rfl | (simp [quietI] at h)
theorem touch_strip {d : Option Nat} {g : Option (Nat × Bool)} {i : Ins} {T : Nat → Va} (h : quietI i = false) : touchO gl ch0 ⟨d, g, i⟩ T = touchS gl T d i := by
  unfold touchO touchS
  have : bareI ⟨d, g, i⟩ = false := by cases i <;> first | rfl | (simp [quietI] at h)
  have : evO gl T ⟨d, g, i⟩ = evS gl T := by funext od; unfold evO evS; rw [this]; simp
  rw [this]
theorem RwD.rg {A : List Nat} : ∀ {q : List Opn} {done : List (List Nat × List Nat)} {s : St}, RwD P gl N k R keep A q done s → RgD P gl N k R keep A done q s
  | [], done, s, h => h
  | ⟨d, g, i⟩ :: l, done, s, h => by
    have hnone : ∀ (i : Ins) (fp : List Nat), g = none → isCall i = false → (bareI ⟨d, g, i⟩ = true ∨ ∀ od, od ∈ opsOf i → gOk true (evT gl s.T od)) → (outO P gl ch0 ⟨d, g, i⟩ s).ob → touchO gl ch0 ⟨d, g, i⟩ s.T = fp → dck (A.getD done.length 0) done fp ((outO P gl ch0 ⟨d, g, i⟩ s).ef.map (·.1)) = true →
        RgD P gl N k R keep A (done ++ [(fp, (outO P gl ch0 ⟨d, g, i⟩ s).ef.map (·.1))]) l ⟨putT s.T d (outO P gl ch0 ⟨d, g, i⟩ s).v, apG s.G (outO P gl ch0 ⟨d, g, i⟩ s).ef⟩ → RgD P gl N k R keep A done (⟨d, g, i⟩ :: l) s := by
      rintro i fp rfl hc h1 h2 h4 h5 h3
      unfold RgD
      rw [if_neg (by simp [hc]), h4]
      exact ⟨okO_none rfl h1 h2, dck_of h5, h3⟩
    have hsome : ∀ (i : Ins) (fp : List Nat) (t : Nat) (w g1 p : Bool), g = some (t, w) → isCall i = false → boolV (s.T t) = some (g1, p) → (bareI ⟨d, g, i⟩ = true ∨ ∀ od, od ∈ opsOf i → gOk (g1 && (if w then p else !p)) (evT gl s.T od)) → ((g1 && (if w then p else !p)) = true → (outO P gl ch0 ⟨d, g, i⟩ s).ob) →
        ((outO P gl ch0 ⟨d, g, i⟩ s).ef = [] ∨ (g1 && (if w then p else !p)) = true) → touchO gl ch0 ⟨d, g, i⟩ s.T = fp → dck (A.getD done.length 0) done fp ((outO P gl ch0 ⟨d, g, i⟩ s).ef.map (·.1)) = true →
        RgD P gl N k R keep A (done ++ [(fp, (outO P gl ch0 ⟨d, g, i⟩ s).ef.map (·.1))]) l ⟨putT s.T d (.gv (g1 && (if w then p else !p)) (outO P gl ch0 ⟨d, g, i⟩ s).v), apG s.G (outO P gl ch0 ⟨d, g, i⟩ s).ef⟩ → RgD P gl N k R keep A done (⟨d, g, i⟩ :: l) s := by
      rintro i fp t w g1 p rfl hc hb h1 h2 h3 h5 h6 h4
      unfold RgD
      rw [if_neg (by simp [hc]), h5]
      have e : nextO P gl ch0 ⟨d, some (t, w), i⟩ s = ⟨putT s.T d (.gv (g1 && (if w then p else !p)) (outO P gl ch0 ⟨d, some (t, w), i⟩ s).v), apG s.G (outO P gl ch0 ⟨d, some (t, w), i⟩ s).ef⟩ := by
        simp only [nextO, valO, gval, hb, Option.getD_some]
      rw [e]
      exact ⟨okO_some rfl hb h1 h2 h3, dck_of h6, h4⟩
    cases i with
    | mv x =>
      cases g with
      | none => exact hnone (.mv x) [] rfl rfl (.inl rfl) trivial (touch_quiet rfl) rfl (RwD.rg h)
      | some p =>
        obtain ⟨t, w⟩ := p
        simp only [RwD] at h
        obtain ⟨g1, p, hb, h1, h2⟩ := Gd.of h
        refine hsome (.mv x) [] t w g1 p rfl rfl hb (.inr ?_) (fun _ => trivial) (.inl rfl) (touch_quiet rfl) rfl (RwD.rg h2)
        intro od hod
        simp only [opsOf, List.mem_singleton] at hod
        subst hod; exact h1
    | pick x y z =>
      cases g with
      | none =>
        simp only [RwD] at h
        obtain ⟨h1, h2, h3⟩ := h
        exact hnone (.pick x y z) [] rfl rfl (.inl rfl) h1 (touch_quiet rfl) h2 (RwD.rg h3)
      | some p =>
        obtain ⟨t, w⟩ := p
        simp only [RwD] at h
        obtain ⟨g1, p, hb, h1, h2, h3, h4⟩ := Gd.of h
        exact hsome (.pick x y z) [] t w g1 p rfl rfl hb (.inl rfl) h1 h2 (touch_quiet rfl) h3 (RwD.rg h4)
    | call f xs =>
      simp only [RwD] at h
      obtain ⟨c, h1, h2, h3⟩ := h
      unfold RgD
      rw [if_pos (by rfl)]
      exact ⟨c, h1, dck_of h2, RwD.rg h3⟩
    | _ =>
      cases g with
      | none =>
        simp only [RwD] at h
        obtain ⟨h1, h2, h3, h4⟩ := h
        exact hnone _ _ rfl rfl (.inr (gAll_mem h1)) h2 (touch_strip rfl) h3 (RwD.rg h4)
      | some p =>
        obtain ⟨t, w⟩ := p
        simp only [RwD] at h
        obtain ⟨g1, p, hb, h1, h2, h3, h4, h5⟩ := Gd.of h
        exact hsome _ _ t w g1 p rfl rfl hb (.inr (gAll_mem h1)) h2 h3 (touch_strip rfl) h4 (RwD.rg h5)
theorem RwD.walk {A : List Nat} {q : List Opn} (h : RwD P gl N k R keep A q [] s) : W P gl N (.c (.reg q (some A) keep) :: k) s R := h.rg.walk
section
variable {d : Option Nat} {g : Option (Nat × Bool)} {i : Ins} {l : List Opn} {A : List Nat} {done : List (List Nat × List Nat)}
theorem RwD_nil : RwD P gl N k R keep A [] done s = W P gl N k (pr keep s) R := rfl
theorem RwD_mv (x : Od) : RwD P gl N k R keep A (⟨d, none, .mv x⟩ :: l) done s = RwD P gl N k R keep A l (done ++ [([], [])]) ⟨putT s.T d (evT gl s.T x), s.G⟩ := by simp only [RwD]
theorem RwD_mvg (x : Od) (t : Nat) (w : Bool) : RwD P gl N k R keep A (⟨d, some (t, w), .mv x⟩ :: l) done s = Gd (boolV (s.T t)) w fun γ => gOk γ (evT gl s.T x) ∧ RwD P gl N k R keep A l (done ++ [([], [])]) ⟨putT s.T d (.gv γ (stripV (evT gl s.T x))), s.G⟩ := by simp only [RwD]
theorem RwD_pick (x y z : Od) : RwD P gl N k R keep A (⟨d, none, .pick x y z⟩ :: l) done s = GoD1 (semI P gl ch0 d (.pick x y z) (evT gl s.T) s.G) d s (nt A done [] (RwD P gl N k R keep A l)) := by simp only [RwD]
theorem RwD_pickg (x y z : Od) (t : Nat) (w : Bool) : RwD P gl N k R keep A (⟨d, some (t, w), .pick x y z⟩ :: l) done s = Gd (boolV (s.T t)) w fun γ => GoD2 γ (semI P gl ch0 d (.pick x y z) (evT gl s.T) s.G) d s (nt A done [] (RwD P gl N k R keep A l)) := by simp only [RwD]
theorem RwD_call (f : Od) (xs : List Od) : RwD P gl N k R keep A (⟨d, g, .call f xs⟩ :: l) done s = CallStep P gl ⟨d, g, .call f xs⟩ s (ntc A done (RwD P gl N k R keep A l)) := by simp only [RwD]
theorem RwD_op (hq : (quietI i || isCall i) = false) : RwD P gl N k R keep A (⟨d, none, i⟩ :: l) done s = (gAll true (evT gl s.T) (opsOf i) ∧ GoD1 (semI P gl ch0 d i (evS gl s.T) s.G) d s (nt A done (touchS gl s.T d i) (RwD P gl N k R keep A l))) := by
  cases i <;> first | (simp [quietI, isCall] at hq; done) | simp only [RwD]
theorem RwD_opg (t : Nat) (w : Bool) (hq : (quietI i || isCall i) = false) : RwD P gl N k R keep A (⟨d, some (t, w), i⟩ :: l) done s = Gd (boolV (s.T t)) w fun γ => gAll γ (evT gl s.T) (opsOf i) ∧ GoD2 γ (semI P gl ch0 d i (evS gl s.T) s.G) d s (nt A done (touchS gl s.T d i) (RwD P gl N k R keep A l)) := by
  cases i <;> first | (simp [quietI, isCall] at hq; done) | simp only [RwD]
end
theorem Imp.lk (lT : List (Nat × Va)) (lG : List (Nat × Ent)) (hT : allT s.T lT) (hG : allE s.G lG) (hrT : lT.all (fun p => refsV (lG.map (·.1)) p.2) = true) (hrG : lG.all (fun p => p.2.rows.all (refsC (refsIn (lG.map (·.1)) 4))) = true) : Imp gl N s ⟨lkT lT, lkG lG⟩ := by
  rw [← lkT_mk, ← lkG_mk]
  exact Imp.to lT lG hT hG hrT hrG
theorem conv_d (F : List Nat) (G : Hf) (n : Nat) (x : Sc) : conv F G n (.d x) = some x := by cases n <;> rfl
theorem convC_d (F : List Nat) (G : Hf) (n : Nat) : ∀ l : List Sc, convC (conv F G n) (l.map Lc.d) = some l
  | [] => rfl
  | x :: l => by rw [List.map_cons, convC, conv_d, convC_d F G n l]
theorem convR_d (F : List Nat) (G : Hf) (n : Nat) : ∀ l : List (List Sc), convR (conv F G n) (l.map fun r => r.map Lc.d) = some l
  | [] => rfl
  | x :: l => by rw [List.map_cons, convR, convC_d, convR_d F G n l]
theorem argsV_caps (F : List Nat) (G : Hf) (n : Nat) : ∀ l : List Sc, argsV F G n (l.map fun x => .b (.s (.d x))) = some (l.map fun x => .b (.s (.d x)))
  | [] => rfl
  | x :: l => by rw [List.map_cons, argsV, conv_d, argsV_caps F G n l]
theorem getD_mem {α : Type} {l : List α} {i : Nat} {d : α} (h : i < l.length) : l.getD i d ∈ l := by
  simp only [List.getD, List.getElem?_eq_getElem h, Option.getD_some]
  exact List.getElem_mem h
theorem i64_in {n : Int} (h0 : -9223372036854775808 ≤ n) (h1 : n ≤ 9223372036854775807) : IntKind.i64.wrap n = n := IntWalk.i64_in n ⟨h0, h1⟩
theorem drop_get {α : Type} (l : List α) (i : Nat) (d : α) (h : i < l.length) : l.drop i = l.getD i d :: l.drop (i + 1) := by
  rw [List.drop_eq_getElem_cons h]; simp [List.getD, List.getElem?_eq_getElem h]
theorem W.cut {κ : Type} (st' : κ → St) (h1 : ∀ j, W P gl N k (st' j) R) {x : C} (h2 : (∀ j, W P gl N k (st' j) R) → W P gl N (.c x :: k) s R) : W P gl N (.c x :: k) s R := h2 h1
/-- A cell, of which less is known. -/
def den : Lc → Lc
  | .full rows => .d (.sl rows)
  | .nn rows => .d (.sl rows)
  | .nils => .d (.sl [])
  | x => x
theorem RepL.den {w : World} {S : Nat → Prop} {ρ : Nat → Option Nat} {G : Hf} {x : Lc} {u : Value} (h : RepL w S ρ G x u) : RepL w S ρ G (den x) u := by
  cases h with
  | d x u h => exact .d _ _ h
  | full rows a h => exact .d _ _ h
  | nn rows q c h => exact .d _ _ h
  | nils => exact .d _ _ (.sl [] none 0 0 0 0 (fun _ => undef) (Nat.le_refl _) (fun _ => rfl) (by simp) (fun h => absurd rfl h) (fun j sc hj => by simp at hj) (fun j sc hj => by simp at hj))
  | own i n e u hG hn hone h => exact .own i n e u hG hn hone h
  | ptr i n r o e u hG hn hone h => exact .ptr i n r o e u hG hn hone h
  | clo f caps vs hl hu => exact .clo f caps vs hl hu
/-- A row of the call's own, of which less is known. -/
theorem Imp.den {e : Ent} (i : Nat) (hi : s.G i = some e) : Imp gl N s ⟨s.T, updG s.G i ⟨e.st, e.rows.map fun r => r.map den, e.fz⟩⟩ := by
  intro base a w S ρ hr
  have hE : Ext w S ρ s.G w S ρ (updG s.G i ⟨e.st, e.rows.map fun r => r.map V.den, e.fz⟩) := by
    refine ⟨fun _ h => h, fun _ _ => rfl, fun j x hj => ?_, fun j b arr ty fz _ h => ⟨arr, ty, fz, h, Nat.le_refl _⟩⟩
    by_cases hji : j = i
    · subst hji
      rw [hi] at hj
      cases hj
      exact ⟨⟨e.st, e.rows.map fun r => r.map V.den, e.fz⟩, by simp [updG], rfl, .inl ⟨by simp, rfl⟩⟩
    · exact ⟨x, by simp [updG, hji, hj], rfl, .inl ⟨rfl, rfl⟩⟩
  refine ⟨S, ρ, ⟨⟨fun j x hj => ?_, hr.hr.inj, hr.hr.own, fun j b hj => ?_, hr.hr.lt⟩, hr.le, hr.gl, hr.size, fun t => (hr.tmps t).mono hE, hr.defers⟩, fun k hk => .inl hk⟩
  · by_cases hji : j = i
    · subst hji
      have hx : (⟨e.st, e.rows.map fun r => r.map V.den, e.fz⟩ : Ent) = x := by simpa [updG] using hj
      subst hx
      obtain ⟨h1, h2⟩ := hr.hr.blk j e hi
      refine ⟨fun r hr2 => ?_, ?_⟩
      · obtain ⟨q, hq, rfl⟩ := List.mem_map.1 hr2
        simpa using h1 q hq
      · rcases h2 with ⟨h2, h3⟩ | ⟨b, arr, ty, fz, h2, h3, h4, h5, h6⟩
        · exact .inl ⟨h2, by simp [h3]⟩
        · refine .inr ⟨b, arr, ty, fz, h2, h3, h4, h5, fun k lc hk => ?_⟩
          rw [show (e.rows.map fun r => r.map V.den).flatten = e.rows.flatten.map V.den by rw [List.map_flatten], List.getElem?_map, Option.map_eq_some_iff] at hk
          obtain ⟨lc0, hk, rfl⟩ := hk
          obtain ⟨u, h7, h8⟩ := h6 k lc0 hk
          exact ⟨u, h7, (h8.mono hE).den⟩
    · have hj2 : s.G j = some x := by simpa [updG, hji] using hj
      obtain ⟨h1, h2⟩ := hr.hr.blk j x hj2
      refine ⟨h1, ?_⟩
      rcases h2 with h2 | ⟨b, arr, ty, fz, h2, h3, h4, h5, h6⟩
      · exact .inl h2
      · refine .inr ⟨b, arr, ty, fz, h2, h3, h4, h5, fun k lc hk => ?_⟩
        obtain ⟨u, h7, h8⟩ := h6 k lc hk
        exact ⟨u, h7, h8.mono hE⟩
  · show updG s.G i _ j ≠ none
    have := hr.hr.dom j b hj
    unfold updG
    split
    · intro h; cases h
    · exact this
theorem getD_map {α β : Type} (f : α → β) (l : List α) (i : Nat) (d : α) (d' : β) (h : i < l.length) : (l.map f).getD i d' = f (l.getD i d) := by
  simp [List.getD, List.getElem?_eq_getElem h]
theorem map_len {α : Type} (f : α → List Sc) (n : Nat) (h : ∀ x, (f x).length = n) (l : List α) : ∀ r, r ∈ l.map f → r.length = n := by
  intro r hr
  obtain ⟨x, _, rfl⟩ := List.mem_map.1 hr
  exact h x
theorem refs_d (K : List Nat) (n : Nat) : ∀ l : List Sc, refsC (refsIn K n) (l.map Lc.d) = true
  | [] => rfl
  | x :: l => by rw [List.map_cons, refsC, refs_d K n l]; simp only [refsIn, Bool.and_self]
theorem refsR_d (K : List Nat) (n : Nat) (l : List (List Sc)) : (l.map fun r => r.map Lc.d).all (refsC (refsIn K n)) = true := by
  simp [List.all_eq_true, refs_d]
theorem own_at {α : Type} (f : α → List Sc) (l : List α) (i : Nat) (d : α) (h : i < l.length) : ((l.map f).map fun r => r.map Lc.d)[i]? = some ((f (l.getD i d)).map Lc.d) := by
  simp [List.getD, List.getElem?_eq_getElem h]
theorem own_set {α : Type} (f : α → List Sc) (l : List α) (i : Nat) (x : α) : ((l.map f).map fun r => r.map Lc.d).set i ((f x).map Lc.d) = ((l.set i x).map f).map fun r => r.map Lc.d := by
  rw [List.map_set, List.map_set]
end Go.Proofs.Ytjpomfbkfgkifaa.V
end

section
/- All words in which simp goes through a walk, as one. -/
namespace Go.Proofs.Ytjpomfbkfgkifaa.V
open Go Go.RowKit
set_option linter.unusedVariables false
set_option linter.unusedSimpArgs false
theorem wk0 : type_of% (And.intro @Rw_nil (And.intro @Rw_mv (And.intro @Rw_mvg (And.intro @Rw_pick (And.intro @Rw_pickg (And.intro @Rw_call (And.intro @RwD_nil (And.intro @RwD_mv (And.intro @RwD_mvg (And.intro @RwD_pick (And.intro @RwD_pickg (@RwD_call)))))))))))) := And.intro @Rw_nil (And.intro @Rw_mv (And.intro @Rw_mvg (And.intro @Rw_pick (And.intro @Rw_pickg (And.intro @Rw_call (And.intro @RwD_nil (And.intro @RwD_mv (And.intro @RwD_mvg (And.intro @RwD_pick (And.intro @RwD_pickg (@RwD_call)))))))))))
theorem wk1 : type_of% (And.intro @Go1_mk (And.intro @Go2_mk (And.intro @GoD1_mk (And.intro @GoD2_mk (And.intro @Gd_some (And.intro @nx_mk (And.intro @nt_mk (And.intro @ntc_mk (And.intro @dck_nil (And.intro @dck_fp (And.intro @dck_wr (@List.flatMap_cons.{0, 0})))))))))))) := And.intro @Go1_mk (And.intro @Go2_mk (And.intro @GoD1_mk (And.intro @GoD2_mk (And.intro @Gd_some (And.intro @nx_mk (And.intro @nt_mk (And.intro @ntc_mk (And.intro @dck_nil (And.intro @dck_fp (And.intro @dck_wr (@List.flatMap_cons.{0, 0})))))))))))
theorem wk2 : type_of% (And.intro @List.flatMap_nil.{0, 0} (And.intro @Option.toList_some.{0} (And.intro @Option.toList_none.{0} (And.intro @putT_lk (And.intro @putT_no (And.intro @lkT_upd (And.intro @lkG_upd (And.intro @lkT_nil (And.intro @lkT_cons (And.intro @lkG_nil (And.intro @lkG_cons (@pr_lk)))))))))))) := And.intro @List.flatMap_nil.{0, 0} (And.intro @Option.toList_some.{0} (And.intro @Option.toList_none.{0} (And.intro @putT_lk (And.intro @putT_no (And.intro @lkT_upd (And.intro @lkG_upd (And.intro @lkT_nil (And.intro @lkT_cons (And.intro @lkG_nil (And.intro @lkG_cons (@pr_lk)))))))))))
theorem wk3 : type_of% (And.intro @start_lk (And.intro @List.map_cons.{0, 0} (And.intro @List.map_nil.{0, 0} (And.intro @List.length_cons.{0} (And.intro @List.length_nil.{0} (And.intro @List.length_map.{0, 0} (And.intro @List.nil_append.{0} (And.intro @List.cons_append.{0} (And.intro @List.take_succ_cons.{0} (And.intro @List.take_zero.{0} (And.intro @List.take_nil.{0} (@List.drop_succ_cons.{0})))))))))))) := And.intro @start_lk (And.intro @List.map_cons.{0, 0} (And.intro @List.map_nil.{0, 0} (And.intro @List.length_cons.{0} (And.intro @List.length_nil.{0} (And.intro @List.length_map.{0, 0} (And.intro @List.nil_append.{0} (And.intro @List.cons_append.{0} (And.intro @List.take_succ_cons.{0} (And.intro @List.take_zero.{0} (And.intro @List.take_nil.{0} (@List.drop_succ_cons.{0})))))))))))
theorem wk4 : type_of% (And.intro @List.drop_zero.{0} (And.intro @List.drop_nil.{0} (And.intro @List.getD_cons_zero.{0} (And.intro @List.getD_cons_succ.{0} (And.intro @List.getElem?_cons_zero.{0} (And.intro @List.getElem?_cons_succ.{0} (And.intro @List.set_cons_zero.{0} (And.intro @List.set_cons_succ.{0} (And.intro @List.contains_cons.{0} (And.intro @List.contains_nil.{0} (And.intro @List.not_mem_nil.{0} (@List.mem_cons.{0})))))))))))) := And.intro @List.drop_zero.{0} (And.intro @List.drop_nil.{0} (And.intro @List.getD_cons_zero.{0} (And.intro @List.getD_cons_succ.{0} (And.intro @List.getElem?_cons_zero.{0} (And.intro @List.getElem?_cons_succ.{0} (And.intro @List.set_cons_zero.{0} (And.intro @List.set_cons_succ.{0} (And.intro @List.contains_cons.{0} (And.intro @List.contains_nil.{0} (And.intro @List.not_mem_nil.{0} (@List.mem_cons.{0})))))))))))
theorem wk5 : type_of% (And.intro @Option.map_some.{0, 0} (And.intro @Option.map_none.{0, 0} (And.intro @Option.isNone_none.{0} (And.intro @Option.isNone_some.{0} (And.intro @Option.isSome_some.{0} (And.intro @Option.isSome_none.{0} (And.intro @Option.getD_some.{0} (And.intro @Nat.zero_add (And.intro @Nat.add_zero (And.intro @Nat.succ_ne_zero (And.intro @Nat.le_refl (@Bool.cond_false_right)))))))))))) := And.intro @Option.map_some.{0, 0} (And.intro @Option.map_none.{0, 0} (And.intro @Option.isNone_none.{0} (And.intro @Option.isNone_some.{0} (And.intro @Option.isSome_some.{0} (And.intro @Option.isSome_none.{0} (And.intro @Option.getD_some.{0} (And.intro @Nat.zero_add (And.intro @Nat.add_zero (And.intro @Nat.succ_ne_zero (And.intro @Nat.le_refl (@Bool.cond_false_right)))))))))))
theorem wk6 : type_of% (And.intro @Bool.cond_true_right (And.intro @Bool.cond_true_left (And.intro @Bool.cond_false_left (And.intro @Bool.true_and (And.intro @Bool.and_true (And.intro @Bool.or_self (And.intro @Bool.or_false (And.intro @Bool.or_true (And.intro @Bool.true_or (And.intro @Bool.false_or (And.intro @Bool.false_and (@Bool.and_false)))))))))))) := And.intro @Bool.cond_true_right (And.intro @Bool.cond_true_left (And.intro @Bool.cond_false_left (And.intro @Bool.true_and (And.intro @Bool.and_true (And.intro @Bool.or_self (And.intro @Bool.or_false (And.intro @Bool.or_true (And.intro @Bool.true_or (And.intro @Bool.false_or (And.intro @Bool.false_and (@Bool.and_false)))))))))))
theorem wk7 : type_of% (And.intro @Bool.not_true (And.intro @Bool.not_false (And.intro @Bool.not_not (And.intro @Bool.false_eq_true (And.intro @true_and (And.intro @and_true (And.intro @true_or (And.intro @or_true (And.intro @false_or (And.intro @or_false (And.intro @true_implies (@false_implies)))))))))))) := And.intro @Bool.not_true (And.intro @Bool.not_false (And.intro @Bool.not_not (And.intro @Bool.false_eq_true (And.intro @true_and (And.intro @and_true (And.intro @true_or (And.intro @or_true (And.intro @false_or (And.intro @or_false (And.intro @true_implies (@false_implies)))))))))))
theorem wk8 : type_of% (And.intro @and_self (And.intro @or_self (And.intro @not_true_eq_false (And.intro @not_false_eq_true (And.intro @Option.some.injEq.{0} (And.intro @List.all_nil.{0} (And.intro @List.all_cons.{0} (And.intro @List.flatten_cons.{0} (And.intro @List.flatten_nil.{0} (And.intro @List.append_nil.{0} (And.intro @List.forall_mem_cons.{0} (@List.any_nil.{0})))))))))))) := And.intro @and_self (And.intro @or_self (And.intro @not_true_eq_false (And.intro @not_false_eq_true (And.intro @Option.some.injEq.{0} (And.intro @List.all_nil.{0} (And.intro @List.all_cons.{0} (And.intro @List.flatten_cons.{0} (And.intro @List.flatten_nil.{0} (And.intro @List.append_nil.{0} (And.intro @List.forall_mem_cons.{0} (@List.any_nil.{0})))))))))))
theorem wk9 : type_of% (And.intro @List.any_cons.{0} (And.intro @imp_self (And.intro @Bool.not_eq_true' (And.intro @Bool.not_eq_false' (And.intro @Int.toNat_zero (And.intro @Int.ofNat_eq_natCast (And.intro @conv_d (And.intro @convC_d (And.intro @convR_d (And.intro @argsV_caps (And.intro @refs_d (@refsR_d)))))))))))) := And.intro @List.any_cons.{0} (And.intro @imp_self (And.intro @Bool.not_eq_true' (And.intro @Bool.not_eq_false' (And.intro @Int.toNat_zero (And.intro @Int.ofNat_eq_natCast (And.intro @conv_d (And.intro @convC_d (And.intro @convR_d (And.intro @argsV_caps (And.intro @refs_d (@refsR_d)))))))))))
theorem wk10 : type_of% (And.intro @Int.toNat_natCast (And.intro @Va.b.injEq (And.intro @Vb.s.injEq (And.intro @Nat.zero_mul (And.intro @List.filterMap_nil.{0, 0} (And.intro @List.filterMap_cons.{0, 0} (@List.length_replicate.{0}))))))) := And.intro @Int.toNat_natCast (And.intro @Va.b.injEq (And.intro @Vb.s.injEq (And.intro @Nat.zero_mul (And.intro @List.filterMap_nil.{0, 0} (And.intro @List.filterMap_cons.{0, 0} (@List.length_replicate.{0}))))))
end Go.Proofs.Ytjpomfbkfgkifaa.V
end

section
/- slices.IndexFunc, slices.ContainsFunc at this program's types. -/
namespace Go.Proofs.Ytjpomfbkfgkifaa.V
open Go Go.RowKit
set_option linter.unusedVariables false
set_option linter.unusedSimpArgs false
def c40r0 : List Opn := [
  ⟨(some 4), none, .mv (.c (.s (.d (.int .i64 0))))⟩]
def c40r1 : List Opn := [
  ⟨(some 6), none, .mv (.t 0)⟩, 
  ⟨(some 7), none, .len (.sl 0) (.t 6)⟩, 
  ⟨(some 8), none, .mv (.c (.s (.d (.int .i64 0))))⟩]
def c40r2 : List Opn := [
  ⟨(some 9), none, .bin .lss (.t 8) (.t 7)⟩]
def c40r3 : List Opn := [
  ⟨(some 10), none, .mv (.t 8)⟩, 
  ⟨(some 5), none, .mv (.t 10)⟩]
def c40r4 : List Opn := [
  ⟨(some 11), none, .mv (.t 1)⟩, 
  ⟨(some 12), none, .mv (.t 0)⟩, 
  ⟨(some 13), none, .mv (.t 5)⟩, 
  ⟨(some 14), none, .iadr (.sl 2) (.t 12) (.t 13)⟩, 
  ⟨(some 15), none, .load true 2 (.t 14)⟩, 
  ⟨(some 16), none, .call (.t 11) [(.t 15)]⟩]
def c40r5 : List Opn := [
  ⟨(some 17), none, .mv (.t 5)⟩, 
  ⟨(some 4), none, .mv (.t 17)⟩]
def c40r6 : List Opn := [
  ⟨(some 18), none, .bin .add (.t 8) (.c (.s (.d (.int .i64 1))))⟩, 
  ⟨(some 8), none, .mv (.t 18)⟩]
def c40l7 : C := .seq (.reg c40r2 none [0, 1, 7, 8, 9]) (.seq (.cond (.t 9) (.skip) (.exit 0)) (.seq (.blk 1 (.seq (.reg c40r3 none [0, 1, 5, 7, 8]) (.seq (.reg c40r4 none [0, 1, 5, 7, 8, 16]) (.cond (.t 16) (.seq (.reg c40r5 none [4]) (.ret)) (.skip))))) (.reg c40r6 none [0, 1, 7, 8])))
def c40r7 : List Opn := [
  ⟨(some 4), none, .mv (.c (.s (.d (.int .i64 (-1)))))⟩]
def c40 : C := .seq (.reg c40r0 none [0, 1]) (.seq (.seq (.reg c40r1 none [0, 1, 7, 8]) (.blk 0 (.loop c40l7))) (.seq (.reg c40r7 none [4]) (.ret)))
def k40 : List (Nat × List Nat) := [(7, [4]), (6, [0, 1, 7, 8]), (5, [4]), (4, [0, 1, 5, 7, 8, 16]), (3, [0, 1, 5, 7, 8]), (2, [0, 1, 7, 8, 9]), (1, [0, 1, 7, 8]), (0, [0, 1])]
theorem cc40 : (Try.f40.body).bind (cC Try.prog 19 k40) = some c40 := by kernel_rfl
def rv40 : List RV := [.t 4]
theorem cr40 : cRVs Try.prog Try.f40.results.toList = some rv40 := by kernel_rfl
def c39r0 : List Opn := [
  ⟨(some 4), none, .mv (.c (.s (.d (.int .i64 0))))⟩]
def c39r1 : List Opn := [
  ⟨(some 6), none, .mv (.t 0)⟩, 
  ⟨(some 7), none, .len (.sl 0) (.t 6)⟩, 
  ⟨(some 8), none, .mv (.c (.s (.d (.int .i64 0))))⟩]
def c39r2 : List Opn := [
  ⟨(some 9), none, .bin .lss (.t 8) (.t 7)⟩]
def c39r3 : List Opn := [
  ⟨(some 10), none, .mv (.t 8)⟩, 
  ⟨(some 5), none, .mv (.t 10)⟩]
def c39r4 : List Opn := [
  ⟨(some 11), none, .mv (.t 1)⟩, 
  ⟨(some 12), none, .mv (.t 0)⟩, 
  ⟨(some 13), none, .mv (.t 5)⟩, 
  ⟨(some 14), none, .iadr (.sl 1) (.t 12) (.t 13)⟩, 
  ⟨(some 15), none, .load false 1 (.t 14)⟩, 
  ⟨(some 16), none, .call (.t 11) [(.t 15)]⟩]
def c39r5 : List Opn := [
  ⟨(some 17), none, .mv (.t 5)⟩, 
  ⟨(some 4), none, .mv (.t 17)⟩]
def c39r6 : List Opn := [
  ⟨(some 18), none, .bin .add (.t 8) (.c (.s (.d (.int .i64 1))))⟩, 
  ⟨(some 8), none, .mv (.t 18)⟩]
def c39l7 : C := .seq (.reg c39r2 none [0, 1, 7, 8, 9]) (.seq (.cond (.t 9) (.skip) (.exit 0)) (.seq (.blk 1 (.seq (.reg c39r3 none [0, 1, 5, 7, 8]) (.seq (.reg c39r4 none [0, 1, 5, 7, 8, 16]) (.cond (.t 16) (.seq (.reg c39r5 none [4]) (.ret)) (.skip))))) (.reg c39r6 none [0, 1, 7, 8])))
def c39r7 : List Opn := [
  ⟨(some 4), none, .mv (.c (.s (.d (.int .i64 (-1)))))⟩]
def c39 : C := .seq (.reg c39r0 none [0, 1]) (.seq (.seq (.reg c39r1 none [0, 1, 7, 8]) (.blk 0 (.loop c39l7))) (.seq (.reg c39r7 none [4]) (.ret)))
def k39 : List (Nat × List Nat) := [(7, [4]), (6, [0, 1, 7, 8]), (5, [4]), (4, [0, 1, 5, 7, 8, 16]), (3, [0, 1, 5, 7, 8]), (2, [0, 1, 7, 8, 9]), (1, [0, 1, 7, 8]), (0, [0, 1])]
theorem cc39 : (Try.f39.body).bind (cC Try.prog 19 k39) = some c39 := by kernel_rfl
def rv39 : List RV := [.t 4]
theorem cr39 : cRVs Try.prog Try.f39.results.toList = some rv39 := by kernel_rfl
def c30r0 : List Opn := [
  ⟨(some 4), none, .mv (.c (.s (.d (.bool false))))⟩]
def c30r1 : List Opn := [
  ⟨(some 5), none, .mv (.t 0)⟩, 
  ⟨(some 6), none, .mv (.t 1)⟩, 
  ⟨(some 7), none, .call (.fn 40) [(.t 5), (.t 6)]⟩, 
  ⟨(some 8), none, .bin .geq (.t 7) (.c (.s (.d (.int .i64 0))))⟩, 
  ⟨(some 4), none, .mv (.t 8)⟩]
def c30 : C := .seq (.reg c30r0 none [0, 1]) (.seq (.reg c30r1 none [4]) (.ret))
def k30 : List (Nat × List Nat) := [(1, [4]), (0, [0, 1])]
theorem cc30 : (Try.f30.body).bind (cC Try.prog 9 k30) = some c30 := by kernel_rfl
def rv30 : List RV := [.t 4]
theorem cr30 : cRVs Try.prog Try.f30.results.toList = some rv30 := by kernel_rfl
def c29r0 : List Opn := [
  ⟨(some 4), none, .mv (.c (.s (.d (.bool false))))⟩]
def c29r1 : List Opn := [
  ⟨(some 5), none, .mv (.t 0)⟩, 
  ⟨(some 6), none, .mv (.t 1)⟩, 
  ⟨(some 7), none, .call (.fn 39) [(.t 5), (.t 6)]⟩, 
  ⟨(some 8), none, .bin .geq (.t 7) (.c (.s (.d (.int .i64 0))))⟩, 
  ⟨(some 4), none, .mv (.t 8)⟩]
def c29 : C := .seq (.reg c29r0 none [0, 1]) (.seq (.reg c29r1 none [4]) (.ret))
def k29 : List (Nat × List Nat) := [(1, [4]), (0, [0, 1])]
theorem cc29 : (Try.f29.body).bind (cC Try.prog 9 k29) = some c29 := by kernel_rfl
def rv29 : List RV := [.t 4]
theorem cr29 : cRVs Try.prog Try.f29.results.toList = some rv29 := by kernel_rfl
abbrev gl0 : Gl := fun _ => none
/-- Where the first row stands of which p says so. -/
def idxOf' (p : List Sc → Bool) : List (List Sc) → Int → Int
  | [], _ => -1
  | r :: l, i => if p r then i else idxOf' p l (i + 1)
theorem idxOf'_drop (p : List Sc → Bool) (rows : List (List Sc)) (k : Nat) (h : k < rows.length) : idxOf' p (rows.drop k) k = if p (rows.getD k []) then (k : Int) else idxOf' p (rows.drop (k + 1)) (k + 1 : Nat) := by
  have e : rows.drop k = rows.getD k [] :: rows.drop (k + 1) := by
    rw [List.drop_eq_getElem_cons h]; simp [List.getD, List.getElem?_eq_getElem h]
  rw [e, idxOf']; rfl
theorem idxW (rows : List (List Sc)) (fid : FuncId) (caps : List Sc) (p : List Sc → Bool) (hl : rows.length ≤ 9223372036854775807) (hst : ∀ r, r ∈ rows → r.length = 2) (hf : ∀ r, r ∈ rows → Fun Try.prog (fun _ => none) fid (.b (.agg (r.map Lc.d)) :: caps.map fun x => .b (.s (.d x))) (.bo (p r))) :
    Fun Try.prog (fun _ => none) 40 [.b (.s (.d (.sl rows))), .b (.s (.d (.clo fid caps)))] (.i .i64 (idxOf' p rows 0)) := by
  refine fun_walk [] Try.func40 Try.ntmps40 cc40 cr40 (by kernel_rfl) (by simp only [List.length_cons, List.length_nil]; decide) ?_
  simp only [wk0, wk1, wk2, wk3, wk4, wk5, wk6, wk7, wk8, wk9, wk10, Rw_op, Rw_opg, RwD_op, RwD_opg, Bool.cond_true, Bool.cond_false, if_true, if_false, implies_true, forall_const, eq_self, ne_eq, forall_eq, forall_eq', forall_eq_or_imp, exists_eq', bne_self_eq_false, dchk, meets, touchS, touchI, quietI, allocI, isCall, idsV, ch0, Nat.testBit, semI, binS, unS, nilS, aggS, eqLs, eqL, evT, evS, stripV, gOk, gAll, opsOf, boolV, apG, numd, prL, cellsV, isB, out1, fail, fillOb, fillL, replaceAt, rowsV, newV, boundV, intV, lcOf, lcA, scA, Va.bo, Va.i, Va.st, Ret, allOb, rvOut, convB, convBs, convC, convR, conv, unD, Nat.reduceAdd, Nat.reduceSub, Nat.reduceMul, Nat.reduceLeDiff, Nat.reduceEqDiff, Nat.reduceLT, Nat.reduceBEq, reduceIte, reduceCtorEq, Int.reduceToNat, fnV, argsV, touchO, evO, bareI, Nat.reduceShiftRight, Nat.reduceAnd, Nat.reduceBneDiff, Nat.reduceBNe]
  unfold c40
  refine .seq (Rw.walk ?_)
  simp only [wk0, wk1, wk2, wk3, wk4, wk5, wk6, wk7, wk8, wk9, wk10, Rw_op, Rw_opg, RwD_op, RwD_opg, Bool.cond_true, Bool.cond_false, if_true, if_false, implies_true, forall_const, eq_self, ne_eq, forall_eq, forall_eq', forall_eq_or_imp, exists_eq', bne_self_eq_false, dchk, meets, touchS, touchI, quietI, allocI, isCall, idsV, ch0, Nat.testBit, semI, binS, unS, nilS, aggS, eqLs, eqL, evT, evS, stripV, gOk, gAll, opsOf, boolV, apG, numd, prL, cellsV, isB, out1, fail, fillOb, fillL, replaceAt, rowsV, newV, boundV, intV, lcOf, lcA, scA, Va.bo, Va.i, Va.st, Ret, allOb, rvOut, convB, convBs, convC, convR, conv, unD, Nat.reduceAdd, Nat.reduceSub, Nat.reduceMul, Nat.reduceLeDiff, Nat.reduceEqDiff, Nat.reduceLT, Nat.reduceBEq, reduceIte, reduceCtorEq, Int.reduceToNat, fnV, argsV, touchO, evO, bareI, Nat.reduceShiftRight, Nat.reduceAnd, Nat.reduceBneDiff, Nat.reduceBNe, c40r0]
  refine .seq (.seq (Rw.walk ?_))
  simp only [wk0, wk1, wk2, wk3, wk4, wk5, wk6, wk7, wk8, wk9, wk10, Rw_op, Rw_opg, RwD_op, RwD_opg, Bool.cond_true, Bool.cond_false, if_true, if_false, implies_true, forall_const, eq_self, ne_eq, forall_eq, forall_eq', forall_eq_or_imp, exists_eq', bne_self_eq_false, dchk, meets, touchS, touchI, quietI, allocI, isCall, idsV, ch0, Nat.testBit, semI, binS, unS, nilS, aggS, eqLs, eqL, evT, evS, stripV, gOk, gAll, opsOf, boolV, apG, numd, prL, cellsV, isB, out1, fail, fillOb, fillL, replaceAt, rowsV, newV, boundV, intV, lcOf, lcA, scA, Va.bo, Va.i, Va.st, Ret, allOb, rvOut, convB, convBs, convC, convR, conv, unD, Nat.reduceAdd, Nat.reduceSub, Nat.reduceMul, Nat.reduceLeDiff, Nat.reduceEqDiff, Nat.reduceLT, Nat.reduceBEq, reduceIte, reduceCtorEq, Int.reduceToNat, fnV, argsV, touchO, evO, bareI, Nat.reduceShiftRight, Nat.reduceAnd, Nat.reduceBneDiff, Nat.reduceBNe, c40r1]
  refine .blk ?_
  refine W.loops (ι := { i : Nat // i ≤ rows.length ∧ idxOf' p rows 0 = idxOf' p (rows.drop i) i }) (fun i => ⟨lkT [(0, .b (.s (.d (.sl rows)))), (1, .b (.s (.d (.clo fid caps)))), (7, .i .i64 rows.length), (8, .i .i64 i.val)], lkG []⟩) (fun i => rows.length - i.val) ⟨0, by omega, rfl⟩ ?_ ?_
  · refine Imp.lk _ _ ?_ ?_ ?_ ?_
    all_goals
      simp only [wk0, wk1, wk2, wk3, wk4, wk5, wk6, wk7, wk8, wk9, wk10, Rw_op, Rw_opg, RwD_op, RwD_opg, Bool.cond_true, Bool.cond_false, if_true, if_false, implies_true, forall_const, eq_self, ne_eq, forall_eq, forall_eq', forall_eq_or_imp, exists_eq', bne_self_eq_false, dchk, meets, touchS, touchI, quietI, allocI, isCall, idsV, ch0, Nat.testBit, semI, binS, unS, nilS, aggS, eqLs, eqL, evT, evS, stripV, gOk, gAll, opsOf, boolV, apG, numd, prL, cellsV, isB, out1, fail, fillOb, fillL, replaceAt, rowsV, newV, boundV, intV, lcOf, lcA, scA, Va.bo, Va.i, Va.st, Ret, allOb, rvOut, convB, convBs, convC, convR, conv, unD, Nat.reduceAdd, Nat.reduceSub, Nat.reduceMul, Nat.reduceLeDiff, Nat.reduceEqDiff, Nat.reduceLT, Nat.reduceBEq, reduceIte, reduceCtorEq, Int.reduceToNat, fnV, argsV, touchO, evO, bareI, Nat.reduceShiftRight, Nat.reduceAnd, Nat.reduceBneDiff, Nat.reduceBNe, allT, allE, refsV, refsIn, refsC, Int.ofNat_zero, Int.natCast_zero]
  · intro ⟨i, hi, hinv⟩ ih
    unfold c40l7
    refine .seq (Rw.walk ?_)
    simp only [wk0, wk1, wk2, wk3, wk4, wk5, wk6, wk7, wk8, wk9, wk10, Rw_op, Rw_opg, RwD_op, RwD_opg, Bool.cond_true, Bool.cond_false, if_true, if_false, implies_true, forall_const, eq_self, ne_eq, forall_eq, forall_eq', forall_eq_or_imp, exists_eq', bne_self_eq_false, dchk, meets, touchS, touchI, quietI, allocI, isCall, idsV, ch0, Nat.testBit, semI, binS, unS, nilS, aggS, eqLs, eqL, evT, evS, stripV, gOk, gAll, opsOf, boolV, apG, numd, prL, cellsV, isB, out1, fail, fillOb, fillL, replaceAt, rowsV, newV, boundV, intV, lcOf, lcA, scA, Va.bo, Va.i, Va.st, Ret, allOb, rvOut, convB, convBs, convC, convR, conv, unD, Nat.reduceAdd, Nat.reduceSub, Nat.reduceMul, Nat.reduceLeDiff, Nat.reduceEqDiff, Nat.reduceLT, Nat.reduceBEq, reduceIte, reduceCtorEq, Int.reduceToNat, fnV, argsV, touchO, evO, bareI, Nat.reduceShiftRight, Nat.reduceAnd, Nat.reduceBneDiff, Nat.reduceBNe, c40r2]
    by_cases hlt : i < rows.length
    · refine .seq (.cond rfl (fun _ => ?_) (fun h => absurd h (by simp; omega)))
      refine .skip (.seq (.blk ?_))
      refine .seq (Rw.walk ?_)
      simp only [wk0, wk1, wk2, wk3, wk4, wk5, wk6, wk7, wk8, wk9, wk10, Rw_op, Rw_opg, RwD_op, RwD_opg, Bool.cond_true, Bool.cond_false, if_true, if_false, implies_true, forall_const, eq_self, ne_eq, forall_eq, forall_eq', forall_eq_or_imp, exists_eq', bne_self_eq_false, dchk, meets, touchS, touchI, quietI, allocI, isCall, idsV, ch0, Nat.testBit, semI, binS, unS, nilS, aggS, eqLs, eqL, evT, evS, stripV, gOk, gAll, opsOf, boolV, apG, numd, prL, cellsV, isB, out1, fail, fillOb, fillL, replaceAt, rowsV, newV, boundV, intV, lcOf, lcA, scA, Va.bo, Va.i, Va.st, Ret, allOb, rvOut, convB, convBs, convC, convR, conv, unD, Nat.reduceAdd, Nat.reduceSub, Nat.reduceMul, Nat.reduceLeDiff, Nat.reduceEqDiff, Nat.reduceLT, Nat.reduceBEq, reduceIte, reduceCtorEq, Int.reduceToNat, fnV, argsV, touchO, evO, bareI, Nat.reduceShiftRight, Nat.reduceAnd, Nat.reduceBneDiff, Nat.reduceBNe, c40r3]
      refine .seq (Rw.walk ?_)
      simp only [wk0, wk1, wk2, wk3, wk4, wk5, wk6, wk7, wk8, wk9, wk10, Rw_op, Rw_opg, RwD_op, RwD_opg, Bool.cond_true, Bool.cond_false, if_true, if_false, implies_true, forall_const, eq_self, ne_eq, forall_eq, forall_eq', forall_eq_or_imp, exists_eq', bne_self_eq_false, dchk, meets, touchS, touchI, quietI, allocI, isCall, idsV, ch0, Nat.testBit, semI, binS, unS, nilS, aggS, eqLs, eqL, evT, evS, stripV, gOk, gAll, opsOf, boolV, apG, numd, prL, cellsV, isB, out1, fail, fillOb, fillL, replaceAt, rowsV, newV, boundV, intV, lcOf, lcA, scA, Va.bo, Va.i, Va.st, Ret, allOb, rvOut, convB, convBs, convC, convR, conv, unD, Nat.reduceAdd, Nat.reduceSub, Nat.reduceMul, Nat.reduceLeDiff, Nat.reduceEqDiff, Nat.reduceLT, Nat.reduceBEq, reduceIte, reduceCtorEq, Int.reduceToNat, fnV, argsV, touchO, evO, bareI, Nat.reduceShiftRight, Nat.reduceAnd, Nat.reduceBneDiff, Nat.reduceBNe, c40r4]
      have hm : rows.getD i [] ∈ rows := getD_mem hlt
      have hr := hst _ hm
      have htk : (rows.getD i []).take 2 = rows.getD i [] := List.take_of_length_le (by omega)
      rw [htk]
      refine ⟨⟨by omega, by omega, hst⟩, by omega, ?_⟩
      refine call_fun [] false ⟨trivial, trivial, trivial⟩ rfl ?_ (hf _ hm) (fun _ => rfl) (by simp) ?_
      · simp only [wk0, wk1, wk2, wk3, wk4, wk5, wk6, wk7, wk8, wk9, wk10, Rw_op, Rw_opg, RwD_op, RwD_opg, Bool.cond_true, Bool.cond_false, if_true, if_false, implies_true, forall_const, eq_self, ne_eq, forall_eq, forall_eq', forall_eq_or_imp, exists_eq', bne_self_eq_false, dchk, meets, touchS, touchI, quietI, allocI, isCall, idsV, ch0, Nat.testBit, semI, binS, unS, nilS, aggS, eqLs, eqL, evT, evS, stripV, gOk, gAll, opsOf, boolV, apG, numd, prL, cellsV, isB, out1, fail, fillOb, fillL, replaceAt, rowsV, newV, boundV, intV, lcOf, lcA, scA, Va.bo, Va.i, Va.st, Ret, allOb, rvOut, convB, convBs, convC, convR, conv, unD, Nat.reduceAdd, Nat.reduceSub, Nat.reduceMul, Nat.reduceLeDiff, Nat.reduceEqDiff, Nat.reduceLT, Nat.reduceBEq, reduceIte, reduceCtorEq, Int.reduceToNat, fnV, argsV, touchO, evO, bareI, Nat.reduceShiftRight, Nat.reduceAnd, Nat.reduceBneDiff, Nat.reduceBNe]
      simp only [wk0, wk1, wk2, wk3, wk4, wk5, wk6, wk7, wk8, wk9, wk10, Rw_op, Rw_opg, RwD_op, RwD_opg, Bool.cond_true, Bool.cond_false, if_true, if_false, implies_true, forall_const, eq_self, ne_eq, forall_eq, forall_eq', forall_eq_or_imp, exists_eq', bne_self_eq_false, dchk, meets, touchS, touchI, quietI, allocI, isCall, idsV, ch0, Nat.testBit, semI, binS, unS, nilS, aggS, eqLs, eqL, evT, evS, stripV, gOk, gAll, opsOf, boolV, apG, numd, prL, cellsV, isB, out1, fail, fillOb, fillL, replaceAt, rowsV, newV, boundV, intV, lcOf, lcA, scA, Va.bo, Va.i, Va.st, Ret, allOb, rvOut, convB, convBs, convC, convR, conv, unD, Nat.reduceAdd, Nat.reduceSub, Nat.reduceMul, Nat.reduceLeDiff, Nat.reduceEqDiff, Nat.reduceLT, Nat.reduceBEq, reduceIte, reduceCtorEq, Int.reduceToNat, fnV, argsV, touchO, evO, bareI, Nat.reduceShiftRight, Nat.reduceAnd, Nat.reduceBneDiff, Nat.reduceBNe]
      rw [idxOf'_drop p rows i hlt] at hinv
      refine .cond rfl (fun hp => ?_) (fun hp => ?_)
      · refine .seq (Rw.walk ?_)
        simp only [wk0, wk1, wk2, wk3, wk4, wk5, wk6, wk7, wk8, wk9, wk10, Rw_op, Rw_opg, RwD_op, RwD_opg, Bool.cond_true, Bool.cond_false, if_true, if_false, implies_true, forall_const, eq_self, ne_eq, forall_eq, forall_eq', forall_eq_or_imp, exists_eq', bne_self_eq_false, dchk, meets, touchS, touchI, quietI, allocI, isCall, idsV, ch0, Nat.testBit, semI, binS, unS, nilS, aggS, eqLs, eqL, evT, evS, stripV, gOk, gAll, opsOf, boolV, apG, numd, prL, cellsV, isB, out1, fail, fillOb, fillL, replaceAt, rowsV, newV, boundV, intV, lcOf, lcA, scA, Va.bo, Va.i, Va.st, Ret, allOb, rvOut, convB, convBs, convC, convR, conv, unD, Nat.reduceAdd, Nat.reduceSub, Nat.reduceMul, Nat.reduceLeDiff, Nat.reduceEqDiff, Nat.reduceLT, Nat.reduceBEq, reduceIte, reduceCtorEq, Int.reduceToNat, fnV, argsV, touchO, evO, bareI, Nat.reduceShiftRight, Nat.reduceAnd, Nat.reduceBneDiff, Nat.reduceBNe, c40r5]
        refine .ret ?_
        rw [hinv, hp]
        simp only [wk0, wk1, wk2, wk3, wk4, wk5, wk6, wk7, wk8, wk9, wk10, Rw_op, Rw_opg, RwD_op, RwD_opg, Bool.cond_true, Bool.cond_false, if_true, if_false, implies_true, forall_const, eq_self, ne_eq, forall_eq, forall_eq', forall_eq_or_imp, exists_eq', bne_self_eq_false, dchk, meets, touchS, touchI, quietI, allocI, isCall, idsV, ch0, Nat.testBit, semI, binS, unS, nilS, aggS, eqLs, eqL, evT, evS, stripV, gOk, gAll, opsOf, boolV, apG, numd, prL, cellsV, isB, out1, fail, fillOb, fillL, replaceAt, rowsV, newV, boundV, intV, lcOf, lcA, scA, Va.bo, Va.i, Va.st, Ret, allOb, rvOut, convB, convBs, convC, convR, conv, unD, Nat.reduceAdd, Nat.reduceSub, Nat.reduceMul, Nat.reduceLeDiff, Nat.reduceEqDiff, Nat.reduceLT, Nat.reduceBEq, reduceIte, reduceCtorEq, Int.reduceToNat, fnV, argsV, touchO, evO, bareI, Nat.reduceShiftRight, Nat.reduceAnd, Nat.reduceBneDiff, Nat.reduceBNe, rv40]
      · refine .skip (.eblk (Rw.walk ?_))
        simp only [wk0, wk1, wk2, wk3, wk4, wk5, wk6, wk7, wk8, wk9, wk10, Rw_op, Rw_opg, RwD_op, RwD_opg, Bool.cond_true, Bool.cond_false, if_true, if_false, implies_true, forall_const, eq_self, ne_eq, forall_eq, forall_eq', forall_eq_or_imp, exists_eq', bne_self_eq_false, dchk, meets, touchS, touchI, quietI, allocI, isCall, idsV, ch0, Nat.testBit, semI, binS, unS, nilS, aggS, eqLs, eqL, evT, evS, stripV, gOk, gAll, opsOf, boolV, apG, numd, prL, cellsV, isB, out1, fail, fillOb, fillL, replaceAt, rowsV, newV, boundV, intV, lcOf, lcA, scA, Va.bo, Va.i, Va.st, Ret, allOb, rvOut, convB, convBs, convC, convR, conv, unD, Nat.reduceAdd, Nat.reduceSub, Nat.reduceMul, Nat.reduceLeDiff, Nat.reduceEqDiff, Nat.reduceLT, Nat.reduceBEq, reduceIte, reduceCtorEq, Int.reduceToNat, fnV, argsV, touchO, evO, bareI, Nat.reduceShiftRight, Nat.reduceAnd, Nat.reduceBneDiff, Nat.reduceBNe, c40r6]
        rw [hp] at hinv
        refine .weak ?_ (ih ⟨i + 1, by omega, hinv⟩ (by simp; omega))
        refine Imp.lk _ _ ?_ ?_ ?_ ?_
        all_goals
          simp only [wk0, wk1, wk2, wk3, wk4, wk5, wk6, wk7, wk8, wk9, wk10, Rw_op, Rw_opg, RwD_op, RwD_opg, Bool.cond_true, Bool.cond_false, if_true, if_false, implies_true, forall_const, eq_self, ne_eq, forall_eq, forall_eq', forall_eq_or_imp, exists_eq', bne_self_eq_false, dchk, meets, touchS, touchI, quietI, allocI, isCall, idsV, ch0, Nat.testBit, semI, binS, unS, nilS, aggS, eqLs, eqL, evT, evS, stripV, gOk, gAll, opsOf, boolV, apG, numd, prL, cellsV, isB, out1, fail, fillOb, fillL, replaceAt, rowsV, newV, boundV, intV, lcOf, lcA, scA, Va.bo, Va.i, Va.st, Ret, allOb, rvOut, convB, convBs, convC, convR, conv, unD, Nat.reduceAdd, Nat.reduceSub, Nat.reduceMul, Nat.reduceLeDiff, Nat.reduceEqDiff, Nat.reduceLT, Nat.reduceBEq, reduceIte, reduceCtorEq, Int.reduceToNat, fnV, argsV, touchO, evO, bareI, Nat.reduceShiftRight, Nat.reduceAnd, Nat.reduceBneDiff, Nat.reduceBNe, allT, allE, refsV, refsIn, refsC]
        rw [i64_in (by omega) (by omega)]
        rfl
    · refine .seq (.cond rfl (fun h => absurd h (by simp; omega)) (fun _ => ?_))
      refine .exit rfl ?_
      refine .seq (Rw.walk ?_)
      simp only [wk0, wk1, wk2, wk3, wk4, wk5, wk6, wk7, wk8, wk9, wk10, Rw_op, Rw_opg, RwD_op, RwD_opg, Bool.cond_true, Bool.cond_false, if_true, if_false, implies_true, forall_const, eq_self, ne_eq, forall_eq, forall_eq', forall_eq_or_imp, exists_eq', bne_self_eq_false, dchk, meets, touchS, touchI, quietI, allocI, isCall, idsV, ch0, Nat.testBit, semI, binS, unS, nilS, aggS, eqLs, eqL, evT, evS, stripV, gOk, gAll, opsOf, boolV, apG, numd, prL, cellsV, isB, out1, fail, fillOb, fillL, replaceAt, rowsV, newV, boundV, intV, lcOf, lcA, scA, Va.bo, Va.i, Va.st, Ret, allOb, rvOut, convB, convBs, convC, convR, conv, unD, Nat.reduceAdd, Nat.reduceSub, Nat.reduceMul, Nat.reduceLeDiff, Nat.reduceEqDiff, Nat.reduceLT, Nat.reduceBEq, reduceIte, reduceCtorEq, Int.reduceToNat, fnV, argsV, touchO, evO, bareI, Nat.reduceShiftRight, Nat.reduceAnd, Nat.reduceBneDiff, Nat.reduceBNe, c40r7]
      refine .ret ?_
      have e : rows.drop i = [] := List.drop_of_length_le (by omega)
      rw [hinv, e]
      simp only [wk0, wk1, wk2, wk3, wk4, wk5, wk6, wk7, wk8, wk9, wk10, Rw_op, Rw_opg, RwD_op, RwD_opg, Bool.cond_true, Bool.cond_false, if_true, if_false, implies_true, forall_const, eq_self, ne_eq, forall_eq, forall_eq', forall_eq_or_imp, exists_eq', bne_self_eq_false, dchk, meets, touchS, touchI, quietI, allocI, isCall, idsV, ch0, Nat.testBit, semI, binS, unS, nilS, aggS, eqLs, eqL, evT, evS, stripV, gOk, gAll, opsOf, boolV, apG, numd, prL, cellsV, isB, out1, fail, fillOb, fillL, replaceAt, rowsV, newV, boundV, intV, lcOf, lcA, scA, Va.bo, Va.i, Va.st, Ret, allOb, rvOut, convB, convBs, convC, convR, conv, unD, Nat.reduceAdd, Nat.reduceSub, Nat.reduceMul, Nat.reduceLeDiff, Nat.reduceEqDiff, Nat.reduceLT, Nat.reduceBEq, reduceIte, reduceCtorEq, Int.reduceToNat, fnV, argsV, touchO, evO, bareI, Nat.reduceShiftRight, Nat.reduceAnd, Nat.reduceBneDiff, Nat.reduceBNe, rv40, idxOf']
theorem idxS (rows : List (List Sc)) (fid : FuncId) (caps : List Sc) (p : List Sc → Bool) (hl : rows.length ≤ 9223372036854775807) (hst : ∀ r, r ∈ rows → r.length = 1) (hf : ∀ r, r ∈ rows → Fun Try.prog (fun _ => none) fid (.b (.s (.d (r.getD 0 (.bool false)))) :: caps.map fun x => .b (.s (.d x))) (.bo (p r))) :
    Fun Try.prog (fun _ => none) 39 [.b (.s (.d (.sl rows))), .b (.s (.d (.clo fid caps)))] (.i .i64 (idxOf' p rows 0)) := by
  refine fun_walk [] Try.func39 Try.ntmps39 cc39 cr39 (by kernel_rfl) (by simp only [List.length_cons, List.length_nil]; decide) ?_
  simp only [wk0, wk1, wk2, wk3, wk4, wk5, wk6, wk7, wk8, wk9, wk10, Rw_op, Rw_opg, RwD_op, RwD_opg, Bool.cond_true, Bool.cond_false, if_true, if_false, implies_true, forall_const, eq_self, ne_eq, forall_eq, forall_eq', forall_eq_or_imp, exists_eq', bne_self_eq_false, dchk, meets, touchS, touchI, quietI, allocI, isCall, idsV, ch0, Nat.testBit, semI, binS, unS, nilS, aggS, eqLs, eqL, evT, evS, stripV, gOk, gAll, opsOf, boolV, apG, numd, prL, cellsV, isB, out1, fail, fillOb, fillL, replaceAt, rowsV, newV, boundV, intV, lcOf, lcA, scA, Va.bo, Va.i, Va.st, Ret, allOb, rvOut, convB, convBs, convC, convR, conv, unD, Nat.reduceAdd, Nat.reduceSub, Nat.reduceMul, Nat.reduceLeDiff, Nat.reduceEqDiff, Nat.reduceLT, Nat.reduceBEq, reduceIte, reduceCtorEq, Int.reduceToNat, fnV, argsV, touchO, evO, bareI, Nat.reduceShiftRight, Nat.reduceAnd, Nat.reduceBneDiff, Nat.reduceBNe]
  unfold c39
  refine .seq (Rw.walk ?_)
  simp only [wk0, wk1, wk2, wk3, wk4, wk5, wk6, wk7, wk8, wk9, wk10, Rw_op, Rw_opg, RwD_op, RwD_opg, Bool.cond_true, Bool.cond_false, if_true, if_false, implies_true, forall_const, eq_self, ne_eq, forall_eq, forall_eq', forall_eq_or_imp, exists_eq', bne_self_eq_false, dchk, meets, touchS, touchI, quietI, allocI, isCall, idsV, ch0, Nat.testBit, semI, binS, unS, nilS, aggS, eqLs, eqL, evT, evS, stripV, gOk, gAll, opsOf, boolV, apG, numd, prL, cellsV, isB, out1, fail, fillOb, fillL, replaceAt, rowsV, newV, boundV, intV, lcOf, lcA, scA, Va.bo, Va.i, Va.st, Ret, allOb, rvOut, convB, convBs, convC, convR, conv, unD, Nat.reduceAdd, Nat.reduceSub, Nat.reduceMul, Nat.reduceLeDiff, Nat.reduceEqDiff, Nat.reduceLT, Nat.reduceBEq, reduceIte, reduceCtorEq, Int.reduceToNat, fnV, argsV, touchO, evO, bareI, Nat.reduceShiftRight, Nat.reduceAnd, Nat.reduceBneDiff, Nat.reduceBNe, c39r0]
  refine .seq (.seq (Rw.walk ?_))
  simp only [wk0, wk1, wk2, wk3, wk4, wk5, wk6, wk7, wk8, wk9, wk10, Rw_op, Rw_opg, RwD_op, RwD_opg, Bool.cond_true, Bool.cond_false, if_true, if_false, implies_true, forall_const, eq_self, ne_eq, forall_eq, forall_eq', forall_eq_or_imp, exists_eq', bne_self_eq_false, dchk, meets, touchS, touchI, quietI, allocI, isCall, idsV, ch0, Nat.testBit, semI, binS, unS, nilS, aggS, eqLs, eqL, evT, evS, stripV, gOk, gAll, opsOf, boolV, apG, numd, prL, cellsV, isB, out1, fail, fillOb, fillL, replaceAt, rowsV, newV, boundV, intV, lcOf, lcA, scA, Va.bo, Va.i, Va.st, Ret, allOb, rvOut, convB, convBs, convC, convR, conv, unD, Nat.reduceAdd, Nat.reduceSub, Nat.reduceMul, Nat.reduceLeDiff, Nat.reduceEqDiff, Nat.reduceLT, Nat.reduceBEq, reduceIte, reduceCtorEq, Int.reduceToNat, fnV, argsV, touchO, evO, bareI, Nat.reduceShiftRight, Nat.reduceAnd, Nat.reduceBneDiff, Nat.reduceBNe, c39r1]
  refine .blk ?_
  refine W.loops (ι := { i : Nat // i ≤ rows.length ∧ idxOf' p rows 0 = idxOf' p (rows.drop i) i }) (fun i => ⟨lkT [(0, .b (.s (.d (.sl rows)))), (1, .b (.s (.d (.clo fid caps)))), (7, .i .i64 rows.length), (8, .i .i64 i.val)], lkG []⟩) (fun i => rows.length - i.val) ⟨0, by omega, rfl⟩ ?_ ?_
  · refine Imp.lk _ _ ?_ ?_ ?_ ?_
    all_goals
      simp only [wk0, wk1, wk2, wk3, wk4, wk5, wk6, wk7, wk8, wk9, wk10, Rw_op, Rw_opg, RwD_op, RwD_opg, Bool.cond_true, Bool.cond_false, if_true, if_false, implies_true, forall_const, eq_self, ne_eq, forall_eq, forall_eq', forall_eq_or_imp, exists_eq', bne_self_eq_false, dchk, meets, touchS, touchI, quietI, allocI, isCall, idsV, ch0, Nat.testBit, semI, binS, unS, nilS, aggS, eqLs, eqL, evT, evS, stripV, gOk, gAll, opsOf, boolV, apG, numd, prL, cellsV, isB, out1, fail, fillOb, fillL, replaceAt, rowsV, newV, boundV, intV, lcOf, lcA, scA, Va.bo, Va.i, Va.st, Ret, allOb, rvOut, convB, convBs, convC, convR, conv, unD, Nat.reduceAdd, Nat.reduceSub, Nat.reduceMul, Nat.reduceLeDiff, Nat.reduceEqDiff, Nat.reduceLT, Nat.reduceBEq, reduceIte, reduceCtorEq, Int.reduceToNat, fnV, argsV, touchO, evO, bareI, Nat.reduceShiftRight, Nat.reduceAnd, Nat.reduceBneDiff, Nat.reduceBNe, allT, allE, refsV, refsIn, refsC, Int.ofNat_zero, Int.natCast_zero]
  · intro ⟨i, hi, hinv⟩ ih
    unfold c39l7
    refine .seq (Rw.walk ?_)
    simp only [wk0, wk1, wk2, wk3, wk4, wk5, wk6, wk7, wk8, wk9, wk10, Rw_op, Rw_opg, RwD_op, RwD_opg, Bool.cond_true, Bool.cond_false, if_true, if_false, implies_true, forall_const, eq_self, ne_eq, forall_eq, forall_eq', forall_eq_or_imp, exists_eq', bne_self_eq_false, dchk, meets, touchS, touchI, quietI, allocI, isCall, idsV, ch0, Nat.testBit, semI, binS, unS, nilS, aggS, eqLs, eqL, evT, evS, stripV, gOk, gAll, opsOf, boolV, apG, numd, prL, cellsV, isB, out1, fail, fillOb, fillL, replaceAt, rowsV, newV, boundV, intV, lcOf, lcA, scA, Va.bo, Va.i, Va.st, Ret, allOb, rvOut, convB, convBs, convC, convR, conv, unD, Nat.reduceAdd, Nat.reduceSub, Nat.reduceMul, Nat.reduceLeDiff, Nat.reduceEqDiff, Nat.reduceLT, Nat.reduceBEq, reduceIte, reduceCtorEq, Int.reduceToNat, fnV, argsV, touchO, evO, bareI, Nat.reduceShiftRight, Nat.reduceAnd, Nat.reduceBneDiff, Nat.reduceBNe, c39r2]
    by_cases hlt : i < rows.length
    · refine .seq (.cond rfl (fun _ => ?_) (fun h => absurd h (by simp; omega)))
      refine .skip (.seq (.blk ?_))
      refine .seq (Rw.walk ?_)
      simp only [wk0, wk1, wk2, wk3, wk4, wk5, wk6, wk7, wk8, wk9, wk10, Rw_op, Rw_opg, RwD_op, RwD_opg, Bool.cond_true, Bool.cond_false, if_true, if_false, implies_true, forall_const, eq_self, ne_eq, forall_eq, forall_eq', forall_eq_or_imp, exists_eq', bne_self_eq_false, dchk, meets, touchS, touchI, quietI, allocI, isCall, idsV, ch0, Nat.testBit, semI, binS, unS, nilS, aggS, eqLs, eqL, evT, evS, stripV, gOk, gAll, opsOf, boolV, apG, numd, prL, cellsV, isB, out1, fail, fillOb, fillL, replaceAt, rowsV, newV, boundV, intV, lcOf, lcA, scA, Va.bo, Va.i, Va.st, Ret, allOb, rvOut, convB, convBs, convC, convR, conv, unD, Nat.reduceAdd, Nat.reduceSub, Nat.reduceMul, Nat.reduceLeDiff, Nat.reduceEqDiff, Nat.reduceLT, Nat.reduceBEq, reduceIte, reduceCtorEq, Int.reduceToNat, fnV, argsV, touchO, evO, bareI, Nat.reduceShiftRight, Nat.reduceAnd, Nat.reduceBneDiff, Nat.reduceBNe, c39r3]
      refine .seq (Rw.walk ?_)
      simp only [wk0, wk1, wk2, wk3, wk4, wk5, wk6, wk7, wk8, wk9, wk10, Rw_op, Rw_opg, RwD_op, RwD_opg, Bool.cond_true, Bool.cond_false, if_true, if_false, implies_true, forall_const, eq_self, ne_eq, forall_eq, forall_eq', forall_eq_or_imp, exists_eq', bne_self_eq_false, dchk, meets, touchS, touchI, quietI, allocI, isCall, idsV, ch0, Nat.testBit, semI, binS, unS, nilS, aggS, eqLs, eqL, evT, evS, stripV, gOk, gAll, opsOf, boolV, apG, numd, prL, cellsV, isB, out1, fail, fillOb, fillL, replaceAt, rowsV, newV, boundV, intV, lcOf, lcA, scA, Va.bo, Va.i, Va.st, Ret, allOb, rvOut, convB, convBs, convC, convR, conv, unD, Nat.reduceAdd, Nat.reduceSub, Nat.reduceMul, Nat.reduceLeDiff, Nat.reduceEqDiff, Nat.reduceLT, Nat.reduceBEq, reduceIte, reduceCtorEq, Int.reduceToNat, fnV, argsV, touchO, evO, bareI, Nat.reduceShiftRight, Nat.reduceAnd, Nat.reduceBneDiff, Nat.reduceBNe, c39r4]
      have hm : rows.getD i [] ∈ rows := getD_mem hlt
      have hr := hst _ hm
      refine ⟨⟨by omega, by omega, hst⟩, by omega, ?_⟩
      refine call_fun [] false ⟨trivial, trivial, trivial⟩ rfl ?_ (hf _ hm) (fun _ => rfl) (by simp) ?_
      · simp only [wk0, wk1, wk2, wk3, wk4, wk5, wk6, wk7, wk8, wk9, wk10, Rw_op, Rw_opg, RwD_op, RwD_opg, Bool.cond_true, Bool.cond_false, if_true, if_false, implies_true, forall_const, eq_self, ne_eq, forall_eq, forall_eq', forall_eq_or_imp, exists_eq', bne_self_eq_false, dchk, meets, touchS, touchI, quietI, allocI, isCall, idsV, ch0, Nat.testBit, semI, binS, unS, nilS, aggS, eqLs, eqL, evT, evS, stripV, gOk, gAll, opsOf, boolV, apG, numd, prL, cellsV, isB, out1, fail, fillOb, fillL, replaceAt, rowsV, newV, boundV, intV, lcOf, lcA, scA, Va.bo, Va.i, Va.st, Ret, allOb, rvOut, convB, convBs, convC, convR, conv, unD, Nat.reduceAdd, Nat.reduceSub, Nat.reduceMul, Nat.reduceLeDiff, Nat.reduceEqDiff, Nat.reduceLT, Nat.reduceBEq, reduceIte, reduceCtorEq, Int.reduceToNat, fnV, argsV, touchO, evO, bareI, Nat.reduceShiftRight, Nat.reduceAnd, Nat.reduceBneDiff, Nat.reduceBNe]
      simp only [wk0, wk1, wk2, wk3, wk4, wk5, wk6, wk7, wk8, wk9, wk10, Rw_op, Rw_opg, RwD_op, RwD_opg, Bool.cond_true, Bool.cond_false, if_true, if_false, implies_true, forall_const, eq_self, ne_eq, forall_eq, forall_eq', forall_eq_or_imp, exists_eq', bne_self_eq_false, dchk, meets, touchS, touchI, quietI, allocI, isCall, idsV, ch0, Nat.testBit, semI, binS, unS, nilS, aggS, eqLs, eqL, evT, evS, stripV, gOk, gAll, opsOf, boolV, apG, numd, prL, cellsV, isB, out1, fail, fillOb, fillL, replaceAt, rowsV, newV, boundV, intV, lcOf, lcA, scA, Va.bo, Va.i, Va.st, Ret, allOb, rvOut, convB, convBs, convC, convR, conv, unD, Nat.reduceAdd, Nat.reduceSub, Nat.reduceMul, Nat.reduceLeDiff, Nat.reduceEqDiff, Nat.reduceLT, Nat.reduceBEq, reduceIte, reduceCtorEq, Int.reduceToNat, fnV, argsV, touchO, evO, bareI, Nat.reduceShiftRight, Nat.reduceAnd, Nat.reduceBneDiff, Nat.reduceBNe]
      rw [idxOf'_drop p rows i hlt] at hinv
      refine .cond rfl (fun hp => ?_) (fun hp => ?_)
      · refine .seq (Rw.walk ?_)
        simp only [wk0, wk1, wk2, wk3, wk4, wk5, wk6, wk7, wk8, wk9, wk10, Rw_op, Rw_opg, RwD_op, RwD_opg, Bool.cond_true, Bool.cond_false, if_true, if_false, implies_true, forall_const, eq_self, ne_eq, forall_eq, forall_eq', forall_eq_or_imp, exists_eq', bne_self_eq_false, dchk, meets, touchS, touchI, quietI, allocI, isCall, idsV, ch0, Nat.testBit, semI, binS, unS, nilS, aggS, eqLs, eqL, evT, evS, stripV, gOk, gAll, opsOf, boolV, apG, numd, prL, cellsV, isB, out1, fail, fillOb, fillL, replaceAt, rowsV, newV, boundV, intV, lcOf, lcA, scA, Va.bo, Va.i, Va.st, Ret, allOb, rvOut, convB, convBs, convC, convR, conv, unD, Nat.reduceAdd, Nat.reduceSub, Nat.reduceMul, Nat.reduceLeDiff, Nat.reduceEqDiff, Nat.reduceLT, Nat.reduceBEq, reduceIte, reduceCtorEq, Int.reduceToNat, fnV, argsV, touchO, evO, bareI, Nat.reduceShiftRight, Nat.reduceAnd, Nat.reduceBneDiff, Nat.reduceBNe, c39r5]
        refine .ret ?_
        rw [hinv, hp]
        simp only [wk0, wk1, wk2, wk3, wk4, wk5, wk6, wk7, wk8, wk9, wk10, Rw_op, Rw_opg, RwD_op, RwD_opg, Bool.cond_true, Bool.cond_false, if_true, if_false, implies_true, forall_const, eq_self, ne_eq, forall_eq, forall_eq', forall_eq_or_imp, exists_eq', bne_self_eq_false, dchk, meets, touchS, touchI, quietI, allocI, isCall, idsV, ch0, Nat.testBit, semI, binS, unS, nilS, aggS, eqLs, eqL, evT, evS, stripV, gOk, gAll, opsOf, boolV, apG, numd, prL, cellsV, isB, out1, fail, fillOb, fillL, replaceAt, rowsV, newV, boundV, intV, lcOf, lcA, scA, Va.bo, Va.i, Va.st, Ret, allOb, rvOut, convB, convBs, convC, convR, conv, unD, Nat.reduceAdd, Nat.reduceSub, Nat.reduceMul, Nat.reduceLeDiff, Nat.reduceEqDiff, Nat.reduceLT, Nat.reduceBEq, reduceIte, reduceCtorEq, Int.reduceToNat, fnV, argsV, touchO, evO, bareI, Nat.reduceShiftRight, Nat.reduceAnd, Nat.reduceBneDiff, Nat.reduceBNe, rv39]
      · refine .skip (.eblk (Rw.walk ?_))
        simp only [wk0, wk1, wk2, wk3, wk4, wk5, wk6, wk7, wk8, wk9, wk10, Rw_op, Rw_opg, RwD_op, RwD_opg, Bool.cond_true, Bool.cond_false, if_true, if_false, implies_true, forall_const, eq_self, ne_eq, forall_eq, forall_eq', forall_eq_or_imp, exists_eq', bne_self_eq_false, dchk, meets, touchS, touchI, quietI, allocI, isCall, idsV, ch0, Nat.testBit, semI, binS, unS, nilS, aggS, eqLs, eqL, evT, evS, stripV, gOk, gAll, opsOf, boolV, apG, numd, prL, cellsV, isB, out1, fail, fillOb, fillL, replaceAt, rowsV, newV, boundV, intV, lcOf, lcA, scA, Va.bo, Va.i, Va.st, Ret, allOb, rvOut, convB, convBs, convC, convR, conv, unD, Nat.reduceAdd, Nat.reduceSub, Nat.reduceMul, Nat.reduceLeDiff, Nat.reduceEqDiff, Nat.reduceLT, Nat.reduceBEq, reduceIte, reduceCtorEq, Int.reduceToNat, fnV, argsV, touchO, evO, bareI, Nat.reduceShiftRight, Nat.reduceAnd, Nat.reduceBneDiff, Nat.reduceBNe, c39r6]
        rw [hp] at hinv
        refine .weak ?_ (ih ⟨i + 1, by omega, hinv⟩ (by simp; omega))
        refine Imp.lk _ _ ?_ ?_ ?_ ?_
        all_goals
          simp only [wk0, wk1, wk2, wk3, wk4, wk5, wk6, wk7, wk8, wk9, wk10, Rw_op, Rw_opg, RwD_op, RwD_opg, Bool.cond_true, Bool.cond_false, if_true, if_false, implies_true, forall_const, eq_self, ne_eq, forall_eq, forall_eq', forall_eq_or_imp, exists_eq', bne_self_eq_false, dchk, meets, touchS, touchI, quietI, allocI, isCall, idsV, ch0, Nat.testBit, semI, binS, unS, nilS, aggS, eqLs, eqL, evT, evS, stripV, gOk, gAll, opsOf, boolV, apG, numd, prL, cellsV, isB, out1, fail, fillOb, fillL, replaceAt, rowsV, newV, boundV, intV, lcOf, lcA, scA, Va.bo, Va.i, Va.st, Ret, allOb, rvOut, convB, convBs, convC, convR, conv, unD, Nat.reduceAdd, Nat.reduceSub, Nat.reduceMul, Nat.reduceLeDiff, Nat.reduceEqDiff, Nat.reduceLT, Nat.reduceBEq, reduceIte, reduceCtorEq, Int.reduceToNat, fnV, argsV, touchO, evO, bareI, Nat.reduceShiftRight, Nat.reduceAnd, Nat.reduceBneDiff, Nat.reduceBNe, allT, allE, refsV, refsIn, refsC]
        rw [i64_in (by omega) (by omega)]
        rfl
    · refine .seq (.cond rfl (fun h => absurd h (by simp; omega)) (fun _ => ?_))
      refine .exit rfl ?_
      refine .seq (Rw.walk ?_)
      simp only [wk0, wk1, wk2, wk3, wk4, wk5, wk6, wk7, wk8, wk9, wk10, Rw_op, Rw_opg, RwD_op, RwD_opg, Bool.cond_true, Bool.cond_false, if_true, if_false, implies_true, forall_const, eq_self, ne_eq, forall_eq, forall_eq', forall_eq_or_imp, exists_eq', bne_self_eq_false, dchk, meets, touchS, touchI, quietI, allocI, isCall, idsV, ch0, Nat.testBit, semI, binS, unS, nilS, aggS, eqLs, eqL, evT, evS, stripV, gOk, gAll, opsOf, boolV, apG, numd, prL, cellsV, isB, out1, fail, fillOb, fillL, replaceAt, rowsV, newV, boundV, intV, lcOf, lcA, scA, Va.bo, Va.i, Va.st, Ret, allOb, rvOut, convB, convBs, convC, convR, conv, unD, Nat.reduceAdd, Nat.reduceSub, Nat.reduceMul, Nat.reduceLeDiff, Nat.reduceEqDiff, Nat.reduceLT, Nat.reduceBEq, reduceIte, reduceCtorEq, Int.reduceToNat, fnV, argsV, touchO, evO, bareI, Nat.reduceShiftRight, Nat.reduceAnd, Nat.reduceBneDiff, Nat.reduceBNe, c39r7]
      refine .ret ?_
      have e : rows.drop i = [] := List.drop_of_length_le (by omega)
      rw [hinv, e]
      simp only [wk0, wk1, wk2, wk3, wk4, wk5, wk6, wk7, wk8, wk9, wk10, Rw_op, Rw_opg, RwD_op, RwD_opg, Bool.cond_true, Bool.cond_false, if_true, if_false, implies_true, forall_const, eq_self, ne_eq, forall_eq, forall_eq', forall_eq_or_imp, exists_eq', bne_self_eq_false, dchk, meets, touchS, touchI, quietI, allocI, isCall, idsV, ch0, Nat.testBit, semI, binS, unS, nilS, aggS, eqLs, eqL, evT, evS, stripV, gOk, gAll, opsOf, boolV, apG, numd, prL, cellsV, isB, out1, fail, fillOb, fillL, replaceAt, rowsV, newV, boundV, intV, lcOf, lcA, scA, Va.bo, Va.i, Va.st, Ret, allOb, rvOut, convB, convBs, convC, convR, conv, unD, Nat.reduceAdd, Nat.reduceSub, Nat.reduceMul, Nat.reduceLeDiff, Nat.reduceEqDiff, Nat.reduceLT, Nat.reduceBEq, reduceIte, reduceCtorEq, Int.reduceToNat, fnV, argsV, touchO, evO, bareI, Nat.reduceShiftRight, Nat.reduceAnd, Nat.reduceBneDiff, Nat.reduceBNe, rv39, idxOf']
theorem idx_any (p : List Sc → Bool) : ∀ (rows : List (List Sc)) (i : Int), 0 ≤ i → decide (idxOf' p rows i ≥ 0) = rows.any p
  | [], i, h => by simp [idxOf']
  | r :: l, i, h => by
    rw [idxOf', List.any_cons]
    cases hp : p r with
    | true => simp; omega
    | false => simpa using idx_any p l (i + 1) (by omega)
theorem anyW (rows : List (List Sc)) (fid : FuncId) (caps : List Sc) (p : List Sc → Bool) (hl : rows.length ≤ 9223372036854775807) (hst : ∀ r, r ∈ rows → r.length = 2) (hf : ∀ r, r ∈ rows → Fun Try.prog gl0 fid (.b (.agg (r.map Lc.d)) :: caps.map fun x => .b (.s (.d x))) (.bo (p r))) :
    Fun Try.prog gl0 30 [.b (.s (.d (.sl rows))), .b (.s (.d (.clo fid caps)))] (.bo (rows.any p)) := by
  refine fun_walk [] Try.func30 Try.ntmps30 cc30 cr30 (by kernel_rfl) (by simp only [List.length_cons, List.length_nil]; decide) ?_
  simp only [wk0, wk1, wk2, wk3, wk4, wk5, wk6, wk7, wk8, wk9, wk10, Rw_op, Rw_opg, RwD_op, RwD_opg, Bool.cond_true, Bool.cond_false, if_true, if_false, implies_true, forall_const, eq_self, ne_eq, forall_eq, forall_eq', forall_eq_or_imp, exists_eq', bne_self_eq_false, dchk, meets, touchS, touchI, quietI, allocI, isCall, idsV, ch0, Nat.testBit, semI, binS, unS, nilS, aggS, eqLs, eqL, evT, evS, stripV, gOk, gAll, opsOf, boolV, apG, numd, prL, cellsV, isB, out1, fail, fillOb, fillL, replaceAt, rowsV, newV, boundV, intV, lcOf, lcA, scA, Va.bo, Va.i, Va.st, Ret, allOb, rvOut, convB, convBs, convC, convR, conv, unD, Nat.reduceAdd, Nat.reduceSub, Nat.reduceMul, Nat.reduceLeDiff, Nat.reduceEqDiff, Nat.reduceLT, Nat.reduceBEq, reduceIte, reduceCtorEq, Int.reduceToNat, fnV, argsV, touchO, evO, bareI, Nat.reduceShiftRight, Nat.reduceAnd, Nat.reduceBneDiff, Nat.reduceBNe]
  unfold c30
  refine .seq (Rw.walk ?_)
  simp only [wk0, wk1, wk2, wk3, wk4, wk5, wk6, wk7, wk8, wk9, wk10, Rw_op, Rw_opg, RwD_op, RwD_opg, Bool.cond_true, Bool.cond_false, if_true, if_false, implies_true, forall_const, eq_self, ne_eq, forall_eq, forall_eq', forall_eq_or_imp, exists_eq', bne_self_eq_false, dchk, meets, touchS, touchI, quietI, allocI, isCall, idsV, ch0, Nat.testBit, semI, binS, unS, nilS, aggS, eqLs, eqL, evT, evS, stripV, gOk, gAll, opsOf, boolV, apG, numd, prL, cellsV, isB, out1, fail, fillOb, fillL, replaceAt, rowsV, newV, boundV, intV, lcOf, lcA, scA, Va.bo, Va.i, Va.st, Ret, allOb, rvOut, convB, convBs, convC, convR, conv, unD, Nat.reduceAdd, Nat.reduceSub, Nat.reduceMul, Nat.reduceLeDiff, Nat.reduceEqDiff, Nat.reduceLT, Nat.reduceBEq, reduceIte, reduceCtorEq, Int.reduceToNat, fnV, argsV, touchO, evO, bareI, Nat.reduceShiftRight, Nat.reduceAnd, Nat.reduceBneDiff, Nat.reduceBNe, c30r0]
  refine .seq (Rw.walk ?_)
  simp only [wk0, wk1, wk2, wk3, wk4, wk5, wk6, wk7, wk8, wk9, wk10, Rw_op, Rw_opg, RwD_op, RwD_opg, Bool.cond_true, Bool.cond_false, if_true, if_false, implies_true, forall_const, eq_self, ne_eq, forall_eq, forall_eq', forall_eq_or_imp, exists_eq', bne_self_eq_false, dchk, meets, touchS, touchI, quietI, allocI, isCall, idsV, ch0, Nat.testBit, semI, binS, unS, nilS, aggS, eqLs, eqL, evT, evS, stripV, gOk, gAll, opsOf, boolV, apG, numd, prL, cellsV, isB, out1, fail, fillOb, fillL, replaceAt, rowsV, newV, boundV, intV, lcOf, lcA, scA, Va.bo, Va.i, Va.st, Ret, allOb, rvOut, convB, convBs, convC, convR, conv, unD, Nat.reduceAdd, Nat.reduceSub, Nat.reduceMul, Nat.reduceLeDiff, Nat.reduceEqDiff, Nat.reduceLT, Nat.reduceBEq, reduceIte, reduceCtorEq, Int.reduceToNat, fnV, argsV, touchO, evO, bareI, Nat.reduceShiftRight, Nat.reduceAnd, Nat.reduceBneDiff, Nat.reduceBNe, c30r1]
  refine call_fun [] false ⟨trivial, trivial, trivial, trivial⟩ rfl rfl (idxW rows fid caps p hl hst hf) (fun _ => rfl) (by simp) ?_
  simp only [wk0, wk1, wk2, wk3, wk4, wk5, wk6, wk7, wk8, wk9, wk10, Rw_op, Rw_opg, RwD_op, RwD_opg, Bool.cond_true, Bool.cond_false, if_true, if_false, implies_true, forall_const, eq_self, ne_eq, forall_eq, forall_eq', forall_eq_or_imp, exists_eq', bne_self_eq_false, dchk, meets, touchS, touchI, quietI, allocI, isCall, idsV, ch0, Nat.testBit, semI, binS, unS, nilS, aggS, eqLs, eqL, evT, evS, stripV, gOk, gAll, opsOf, boolV, apG, numd, prL, cellsV, isB, out1, fail, fillOb, fillL, replaceAt, rowsV, newV, boundV, intV, lcOf, lcA, scA, Va.bo, Va.i, Va.st, Ret, allOb, rvOut, convB, convBs, convC, convR, conv, unD, Nat.reduceAdd, Nat.reduceSub, Nat.reduceMul, Nat.reduceLeDiff, Nat.reduceEqDiff, Nat.reduceLT, Nat.reduceBEq, reduceIte, reduceCtorEq, Int.reduceToNat, fnV, argsV, touchO, evO, bareI, Nat.reduceShiftRight, Nat.reduceAnd, Nat.reduceBneDiff, Nat.reduceBNe]
  refine .ret ?_
  simp only [wk0, wk1, wk2, wk3, wk4, wk5, wk6, wk7, wk8, wk9, wk10, Rw_op, Rw_opg, RwD_op, RwD_opg, Bool.cond_true, Bool.cond_false, if_true, if_false, implies_true, forall_const, eq_self, ne_eq, forall_eq, forall_eq', forall_eq_or_imp, exists_eq', bne_self_eq_false, dchk, meets, touchS, touchI, quietI, allocI, isCall, idsV, ch0, Nat.testBit, semI, binS, unS, nilS, aggS, eqLs, eqL, evT, evS, stripV, gOk, gAll, opsOf, boolV, apG, numd, prL, cellsV, isB, out1, fail, fillOb, fillL, replaceAt, rowsV, newV, boundV, intV, lcOf, lcA, scA, Va.bo, Va.i, Va.st, Ret, allOb, rvOut, convB, convBs, convC, convR, conv, unD, Nat.reduceAdd, Nat.reduceSub, Nat.reduceMul, Nat.reduceLeDiff, Nat.reduceEqDiff, Nat.reduceLT, Nat.reduceBEq, reduceIte, reduceCtorEq, Int.reduceToNat, fnV, argsV, touchO, evO, bareI, Nat.reduceShiftRight, Nat.reduceAnd, Nat.reduceBneDiff, Nat.reduceBNe, rv30, idx_any p rows 0 (by omega)]
theorem anyS (rows : List (List Sc)) (fid : FuncId) (caps : List Sc) (p : List Sc → Bool) (hl : rows.length ≤ 9223372036854775807) (hst : ∀ r, r ∈ rows → r.length = 1) (hf : ∀ r, r ∈ rows → Fun Try.prog gl0 fid (.b (.s (.d (r.getD 0 (.bool false)))) :: caps.map fun x => .b (.s (.d x))) (.bo (p r))) :
    Fun Try.prog gl0 29 [.b (.s (.d (.sl rows))), .b (.s (.d (.clo fid caps)))] (.bo (rows.any p)) := by
  refine fun_walk [] Try.func29 Try.ntmps29 cc29 cr29 (by kernel_rfl) (by simp only [List.length_cons, List.length_nil]; decide) ?_
  simp only [wk0, wk1, wk2, wk3, wk4, wk5, wk6, wk7, wk8, wk9, wk10, Rw_op, Rw_opg, RwD_op, RwD_opg, Bool.cond_true, Bool.cond_false, if_true, if_false, implies_true, forall_const, eq_self, ne_eq, forall_eq, forall_eq', forall_eq_or_imp, exists_eq', bne_self_eq_false, dchk, meets, touchS, touchI, quietI, allocI, isCall, idsV, ch0, Nat.testBit, semI, binS, unS, nilS, aggS, eqLs, eqL, evT, evS, stripV, gOk, gAll, opsOf, boolV, apG, numd, prL, cellsV, isB, out1, fail, fillOb, fillL, replaceAt, rowsV, newV, boundV, intV, lcOf, lcA, scA, Va.bo, Va.i, Va.st, Ret, allOb, rvOut, convB, convBs, convC, convR, conv, unD, Nat.reduceAdd, Nat.reduceSub, Nat.reduceMul, Nat.reduceLeDiff, Nat.reduceEqDiff, Nat.reduceLT, Nat.reduceBEq, reduceIte, reduceCtorEq, Int.reduceToNat, fnV, argsV, touchO, evO, bareI, Nat.reduceShiftRight, Nat.reduceAnd, Nat.reduceBneDiff, Nat.reduceBNe]
  unfold c29
  refine .seq (Rw.walk ?_)
  simp only [wk0, wk1, wk2, wk3, wk4, wk5, wk6, wk7, wk8, wk9, wk10, Rw_op, Rw_opg, RwD_op, RwD_opg, Bool.cond_true, Bool.cond_false, if_true, if_false, implies_true, forall_const, eq_self, ne_eq, forall_eq, forall_eq', forall_eq_or_imp, exists_eq', bne_self_eq_false, dchk, meets, touchS, touchI, quietI, allocI, isCall, idsV, ch0, Nat.testBit, semI, binS, unS, nilS, aggS, eqLs, eqL, evT, evS, stripV, gOk, gAll, opsOf, boolV, apG, numd, prL, cellsV, isB, out1, fail, fillOb, fillL, replaceAt, rowsV, newV, boundV, intV, lcOf, lcA, scA, Va.bo, Va.i, Va.st, Ret, allOb, rvOut, convB, convBs, convC, convR, conv, unD, Nat.reduceAdd, Nat.reduceSub, Nat.reduceMul, Nat.reduceLeDiff, Nat.reduceEqDiff, Nat.reduceLT, Nat.reduceBEq, reduceIte, reduceCtorEq, Int.reduceToNat, fnV, argsV, touchO, evO, bareI, Nat.reduceShiftRight, Nat.reduceAnd, Nat.reduceBneDiff, Nat.reduceBNe, c29r0]
  refine .seq (Rw.walk ?_)
  simp only [wk0, wk1, wk2, wk3, wk4, wk5, wk6, wk7, wk8, wk9, wk10, Rw_op, Rw_opg, RwD_op, RwD_opg, Bool.cond_true, Bool.cond_false, if_true, if_false, implies_true, forall_const, eq_self, ne_eq, forall_eq, forall_eq', forall_eq_or_imp, exists_eq', bne_self_eq_false, dchk, meets, touchS, touchI, quietI, allocI, isCall, idsV, ch0, Nat.testBit, semI, binS, unS, nilS, aggS, eqLs, eqL, evT, evS, stripV, gOk, gAll, opsOf, boolV, apG, numd, prL, cellsV, isB, out1, fail, fillOb, fillL, replaceAt, rowsV, newV, boundV, intV, lcOf, lcA, scA, Va.bo, Va.i, Va.st, Ret, allOb, rvOut, convB, convBs, convC, convR, conv, unD, Nat.reduceAdd, Nat.reduceSub, Nat.reduceMul, Nat.reduceLeDiff, Nat.reduceEqDiff, Nat.reduceLT, Nat.reduceBEq, reduceIte, reduceCtorEq, Int.reduceToNat, fnV, argsV, touchO, evO, bareI, Nat.reduceShiftRight, Nat.reduceAnd, Nat.reduceBneDiff, Nat.reduceBNe, c29r1]
  refine call_fun [] false ⟨trivial, trivial, trivial, trivial⟩ rfl rfl (idxS rows fid caps p hl hst hf) (fun _ => rfl) (by simp) ?_
  simp only [wk0, wk1, wk2, wk3, wk4, wk5, wk6, wk7, wk8, wk9, wk10, Rw_op, Rw_opg, RwD_op, RwD_opg, Bool.cond_true, Bool.cond_false, if_true, if_false, implies_true, forall_const, eq_self, ne_eq, forall_eq, forall_eq', forall_eq_or_imp, exists_eq', bne_self_eq_false, dchk, meets, touchS, touchI, quietI, allocI, isCall, idsV, ch0, Nat.testBit, semI, binS, unS, nilS, aggS, eqLs, eqL, evT, evS, stripV, gOk, gAll, opsOf, boolV, apG, numd, prL, cellsV, isB, out1, fail, fillOb, fillL, replaceAt, rowsV, newV, boundV, intV, lcOf, lcA, scA, Va.bo, Va.i, Va.st, Ret, allOb, rvOut, convB, convBs, convC, convR, conv, unD, Nat.reduceAdd, Nat.reduceSub, Nat.reduceMul, Nat.reduceLeDiff, Nat.reduceEqDiff, Nat.reduceLT, Nat.reduceBEq, reduceIte, reduceCtorEq, Int.reduceToNat, fnV, argsV, touchO, evO, bareI, Nat.reduceShiftRight, Nat.reduceAnd, Nat.reduceBneDiff, Nat.reduceBNe]
  refine .ret ?_
  simp only [wk0, wk1, wk2, wk3, wk4, wk5, wk6, wk7, wk8, wk9, wk10, Rw_op, Rw_opg, RwD_op, RwD_opg, Bool.cond_true, Bool.cond_false, if_true, if_false, implies_true, forall_const, eq_self, ne_eq, forall_eq, forall_eq', forall_eq_or_imp, exists_eq', bne_self_eq_false, dchk, meets, touchS, touchI, quietI, allocI, isCall, idsV, ch0, Nat.testBit, semI, binS, unS, nilS, aggS, eqLs, eqL, evT, evS, stripV, gOk, gAll, opsOf, boolV, apG, numd, prL, cellsV, isB, out1, fail, fillOb, fillL, replaceAt, rowsV, newV, boundV, intV, lcOf, lcA, scA, Va.bo, Va.i, Va.st, Ret, allOb, rvOut, convB, convBs, convC, convR, conv, unD, Nat.reduceAdd, Nat.reduceSub, Nat.reduceMul, Nat.reduceLeDiff, Nat.reduceEqDiff, Nat.reduceLT, Nat.reduceBEq, reduceIte, reduceCtorEq, Int.reduceToNat, fnV, argsV, touchO, evO, bareI, Nat.reduceShiftRight, Nat.reduceAnd, Nat.reduceBneDiff, Nat.reduceBNe, rv29, idx_any p rows 0 (by omega)]
end Go.Proofs.Ytjpomfbkfgkifaa.V
end

section
/- The disk's functions that tell whether one may be. -/
namespace Go.Proofs.Ytjpomfbkfgkifaa.V
open Go Go.RowKit
set_option linter.unusedVariables false
set_option linter.unusedSimpArgs false
def c31r0 : List Opn := [
  ⟨(some 2), none, .box 2 (.t 0)⟩, 
  ⟨(some 3), none, .mv (.c (.s (.d (.bool false))))⟩]
def c31r1 : List Opn := [
  ⟨(some 4), none, .fadr 0 (.t 2)⟩, 
  ⟨(some 5), none, .load false 1 (.t 4)⟩, 
  ⟨(some 6), none, .bin .lss (.t 5) (.c (.s (.d (.int .i64 0))))⟩, 
  ⟨(some 7), none, .mv (.t 6)⟩, 
  ⟨(some 8), some (7, false), .fadr 0 (.t 2)⟩, 
  ⟨(some 9), some (7, false), .load false 1 (.t 8)⟩, 
  ⟨(some 10), some (7, false), .load false 1 (.t 1)⟩, 
  ⟨(some 11), some (7, false), .bin .geq (.t 9) (.t 10)⟩, 
  ⟨(some 12), none, .pick (.t 7) (.c (.s (.d (.bool true)))) (.t 11)⟩, 
  ⟨(some 13), none, .mv (.t 12)⟩, 
  ⟨(some 14), some (13, false), .fadr 1 (.t 2)⟩, 
  ⟨(some 15), some (13, false), .load false 1 (.t 14)⟩, 
  ⟨(some 16), some (13, false), .len .str (.t 15)⟩, 
  ⟨(some 17), some (13, false), .bin .neq (.t 16) (.c (.s (.d (.int .i64 128))))⟩, 
  ⟨(some 18), none, .pick (.t 13) (.c (.s (.d (.bool true)))) (.t 17)⟩, 
  ⟨(some 3), none, .mv (.t 18)⟩]
def c31 : C := .seq (.reg c31r0 none [1, 2]) (.seq (.reg c31r1 none [3]) (.ret))
def k31 : List (Nat × List Nat) := [(1, [3]), (0, [1, 2])]
theorem cc31 : (Try.f31.body).bind (cC Try.prog 19 k31) = some c31 := by kernel_rfl
def rv31 : List RV := [.t 3]
theorem cr31 : cRVs Try.prog Try.f31.results.toList = some rv31 := by kernel_rfl
def c21r0 : List Opn := [
  ⟨(some 3), none, .box 1 (.t 1)⟩, 
  ⟨(some 4), none, .mv (.c (.s (.d (.bool false))))⟩]
def c21r1 : List Opn := [
  ⟨(some 5), none, .mv (.t 0)⟩, 
  ⟨(some 6), none, .mkfn 31 [(.t 3)]⟩, 
  ⟨(some 7), none, .call (.fn 30) [(.t 5), (.t 6)]⟩, 
  ⟨(some 8), none, .un .not (.t 7)⟩, 
  ⟨(some 4), none, .mv (.t 8)⟩]
def c21 : C := .seq (.reg c21r0 none [0, 3]) (.seq (.reg c21r1 none [4]) (.ret))
def k21 : List (Nat × List Nat) := [(1, [4]), (0, [0, 3])]
theorem cc21 : (Try.f21.body).bind (cC Try.prog 9 k21) = some c21 := by kernel_rfl
def rv21 : List RV := [.t 4]
theorem cr21 : cRVs Try.prog Try.f21.results.toList = some rv21 := by kernel_rfl
def c28r0 : List Opn := [
  ⟨(some 2), none, .mv (.c (.s (.d (.bool false))))⟩]
def c28r1 : List Opn := [
  ⟨(some 3), none, .mv (.t 0)⟩, 
  ⟨(some 4), none, .len .str (.t 3)⟩, 
  ⟨(some 5), none, .bin .neq (.t 4) (.c (.s (.d (.int .i64 128))))⟩, 
  ⟨(some 2), none, .mv (.t 5)⟩]
def c28 : C := .seq (.reg c28r0 none [0]) (.seq (.reg c28r1 none [2]) (.ret))
def k28 : List (Nat × List Nat) := [(1, [2]), (0, [0])]
theorem cc28 : (Try.f28.body).bind (cC Try.prog 6 k28) = some c28 := by kernel_rfl
def rv28 : List RV := [.t 2]
theorem cr28 : cRVs Try.prog Try.f28.results.toList = some rv28 := by kernel_rfl
def c17r0 : List Opn := [
  ⟨(some 1), none, .box 2 (.t 0)⟩, 
  ⟨(some 2), none, .mv (.c (.s (.d (.bool false))))⟩]
def c17r1 : List Opn := [
  ⟨(some 5), none, .fadr 0 (.t 1)⟩, 
  ⟨(some 6), none, .load false 1 (.t 5)⟩, 
  ⟨(some 7), none, .len (.sl 0) (.t 6)⟩, 
  ⟨(some 3), none, .mv (.t 7)⟩]
def c17r2 : List Opn := [
  ⟨(some 4), none, .mv (.fn 28)⟩]
def c17r3 : List Opn := [
  ⟨(some 8), none, .mv (.t 3)⟩, 
  ⟨(some 9), none, .bin .geq (.t 8) (.c (.s (.d (.int .i64 4))))⟩, 
  ⟨(some 10), none, .mv (.t 9)⟩, 
  ⟨(some 11), some (10, true), .mv (.t 3)⟩, 
  ⟨(some 12), some (10, true), .bin .leq (.t 11) (.c (.s (.d (.int .i64 64))))⟩, 
  ⟨(some 13), none, .pick (.t 10) (.t 12) (.c (.s (.d (.bool false))))⟩, 
  ⟨(some 14), none, .mv (.t 13)⟩, 
  ⟨(some 15), some (14, true), .fadr 1 (.t 1)⟩, 
  ⟨(some 16), some (14, true), .load false 1 (.t 15)⟩, 
  ⟨(some 17), some (14, true), .len (.sl 0) (.t 16)⟩, 
  ⟨(some 18), some (14, true), .bin .leq (.t 17) (.c (.s (.d (.int .i64 200))))⟩, 
  ⟨(some 19), none, .pick (.t 14) (.t 18) (.c (.s (.d (.bool false))))⟩, 
  ⟨(some 20), none, .mv (.t 19)⟩, 
  ⟨(some 21), some (20, true), .fadr 0 (.t 1)⟩, 
  ⟨(some 22), some (20, true), .load false 1 (.t 21)⟩, 
  ⟨(some 23), some (20, true), .mv (.t 4)⟩, 
  ⟨(some 24), some (20, true), .call (.fn 29) [(.t 22), (.t 23)]⟩, 
  ⟨(some 25), some (20, true), .un .not (.t 24)⟩, 
  ⟨(some 26), none, .pick (.t 20) (.t 25) (.c (.s (.d (.bool false))))⟩, 
  ⟨(some 27), none, .mv (.t 26)⟩, 
  ⟨(some 28), some (27, true), .fadr 1 (.t 1)⟩, 
  ⟨(some 29), some (27, true), .load false 1 (.t 28)⟩, 
  ⟨(some 30), some (27, true), .mv (.t 3)⟩, 
  ⟨(some 31), some (27, true), .call (.fn 21) [(.t 29), (.t 30)]⟩, 
  ⟨(some 32), none, .pick (.t 27) (.t 31) (.c (.s (.d (.bool false))))⟩, 
  ⟨(some 2), none, .mv (.t 32)⟩]
def c17 : C := .seq (.reg c17r0 none [1]) (.seq (.reg c17r1 none [1, 3]) (.seq (.reg c17r2 none [1, 3, 4]) (.seq (.reg c17r3 none [2]) (.ret))))
def k17 : List (Nat × List Nat) := [(3, [2]), (2, [1, 3, 4]), (1, [1, 3]), (0, [1])]
theorem cc17 : (Try.f17.body).bind (cC Try.prog 33 k17) = some c17 := by kernel_rfl
def rv17 : List RV := [.t 2]
theorem cr17 : cRVs Try.prog Try.f17.results.toList = some rv17 := by kernel_rfl
abbrev SWr := Int × List UInt8
def encW (w : SWr) : List Sc := [.int .i64 w.1, .str w.2]
def encS (s : List UInt8) : List Sc := [.str s]
def encD (s : List (List UInt8)) (t : List SWr) : List Sc := [.sl (s.map encS), .sl (t.map encW)]
def badWr (n : Int) (w : SWr) : Bool := decide (w.1 < 0) || decide (w.1 ≥ n) || !decide (w.2.length = 128)
theorem len_ne (l : List UInt8) : ((l.length : Int) != 128) = !decide (l.length = 128) := by
  rw [bne, Bool.eq_iff_iff]
  simp
  omega
theorem well_1 (w : SWr) (n : Int) : Fun Try.prog gl0 31 [.b (.agg ((encW w).map Lc.d)), .b (.s (.d (.ref [.int .i64 n] 0)))] (.bo (badWr n w)) := by
  refine fun_walk [] Try.func31 Try.ntmps31 cc31 cr31 (by kernel_rfl) (by simp only [List.length_cons, List.length_nil]; decide) ?_
  simp only [wk0, wk1, wk2, wk3, wk4, wk5, wk6, wk7, wk8, wk9, wk10, Rw_op, Rw_opg, RwD_op, RwD_opg, Bool.cond_true, Bool.cond_false, if_true, if_false, implies_true, forall_const, eq_self, ne_eq, forall_eq, forall_eq', forall_eq_or_imp, exists_eq', bne_self_eq_false, dchk, meets, touchS, touchI, quietI, allocI, isCall, idsV, ch0, Nat.testBit, semI, binS, unS, nilS, aggS, eqLs, eqL, evT, evS, stripV, gOk, gAll, opsOf, boolV, apG, numd, prL, cellsV, isB, out1, fail, fillOb, fillL, replaceAt, rowsV, newV, boundV, intV, lcOf, lcA, scA, Va.bo, Va.i, Va.st, Ret, allOb, rvOut, convB, convBs, convC, convR, conv, unD, Nat.reduceAdd, Nat.reduceSub, Nat.reduceMul, Nat.reduceLeDiff, Nat.reduceEqDiff, Nat.reduceLT, Nat.reduceBEq, reduceIte, reduceCtorEq, Int.reduceToNat, fnV, argsV, touchO, evO, bareI, Nat.reduceShiftRight, Nat.reduceAnd, Nat.reduceBneDiff, Nat.reduceBNe, encW]
  unfold c31
  refine .seq (Rw.walk ?_)
  simp only [wk0, wk1, wk2, wk3, wk4, wk5, wk6, wk7, wk8, wk9, wk10, Rw_op, Rw_opg, RwD_op, RwD_opg, Bool.cond_true, Bool.cond_false, if_true, if_false, implies_true, forall_const, eq_self, ne_eq, forall_eq, forall_eq', forall_eq_or_imp, exists_eq', bne_self_eq_false, dchk, meets, touchS, touchI, quietI, allocI, isCall, idsV, ch0, Nat.testBit, semI, binS, unS, nilS, aggS, eqLs, eqL, evT, evS, stripV, gOk, gAll, opsOf, boolV, apG, numd, prL, cellsV, isB, out1, fail, fillOb, fillL, replaceAt, rowsV, newV, boundV, intV, lcOf, lcA, scA, Va.bo, Va.i, Va.st, Ret, allOb, rvOut, convB, convBs, convC, convR, conv, unD, Nat.reduceAdd, Nat.reduceSub, Nat.reduceMul, Nat.reduceLeDiff, Nat.reduceEqDiff, Nat.reduceLT, Nat.reduceBEq, reduceIte, reduceCtorEq, Int.reduceToNat, fnV, argsV, touchO, evO, bareI, Nat.reduceShiftRight, Nat.reduceAnd, Nat.reduceBneDiff, Nat.reduceBNe, c31r0]
  refine .seq (Rw.walk ?_)
  simp only [wk0, wk1, wk2, wk3, wk4, wk5, wk6, wk7, wk8, wk9, wk10, Rw_op, Rw_opg, RwD_op, RwD_opg, Bool.cond_true, Bool.cond_false, if_true, if_false, implies_true, forall_const, eq_self, ne_eq, forall_eq, forall_eq', forall_eq_or_imp, exists_eq', bne_self_eq_false, dchk, meets, touchS, touchI, quietI, allocI, isCall, idsV, ch0, Nat.testBit, semI, binS, unS, nilS, aggS, eqLs, eqL, evT, evS, stripV, gOk, gAll, opsOf, boolV, apG, numd, prL, cellsV, isB, out1, fail, fillOb, fillL, replaceAt, rowsV, newV, boundV, intV, lcOf, lcA, scA, Va.bo, Va.i, Va.st, Ret, allOb, rvOut, convB, convBs, convC, convR, conv, unD, Nat.reduceAdd, Nat.reduceSub, Nat.reduceMul, Nat.reduceLeDiff, Nat.reduceEqDiff, Nat.reduceLT, Nat.reduceBEq, reduceIte, reduceCtorEq, Int.reduceToNat, fnV, argsV, touchO, evO, bareI, Nat.reduceShiftRight, Nat.reduceAnd, Nat.reduceBneDiff, Nat.reduceBNe, c31r1]
  refine .ret ?_
  simp only [wk0, wk1, wk2, wk3, wk4, wk5, wk6, wk7, wk8, wk9, wk10, Rw_op, Rw_opg, RwD_op, RwD_opg, Bool.cond_true, Bool.cond_false, if_true, if_false, implies_true, forall_const, eq_self, ne_eq, forall_eq, forall_eq', forall_eq_or_imp, exists_eq', bne_self_eq_false, dchk, meets, touchS, touchI, quietI, allocI, isCall, idsV, ch0, Nat.testBit, semI, binS, unS, nilS, aggS, eqLs, eqL, evT, evS, stripV, gOk, gAll, opsOf, boolV, apG, numd, prL, cellsV, isB, out1, fail, fillOb, fillL, replaceAt, rowsV, newV, boundV, intV, lcOf, lcA, scA, Va.bo, Va.i, Va.st, Ret, allOb, rvOut, convB, convBs, convC, convR, conv, unD, Nat.reduceAdd, Nat.reduceSub, Nat.reduceMul, Nat.reduceLeDiff, Nat.reduceEqDiff, Nat.reduceLT, Nat.reduceBEq, reduceIte, reduceCtorEq, Int.reduceToNat, fnV, argsV, touchO, evO, bareI, Nat.reduceShiftRight, Nat.reduceAnd, Nat.reduceBneDiff, Nat.reduceBNe, rv31, badWr, len_ne]
/-- Whether writes may be. -/
def wellL (n : Int) (t : List SWr) : Bool := !(t.any (badWr n))
def unW : List Sc → SWr
  | [.int .i64 a, .str b] => (a, b)
  | _ => (0, [])
theorem encW_len (t : List SWr) : ∀ r, r ∈ t.map encW → r.length = 2 := by
  intro r hr
  obtain ⟨w, _, rfl⟩ := List.mem_map.1 hr
  rfl
theorem encS_len (t : List (List UInt8)) : ∀ r, r ∈ t.map encS → r.length = 1 := by
  intro r hr
  obtain ⟨w, _, rfl⟩ := List.mem_map.1 hr
  rfl
theorem disk_well (t : List SWr) (n : Int) (hl : t.length ≤ 9223372036854775807) : Fun Try.prog gl0 21 [.b (.s (.d (.sl (t.map encW)))), .i .i64 n] (.bo (wellL n t)) := by
  refine fun_walk [] Try.func21 Try.ntmps21 cc21 cr21 (by kernel_rfl) (by simp only [List.length_cons, List.length_nil]; decide) ?_
  simp only [wk0, wk1, wk2, wk3, wk4, wk5, wk6, wk7, wk8, wk9, wk10, Rw_op, Rw_opg, RwD_op, RwD_opg, Bool.cond_true, Bool.cond_false, if_true, if_false, implies_true, forall_const, eq_self, ne_eq, forall_eq, forall_eq', forall_eq_or_imp, exists_eq', bne_self_eq_false, dchk, meets, touchS, touchI, quietI, allocI, isCall, idsV, ch0, Nat.testBit, semI, binS, unS, nilS, aggS, eqLs, eqL, evT, evS, stripV, gOk, gAll, opsOf, boolV, apG, numd, prL, cellsV, isB, out1, fail, fillOb, fillL, replaceAt, rowsV, newV, boundV, intV, lcOf, lcA, scA, Va.bo, Va.i, Va.st, Ret, allOb, rvOut, convB, convBs, convC, convR, conv, unD, Nat.reduceAdd, Nat.reduceSub, Nat.reduceMul, Nat.reduceLeDiff, Nat.reduceEqDiff, Nat.reduceLT, Nat.reduceBEq, reduceIte, reduceCtorEq, Int.reduceToNat, fnV, argsV, touchO, evO, bareI, Nat.reduceShiftRight, Nat.reduceAnd, Nat.reduceBneDiff, Nat.reduceBNe]
  unfold c21
  refine .seq (Rw.walk ?_)
  simp only [wk0, wk1, wk2, wk3, wk4, wk5, wk6, wk7, wk8, wk9, wk10, Rw_op, Rw_opg, RwD_op, RwD_opg, Bool.cond_true, Bool.cond_false, if_true, if_false, implies_true, forall_const, eq_self, ne_eq, forall_eq, forall_eq', forall_eq_or_imp, exists_eq', bne_self_eq_false, dchk, meets, touchS, touchI, quietI, allocI, isCall, idsV, ch0, Nat.testBit, semI, binS, unS, nilS, aggS, eqLs, eqL, evT, evS, stripV, gOk, gAll, opsOf, boolV, apG, numd, prL, cellsV, isB, out1, fail, fillOb, fillL, replaceAt, rowsV, newV, boundV, intV, lcOf, lcA, scA, Va.bo, Va.i, Va.st, Ret, allOb, rvOut, convB, convBs, convC, convR, conv, unD, Nat.reduceAdd, Nat.reduceSub, Nat.reduceMul, Nat.reduceLeDiff, Nat.reduceEqDiff, Nat.reduceLT, Nat.reduceBEq, reduceIte, reduceCtorEq, Int.reduceToNat, fnV, argsV, touchO, evO, bareI, Nat.reduceShiftRight, Nat.reduceAnd, Nat.reduceBneDiff, Nat.reduceBNe, c21r0]
  refine .seq (Rw.walk ?_)
  simp only [wk0, wk1, wk2, wk3, wk4, wk5, wk6, wk7, wk8, wk9, wk10, Rw_op, Rw_opg, RwD_op, RwD_opg, Bool.cond_true, Bool.cond_false, if_true, if_false, implies_true, forall_const, eq_self, ne_eq, forall_eq, forall_eq', forall_eq_or_imp, exists_eq', bne_self_eq_false, dchk, meets, touchS, touchI, quietI, allocI, isCall, idsV, ch0, Nat.testBit, semI, binS, unS, nilS, aggS, eqLs, eqL, evT, evS, stripV, gOk, gAll, opsOf, boolV, apG, numd, prL, cellsV, isB, out1, fail, fillOb, fillL, replaceAt, rowsV, newV, boundV, intV, lcOf, lcA, scA, Va.bo, Va.i, Va.st, Ret, allOb, rvOut, convB, convBs, convC, convR, conv, unD, Nat.reduceAdd, Nat.reduceSub, Nat.reduceMul, Nat.reduceLeDiff, Nat.reduceEqDiff, Nat.reduceLT, Nat.reduceBEq, reduceIte, reduceCtorEq, Int.reduceToNat, fnV, argsV, touchO, evO, bareI, Nat.reduceShiftRight, Nat.reduceAnd, Nat.reduceBneDiff, Nat.reduceBNe, c21r1]
  refine call_fun [3] false ⟨trivial, trivial, trivial, trivial⟩ rfl ?_ (anyW (t.map encW) 31 [.ref [.int .i64 n] 0] (fun r => badWr n (unW r)) (by simpa using hl) (encW_len t) (fun r hr => ?_)) (fun _ => rfl) (by simp [wk0, wk1, wk2, wk3, wk4, wk5, wk6, wk7, wk8, wk9, wk10, Rw_op, Rw_opg, RwD_op, RwD_opg, Bool.cond_true, Bool.cond_false, if_true, if_false, implies_true, forall_const, eq_self, ne_eq, forall_eq, forall_eq', forall_eq_or_imp, exists_eq', bne_self_eq_false, dchk, meets, touchS, touchI, quietI, allocI, isCall, idsV, ch0, Nat.testBit, semI, binS, unS, nilS, aggS, eqLs, eqL, evT, evS, stripV, gOk, gAll, opsOf, boolV, apG, numd, prL, cellsV, isB, out1, fail, fillOb, fillL, replaceAt, rowsV, newV, boundV, intV, lcOf, lcA, scA, Va.bo, Va.i, Va.st, Ret, allOb, rvOut, convB, convBs, convC, convR, conv, unD, Nat.reduceAdd, Nat.reduceSub, Nat.reduceMul, Nat.reduceLeDiff, Nat.reduceEqDiff, Nat.reduceLT, Nat.reduceBEq, reduceIte, reduceCtorEq, Int.reduceToNat, fnV, argsV, touchO, evO, bareI, Nat.reduceShiftRight, Nat.reduceAnd, Nat.reduceBneDiff, Nat.reduceBNe]) ?_
  · simp only [wk0, wk1, wk2, wk3, wk4, wk5, wk6, wk7, wk8, wk9, wk10, Rw_op, Rw_opg, RwD_op, RwD_opg, Bool.cond_true, Bool.cond_false, if_true, if_false, implies_true, forall_const, eq_self, ne_eq, forall_eq, forall_eq', forall_eq_or_imp, exists_eq', bne_self_eq_false, dchk, meets, touchS, touchI, quietI, allocI, isCall, idsV, ch0, Nat.testBit, semI, binS, unS, nilS, aggS, eqLs, eqL, evT, evS, stripV, gOk, gAll, opsOf, boolV, apG, numd, prL, cellsV, isB, out1, fail, fillOb, fillL, replaceAt, rowsV, newV, boundV, intV, lcOf, lcA, scA, Va.bo, Va.i, Va.st, Ret, allOb, rvOut, convB, convBs, convC, convR, conv, unD, Nat.reduceAdd, Nat.reduceSub, Nat.reduceMul, Nat.reduceLeDiff, Nat.reduceEqDiff, Nat.reduceLT, Nat.reduceBEq, reduceIte, reduceCtorEq, Int.reduceToNat, fnV, argsV, touchO, evO, bareI, Nat.reduceShiftRight, Nat.reduceAnd, Nat.reduceBneDiff, Nat.reduceBNe]
  · obtain ⟨w, _, rfl⟩ := List.mem_map.1 hr
    exact well_1 w n
  simp only [wk0, wk1, wk2, wk3, wk4, wk5, wk6, wk7, wk8, wk9, wk10, Rw_op, Rw_opg, RwD_op, RwD_opg, Bool.cond_true, Bool.cond_false, if_true, if_false, implies_true, forall_const, eq_self, ne_eq, forall_eq, forall_eq', forall_eq_or_imp, exists_eq', bne_self_eq_false, dchk, meets, touchS, touchI, quietI, allocI, isCall, idsV, ch0, Nat.testBit, semI, binS, unS, nilS, aggS, eqLs, eqL, evT, evS, stripV, gOk, gAll, opsOf, boolV, apG, numd, prL, cellsV, isB, out1, fail, fillOb, fillL, replaceAt, rowsV, newV, boundV, intV, lcOf, lcA, scA, Va.bo, Va.i, Va.st, Ret, allOb, rvOut, convB, convBs, convC, convR, conv, unD, Nat.reduceAdd, Nat.reduceSub, Nat.reduceMul, Nat.reduceLeDiff, Nat.reduceEqDiff, Nat.reduceLT, Nat.reduceBEq, reduceIte, reduceCtorEq, Int.reduceToNat, fnV, argsV, touchO, evO, bareI, Nat.reduceShiftRight, Nat.reduceAnd, Nat.reduceBneDiff, Nat.reduceBNe]
  refine .ret ?_
  simp only [wk0, wk1, wk2, wk3, wk4, wk5, wk6, wk7, wk8, wk9, wk10, Rw_op, Rw_opg, RwD_op, RwD_opg, Bool.cond_true, Bool.cond_false, if_true, if_false, implies_true, forall_const, eq_self, ne_eq, forall_eq, forall_eq', forall_eq_or_imp, exists_eq', bne_self_eq_false, dchk, meets, touchS, touchI, quietI, allocI, isCall, idsV, ch0, Nat.testBit, semI, binS, unS, nilS, aggS, eqLs, eqL, evT, evS, stripV, gOk, gAll, opsOf, boolV, apG, numd, prL, cellsV, isB, out1, fail, fillOb, fillL, replaceAt, rowsV, newV, boundV, intV, lcOf, lcA, scA, Va.bo, Va.i, Va.st, Ret, allOb, rvOut, convB, convBs, convC, convR, conv, unD, Nat.reduceAdd, Nat.reduceSub, Nat.reduceMul, Nat.reduceLeDiff, Nat.reduceEqDiff, Nat.reduceLT, Nat.reduceBEq, reduceIte, reduceCtorEq, Int.reduceToNat, fnV, argsV, touchO, evO, bareI, Nat.reduceShiftRight, Nat.reduceAnd, Nat.reduceBneDiff, Nat.reduceBNe, rv21, wellL, List.any_map]
  rfl
theorem right_1 (s : List UInt8) : Fun Try.prog gl0 28 [.st s] (.bo (!decide (s.length = 128))) := by
  refine fun_walk [] Try.func28 Try.ntmps28 cc28 cr28 (by kernel_rfl) (by simp only [List.length_cons, List.length_nil]; decide) ?_
  simp only [wk0, wk1, wk2, wk3, wk4, wk5, wk6, wk7, wk8, wk9, wk10, Rw_op, Rw_opg, RwD_op, RwD_opg, Bool.cond_true, Bool.cond_false, if_true, if_false, implies_true, forall_const, eq_self, ne_eq, forall_eq, forall_eq', forall_eq_or_imp, exists_eq', bne_self_eq_false, dchk, meets, touchS, touchI, quietI, allocI, isCall, idsV, ch0, Nat.testBit, semI, binS, unS, nilS, aggS, eqLs, eqL, evT, evS, stripV, gOk, gAll, opsOf, boolV, apG, numd, prL, cellsV, isB, out1, fail, fillOb, fillL, replaceAt, rowsV, newV, boundV, intV, lcOf, lcA, scA, Va.bo, Va.i, Va.st, Ret, allOb, rvOut, convB, convBs, convC, convR, conv, unD, Nat.reduceAdd, Nat.reduceSub, Nat.reduceMul, Nat.reduceLeDiff, Nat.reduceEqDiff, Nat.reduceLT, Nat.reduceBEq, reduceIte, reduceCtorEq, Int.reduceToNat, fnV, argsV, touchO, evO, bareI, Nat.reduceShiftRight, Nat.reduceAnd, Nat.reduceBneDiff, Nat.reduceBNe]
  unfold c28
  refine .seq (Rw.walk ?_)
  simp only [wk0, wk1, wk2, wk3, wk4, wk5, wk6, wk7, wk8, wk9, wk10, Rw_op, Rw_opg, RwD_op, RwD_opg, Bool.cond_true, Bool.cond_false, if_true, if_false, implies_true, forall_const, eq_self, ne_eq, forall_eq, forall_eq', forall_eq_or_imp, exists_eq', bne_self_eq_false, dchk, meets, touchS, touchI, quietI, allocI, isCall, idsV, ch0, Nat.testBit, semI, binS, unS, nilS, aggS, eqLs, eqL, evT, evS, stripV, gOk, gAll, opsOf, boolV, apG, numd, prL, cellsV, isB, out1, fail, fillOb, fillL, replaceAt, rowsV, newV, boundV, intV, lcOf, lcA, scA, Va.bo, Va.i, Va.st, Ret, allOb, rvOut, convB, convBs, convC, convR, conv, unD, Nat.reduceAdd, Nat.reduceSub, Nat.reduceMul, Nat.reduceLeDiff, Nat.reduceEqDiff, Nat.reduceLT, Nat.reduceBEq, reduceIte, reduceCtorEq, Int.reduceToNat, fnV, argsV, touchO, evO, bareI, Nat.reduceShiftRight, Nat.reduceAnd, Nat.reduceBneDiff, Nat.reduceBNe, c28r0]
  refine .seq (Rw.walk ?_)
  simp only [wk0, wk1, wk2, wk3, wk4, wk5, wk6, wk7, wk8, wk9, wk10, Rw_op, Rw_opg, RwD_op, RwD_opg, Bool.cond_true, Bool.cond_false, if_true, if_false, implies_true, forall_const, eq_self, ne_eq, forall_eq, forall_eq', forall_eq_or_imp, exists_eq', bne_self_eq_false, dchk, meets, touchS, touchI, quietI, allocI, isCall, idsV, ch0, Nat.testBit, semI, binS, unS, nilS, aggS, eqLs, eqL, evT, evS, stripV, gOk, gAll, opsOf, boolV, apG, numd, prL, cellsV, isB, out1, fail, fillOb, fillL, replaceAt, rowsV, newV, boundV, intV, lcOf, lcA, scA, Va.bo, Va.i, Va.st, Ret, allOb, rvOut, convB, convBs, convC, convR, conv, unD, Nat.reduceAdd, Nat.reduceSub, Nat.reduceMul, Nat.reduceLeDiff, Nat.reduceEqDiff, Nat.reduceLT, Nat.reduceBEq, reduceIte, reduceCtorEq, Int.reduceToNat, fnV, argsV, touchO, evO, bareI, Nat.reduceShiftRight, Nat.reduceAnd, Nat.reduceBneDiff, Nat.reduceBNe, c28r1]
  refine .ret ?_
  simp only [wk0, wk1, wk2, wk3, wk4, wk5, wk6, wk7, wk8, wk9, wk10, Rw_op, Rw_opg, RwD_op, RwD_opg, Bool.cond_true, Bool.cond_false, if_true, if_false, implies_true, forall_const, eq_self, ne_eq, forall_eq, forall_eq', forall_eq_or_imp, exists_eq', bne_self_eq_false, dchk, meets, touchS, touchI, quietI, allocI, isCall, idsV, ch0, Nat.testBit, semI, binS, unS, nilS, aggS, eqLs, eqL, evT, evS, stripV, gOk, gAll, opsOf, boolV, apG, numd, prL, cellsV, isB, out1, fail, fillOb, fillL, replaceAt, rowsV, newV, boundV, intV, lcOf, lcA, scA, Va.bo, Va.i, Va.st, Ret, allOb, rvOut, convB, convBs, convC, convR, conv, unD, Nat.reduceAdd, Nat.reduceSub, Nat.reduceMul, Nat.reduceLeDiff, Nat.reduceEqDiff, Nat.reduceLT, Nat.reduceBEq, reduceIte, reduceCtorEq, Int.reduceToNat, fnV, argsV, touchO, evO, bareI, Nat.reduceShiftRight, Nat.reduceAnd, Nat.reduceBneDiff, Nat.reduceBNe, rv28, len_ne]
/-- Whether a disk may be. -/
def rightL (s : List (List UInt8)) (t : List SWr) : Bool := decide (4 ≤ s.length) && decide (s.length ≤ 64) && decide (t.length ≤ 200) && !(s.any fun x => !decide (x.length = 128)) && wellL s.length t
def unStr : List Sc → List UInt8
  | [.str b] => b
  | _ => []
theorem disk_Right (s : List (List UInt8)) (t : List SWr) (hs : s.length ≤ 9223372036854775807) (ht : t.length ≤ 9223372036854775807) : Fun Try.prog gl0 17 [.b (.agg ((encD s t).map Lc.d))] (.bo (rightL s t)) := by
  refine fun_walk [] Try.func17 Try.ntmps17 cc17 cr17 (by kernel_rfl) (by simp only [List.length_cons, List.length_nil]; decide) ?_
  simp only [wk0, wk1, wk2, wk3, wk4, wk5, wk6, wk7, wk8, wk9, wk10, Rw_op, Rw_opg, RwD_op, RwD_opg, Bool.cond_true, Bool.cond_false, if_true, if_false, implies_true, forall_const, eq_self, ne_eq, forall_eq, forall_eq', forall_eq_or_imp, exists_eq', bne_self_eq_false, dchk, meets, touchS, touchI, quietI, allocI, isCall, idsV, ch0, Nat.testBit, semI, binS, unS, nilS, aggS, eqLs, eqL, evT, evS, stripV, gOk, gAll, opsOf, boolV, apG, numd, prL, cellsV, isB, out1, fail, fillOb, fillL, replaceAt, rowsV, newV, boundV, intV, lcOf, lcA, scA, Va.bo, Va.i, Va.st, Ret, allOb, rvOut, convB, convBs, convC, convR, conv, unD, Nat.reduceAdd, Nat.reduceSub, Nat.reduceMul, Nat.reduceLeDiff, Nat.reduceEqDiff, Nat.reduceLT, Nat.reduceBEq, reduceIte, reduceCtorEq, Int.reduceToNat, fnV, argsV, touchO, evO, bareI, Nat.reduceShiftRight, Nat.reduceAnd, Nat.reduceBneDiff, Nat.reduceBNe, encD]
  unfold c17
  refine .seq (Rw.walk ?_)
  simp only [wk0, wk1, wk2, wk3, wk4, wk5, wk6, wk7, wk8, wk9, wk10, Rw_op, Rw_opg, RwD_op, RwD_opg, Bool.cond_true, Bool.cond_false, if_true, if_false, implies_true, forall_const, eq_self, ne_eq, forall_eq, forall_eq', forall_eq_or_imp, exists_eq', bne_self_eq_false, dchk, meets, touchS, touchI, quietI, allocI, isCall, idsV, ch0, Nat.testBit, semI, binS, unS, nilS, aggS, eqLs, eqL, evT, evS, stripV, gOk, gAll, opsOf, boolV, apG, numd, prL, cellsV, isB, out1, fail, fillOb, fillL, replaceAt, rowsV, newV, boundV, intV, lcOf, lcA, scA, Va.bo, Va.i, Va.st, Ret, allOb, rvOut, convB, convBs, convC, convR, conv, unD, Nat.reduceAdd, Nat.reduceSub, Nat.reduceMul, Nat.reduceLeDiff, Nat.reduceEqDiff, Nat.reduceLT, Nat.reduceBEq, reduceIte, reduceCtorEq, Int.reduceToNat, fnV, argsV, touchO, evO, bareI, Nat.reduceShiftRight, Nat.reduceAnd, Nat.reduceBneDiff, Nat.reduceBNe, c17r0]
  refine .seq (Rw.walk ?_)
  simp only [wk0, wk1, wk2, wk3, wk4, wk5, wk6, wk7, wk8, wk9, wk10, Rw_op, Rw_opg, RwD_op, RwD_opg, Bool.cond_true, Bool.cond_false, if_true, if_false, implies_true, forall_const, eq_self, ne_eq, forall_eq, forall_eq', forall_eq_or_imp, exists_eq', bne_self_eq_false, dchk, meets, touchS, touchI, quietI, allocI, isCall, idsV, ch0, Nat.testBit, semI, binS, unS, nilS, aggS, eqLs, eqL, evT, evS, stripV, gOk, gAll, opsOf, boolV, apG, numd, prL, cellsV, isB, out1, fail, fillOb, fillL, replaceAt, rowsV, newV, boundV, intV, lcOf, lcA, scA, Va.bo, Va.i, Va.st, Ret, allOb, rvOut, convB, convBs, convC, convR, conv, unD, Nat.reduceAdd, Nat.reduceSub, Nat.reduceMul, Nat.reduceLeDiff, Nat.reduceEqDiff, Nat.reduceLT, Nat.reduceBEq, reduceIte, reduceCtorEq, Int.reduceToNat, fnV, argsV, touchO, evO, bareI, Nat.reduceShiftRight, Nat.reduceAnd, Nat.reduceBneDiff, Nat.reduceBNe, c17r1]
  refine .seq (Rw.walk ?_)
  simp only [wk0, wk1, wk2, wk3, wk4, wk5, wk6, wk7, wk8, wk9, wk10, Rw_op, Rw_opg, RwD_op, RwD_opg, Bool.cond_true, Bool.cond_false, if_true, if_false, implies_true, forall_const, eq_self, ne_eq, forall_eq, forall_eq', forall_eq_or_imp, exists_eq', bne_self_eq_false, dchk, meets, touchS, touchI, quietI, allocI, isCall, idsV, ch0, Nat.testBit, semI, binS, unS, nilS, aggS, eqLs, eqL, evT, evS, stripV, gOk, gAll, opsOf, boolV, apG, numd, prL, cellsV, isB, out1, fail, fillOb, fillL, replaceAt, rowsV, newV, boundV, intV, lcOf, lcA, scA, Va.bo, Va.i, Va.st, Ret, allOb, rvOut, convB, convBs, convC, convR, conv, unD, Nat.reduceAdd, Nat.reduceSub, Nat.reduceMul, Nat.reduceLeDiff, Nat.reduceEqDiff, Nat.reduceLT, Nat.reduceBEq, reduceIte, reduceCtorEq, Int.reduceToNat, fnV, argsV, touchO, evO, bareI, Nat.reduceShiftRight, Nat.reduceAnd, Nat.reduceBneDiff, Nat.reduceBNe, c17r2]
  refine .seq (Rw.walk ?_)
  simp only [wk0, wk1, wk2, wk3, wk4, wk5, wk6, wk7, wk8, wk9, wk10, Rw_op, Rw_opg, RwD_op, RwD_opg, Bool.cond_true, Bool.cond_false, if_true, if_false, implies_true, forall_const, eq_self, ne_eq, forall_eq, forall_eq', forall_eq_or_imp, exists_eq', bne_self_eq_false, dchk, meets, touchS, touchI, quietI, allocI, isCall, idsV, ch0, Nat.testBit, semI, binS, unS, nilS, aggS, eqLs, eqL, evT, evS, stripV, gOk, gAll, opsOf, boolV, apG, numd, prL, cellsV, isB, out1, fail, fillOb, fillL, replaceAt, rowsV, newV, boundV, intV, lcOf, lcA, scA, Va.bo, Va.i, Va.st, Ret, allOb, rvOut, convB, convBs, convC, convR, conv, unD, Nat.reduceAdd, Nat.reduceSub, Nat.reduceMul, Nat.reduceLeDiff, Nat.reduceEqDiff, Nat.reduceLT, Nat.reduceBEq, reduceIte, reduceCtorEq, Int.reduceToNat, fnV, argsV, touchO, evO, bareI, Nat.reduceShiftRight, Nat.reduceAnd, Nat.reduceBneDiff, Nat.reduceBNe, c17r3]
  refine call_funG [] rfl ?_ rfl rfl (fun _ => anyS (s.map encS) 28 [] (fun r => !decide ((unStr r).length = 128)) (by simpa using hs) (encS_len s) (fun r hr => ?_)) rfl (by simp) ?_
  · simp only [wk0, wk1, wk2, wk3, wk4, wk5, wk6, wk7, wk8, wk9, wk10, Rw_op, Rw_opg, RwD_op, RwD_opg, Bool.cond_true, Bool.cond_false, if_true, if_false, implies_true, forall_const, eq_self, ne_eq, forall_eq, forall_eq', forall_eq_or_imp, exists_eq', bne_self_eq_false, dchk, meets, touchS, touchI, quietI, allocI, isCall, idsV, ch0, Nat.testBit, semI, binS, unS, nilS, aggS, eqLs, eqL, evT, evS, stripV, gOk, gAll, opsOf, boolV, apG, numd, prL, cellsV, isB, out1, fail, fillOb, fillL, replaceAt, rowsV, newV, boundV, intV, lcOf, lcA, scA, Va.bo, Va.i, Va.st, Ret, allOb, rvOut, convB, convBs, convC, convR, conv, unD, Nat.reduceAdd, Nat.reduceSub, Nat.reduceMul, Nat.reduceLeDiff, Nat.reduceEqDiff, Nat.reduceLT, Nat.reduceBEq, reduceIte, reduceCtorEq, Int.reduceToNat, fnV, argsV, touchO, evO, bareI, Nat.reduceShiftRight, Nat.reduceAnd, Nat.reduceBneDiff, Nat.reduceBNe]
  · obtain ⟨x, _, rfl⟩ := List.mem_map.1 hr
    exact right_1 x
  simp only [wk0, wk1, wk2, wk3, wk4, wk5, wk6, wk7, wk8, wk9, wk10, Rw_op, Rw_opg, RwD_op, RwD_opg, Bool.cond_true, Bool.cond_false, if_true, if_false, implies_true, forall_const, eq_self, ne_eq, forall_eq, forall_eq', forall_eq_or_imp, exists_eq', bne_self_eq_false, dchk, meets, touchS, touchI, quietI, allocI, isCall, idsV, ch0, Nat.testBit, semI, binS, unS, nilS, aggS, eqLs, eqL, evT, evS, stripV, gOk, gAll, opsOf, boolV, apG, numd, prL, cellsV, isB, out1, fail, fillOb, fillL, replaceAt, rowsV, newV, boundV, intV, lcOf, lcA, scA, Va.bo, Va.i, Va.st, Ret, allOb, rvOut, convB, convBs, convC, convR, conv, unD, Nat.reduceAdd, Nat.reduceSub, Nat.reduceMul, Nat.reduceLeDiff, Nat.reduceEqDiff, Nat.reduceLT, Nat.reduceBEq, reduceIte, reduceCtorEq, Int.reduceToNat, fnV, argsV, touchO, evO, bareI, Nat.reduceShiftRight, Nat.reduceAnd, Nat.reduceBneDiff, Nat.reduceBNe, List.any_map]
  refine call_funG [] rfl ?_ rfl rfl (fun _ => disk_well t s.length ht) rfl (by simp) ?_
  · simp only [wk0, wk1, wk2, wk3, wk4, wk5, wk6, wk7, wk8, wk9, wk10, Rw_op, Rw_opg, RwD_op, RwD_opg, Bool.cond_true, Bool.cond_false, if_true, if_false, implies_true, forall_const, eq_self, ne_eq, forall_eq, forall_eq', forall_eq_or_imp, exists_eq', bne_self_eq_false, dchk, meets, touchS, touchI, quietI, allocI, isCall, idsV, ch0, Nat.testBit, semI, binS, unS, nilS, aggS, eqLs, eqL, evT, evS, stripV, gOk, gAll, opsOf, boolV, apG, numd, prL, cellsV, isB, out1, fail, fillOb, fillL, replaceAt, rowsV, newV, boundV, intV, lcOf, lcA, scA, Va.bo, Va.i, Va.st, Ret, allOb, rvOut, convB, convBs, convC, convR, conv, unD, Nat.reduceAdd, Nat.reduceSub, Nat.reduceMul, Nat.reduceLeDiff, Nat.reduceEqDiff, Nat.reduceLT, Nat.reduceBEq, reduceIte, reduceCtorEq, Int.reduceToNat, fnV, argsV, touchO, evO, bareI, Nat.reduceShiftRight, Nat.reduceAnd, Nat.reduceBneDiff, Nat.reduceBNe]
  simp only [wk0, wk1, wk2, wk3, wk4, wk5, wk6, wk7, wk8, wk9, wk10, Rw_op, Rw_opg, RwD_op, RwD_opg, Bool.cond_true, Bool.cond_false, if_true, if_false, implies_true, forall_const, eq_self, ne_eq, forall_eq, forall_eq', forall_eq_or_imp, exists_eq', bne_self_eq_false, dchk, meets, touchS, touchI, quietI, allocI, isCall, idsV, ch0, Nat.testBit, semI, binS, unS, nilS, aggS, eqLs, eqL, evT, evS, stripV, gOk, gAll, opsOf, boolV, apG, numd, prL, cellsV, isB, out1, fail, fillOb, fillL, replaceAt, rowsV, newV, boundV, intV, lcOf, lcA, scA, Va.bo, Va.i, Va.st, Ret, allOb, rvOut, convB, convBs, convC, convR, conv, unD, Nat.reduceAdd, Nat.reduceSub, Nat.reduceMul, Nat.reduceLeDiff, Nat.reduceEqDiff, Nat.reduceLT, Nat.reduceBEq, reduceIte, reduceCtorEq, Int.reduceToNat, fnV, argsV, touchO, evO, bareI, Nat.reduceShiftRight, Nat.reduceAnd, Nat.reduceBneDiff, Nat.reduceBNe]
  refine .ret ?_
  simp only [wk0, wk1, wk2, wk3, wk4, wk5, wk6, wk7, wk8, wk9, wk10, Rw_op, Rw_opg, RwD_op, RwD_opg, Bool.cond_true, Bool.cond_false, if_true, if_false, implies_true, forall_const, eq_self, ne_eq, forall_eq, forall_eq', forall_eq_or_imp, exists_eq', bne_self_eq_false, dchk, meets, touchS, touchI, quietI, allocI, isCall, idsV, ch0, Nat.testBit, semI, binS, unS, nilS, aggS, eqLs, eqL, evT, evS, stripV, gOk, gAll, opsOf, boolV, apG, numd, prL, cellsV, isB, out1, fail, fillOb, fillL, replaceAt, rowsV, newV, boundV, intV, lcOf, lcA, scA, Va.bo, Va.i, Va.st, Ret, allOb, rvOut, convB, convBs, convC, convR, conv, unD, Nat.reduceAdd, Nat.reduceSub, Nat.reduceMul, Nat.reduceLeDiff, Nat.reduceEqDiff, Nat.reduceLT, Nat.reduceBEq, reduceIte, reduceCtorEq, Int.reduceToNat, fnV, argsV, touchO, evO, bareI, Nat.reduceShiftRight, Nat.reduceAnd, Nat.reduceBneDiff, Nat.reduceBNe, rv17, rightL]
  rw [show decide ((s.length : Int) ≥ 4) = decide (4 ≤ s.length) from decide_eq_decide.2 (by omega), show decide ((s.length : Int) ≤ 64) = decide (s.length ≤ 64) from decide_eq_decide.2 (by omega), show decide ((t.length : Int) ≤ 200) = decide (t.length ≤ 200) from decide_eq_decide.2 (by omega)]
  rfl
end Go.Proofs.Ytjpomfbkfgkifaa.V
end

section
/- The disk's calls that write. -/
namespace Go.Proofs.Ytjpomfbkfgkifaa.V
open Go Go.RowKit
set_option linter.unusedVariables false
set_option linter.unusedSimpArgs false
def c22r0 : List Opn := [
  ⟨(some 2), none, .mv (.c (.s .nils))⟩]
def c22r1 : List Opn := [
  ⟨(some 3), none, .mv (.t 0)⟩, 
  ⟨(some 4), none, .mv (.t 0)⟩, 
  ⟨(some 5), none, .len (.sl 0) (.t 4)⟩, 
  ⟨(some 6), none, .mv (.t 0)⟩, 
  ⟨(some 7), none, .len (.sl 0) (.t 6)⟩, 
  ⟨(some 8), none, .slc (.sl 2) (.t 3) none (some (.t 5)) (some (.t 7))⟩, 
  ⟨(some 2), none, .mv (.t 8)⟩]
def c22 : C := .seq (.reg c22r0 none [0]) (.seq (.reg c22r1 none [2]) (.ret))
def k22 : List (Nat × List Nat) := [(1, [2]), (0, [0])]
theorem cc22 : (Try.f22.body).bind (cC Try.prog 9 k22) = some c22 := by kernel_rfl
def rv22 : List RV := [.t 2]
theorem cr22 : cRVs Try.prog Try.f22.results.toList = some rv22 := by kernel_rfl
def c10r0 : List Opn := [
  ⟨(some 2), none, .box 2 (.t 0)⟩, 
  ⟨(some 4), none, .new [.nils, .nils]⟩, 
  ⟨(some 5), none, .mv (.c (.s (.d (.int .i64 0))))⟩]
def c10r1 : List Opn := [
  ⟨(some 7), none, .load true 2 (.t 2)⟩, 
  ⟨(some 8), none, .call (.fn 17) [(.t 7)]⟩, 
  ⟨(some 9), none, .un .not (.t 8)⟩, 
  ⟨(some 10), none, .mv (.t 9)⟩, 
  ⟨(some 11), some (10, false), .mv (.t 1)⟩, 
  ⟨(some 12), some (10, false), .fadr 0 (.t 2)⟩, 
  ⟨(some 13), some (10, false), .load false 1 (.t 12)⟩, 
  ⟨(some 14), some (10, false), .len (.sl 0) (.t 13)⟩, 
  ⟨(some 15), some (10, false), .call (.fn 21) [(.t 11), (.t 14)]⟩, 
  ⟨(some 16), some (10, false), .un .not (.t 15)⟩, 
  ⟨(some 17), none, .pick (.t 10) (.c (.s (.d (.bool true)))) (.t 16)⟩, 
  ⟨(some 6), none, .mv (.t 17)⟩]
def c10r2 : List Opn := [
  ⟨(some 18), none, .build [.nils, .nils] []⟩, 
  ⟨none, none, .store 2 (.t 4) (.t 18)⟩, 
  ⟨(some 5), none, .mv (.c (.s (.d (.int .i64 1))))⟩]
def c10r3 : List Opn := [
  ⟨(some 20), none, .fadr 1 (.t 2)⟩, 
  ⟨(some 21), none, .load false 1 (.t 20)⟩, 
  ⟨(some 22), none, .len (.sl 0) (.t 21)⟩, 
  ⟨(some 23), none, .mv (.t 1)⟩, 
  ⟨(some 24), none, .len (.sl 0) (.t 23)⟩, 
  ⟨(some 25), none, .bin .add (.t 22) (.t 24)⟩, 
  ⟨(some 26), none, .bin .gtr (.t 25) (.c (.s (.d (.int .i64 200))))⟩, 
  ⟨(some 19), none, .mv (.t 26)⟩]
def c10r4 : List Opn := [
  ⟨(some 27), none, .build [.nils, .nils] []⟩, 
  ⟨none, none, .store 2 (.t 4) (.t 27)⟩, 
  ⟨(some 5), none, .mv (.c (.s (.d (.int .i64 13))))⟩]
def c10r5 : List Opn := [
  ⟨(some 28), none, .fadr 1 (.t 2)⟩, 
  ⟨(some 29), none, .load false 1 (.t 28)⟩, 
  ⟨(some 30), none, .call (.fn 22) [(.t 29)]⟩, 
  ⟨(some 31), none, .mv (.t 1)⟩, 
  ⟨(some 32), none, .app 2 24 false (.t 30) (.t 31)⟩, 
  ⟨(some 33), none, .fadr 1 (.t 2)⟩, 
  ⟨none, none, .store 1 (.t 33) (.t 32)⟩]
def c10r6 : List Opn := [
  ⟨(some 34), none, .load true 2 (.t 2)⟩, 
  ⟨none, none, .store 2 (.t 4) (.t 34)⟩, 
  ⟨(some 5), none, .mv (.c (.s (.d (.int .i64 0))))⟩]
def c10 : C := .seq (.reg c10r0 none [1, 2, 4]) (.seq (.blk 0 (.seq (.reg c10r1 none [1, 2, 4, 6]) (.cond (.t 6) (.seq (.reg c10r2 none [4, 5]) (.ret)) (.seq (.reg c10r3 none [1, 2, 4, 19]) (.cond (.t 19) (.seq (.reg c10r4 none [4, 5]) (.ret)) (.skip)))))) (.seq (.reg c10r5 none [2, 4]) (.seq (.reg c10r6 none [4, 5]) (.ret))))
def k10 : List (Nat × List Nat) := [(6, [4, 5]), (5, [2, 4]), (2, [4, 5]), (4, [4, 5]), (3, [1, 2, 4, 19]), (1, [1, 2, 4, 6]), (0, [1, 2, 4])]
theorem cc10 : (Try.f10.body).bind (cC Try.prog 35 k10) = some c10 := by kernel_rfl
def rv10 : List RV := [.c 4 true 2, .t 5]
theorem cr10 : cRVs Try.prog Try.f10.results.toList = some rv10 := by kernel_rfl
theorem clipW (t : List (List Sc)) (hst : ∀ r, r ∈ t → r.length = 2) : Fun Try.prog gl0 22 [.b (.s (.d (.sl t)))] (.b (.s (.full t))) := by
  refine fun_walk [] Try.func22 Try.ntmps22 cc22 cr22 (by kernel_rfl) (by simp only [List.length_cons, List.length_nil]; decide) ?_
  simp only [wk0, wk1, wk2, wk3, wk4, wk5, wk6, wk7, wk8, wk9, wk10, Rw_op, Rw_opg, RwD_op, RwD_opg, Bool.cond_true, Bool.cond_false, if_true, if_false, implies_true, forall_const, eq_self, ne_eq, forall_eq, forall_eq', forall_eq_or_imp, exists_eq', bne_self_eq_false, dchk, meets, touchS, touchI, quietI, allocI, isCall, idsV, ch0, Nat.testBit, semI, binS, unS, nilS, aggS, eqLs, eqL, evT, evS, stripV, gOk, gAll, opsOf, boolV, apG, numd, prL, cellsV, isB, out1, fail, fillOb, fillL, replaceAt, rowsV, newV, boundV, intV, lcOf, lcA, scA, Va.bo, Va.i, Va.st, Ret, allOb, rvOut, convB, convBs, convC, convR, conv, unD, Nat.reduceAdd, Nat.reduceSub, Nat.reduceMul, Nat.reduceLeDiff, Nat.reduceEqDiff, Nat.reduceLT, Nat.reduceBEq, reduceIte, reduceCtorEq, Int.reduceToNat, fnV, argsV, touchO, evO, bareI, Nat.reduceShiftRight, Nat.reduceAnd, Nat.reduceBneDiff, Nat.reduceBNe]
  unfold c22
  refine .seq (Rw.walk ?_)
  simp only [wk0, wk1, wk2, wk3, wk4, wk5, wk6, wk7, wk8, wk9, wk10, Rw_op, Rw_opg, RwD_op, RwD_opg, Bool.cond_true, Bool.cond_false, if_true, if_false, implies_true, forall_const, eq_self, ne_eq, forall_eq, forall_eq', forall_eq_or_imp, exists_eq', bne_self_eq_false, dchk, meets, touchS, touchI, quietI, allocI, isCall, idsV, ch0, Nat.testBit, semI, binS, unS, nilS, aggS, eqLs, eqL, evT, evS, stripV, gOk, gAll, opsOf, boolV, apG, numd, prL, cellsV, isB, out1, fail, fillOb, fillL, replaceAt, rowsV, newV, boundV, intV, lcOf, lcA, scA, Va.bo, Va.i, Va.st, Ret, allOb, rvOut, convB, convBs, convC, convR, conv, unD, Nat.reduceAdd, Nat.reduceSub, Nat.reduceMul, Nat.reduceLeDiff, Nat.reduceEqDiff, Nat.reduceLT, Nat.reduceBEq, reduceIte, reduceCtorEq, Int.reduceToNat, fnV, argsV, touchO, evO, bareI, Nat.reduceShiftRight, Nat.reduceAnd, Nat.reduceBneDiff, Nat.reduceBNe, c22r0]
  refine .seq (Rw.walk ?_)
  simp only [wk0, wk1, wk2, wk3, wk4, wk5, wk6, wk7, wk8, wk9, wk10, Rw_op, Rw_opg, RwD_op, RwD_opg, Bool.cond_true, Bool.cond_false, if_true, if_false, implies_true, forall_const, eq_self, ne_eq, forall_eq, forall_eq', forall_eq_or_imp, exists_eq', bne_self_eq_false, dchk, meets, touchS, touchI, quietI, allocI, isCall, idsV, ch0, Nat.testBit, semI, binS, unS, nilS, aggS, eqLs, eqL, evT, evS, stripV, gOk, gAll, opsOf, boolV, apG, numd, prL, cellsV, isB, out1, fail, fillOb, fillL, replaceAt, rowsV, newV, boundV, intV, lcOf, lcA, scA, Va.bo, Va.i, Va.st, Ret, allOb, rvOut, convB, convBs, convC, convR, conv, unD, Nat.reduceAdd, Nat.reduceSub, Nat.reduceMul, Nat.reduceLeDiff, Nat.reduceEqDiff, Nat.reduceLT, Nat.reduceBEq, reduceIte, reduceCtorEq, Int.reduceToNat, fnV, argsV, touchO, evO, bareI, Nat.reduceShiftRight, Nat.reduceAnd, Nat.reduceBneDiff, Nat.reduceBNe, c22r1]
  refine ⟨⟨by omega, by omega, by omega, hst⟩, ?_⟩
  refine .ret ?_
  simp only [wk0, wk1, wk2, wk3, wk4, wk5, wk6, wk7, wk8, wk9, wk10, Rw_op, Rw_opg, RwD_op, RwD_opg, Bool.cond_true, Bool.cond_false, if_true, if_false, implies_true, forall_const, eq_self, ne_eq, forall_eq, forall_eq', forall_eq_or_imp, exists_eq', bne_self_eq_false, dchk, meets, touchS, touchI, quietI, allocI, isCall, idsV, ch0, Nat.testBit, semI, binS, unS, nilS, aggS, eqLs, eqL, evT, evS, stripV, gOk, gAll, opsOf, boolV, apG, numd, prL, cellsV, isB, out1, fail, fillOb, fillL, replaceAt, rowsV, newV, boundV, intV, lcOf, lcA, scA, Va.bo, Va.i, Va.st, Ret, allOb, rvOut, convB, convBs, convC, convR, conv, unD, Nat.reduceAdd, Nat.reduceSub, Nat.reduceMul, Nat.reduceLeDiff, Nat.reduceEqDiff, Nat.reduceLT, Nat.reduceBEq, reduceIte, reduceCtorEq, Int.reduceToNat, fnV, argsV, touchO, evO, bareI, Nat.reduceShiftRight, Nat.reduceAnd, Nat.reduceBneDiff, Nat.reduceBNe, rv22]
  rw [List.take_of_length_le (by omega)]
/-- What a call tells. -/
abbrev er (n : Int) : Vb := .s (.d (.int .i64 n))
abbrev aD (s : List (List UInt8)) (t : List SWr) : Vb := .agg ((encD s t).map Lc.d)
def saveL (s : List (List UInt8)) (t l : List SWr) : List (List UInt8) × List SWr × Int :=
  if !rightL s t || !wellL s.length l then ([], [], 1) else if t.length + l.length > 200 then ([], [], 13) else (s, t ++ l, 0)
theorem rightL_t {s : List (List UInt8)} {t : List SWr} (h : rightL s t = true) : s.length ≤ 64 ∧ t.length ≤ 200 ∧ 4 ≤ s.length ∧ (∀ x, x ∈ s → x.length = 128) ∧ ∀ w, w ∈ t → 0 ≤ w.1 ∧ w.1 < s.length ∧ w.2.length = 128 := by
  simp only [rightL, wellL, badWr, Bool.and_eq_true, decide_eq_true_eq, Bool.not_eq_true', List.any_eq_false, Bool.or_eq_false_iff, decide_eq_false_iff_not, Bool.not_eq_false'] at h
  obtain ⟨⟨⟨⟨h1, h2⟩, h3⟩, h4⟩, h5⟩ := h
  refine ⟨h2, h3, h1, fun x hx => ?_, fun w hw => ?_⟩
  · simpa using h4 x hx
  · have := h5 w hw
    simp at this
    omega
theorem disk_Save (s : List (List UInt8)) (t l : List SWr) (hs : s.length ≤ 9223372036854775807) (ht : t.length ≤ 9223372036854775807) (hl : l.length ≤ 1099511627776) : Fun Try.prog gl0 10 [.b (aD s t), .b (.s (.d (.sl (l.map encW))))] (.tup [aD (saveL s t l).1 (saveL s t l).2.1, er (saveL s t l).2.2]) := by
  refine fun_walk [32] Try.func10 Try.ntmps10 cc10 cr10 (by kernel_rfl) (by simp only [List.length_cons, List.length_nil]; decide) ?_
  simp only [wk0, wk1, wk2, wk3, wk4, wk5, wk6, wk7, wk8, wk9, wk10, Rw_op, Rw_opg, RwD_op, RwD_opg, Bool.cond_true, Bool.cond_false, if_true, if_false, implies_true, forall_const, eq_self, ne_eq, forall_eq, forall_eq', forall_eq_or_imp, exists_eq', bne_self_eq_false, dchk, meets, touchS, touchI, quietI, allocI, isCall, idsV, ch0, Nat.testBit, semI, binS, unS, nilS, aggS, eqLs, eqL, evT, evS, stripV, gOk, gAll, opsOf, boolV, apG, numd, prL, cellsV, isB, out1, fail, fillOb, fillL, replaceAt, rowsV, newV, boundV, intV, lcOf, lcA, scA, Va.bo, Va.i, Va.st, Ret, allOb, rvOut, convB, convBs, convC, convR, conv, unD, Nat.reduceAdd, Nat.reduceSub, Nat.reduceMul, Nat.reduceLeDiff, Nat.reduceEqDiff, Nat.reduceLT, Nat.reduceBEq, reduceIte, reduceCtorEq, Int.reduceToNat, fnV, argsV, touchO, evO, bareI, Nat.reduceShiftRight, Nat.reduceAnd, Nat.reduceBneDiff, Nat.reduceBNe, encD, aD]
  unfold c10
  refine .seq (Rw.walk ?_)
  simp only [wk0, wk1, wk2, wk3, wk4, wk5, wk6, wk7, wk8, wk9, wk10, Rw_op, Rw_opg, RwD_op, RwD_opg, Bool.cond_true, Bool.cond_false, if_true, if_false, implies_true, forall_const, eq_self, ne_eq, forall_eq, forall_eq', forall_eq_or_imp, exists_eq', bne_self_eq_false, dchk, meets, touchS, touchI, quietI, allocI, isCall, idsV, ch0, Nat.testBit, semI, binS, unS, nilS, aggS, eqLs, eqL, evT, evS, stripV, gOk, gAll, opsOf, boolV, apG, numd, prL, cellsV, isB, out1, fail, fillOb, fillL, replaceAt, rowsV, newV, boundV, intV, lcOf, lcA, scA, Va.bo, Va.i, Va.st, Ret, allOb, rvOut, convB, convBs, convC, convR, conv, unD, Nat.reduceAdd, Nat.reduceSub, Nat.reduceMul, Nat.reduceLeDiff, Nat.reduceEqDiff, Nat.reduceLT, Nat.reduceBEq, reduceIte, reduceCtorEq, Int.reduceToNat, fnV, argsV, touchO, evO, bareI, Nat.reduceShiftRight, Nat.reduceAnd, Nat.reduceBneDiff, Nat.reduceBNe, c10r0]
  refine .seq (.blk ?_)
  refine .seq (Rw.walk ?_)
  simp only [wk0, wk1, wk2, wk3, wk4, wk5, wk6, wk7, wk8, wk9, wk10, Rw_op, Rw_opg, RwD_op, RwD_opg, Bool.cond_true, Bool.cond_false, if_true, if_false, implies_true, forall_const, eq_self, ne_eq, forall_eq, forall_eq', forall_eq_or_imp, exists_eq', bne_self_eq_false, dchk, meets, touchS, touchI, quietI, allocI, isCall, idsV, ch0, Nat.testBit, semI, binS, unS, nilS, aggS, eqLs, eqL, evT, evS, stripV, gOk, gAll, opsOf, boolV, apG, numd, prL, cellsV, isB, out1, fail, fillOb, fillL, replaceAt, rowsV, newV, boundV, intV, lcOf, lcA, scA, Va.bo, Va.i, Va.st, Ret, allOb, rvOut, convB, convBs, convC, convR, conv, unD, Nat.reduceAdd, Nat.reduceSub, Nat.reduceMul, Nat.reduceLeDiff, Nat.reduceEqDiff, Nat.reduceLT, Nat.reduceBEq, reduceIte, reduceCtorEq, Int.reduceToNat, fnV, argsV, touchO, evO, bareI, Nat.reduceShiftRight, Nat.reduceAnd, Nat.reduceBneDiff, Nat.reduceBNe, c10r1]
  refine call_fun [] false ⟨trivial, trivial, trivial⟩ rfl ?_ (disk_Right s t hs ht) (fun _ => rfl) (by simp) ?_
  · simp only [wk0, wk1, wk2, wk3, wk4, wk5, wk6, wk7, wk8, wk9, wk10, Rw_op, Rw_opg, RwD_op, RwD_opg, Bool.cond_true, Bool.cond_false, if_true, if_false, implies_true, forall_const, eq_self, ne_eq, forall_eq, forall_eq', forall_eq_or_imp, exists_eq', bne_self_eq_false, dchk, meets, touchS, touchI, quietI, allocI, isCall, idsV, ch0, Nat.testBit, semI, binS, unS, nilS, aggS, eqLs, eqL, evT, evS, stripV, gOk, gAll, opsOf, boolV, apG, numd, prL, cellsV, isB, out1, fail, fillOb, fillL, replaceAt, rowsV, newV, boundV, intV, lcOf, lcA, scA, Va.bo, Va.i, Va.st, Ret, allOb, rvOut, convB, convBs, convC, convR, conv, unD, Nat.reduceAdd, Nat.reduceSub, Nat.reduceMul, Nat.reduceLeDiff, Nat.reduceEqDiff, Nat.reduceLT, Nat.reduceBEq, reduceIte, reduceCtorEq, Int.reduceToNat, fnV, argsV, touchO, evO, bareI, Nat.reduceShiftRight, Nat.reduceAnd, Nat.reduceBneDiff, Nat.reduceBNe, encD, aD]
  simp only [wk0, wk1, wk2, wk3, wk4, wk5, wk6, wk7, wk8, wk9, wk10, Rw_op, Rw_opg, RwD_op, RwD_opg, Bool.cond_true, Bool.cond_false, if_true, if_false, implies_true, forall_const, eq_self, ne_eq, forall_eq, forall_eq', forall_eq_or_imp, exists_eq', bne_self_eq_false, dchk, meets, touchS, touchI, quietI, allocI, isCall, idsV, ch0, Nat.testBit, semI, binS, unS, nilS, aggS, eqLs, eqL, evT, evS, stripV, gOk, gAll, opsOf, boolV, apG, numd, prL, cellsV, isB, out1, fail, fillOb, fillL, replaceAt, rowsV, newV, boundV, intV, lcOf, lcA, scA, Va.bo, Va.i, Va.st, Ret, allOb, rvOut, convB, convBs, convC, convR, conv, unD, Nat.reduceAdd, Nat.reduceSub, Nat.reduceMul, Nat.reduceLeDiff, Nat.reduceEqDiff, Nat.reduceLT, Nat.reduceBEq, reduceIte, reduceCtorEq, Int.reduceToNat, fnV, argsV, touchO, evO, bareI, Nat.reduceShiftRight, Nat.reduceAnd, Nat.reduceBneDiff, Nat.reduceBNe]
  refine call_funG [] rfl ?_ rfl rfl (fun _ => disk_well l s.length (by omega)) rfl (by simp) ?_
  · simp only [wk0, wk1, wk2, wk3, wk4, wk5, wk6, wk7, wk8, wk9, wk10, Rw_op, Rw_opg, RwD_op, RwD_opg, Bool.cond_true, Bool.cond_false, if_true, if_false, implies_true, forall_const, eq_self, ne_eq, forall_eq, forall_eq', forall_eq_or_imp, exists_eq', bne_self_eq_false, dchk, meets, touchS, touchI, quietI, allocI, isCall, idsV, ch0, Nat.testBit, semI, binS, unS, nilS, aggS, eqLs, eqL, evT, evS, stripV, gOk, gAll, opsOf, boolV, apG, numd, prL, cellsV, isB, out1, fail, fillOb, fillL, replaceAt, rowsV, newV, boundV, intV, lcOf, lcA, scA, Va.bo, Va.i, Va.st, Ret, allOb, rvOut, convB, convBs, convC, convR, conv, unD, Nat.reduceAdd, Nat.reduceSub, Nat.reduceMul, Nat.reduceLeDiff, Nat.reduceEqDiff, Nat.reduceLT, Nat.reduceBEq, reduceIte, reduceCtorEq, Int.reduceToNat, fnV, argsV, touchO, evO, bareI, Nat.reduceShiftRight, Nat.reduceAnd, Nat.reduceBneDiff, Nat.reduceBNe]
  simp only [wk0, wk1, wk2, wk3, wk4, wk5, wk6, wk7, wk8, wk9, wk10, Rw_op, Rw_opg, RwD_op, RwD_opg, Bool.cond_true, Bool.cond_false, if_true, if_false, implies_true, forall_const, eq_self, ne_eq, forall_eq, forall_eq', forall_eq_or_imp, exists_eq', bne_self_eq_false, dchk, meets, touchS, touchI, quietI, allocI, isCall, idsV, ch0, Nat.testBit, semI, binS, unS, nilS, aggS, eqLs, eqL, evT, evS, stripV, gOk, gAll, opsOf, boolV, apG, numd, prL, cellsV, isB, out1, fail, fillOb, fillL, replaceAt, rowsV, newV, boundV, intV, lcOf, lcA, scA, Va.bo, Va.i, Va.st, Ret, allOb, rvOut, convB, convBs, convC, convR, conv, unD, Nat.reduceAdd, Nat.reduceSub, Nat.reduceMul, Nat.reduceLeDiff, Nat.reduceEqDiff, Nat.reduceLT, Nat.reduceBEq, reduceIte, reduceCtorEq, Int.reduceToNat, fnV, argsV, touchO, evO, bareI, Nat.reduceShiftRight, Nat.reduceAnd, Nat.reduceBneDiff, Nat.reduceBNe]
  refine .cond rfl (fun h => ?_) (fun h => ?_)
  · refine .seq (Rw.walk ?_)
    simp only [wk0, wk1, wk2, wk3, wk4, wk5, wk6, wk7, wk8, wk9, wk10, Rw_op, Rw_opg, RwD_op, RwD_opg, Bool.cond_true, Bool.cond_false, if_true, if_false, implies_true, forall_const, eq_self, ne_eq, forall_eq, forall_eq', forall_eq_or_imp, exists_eq', bne_self_eq_false, dchk, meets, touchS, touchI, quietI, allocI, isCall, idsV, ch0, Nat.testBit, semI, binS, unS, nilS, aggS, eqLs, eqL, evT, evS, stripV, gOk, gAll, opsOf, boolV, apG, numd, prL, cellsV, isB, out1, fail, fillOb, fillL, replaceAt, rowsV, newV, boundV, intV, lcOf, lcA, scA, Va.bo, Va.i, Va.st, Ret, allOb, rvOut, convB, convBs, convC, convR, conv, unD, Nat.reduceAdd, Nat.reduceSub, Nat.reduceMul, Nat.reduceLeDiff, Nat.reduceEqDiff, Nat.reduceLT, Nat.reduceBEq, reduceIte, reduceCtorEq, Int.reduceToNat, fnV, argsV, touchO, evO, bareI, Nat.reduceShiftRight, Nat.reduceAnd, Nat.reduceBneDiff, Nat.reduceBNe, c10r2]
    refine .ret ?_
    have e : saveL s t l = ([], [], 1) := by simp only [saveL, h, if_true]
    simp only [wk0, wk1, wk2, wk3, wk4, wk5, wk6, wk7, wk8, wk9, wk10, Rw_op, Rw_opg, RwD_op, RwD_opg, Bool.cond_true, Bool.cond_false, if_true, if_false, implies_true, forall_const, eq_self, ne_eq, forall_eq, forall_eq', forall_eq_or_imp, exists_eq', bne_self_eq_false, dchk, meets, touchS, touchI, quietI, allocI, isCall, idsV, ch0, Nat.testBit, semI, binS, unS, nilS, aggS, eqLs, eqL, evT, evS, stripV, gOk, gAll, opsOf, boolV, apG, numd, prL, cellsV, isB, out1, fail, fillOb, fillL, replaceAt, rowsV, newV, boundV, intV, lcOf, lcA, scA, Va.bo, Va.i, Va.st, Ret, allOb, rvOut, convB, convBs, convC, convR, conv, unD, Nat.reduceAdd, Nat.reduceSub, Nat.reduceMul, Nat.reduceLeDiff, Nat.reduceEqDiff, Nat.reduceLT, Nat.reduceBEq, reduceIte, reduceCtorEq, Int.reduceToNat, fnV, argsV, touchO, evO, bareI, Nat.reduceShiftRight, Nat.reduceAnd, Nat.reduceBneDiff, Nat.reduceBNe, rv10, e, aD, encD, er]
  · refine .seq (Rw.walk ?_)
    simp only [wk0, wk1, wk2, wk3, wk4, wk5, wk6, wk7, wk8, wk9, wk10, Rw_op, Rw_opg, RwD_op, RwD_opg, Bool.cond_true, Bool.cond_false, if_true, if_false, implies_true, forall_const, eq_self, ne_eq, forall_eq, forall_eq', forall_eq_or_imp, exists_eq', bne_self_eq_false, dchk, meets, touchS, touchI, quietI, allocI, isCall, idsV, ch0, Nat.testBit, semI, binS, unS, nilS, aggS, eqLs, eqL, evT, evS, stripV, gOk, gAll, opsOf, boolV, apG, numd, prL, cellsV, isB, out1, fail, fillOb, fillL, replaceAt, rowsV, newV, boundV, intV, lcOf, lcA, scA, Va.bo, Va.i, Va.st, Ret, allOb, rvOut, convB, convBs, convC, convR, conv, unD, Nat.reduceAdd, Nat.reduceSub, Nat.reduceMul, Nat.reduceLeDiff, Nat.reduceEqDiff, Nat.reduceLT, Nat.reduceBEq, reduceIte, reduceCtorEq, Int.reduceToNat, fnV, argsV, touchO, evO, bareI, Nat.reduceShiftRight, Nat.reduceAnd, Nat.reduceBneDiff, Nat.reduceBNe, c10r3]
    have hr : rightL s t = true := by
      cases hq : rightL s t with
      | true => rfl
      | false => rw [hq] at h; cases h
    have ht2 := (rightL_t hr).2.1
    rw [i64_in (by omega) (by omega)]
    refine .cond rfl (fun h1 => ?_) (fun h1 => ?_)
    · refine .seq (Rw.walk ?_)
      simp only [wk0, wk1, wk2, wk3, wk4, wk5, wk6, wk7, wk8, wk9, wk10, Rw_op, Rw_opg, RwD_op, RwD_opg, Bool.cond_true, Bool.cond_false, if_true, if_false, implies_true, forall_const, eq_self, ne_eq, forall_eq, forall_eq', forall_eq_or_imp, exists_eq', bne_self_eq_false, dchk, meets, touchS, touchI, quietI, allocI, isCall, idsV, ch0, Nat.testBit, semI, binS, unS, nilS, aggS, eqLs, eqL, evT, evS, stripV, gOk, gAll, opsOf, boolV, apG, numd, prL, cellsV, isB, out1, fail, fillOb, fillL, replaceAt, rowsV, newV, boundV, intV, lcOf, lcA, scA, Va.bo, Va.i, Va.st, Ret, allOb, rvOut, convB, convBs, convC, convR, conv, unD, Nat.reduceAdd, Nat.reduceSub, Nat.reduceMul, Nat.reduceLeDiff, Nat.reduceEqDiff, Nat.reduceLT, Nat.reduceBEq, reduceIte, reduceCtorEq, Int.reduceToNat, fnV, argsV, touchO, evO, bareI, Nat.reduceShiftRight, Nat.reduceAnd, Nat.reduceBneDiff, Nat.reduceBNe, c10r4]
      refine .ret ?_
      have e : saveL s t l = ([], [], 13) := by
        have h2 : t.length + l.length > 200 := by have := of_decide_eq_true h1; omega
        simp only [saveL, h, h2, Bool.false_eq_true, if_false, if_true]
      simp only [wk0, wk1, wk2, wk3, wk4, wk5, wk6, wk7, wk8, wk9, wk10, Rw_op, Rw_opg, RwD_op, RwD_opg, Bool.cond_true, Bool.cond_false, if_true, if_false, implies_true, forall_const, eq_self, ne_eq, forall_eq, forall_eq', forall_eq_or_imp, exists_eq', bne_self_eq_false, dchk, meets, touchS, touchI, quietI, allocI, isCall, idsV, ch0, Nat.testBit, semI, binS, unS, nilS, aggS, eqLs, eqL, evT, evS, stripV, gOk, gAll, opsOf, boolV, apG, numd, prL, cellsV, isB, out1, fail, fillOb, fillL, replaceAt, rowsV, newV, boundV, intV, lcOf, lcA, scA, Va.bo, Va.i, Va.st, Ret, allOb, rvOut, convB, convBs, convC, convR, conv, unD, Nat.reduceAdd, Nat.reduceSub, Nat.reduceMul, Nat.reduceLeDiff, Nat.reduceEqDiff, Nat.reduceLT, Nat.reduceBEq, reduceIte, reduceCtorEq, Int.reduceToNat, fnV, argsV, touchO, evO, bareI, Nat.reduceShiftRight, Nat.reduceAnd, Nat.reduceBneDiff, Nat.reduceBNe, rv10, e, aD, encD, er]
    · refine .skip ?_
      refine .eblk ?_
      refine .seq (Rw.walk ?_)
      simp only [wk0, wk1, wk2, wk3, wk4, wk5, wk6, wk7, wk8, wk9, wk10, Rw_op, Rw_opg, RwD_op, RwD_opg, Bool.cond_true, Bool.cond_false, if_true, if_false, implies_true, forall_const, eq_self, ne_eq, forall_eq, forall_eq', forall_eq_or_imp, exists_eq', bne_self_eq_false, dchk, meets, touchS, touchI, quietI, allocI, isCall, idsV, ch0, Nat.testBit, semI, binS, unS, nilS, aggS, eqLs, eqL, evT, evS, stripV, gOk, gAll, opsOf, boolV, apG, numd, prL, cellsV, isB, out1, fail, fillOb, fillL, replaceAt, rowsV, newV, boundV, intV, lcOf, lcA, scA, Va.bo, Va.i, Va.st, Ret, allOb, rvOut, convB, convBs, convC, convR, conv, unD, Nat.reduceAdd, Nat.reduceSub, Nat.reduceMul, Nat.reduceLeDiff, Nat.reduceEqDiff, Nat.reduceLT, Nat.reduceBEq, reduceIte, reduceCtorEq, Int.reduceToNat, fnV, argsV, touchO, evO, bareI, Nat.reduceShiftRight, Nat.reduceAnd, Nat.reduceBneDiff, Nat.reduceBNe, c10r5]
      refine call_fun [] true ⟨trivial, trivial, trivial⟩ rfl ?_ (clipW (t.map encW) (encW_len t)) (fun h => by cases h) (by simp) ?_
      · simp only [wk0, wk1, wk2, wk3, wk4, wk5, wk6, wk7, wk8, wk9, wk10, Rw_op, Rw_opg, RwD_op, RwD_opg, Bool.cond_true, Bool.cond_false, if_true, if_false, implies_true, forall_const, eq_self, ne_eq, forall_eq, forall_eq', forall_eq_or_imp, exists_eq', bne_self_eq_false, dchk, meets, touchS, touchI, quietI, allocI, isCall, idsV, ch0, Nat.testBit, semI, binS, unS, nilS, aggS, eqLs, eqL, evT, evS, stripV, gOk, gAll, opsOf, boolV, apG, numd, prL, cellsV, isB, out1, fail, fillOb, fillL, replaceAt, rowsV, newV, boundV, intV, lcOf, lcA, scA, Va.bo, Va.i, Va.st, Ret, allOb, rvOut, convB, convBs, convC, convR, conv, unD, Nat.reduceAdd, Nat.reduceSub, Nat.reduceMul, Nat.reduceLeDiff, Nat.reduceEqDiff, Nat.reduceLT, Nat.reduceBEq, reduceIte, reduceCtorEq, Int.reduceToNat, fnV, argsV, touchO, evO, bareI, Nat.reduceShiftRight, Nat.reduceAnd, Nat.reduceBneDiff, Nat.reduceBNe]
      simp only [wk0, wk1, wk2, wk3, wk4, wk5, wk6, wk7, wk8, wk9, wk10, Rw_op, Rw_opg, RwD_op, RwD_opg, Bool.cond_true, Bool.cond_false, if_true, if_false, implies_true, forall_const, eq_self, ne_eq, forall_eq, forall_eq', forall_eq_or_imp, exists_eq', bne_self_eq_false, dchk, meets, touchS, touchI, quietI, allocI, isCall, idsV, ch0, Nat.testBit, semI, binS, unS, nilS, aggS, eqLs, eqL, evT, evS, stripV, gOk, gAll, opsOf, boolV, apG, numd, prL, cellsV, isB, out1, fail, fillOb, fillL, replaceAt, rowsV, newV, boundV, intV, lcOf, lcA, scA, Va.bo, Va.i, Va.st, Ret, allOb, rvOut, convB, convBs, convC, convR, conv, unD, Nat.reduceAdd, Nat.reduceSub, Nat.reduceMul, Nat.reduceLeDiff, Nat.reduceEqDiff, Nat.reduceLT, Nat.reduceBEq, reduceIte, reduceCtorEq, Int.reduceToNat, fnV, argsV, touchO, evO, bareI, Nat.reduceShiftRight, Nat.reduceAnd, Nat.reduceBneDiff, Nat.reduceBNe]
      have h2 : t.length + l.length ≤ 200 := by have := of_decide_eq_false h1; omega
      have e : saveL s t l = (s, t ++ l, 0) := by
        simp only [saveL, h, Bool.false_eq_true, if_false, if_neg (show ¬t.length + l.length > 200 by omega)]
      rw [e]
      cases t with
      | nil =>
        simp only [wk0, wk1, wk2, wk3, wk4, wk5, wk6, wk7, wk8, wk9, wk10, Rw_op, Rw_opg, RwD_op, RwD_opg, Bool.cond_true, Bool.cond_false, if_true, if_false, implies_true, forall_const, eq_self, ne_eq, forall_eq, forall_eq', forall_eq_or_imp, exists_eq', bne_self_eq_false, dchk, meets, touchS, touchI, quietI, allocI, isCall, idsV, ch0, Nat.testBit, semI, binS, unS, nilS, aggS, eqLs, eqL, evT, evS, stripV, gOk, gAll, opsOf, boolV, apG, numd, prL, cellsV, isB, out1, fail, fillOb, fillL, replaceAt, rowsV, newV, boundV, intV, lcOf, lcA, scA, Va.bo, Va.i, Va.st, Ret, allOb, rvOut, convB, convBs, convC, convR, conv, unD, Nat.reduceAdd, Nat.reduceSub, Nat.reduceMul, Nat.reduceLeDiff, Nat.reduceEqDiff, Nat.reduceLT, Nat.reduceBEq, reduceIte, reduceCtorEq, Int.reduceToNat, fnV, argsV, touchO, evO, bareI, Nat.reduceShiftRight, Nat.reduceAnd, Nat.reduceBneDiff, Nat.reduceBNe]
        refine ⟨⟨encW_len l, by omega⟩, ?_⟩
        refine .seq (Rw.walk ?_)
        simp only [wk0, wk1, wk2, wk3, wk4, wk5, wk6, wk7, wk8, wk9, wk10, Rw_op, Rw_opg, RwD_op, RwD_opg, Bool.cond_true, Bool.cond_false, if_true, if_false, implies_true, forall_const, eq_self, ne_eq, forall_eq, forall_eq', forall_eq_or_imp, exists_eq', bne_self_eq_false, dchk, meets, touchS, touchI, quietI, allocI, isCall, idsV, ch0, Nat.testBit, semI, binS, unS, nilS, aggS, eqLs, eqL, evT, evS, stripV, gOk, gAll, opsOf, boolV, apG, numd, prL, cellsV, isB, out1, fail, fillOb, fillL, replaceAt, rowsV, newV, boundV, intV, lcOf, lcA, scA, Va.bo, Va.i, Va.st, Ret, allOb, rvOut, convB, convBs, convC, convR, conv, unD, Nat.reduceAdd, Nat.reduceSub, Nat.reduceMul, Nat.reduceLeDiff, Nat.reduceEqDiff, Nat.reduceLT, Nat.reduceBEq, reduceIte, reduceCtorEq, Int.reduceToNat, fnV, argsV, touchO, evO, bareI, Nat.reduceShiftRight, Nat.reduceAnd, Nat.reduceBneDiff, Nat.reduceBNe, c10r6]
        refine .ret ?_
        simp only [wk0, wk1, wk2, wk3, wk4, wk5, wk6, wk7, wk8, wk9, wk10, Rw_op, Rw_opg, RwD_op, RwD_opg, Bool.cond_true, Bool.cond_false, if_true, if_false, implies_true, forall_const, eq_self, ne_eq, forall_eq, forall_eq', forall_eq_or_imp, exists_eq', bne_self_eq_false, dchk, meets, touchS, touchI, quietI, allocI, isCall, idsV, ch0, Nat.testBit, semI, binS, unS, nilS, aggS, eqLs, eqL, evT, evS, stripV, gOk, gAll, opsOf, boolV, apG, numd, prL, cellsV, isB, out1, fail, fillOb, fillL, replaceAt, rowsV, newV, boundV, intV, lcOf, lcA, scA, Va.bo, Va.i, Va.st, Ret, allOb, rvOut, convB, convBs, convC, convR, conv, unD, Nat.reduceAdd, Nat.reduceSub, Nat.reduceMul, Nat.reduceLeDiff, Nat.reduceEqDiff, Nat.reduceLT, Nat.reduceBEq, reduceIte, reduceCtorEq, Int.reduceToNat, fnV, argsV, touchO, evO, bareI, Nat.reduceShiftRight, Nat.reduceAnd, Nat.reduceBneDiff, Nat.reduceBNe, rv10, aD, encD, er]
      | cons w t =>
        simp only [List.length_cons] at h2
        simp only [wk0, wk1, wk2, wk3, wk4, wk5, wk6, wk7, wk8, wk9, wk10, Rw_op, Rw_opg, RwD_op, RwD_opg, Bool.cond_true, Bool.cond_false, if_true, if_false, implies_true, forall_const, eq_self, ne_eq, forall_eq, forall_eq', forall_eq_or_imp, exists_eq', bne_self_eq_false, dchk, meets, touchS, touchI, quietI, allocI, isCall, idsV, ch0, Nat.testBit, semI, binS, unS, nilS, aggS, eqLs, eqL, evT, evS, stripV, gOk, gAll, opsOf, boolV, apG, numd, prL, cellsV, isB, out1, fail, fillOb, fillL, replaceAt, rowsV, newV, boundV, intV, lcOf, lcA, scA, Va.bo, Va.i, Va.st, Ret, allOb, rvOut, convB, convBs, convC, convR, conv, unD, Nat.reduceAdd, Nat.reduceSub, Nat.reduceMul, Nat.reduceLeDiff, Nat.reduceEqDiff, Nat.reduceLT, Nat.reduceBEq, reduceIte, reduceCtorEq, Int.reduceToNat, fnV, argsV, touchO, evO, bareI, Nat.reduceShiftRight, Nat.reduceAnd, Nat.reduceBneDiff, Nat.reduceBNe]
        refine ⟨⟨⟨rfl, encW_len t⟩, encW_len l, by omega⟩, ?_⟩
        refine .seq (Rw.walk ?_)
        simp only [wk0, wk1, wk2, wk3, wk4, wk5, wk6, wk7, wk8, wk9, wk10, Rw_op, Rw_opg, RwD_op, RwD_opg, Bool.cond_true, Bool.cond_false, if_true, if_false, implies_true, forall_const, eq_self, ne_eq, forall_eq, forall_eq', forall_eq_or_imp, exists_eq', bne_self_eq_false, dchk, meets, touchS, touchI, quietI, allocI, isCall, idsV, ch0, Nat.testBit, semI, binS, unS, nilS, aggS, eqLs, eqL, evT, evS, stripV, gOk, gAll, opsOf, boolV, apG, numd, prL, cellsV, isB, out1, fail, fillOb, fillL, replaceAt, rowsV, newV, boundV, intV, lcOf, lcA, scA, Va.bo, Va.i, Va.st, Ret, allOb, rvOut, convB, convBs, convC, convR, conv, unD, Nat.reduceAdd, Nat.reduceSub, Nat.reduceMul, Nat.reduceLeDiff, Nat.reduceEqDiff, Nat.reduceLT, Nat.reduceBEq, reduceIte, reduceCtorEq, Int.reduceToNat, fnV, argsV, touchO, evO, bareI, Nat.reduceShiftRight, Nat.reduceAnd, Nat.reduceBneDiff, Nat.reduceBNe, c10r6]
        refine .ret ?_
        simp only [wk0, wk1, wk2, wk3, wk4, wk5, wk6, wk7, wk8, wk9, wk10, Rw_op, Rw_opg, RwD_op, RwD_opg, Bool.cond_true, Bool.cond_false, if_true, if_false, implies_true, forall_const, eq_self, ne_eq, forall_eq, forall_eq', forall_eq_or_imp, exists_eq', bne_self_eq_false, dchk, meets, touchS, touchI, quietI, allocI, isCall, idsV, ch0, Nat.testBit, semI, binS, unS, nilS, aggS, eqLs, eqL, evT, evS, stripV, gOk, gAll, opsOf, boolV, apG, numd, prL, cellsV, isB, out1, fail, fillOb, fillL, replaceAt, rowsV, newV, boundV, intV, lcOf, lcA, scA, Va.bo, Va.i, Va.st, Ret, allOb, rvOut, convB, convBs, convC, convR, conv, unD, Nat.reduceAdd, Nat.reduceSub, Nat.reduceMul, Nat.reduceLeDiff, Nat.reduceEqDiff, Nat.reduceLT, Nat.reduceBEq, reduceIte, reduceCtorEq, Int.reduceToNat, fnV, argsV, touchO, evO, bareI, Nat.reduceShiftRight, Nat.reduceAnd, Nat.reduceBneDiff, Nat.reduceBNe, rv10, aD, encD, er, List.map_append]
end Go.Proofs.Ytjpomfbkfgkifaa.V
end
