/- append to a row that is read and has no room behind it: what comes of it is read. -/
import Derived.Test.YtdcokepmblcdmaaBase
import Derived.Test.YtdcokepmblcdmaaShelf
import Derived.Below
import Derived.Deep.Draws
import Derived.OwnWalk
import Derived.Laws.BytesArg
import Derived.Laws.MakeOwn
import Derived.Laws.OwnMore
import Derived.Deep.OwnRows
import Derived.Tactics
import Derived.Lib.ConvBytes
import Derived.Laws.Slices
import Derived.WalkKit
import Derived.KernelRfl
import Derived.RowKit3
import Derived.Deep.LoopGhost
import Derived.Deep.QuietTactic
import Derived.BigQuiet
import Derived.WideLaws
import Derived.Deep.DeepCutAuto
import Derived.Deep.CutBlock
import Derived.Deep.RegionHeld3
import Derived.Laws.Rows
import Derived.Lib.AppendStr
import Derived.ArgAppend
import Derived.Laws.BitsLemmas
import Derived.RowKit
namespace Go.Proofs.Ytdcokepmblcdmaa
open Go.RowKit Go.Proofs.YtdcokepmblcdmaaW.PrintWords Go.Proofs.YtdcokepmblcdmaaW.PrintLast Go.Proofs.YtdcokepmblcdmaaW.PrintMore
attribute [local go_sem] max2_int min2_int max_two min_two max_three min_three max_four min_four
set_option linter.unusedVariables false
set_option linter.unusedSimpArgs false
section
variable {α : Type} {P : Program} {ops : Array Oper} {rest : List Oper} {o : Oper} {a : Act} {Q : Exit → Act → World → Prop}
theorem one_of_reps {R : α → List Value → Prop} {sz : Nat} (hs0 : 0 < sz) {ys : List α} {news : List Value} (hr : Reps R sz ys news) (h1 : ∀ p c, R p c → ∀ u ∈ c, u.oneCell' = true) : ∀ u ∈ news, u.oneCell' = true := by
  intro u hu
  obtain ⟨q, hq, rfl⟩ := List.mem_iff_getElem.1 hu
  have hql : q / sz < ys.length := by
    rw [Nat.div_lt_iff_lt_mul hs0, ← hr.1]
    exact hq
  have hc := hr.2 (q / sz) _ (List.getElem?_eq_getElem hql)
  refine h1 _ _ hc _ ?_
  rw [List.mem_iff_getElem?]
  refine ⟨q % sz, ?_⟩
  rw [List.getElem?_take, if_pos (Nat.mod_lt _ hs0), List.getElem?_drop, Nat.mul_comm, Nat.div_add_mod, List.getElem?_eq_getElem hq]
theorem reps_append {R : α → List Value → Prop} {sz : Nat} {xs ys : List α} {c1 c2 : List Value} (h1 : Reps R sz xs c1) (h2 : Reps R sz ys c2) : Reps R sz (xs ++ ys) (c1 ++ c2) := by
  refine ⟨by rw [List.length_append, List.length_append, h1.1, h2.1, Nat.add_mul], fun j p hj => ?_⟩
  by_cases hlt : j < xs.length
  · rw [List.getElem?_append_left hlt] at hj
    have := h1.2 j p hj
    have hl : (j + 1) * sz ≤ c1.length := by rw [h1.1]; exact Nat.mul_le_mul_right _ hlt
    rw [Nat.add_mul, Nat.one_mul] at hl
    rwa [List.drop_append_of_le_length (by omega), List.take_append_of_le_length (by rw [List.length_drop]; omega)]
  · rw [List.getElem?_append_right (by omega)] at hj
    have := h2.2 _ p hj
    have e : j * sz = c1.length + (j - xs.length) * sz := by rw [h1.1, ← Nat.add_mul]; congr 1; omega
    rw [e, List.drop_append, List.drop_of_length_le (by omega), List.nil_append, Nat.add_sub_cancel_left]
    exact this
theorem ownBlock_slice {w : World} {base e size n c : Nat} {ad : Addr} {xs : List Value} (h : w.ownsRow base e size (.slice (some ad) n c) n xs) : (Value.slice (some ad) n c).ownBlock = some ad.block := by
  rcases h.2 with ⟨h, _⟩ | ⟨g, cap, cur, h, _⟩
  · cases h
  · injection h with h; injection h with h; subst h; rfl
theorem C_append (d : Kd α) {W : World} (hgd : o.guard = none) (s x : Operand) (t e : TypeId) (z : Value) (bytes : Nat)
    (ho : o.op = .call { callee := .builtin .append, args := #[s, x], argTypes := #[t, t] })
    (ht : P.underlying t = some (.slice e)) (hinfo : (P.info? e).map (fun i => (i.zero, i.size, i.bytes)) = some (some z, d.sz, bytes)) (hz : z.cells.size = d.sz) (hs0 : 0 < d.sz) (hb0 : 0 < bytes)
    (A B : Option Addr) (xs ys : List α) (c : Nat) (hs : a.eval s = .slice A xs.length xs.length) (hx : a.eval x = .slice B ys.length c) (h1 : d.C W A xs.length xs) (h2 : d.C W B ys.length ys) (hl : (xs.length + ys.length) * bytes ≤ 140737488355328)
    (h : ∀ A1 c1 w1, (xs ++ ys).length ≤ c1 → d.C w1 A1 (xs ++ ys).length (xs ++ ys) → Below W.heap.size W w1 → (A1 = A ∧ ys = [] ∨ ∀ ad, A1 = some ad → W.heap.size ≤ ad.block) → wpList P ops Q rest (a.put o.dst (.slice A1 (xs ++ ys).length c1)) w1) :
    wpList P ops Q (o :: rest) a W := by
  obtain ⟨i0, hi, hzz⟩ := Option.map_eq_some_iff.1 hinfo
  simp only [Prod.mk.injEq] at hzz
  obtain ⟨hz0, hz1, hz2⟩ := hzz
  have hlen : xs.length + ys.length ≤ 140737488355328 := Nat.le_trans (Nat.le_mul_of_pos_right _ hb0) hl
  rcases Nat.eq_zero_or_pos ys.length with h0 | h0
  · obtain rfl : ys = [] := List.eq_nil_of_length_eq_zero h0
    rw [List.append_nil] at h
    have hrun : (Builtin.append_ #[t, t] o.type #[.slice A xs.length xs.length, .slice B 0 c]).run P W = .ok (.slice A xs.length xs.length) W := by
      rcases A with _ | ad
      · have hx0 : xs.length = 0 := by
          rcases Nat.eq_zero_or_pos xs.length with h' | h'
          · exact h'
          · obtain ⟨ad, h', _⟩ := h1.2.2 h'; cases h'
        rw [hx0]
        rcases B with _ | bd <;> simp [Builtin.append_, run_underlying ht, sizeOf, typeInfo, hi, Builtin.lenOf, Builtin.firstCells, loadCells, loadCellsFrom]
      · rcases B with _ | bd <;> simp [Builtin.append_, run_underlying ht, sizeOf, typeInfo, hi, Builtin.lenOf, Builtin.firstCells, storeCells, loadCells, loadCellsFrom]
    refine wpList_plain hgd fun K hK => ?_
    unfold Oper.wp execOp
    simp only [List.length_nil] at hx
    simp only [ho, resolve, invoke, builtin, Sem.run_bind, Sem.run_pure, Result.andThen_ok, List.map_toArray, List.map_cons, List.map_nil, hs, hx, hrun]
    exact hK _ _ (h A xs.length W (Nat.le_refl _) h1 (Below.refl _ _) (.inl ⟨rfl, rfl⟩))
  · obtain ⟨bd, rfl, _⟩ := h2.2.2 h0
    obtain ⟨news, hnr, hnc⟩ := ReadsRow.inner_ h2
    obtain ⟨olds, hor, hoc⟩ : ∃ olds, Reps (d.K W) d.sz xs olds ∧ ∀ b, A = some b → ∀ j u, olds[j]? = some u → W.cell? (b.add j) = some u := by
      rcases A with _ | ad
      · have hx0 : xs.length = 0 := by
          rcases Nat.eq_zero_or_pos xs.length with h' | h'
          · exact h'
          · obtain ⟨ad, h', _⟩ := h1.2.2 h'; cases h'
        obtain rfl : xs = [] := List.eq_nil_of_length_eq_zero hx0
        exact ⟨[], Reps.none _ _, fun b hb => by cases hb⟩
      · obtain ⟨olds, h3, h4⟩ := ReadsRow.inner_ h1
        exact ⟨olds, h3, fun b hb => by cases hb; exact h4⟩
    refine wpList_append_grows W hgd s x t ho e i0 z d.sz bytes ht hi hz0 hz1 hz2 hz hs0 A xs.length xs.length olds hs (fun hA => ?_) hor.1 hoc bd ys.length c news hx hnr.1 hnc (one_of_reps hs0 hnr fun p cs hp => d.K_one hp) (by omega) (by unfold maxLen; omega) hl ?_
    · rcases Nat.eq_zero_or_pos xs.length with h' | h'
      · exact ⟨h', h'⟩
      · obtain ⟨ad, h', _⟩ := h1.2.2 h'; rw [hA] at h'; cases h'
    · intro v1 w1 hown hg
      have hb : Below W.heap.size W w1 := (Below.refl _ _).grown hg (Nat.le_refl _) (fun k hk => by cases hk)
      have hrr := reps_append hor hnr
      obtain ⟨A1, c1, rfl, hread⟩ := own_reads_row hown (hrr.imp_ (fun p cs hp => d.K_below hb hp)) (by rw [List.length_append])
      have hle : xs.length + ys.length ≤ c1 := by
        rcases hown.2 with ⟨_, hn⟩ | ⟨g, cap, cur, he, _, _, hnc', _⟩
        · omega
        · injection he with _ _ he; omega
      have := h A1 c1 w1 (by rw [List.length_append]; exact hle) (by rw [List.length_append]; exact hread) hb (.inr fun ad he => own_base hown ad.block (by subst he; exact ownBlock_slice hown))
      rwa [List.length_append] at this
end
end Go.Proofs.Ytdcokepmblcdmaa
