/- What slices.IndexFunc and ContainsFunc come to. -/
import Derived.Test.YtdcokepmblcdmaaBase
import Derived.Test.YtdcokepmblcdmaaShelf
import Derived.Below
import Derived.Deep.Draws
import Derived.OwnWalk
import Derived.Laws.BytesArg
import Derived.Laws.MakeOwn
import Derived.Laws.OwnMore
import Derived.Deep.OwnRows
import Derived.Tactics
import Derived.Lib.ConvBytes
import Derived.Laws.Slices
import Derived.WalkKit
import Derived.KernelRfl
import Derived.RowKit3
import Derived.Deep.LoopGhost
import Derived.Deep.QuietTactic
import Derived.BigQuiet
import Derived.WideLaws
import Derived.Deep.DeepCutAuto
import Derived.Deep.CutBlock
import Derived.Deep.RegionHeld3
import Derived.Laws.Rows
import Derived.Lib.AppendStr
import Derived.ArgAppend
import Derived.Laws.BitsLemmas
import Derived.RowKit
namespace Go.Proofs.Ytdcokepmblcdmaa
open Go.RowKit Go.Proofs.YtdcokepmblcdmaaW.PrintWords Go.Proofs.YtdcokepmblcdmaaW.PrintLast Go.Proofs.YtdcokepmblcdmaaW.PrintMore
attribute [local go_sem] max2_int min2_int max_two min_two max_three min_three max_four min_four
set_option linter.unusedVariables false
set_option linter.unusedSimpArgs false
theorem anyTo_succ {α : Type} (p : α → Bool) (l : List α) (d : α) (k : Nat) (h : k < l.length) : (l.take (k + 1)).any p = ((l.take k).any p || p (l.getD k d)) := by
  rw [List.take_succ_eq_append_getElem h, List.any_append]
  simp [List.getD_eq_getElem?_getD, List.getElem?_eq_getElem h]
theorem any_of_take {α : Type} {p : α → Bool} {l : List α} {k : Nat} (h : (l.take k).any p = true) : l.any p = true := by
  rw [List.any_eq_true] at h ⊢
  obtain ⟨x, hx, hp⟩ := h
  exact ⟨x, List.mem_of_mem_take hx, hp⟩
/-- The first place where a thing stands that is so; -1: there is none. -/
def IndexIs {α : Type} (p : α → Bool) (l : List α) (i : Int) : Prop :=
  (i = -1 ∧ l.any p = false) ∨ ∃ k : Nat, i = k ∧ ∃ h : k < l.length, p l[k] = true ∧ (l.take k).any p = false
theorem IndexIs.none {α : Type} {p : α → Bool} {l : List α} (h : l.any p = false) : IndexIs p l (-1) := .inl ⟨rfl, h⟩
theorem IndexIs.at {α : Type} {p : α → Bool} {l : List α} {d : α} {k : Nat} (h : k < l.length) (h0 : (l.take k).any p = false) (h1 : p (l.getD k d) = true) : IndexIs p l k :=
  .inr ⟨k, rfl, h, by rw [List.getD_eq_getElem?_getD, List.getElem?_eq_getElem h] at h1; exact h1, h0⟩
theorem IndexIs.found {α : Type} {p : α → Bool} {l : List α} {i : Int} (h : IndexIs p l i) : decide (i ≥ 0) = l.any p := by
  rcases h with ⟨rfl, h⟩ | ⟨k, rfl, hk, h1, _⟩
  · rw [h]; rfl
  · rw [List.any_eq_true.2 ⟨_, List.getElem_mem hk, h1⟩]
    exact decide_eq_true (by omega)
theorem two_blocks (w : World) (o1 o2 : Obj) : ((w.alloc o1).alloc o2).heap[w.heap.size]? = some o1 ∧ ((w.alloc o1).alloc o2).heap[w.heap.size + 1]? = some o2 := by
  have h1 : (w.alloc o1).heap[w.heap.size]? = some o1 := heap_alloc_new _ _
  refine ⟨((below_alloc (Below.refl (w.alloc o1).heap.size (w.alloc o1)) o2).block _ (blk_lt h1)).trans h1, ?_⟩
  have := heap_alloc_new (w.alloc o1) o2
  simpa using this
theorem blk_below {w w1 : World} {g : Nat} {o : Obj} (h : w.heap[g]? = some o) (hb : Below w.heap.size w w1) : w1.heap[g]? = some o := (hb.block g (blk_lt h)).trans h
/-- A struct's result of two cells, behind its store. -/
theorem ret2_cells {w : World} {g T : Nat} {a b : Value} (t1 : w.heap[g]? = some (.cells #[a, b] T (0, 0))) (x y : Value) :
    (w.setCell ⟨g, 0, none⟩ x).cell? ⟨g, 0, none⟩ = some x ∧ (w.setCell ⟨g, 0, none⟩ x).cell? ⟨g, 1, none⟩ = some b ∧ ((w.setCell ⟨g, 0, none⟩ x).setCell ⟨g, 1, none⟩ y).cell? ⟨g, 1, none⟩ = some y ∧ ((w.setCell ⟨g, 0, none⟩ x).setCell ⟨g, 1, none⟩ y).cell? ⟨g, 0, none⟩ = some x := by
  have h1 := blk_set t1 0 x
  have h2 := blk_set h1 1 y
  refine ⟨?_, ?_, ?_, ?_⟩
  · rw [blk_cell h1 0]; rfl
  · rw [blk_cell h1 1]; rfl
  · rw [blk_cell h2 1]; rfl
  · rw [blk_cell h2 0]; rfl
theorem cell_far (w : World) (p q : Addr) (v : Value) (h : q.block ≠ p.block) : (w.setCell p v).cell? q = w.cell? q := by
  have := Below.heap_setCell w p v q.block h
  unfold World.cell?
  rw [this]
/-- A row of flat elements stays what it is while another block is written. -/
theorem C_set {α : Type} (d : Kd α) (hflat : ∀ w w1 x cs, d.K w x cs → d.K w1 x cs) {w : World} {A : Option Addr} {n : Nat} {xs : List α} (h : d.C w A n xs) (p : Addr) (v : Value) (hne : ∀ ad, A = some ad → 0 < n → ad.block ≠ p.block) : d.C (w.setCell p v) A n xs :=
  ⟨h.1, h.2.1, fun hn => by
    obtain ⟨ad, e, hc⟩ := h.2.2 hn
    refine ⟨ad, e, fun j q hj => ?_⟩
    obtain ⟨c, hs, hr, hcell⟩ := hc j q hj
    refine ⟨c, hs, hflat _ _ _ _ hr, fun i u hu => ?_⟩
    rw [cell_far]
    · exact hcell i u hu
    · have := hne ad e hn
      unfold Addr.add
      split <;> exact this⟩
end Go.Proofs.Ytdcokepmblcdmaa
