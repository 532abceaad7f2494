/- What is read stays so while private blocks are written: contracts hand on facts that hold in every later world that keeps all but these. -/
import Derived.Test.YtdcokepmblcdmaaBase
import Derived.Test.YtdcokepmblcdmaaShelf
import Derived.Below
import Derived.Deep.Draws
import Derived.OwnWalk
import Derived.Laws.BytesArg
import Derived.Laws.MakeOwn
import Derived.Laws.OwnMore
import Derived.Deep.OwnRows
import Derived.Tactics
import Derived.Lib.ConvBytes
import Derived.Laws.Slices
import Derived.WalkKit
import Derived.KernelRfl
import Derived.RowKit3
import Derived.Deep.LoopGhost
import Derived.Deep.QuietTactic
import Derived.BigQuiet
import Derived.WideLaws
import Derived.Deep.DeepCutAuto
import Derived.Deep.CutBlock
import Derived.Deep.RegionHeld3
import Derived.Laws.Rows
import Derived.Lib.AppendStr
import Derived.ArgAppend
import Derived.Laws.BitsLemmas
import Derived.RowKit
namespace Go.Proofs.Ytdcokepmblcdmaa
open Go.RowKit Go.Proofs.YtdcokepmblcdmaaW.PrintWords Go.Proofs.YtdcokepmblcdmaaW.PrintLast Go.Proofs.YtdcokepmblcdmaaW.PrintMore
attribute [local go_sem] max2_int min2_int max_two min_two max_three min_three max_four min_four
set_option linter.unusedVariables false
set_option linter.unusedSimpArgs false
/-- All blocks that were there are as they were, but private ones. -/
structure Keep (S : Nat → Prop) (w w1 : World) : Prop where
  os : w1.os = w.os
  tape : w1.tape = w.tape
  output : w1.output = w.output
  size : w.heap.size ≤ w1.heap.size
  block : ∀ k, k < w.heap.size → ¬ S k → w1.heap[k]? = w.heap[k]?
namespace Keep
variable {S : Nat → Prop} {w W w1 : World}
theorem refl (S : Nat → Prop) (w : World) : Keep S w w := ⟨rfl, rfl, rfl, Nat.le_refl _, fun _ _ _ => rfl⟩
theorem trans (h : Keep S w W) (k : Keep S W w1) : Keep S w w1 := ⟨k.os.trans h.os, k.tape.trans h.tape, k.output.trans h.output, Nat.le_trans h.size k.size, fun i hi hs => (k.block i (Nat.lt_of_lt_of_le hi h.size) hs).trans (h.block i hi hs)⟩
theorem of_below (h : Below w.heap.size w w1) : Keep S w w1 := ⟨h.os, h.tape, h.output, h.size, fun k hk _ => h.block k hk⟩
theorem step (h : Keep S w W) (k : Below W.heap.size W w1) : Keep S w w1 := h.trans (of_below k)
theorem alloc (h : Keep S w W) (o : Obj) : Keep S w (W.alloc o) := h.step (below_alloc (Below.refl _ _) o)
theorem drew (h : Keep S w W) : Keep S w W.drew := h.step (below_drew (Below.refl _ _))
theorem drewN (h : Keep S w W) (n : Nat) : Keep S w (W.drewN n) := h.step (pw_below_drewN (Below.refl _ _) n)
theorem set (h : Keep S w W) {p : Addr} (hp : S p.block ∨ w.heap.size ≤ p.block) (v : Value) : Keep S w (W.setCell p v) :=
  ⟨h.os, h.tape, h.output, by simp only [World.setCell, Array.size_modify]; exact h.size, fun k hk hs => by
    rw [Below.heap_setCell]
    · exact h.block k hk hs
    · rintro rfl
      rcases hp with hp | hp
      · exact hs hp
      · omega⟩
theorem grown (h : Keep S w W) {row : Option Nat} (hg : W.grownBy w1 row) (hr : ∀ k, row = some k → S k ∨ w.heap.size ≤ k) : Keep S w w1 :=
  ⟨hg.os.trans h.os, hg.tape.trans h.tape, hg.output.trans h.output, Nat.le_trans h.size hg.size, fun k hk hs => (hg.block k (Nat.lt_of_lt_of_le hk h.size) (fun e => by
    rcases hr k e.symm with h1 | h1
    · exact hs h1
    · omega)).trans (h.block k hk hs)⟩
theorem below (h : Keep (fun _ => False) w w1) : Below w.heap.size w w1 := ⟨h.os, h.tape, h.output, h.size, fun k hk => h.block k hk (fun h => h)⟩
end Keep
/-- So it is, in every later world that keeps all but private blocks. -/
def St (S : Nat → Prop) (w : World) (P : World → Prop) : Prop := ∀ w1, Keep S w w1 → P w1
namespace St
variable {S S' : Nat → Prop} {w w1 : World} {P Q : World → Prop}
theorem now (h : St S w P) : P w := h w (Keep.refl _ _)
theorem keep (h : St S w P) (k : Keep S w w1) : St S w1 P := fun _ k2 => h _ (k.trans k2)
theorem at_ (h : St S w P) (k : Keep S w w1) : P w1 := h _ k
theorem sub (h : St S w P) (hS : ∀ k, S' k → S k) : St S' w P := fun _ k => h _ ⟨k.os, k.tape, k.output, k.size, fun i hi hs => k.block i hi (fun h' => hs (hS i h'))⟩
theorem wide (h : St S w P) (hS : ∀ k, k < w.heap.size → S' k → S k) : St S' w P := fun _ k => h _ ⟨k.os, k.tape, k.output, k.size, fun i hi hs => k.block i hi (fun h' => hs (hS i hi h'))⟩
theorem imp (h : St S w P) (hi : ∀ w1, P w1 → Q w1) : St S w Q := fun w1 k => hi w1 (h w1 k)
theorem and (h : St S w P) (k : St S w Q) : St S w (fun w => P w ∧ Q w) := fun w1 q => ⟨h w1 q, k w1 q⟩
theorem triv {p : Prop} (h : p) : St S w (fun _ => p) := fun _ _ => h
end St
/-- A fact that holds as far as all goes below, with no private block. -/
theorem St.start {w : World} {P : World → Prop} (hP : ∀ w1, Below w.heap.size w w1 → P w1) : St (fun _ => False) w P := fun w1 k => hP w1 k.below
/-- A row of the call's own, that no private block is of. -/
theorem St.ofR {α : Type} {d : Kd α} {e base : Nat} {w : World} {ok : Nat → Prop} {v : Value} {xs : List α} {S : Nat → Prop} (h : d.R e w base ok v xs) (hS : ∀ k, S k → k < base) : St S w (fun w => d.R e w base ok v xs) := fun w1 k =>
  Kd.R_mono (Kd.R_step (Kd.R_bound h) (fun i hi hlt => k.block i hlt (fun h' => by have := hS i h'; have := hi.2.1; omega))) (fun _ hk => hk.1)
/-- A slice's value that reads as a row. -/
def SlV {α : Type} (d : Kd α) (w : World) (v : Value) (xs : List α) : Prop := ∃ A c, v = .slice A xs.length c ∧ xs.length ≤ c ∧ d.C w A xs.length xs
theorem SlV.nil {α : Type} (d : Kd α) (w : World) : SlV d w (.slice none 0 0) [] := ⟨none, 0, rfl, Nat.le_refl _, Kd.C_nil _ _⟩
theorem SlV.ofR {α : Type} {d : Kd α} {e base : Nat} {w : World} {ok : Nat → Prop} {v : Value} {xs : List α} (h : d.R e w base ok v xs) : SlV d w v xs := by
  obtain ⟨A, c, rfl, hl, hr⟩ := Kd.R_reads h
  exact ⟨A, c, rfl, hl, hr⟩
theorem SlV.below {α : Type} {d : Kd α} {w w1 : World} {v : Value} {xs : List α} (h : SlV d w v xs) (hb : Below w.heap.size w w1) : SlV d w1 v xs := by
  obtain ⟨A, c, h1, h2, h3⟩ := h
  exact ⟨A, c, h1, h2, Kd.C_below h3 hb⟩
theorem SlV.open {α : Type} {d : Kd α} {S : Nat → Prop} {w : World} {v : Value} {xs : List α} (h : St S w (fun w => SlV d w v xs)) : ∃ A c, v = .slice A xs.length c ∧ xs.length ≤ c ∧ xs.length ≤ 9223372036854775807 ∧ St S w (fun w => d.C w A xs.length xs) := by
  obtain ⟨A, c, h1, h2, h3⟩ := h.now
  refine ⟨A, c, h1, h2, Kd.C_max h3, fun w1 k => ?_⟩
  obtain ⟨A', c', h1', _, h3'⟩ := h w1 k
  rw [h1] at h1'
  injection h1' with e1 _ _
  rw [e1]
  exact h3'
theorem SlV.mk_ {α : Type} {d : Kd α} {S : Nat → Prop} {w : World} {A : Option Addr} {c : Nat} {xs : List α} (h2 : xs.length ≤ c) (h : St S w (fun w => d.C w A xs.length xs)) : St S w (fun w => SlV d w (.slice A xs.length c) xs) := h.imp fun _ h => ⟨A, c, rfl, h2, h⟩
/-- Behind a contract: old cells and marks read as before. -/
theorem bcell {W w1 : World} (hb : Below W.heap.size W w1) : (∀ b o, b < W.heap.size → w1.cell? ⟨b, o, none⟩ = W.cell? ⟨b, o, none⟩) ∧ (∀ b o, b < W.heap.size → w1.frozen? ⟨b, o, none⟩ = W.frozen? ⟨b, o, none⟩) :=
  ⟨fun b o h => hb.cell (p := ⟨b, o, none⟩) h, fun b o h => hb.frozen (p := ⟨b, o, none⟩) h⟩
/-- A call's private blocks: its caller's, and the first n of its own. -/
structure Priv (S S1 : Nat → Prop) (w : World) (n : Nat) : Prop where
  up : ∀ k, S k → S1 k
  own : ∀ k, w.heap.size ≤ k → k < w.heap.size + n → S1 k
  lt : ∀ k, S1 k → k < w.heap.size + n
  down : ∀ k, k < w.heap.size → S1 k → S k
theorem priv {S : Nat → Prop} (w : World) (hS : ∀ k, S k → k < w.heap.size) (n : Nat) : ∃ S1, Priv S S1 w n :=
  ⟨fun k => S k ∨ (w.heap.size ≤ k ∧ k < w.heap.size + n), fun k h => .inl h, fun k h1 h2 => .inr ⟨h1, h2⟩, fun k h => by
    rcases h with h | h
    · have := hS k h; omega
    · exact h.2, fun k hk h => by
    rcases h with h | h
    · exact h
    · omega⟩
theorem Priv.lts {S S1 : Nat → Prop} {w : World} {n : Nat} (h : Priv S S1 w n) {m : Nat} (hm : w.heap.size + n ≤ m) : ∀ k, S1 k → k < m := fun k hk => Nat.lt_of_lt_of_le (h.lt k hk) hm
/-- A row of flat elements, in no private block. -/
theorem St.ofC {α : Type} {d : Kd α} (hflat : ∀ w w1 x cs, d.K w x cs → d.K w1 x cs) {S : Nat → Prop} {w : World} {A : Option Addr} {n : Nat} {xs : List α} (h : d.C w A n xs) (hne : ∀ ad, A = some ad → 0 < n → ¬ S ad.block) : St S w (fun w => d.C w A n xs) := fun w1 k => ⟨h.1, h.2.1, fun hn => by
  obtain ⟨ad, e, hc⟩ := h.2.2 hn
  refine ⟨ad, e, fun j q hj => ?_⟩
  obtain ⟨c, hs, hr, hcell⟩ := hc j q hj
  refine ⟨c, hs, hflat _ _ _ _ hr, fun i u hu => ?_⟩
  have h1 := hcell i u hu
  have h2 := World.block_lt_of_cell? w _ h1
  refine (World.cell?_of_block (w := w) (k.block _ h2 ?_)).trans h1
  have := hne ad e hn
  unfold Addr.add
  split <;> exact this⟩
theorem size_drewN (w : World) (n : Nat) : (w.drewN n).heap.size = w.heap.size := rfl
/-- append to a row without room behind it: what comes of it reads as both, whatever becomes of private blocks. -/
theorem St.append {α : Type} {d : Kd α} (hflat : ∀ w w1 x cs, d.K w x cs → d.K w1 x cs) {S : Nat → Prop} {W w1 : World} {A A1 : Option Addr} {xs ys : List α} (hS : ∀ k, S k → k < W.heap.size) (h : St S W (fun w => d.C w A xs.length xs)) (hb : Below W.heap.size W w1) (hc : d.C w1 A1 (xs ++ ys).length (xs ++ ys))
    (hf : A1 = A ∧ ys = [] ∨ ∀ ad, A1 = some ad → W.heap.size ≤ ad.block) : St S w1 (fun w => d.C w A1 (xs ++ ys).length (xs ++ ys)) := by
  rcases hf with ⟨rfl, rfl⟩ | hf
  · rw [List.append_nil] at hc ⊢
    exact h.keep (Keep.of_below hb)
  · exact St.ofC hflat hc (fun ad e _ hs => by have := hf ad e; have := hS _ hs; omega)
/-- A guard for a step of a region that draws: at this builtin, and at no other operation. -/
theorem gate_step {P : Program} {ops : Array Oper} {o : Oper} {a : Act} {w : World} {K : Act → World → Prop} {Q : Exit → Act → World → Prop} {E : Prop} {b : Builtin} {xs : Array Operand} {ts : Array TypeId} (_ho : o.op = .call { callee := .builtin b, args := xs, argTypes := ts })
    (h : if Region.wanted o (yielded ops a.tmps) = true then Oper.wp P o a w K Q else E) : if Region.wanted o (yielded ops a.tmps) = true then Oper.wp P o a w K Q else E := h
theorem cell_al {w : World} {ob : Obj} {b o : Nat} (h : b < w.heap.size) : (w.alloc ob).cell? ⟨b, o, none⟩ = w.cell? ⟨b, o, none⟩ := (below_alloc (Below.refl w.heap.size w) ob).cell (p := ⟨b, o, none⟩) h
theorem frozen_al {w : World} {ob : Obj} {b o : Nat} (h : b < w.heap.size) : (w.alloc ob).frozen? ⟨b, o, none⟩ = w.frozen? ⟨b, o, none⟩ := (below_alloc (Below.refl w.heap.size w) ob).frozen (p := ⟨b, o, none⟩) h
/-- A cell of the call's own: it holds this, and may be written. -/
structure Cl (w : World) (a : Addr) (v : Value) : Prop where
  cell : w.cell? a = some v
  free : w.frozen? a = false
namespace Cl
variable {w w1 : World} {a : Addr} {v : Value}
theorem lt (h : Cl w a v) : a.block < w.heap.size := World.block_lt_of_cell? w a h.cell
theorem below (hb : Below w.heap.size w w1) (h : Cl w a v) : Cl w1 a v := ⟨(hb.cell h.lt).trans h.cell, (hb.frozen h.lt).trans h.free⟩
theorem al (h : Cl w a v) {o : Obj} : Cl (w.alloc o) a v := h.below (below_alloc (Below.refl _ _) o)
theorem dr (h : Cl w a v) : Cl w.drew a v := h.below (below_drew (Below.refl _ _))
theorem drN (h : Cl w a v) {n : Nat} : Cl (w.drewN n) a v := h.below (pw_below_drewN (Below.refl _ _) n)
theorem far (h : Cl w a v) {p : Addr} (hne : a.block ≠ p.block) {u : Value} : Cl (w.setCell p u) a v := by
  have hk := Below.heap_setCell w p u a.block hne
  exact ⟨(World.cell?_of_block (w := w) hk).trans h.cell, (World.frozen?_of_block (w := w) hk).trans h.free⟩
theorem new {w : World} {cs : Array Value} {T : TypeId} {j : Nat} {v : Value} (h : cs[j]? = some v) : Cl (w.alloc (.cells cs T)) ⟨w.heap.size, j, none⟩ v :=
  ⟨(blk_cell (heap_alloc_new _ _) j).trans h, blk_frozen (heap_alloc_new _ _) j⟩
theorem set {g j : Nat} {cs : Array Value} {T : TypeId} (h : w.heap[g]? = some (.cells cs T (0, 0))) (hj : j < cs.size) {u : Value} : Cl (w.setCell ⟨g, j, none⟩ u) ⟨g, j, none⟩ u :=
  ⟨by rw [blk_cell (blk_set h j u) j]; simp [hj], blk_frozen (blk_set h j u) j⟩
theorem same {g j : Nat} (h : Cl w ⟨g, j, none⟩ v) {u : Value} : Cl (w.setCell ⟨g, j, none⟩ u) ⟨g, j, none⟩ u := by
  refine ⟨World.cell?_setCell_same w _ _ h.cell, ?_⟩
  have h1 := h.free
  unfold World.frozen? at h1 ⊢
  simp only [World.setCell, Array.getElem?_modify, if_true]
  revert h1
  cases w.heap[g]? with
  | none => intro h1; rfl
  | some o => cases o <;> intro h1 <;> first | exact h1 | rfl
theorem beside {g i j : Nat} (h : Cl w ⟨g, j, none⟩ v) (hne : j ≠ i) {u : Value} : Cl (w.setCell ⟨g, i, none⟩ u) ⟨g, j, none⟩ v := by
  refine ⟨(World.cell?_setCell_other w _ _ _ (by intro e; injection e with _ e; exact hne e.symm)).trans h.cell, ?_⟩
  have h1 := h.free
  unfold World.frozen? at h1 ⊢
  simp only [World.setCell, Array.getElem?_modify, if_true]
  revert h1
  cases w.heap[g]? with
  | none => intro h1; rfl
  | some o => cases o <;> intro h1 <;> first | exact h1 | rfl
end Cl
/-- A row of one element, just laid. -/
theorem C_one {α : Type} {d : Kd α} {W : World} {T : TypeId} {x : α} {cs : List Value} (hk : ∀ w, d.K w x cs) : d.C (W.alloc (.cells cs.toArray T)) (some ⟨W.heap.size, 0, none⟩) [x].length [x] :=
  ⟨rfl, by simp, fun _ => ⟨_, rfl, fun j q hj => by
    obtain rfl : j = 0 := by
      rcases Nat.eq_zero_or_pos j with h | h
      · exact h
      · rw [List.getElem?_eq_none (by simp; omega)] at hj; cases hj
    simp at hj
    subst hj
    refine ⟨cs, d.K_len (hk W), hk _, fun i u hu => ?_⟩
    rw [Nat.zero_mul, Nat.zero_add, add_plain, blk_cell (heap_alloc_new _ _) i]
    simpa using hu⟩⟩
theorem SlV.one {α : Type} {d : Kd α} (hflat : ∀ w w1 x cs, d.K w x cs → d.K w1 x cs) {S : Nat → Prop} {W : World} {T : TypeId} {x : α} {cs : List Value} (hk : ∀ w, d.K w x cs) (hS : ¬ S W.heap.size) : St S (W.alloc (.cells cs.toArray T)) (fun w => SlV d w (.slice (some ⟨W.heap.size, 0, none⟩) 1 1) [x]) :=
  SlV.mk_ (xs := [x]) (c := 1) (Nat.le_refl _) (St.ofC hflat (C_one hk) (fun ad e _ hs => by cases e; exact hS hs))
theorem Cl.pair {w : World} {g : Nat} {a b : Value} (h0 : Cl w ⟨g, 0, none⟩ a) (h1 : Cl w ⟨g, 1, none⟩ b) (x y : Value) : Cl ((w.setCell ⟨g, 0, none⟩ x).setCell ⟨g, 1, none⟩ y) ⟨g, 0, none⟩ x ∧ Cl ((w.setCell ⟨g, 0, none⟩ x).setCell ⟨g, 1, none⟩ y) ⟨g, 1, none⟩ y :=
  ⟨h0.same.beside (by decide), (h1.beside (by decide)).same⟩
end Go.Proofs.Ytdcokepmblcdmaa
