/- An argument that can be read as data of a type reads as one of its kind. -/
import Derived.ChangeSlices
import Derived.ChangeOld
import Derived.SizedLaws
import Derived.SliceStrings
import Derived.Test.YtdcokepmblcdmaaBase
import Derived.Test.YtdcokepmblcdmaaShelf
import Derived.Test.YtdcokepmblcdmaaV
import Derived.Below
import Derived.Deep.Draws
import Derived.OwnWalk
import Derived.Laws.BytesArg
import Derived.Laws.MakeOwn
import Derived.Laws.OwnMore
import Derived.Deep.OwnRows
import Derived.Tactics
import Derived.Lib.ConvBytes
import Derived.Laws.Slices
import Derived.WalkKit
import Derived.KernelRfl
import Derived.RowKit3
import Derived.Deep.LoopGhost
import Derived.Deep.QuietTactic
import Derived.BigQuiet
import Derived.WideLaws
import Derived.Deep.DeepCutAuto
import Derived.Deep.CutBlock
import Derived.Deep.RegionHeld3
import Derived.Laws.Rows
import Derived.Lib.AppendStr
import Derived.ArgAppend
import Derived.Laws.BitsLemmas
import Derived.RowKit
namespace Go.Proofs.Ytdcokepmblcdmaa
open Go.RowKit Go.Proofs.YtdcokepmblcdmaaW.PrintWords Go.Proofs.YtdcokepmblcdmaaW.PrintLast Go.Proofs.YtdcokepmblcdmaaW.PrintMore
attribute [local go_sem] max2_int min2_int max_two min_two max_three min_three max_four min_four
set_option linter.unusedVariables false
set_option linter.unusedSimpArgs false
/-- What can be read as data of type t is one of this kind, of which W holds. -/
def Opens {α : Type} (P : Program) (d : Kd α) (t : TypeId) (W : α → Prop) : Prop :=
  ∀ (H : Type) (enc : TypeId × Value → H) (w : World) (base fuel : Nat) (held : Bool) (cs : List Value) (x : DataW H × List MemPlace), DataW.trod enc P w base (fun _ => true) held fuel t cs = some x → ∃ a, d.K w a cs ∧ W a
theorem opens_int {P : Program} {t : TypeId} {k : IntKind} (hu : P.underlying t = some (.int k)) : Opens P (Kd.int k) t (fun n => (Lit.int k n).wf = true) := by
  intro H enc w base fuel held cs x h
  obtain ⟨n, rfl, _, hw⟩ := DataW.trod_int hu h
  exact ⟨n, rfl, hw⟩
theorem opens_bool {P : Program} {t : TypeId} (hu : P.underlying t = some .bool) : Opens P Kd.bool t (fun _ => True) := by
  intro H enc w base fuel held cs x h
  obtain ⟨n, rfl, _⟩ := DataW.trod_bool hu h
  exact ⟨n, rfl, trivial⟩
theorem opens_str {P : Program} {t : TypeId} (hu : P.underlying t = some .string) : Opens P Kd.string t (fun s => s.size ≤ 9223372036854775807) := by
  intro H enc w base fuel held cs x h
  obtain ⟨s, rfl, _, hw⟩ := DataW.trod_string hu h
  exact ⟨s, rfl, by unfold maxLen at hw; exact hw⟩
theorem opens_slice {α : Type} {P : Program} {d : Kd α} {t e : TypeId} {W : α → Prop} (hu : P.underlying t = some (.slice e)) (hc : P.cellsOf e = d.sz) (h0 : 0 < d.sz) (he : Opens P d e W) : Opens P (Kd.slice e d) t (fun l => ∀ x ∈ l, W x) := by
  intro H enc w base fuel held cs x h
  rcases DataW.trod_slice hu h with ⟨rfl, _⟩ | ⟨a, len, cap, elems, rest, n, _, rfl, _, _, hl, hm, hlen, hel, _⟩
  · exact ⟨[], ⟨none, 0, rfl, Nat.le_refl _, Kd.C_nil _ _⟩, by simp⟩
  have each : ∀ i : Fin len, ∃ y : α, W y ∧ ∃ c : List Value, c.length = d.sz ∧ d.K w y c ∧ ∀ j u, c[j]? = some u → w.cell? (a.add (i.val * d.sz + j)) = some u := by
    intro i
    have h1 := hel i.val i.isLt
    rw [hc, List.getElem?_eq_getElem (by omega), Option.bind_eq_some_iff] at h1
    obtain ⟨cs', h2, h3⟩ := h1
    obtain ⟨y, hk, hw⟩ := he H enc w base n held cs' _ h3
    obtain ⟨_, hl2, hc2⟩ := World.cells?_some h2
    refine ⟨y, hw, cs', d.K_len hk, hk, fun j u hu => ?_⟩
    have hj : j < cs'.length := (List.getElem?_eq_some_iff.1 hu).1
    have h4 := hc2 j (by omega)
    rw [add_add] at h4
    rw [h4, hu]
  refine ⟨(List.finRange len).map fun i => (each i).choose, ?_, ?_⟩
  · have hL : ((List.finRange len).map fun i => (each i).choose).length = len := by simp
    refine ⟨some a, cap, by rw [hL], by rw [hL]; exact hl, ?_⟩
    rw [hL]
    refine ⟨hL, by unfold maxLen at hm; omega, fun _ => ⟨a, rfl, fun j q hj => ?_⟩⟩
    rw [List.getElem?_map, Option.map_eq_some_iff] at hj
    obtain ⟨i, hi, rfl⟩ := hj
    have hi2 := List.getElem?_eq_some_iff.1 hi
    obtain ⟨hlt, hi3⟩ := hi2
    have hij : i.val = j := by rw [← hi3]; simp
    obtain ⟨_, c, h5, h6, h7⟩ := (each i).choose_spec
    exact ⟨c, h5, h6, by rw [← hij]; exact h7⟩
  · intro y hy
    obtain ⟨i, _, rfl⟩ := List.mem_map.1 hy
    exact (each i).choose_spec.1
/-- The fields from the i-th on, which begin at cell o. -/
def OpF {α : Type} (P : Program) (d : Kd α) (fs : Array Field) (i o T : Nat) (W : α → Prop) : Prop :=
  ∀ (H : Type) (enc : TypeId × Value → H) (w : World) (base n : Nat) (held : Bool) (cs : List Value), cs.length = T →
    (∀ (j : Nat) (f : Field), fs[j]? = some f → ∃ y, DataW.trod enc P w base (fun _ => true) held n f.type ((cs.drop f.offset).take (P.cellsOf f.type)) = some y) → ∃ a, d.K w a (cs.drop o) ∧ W a
theorem OpF.one {α : Type} {P : Program} {d : Kd α} {fs : Array Field} {i o T : Nat} {f : Field} {W : α → Prop} (hf : fs[i]? = some f) (ho : f.offset = o) (hc : P.cellsOf f.type = d.sz) (hT : T = o + d.sz) (h : Opens P d f.type W) : OpF P d fs i o T W := by
  intro H enc w base n held cs hl hall
  obtain ⟨y, hy⟩ := hall i f hf
  rw [ho, hc, List.take_of_length_le (by rw [List.length_drop]; omega)] at hy
  exact h H enc w base n held _ y hy
theorem OpF.cons {α β : Type} {P : Program} {d : Kd α} {d2 : Kd β} {fs : Array Field} {i o T : Nat} {f : Field} {W : α → Prop} {W2 : β → Prop} (hf : fs[i]? = some f) (ho : f.offset = o) (hc : P.cellsOf f.type = d.sz) (h : Opens P d f.type W) (h2 : OpF P d2 fs (i + 1) (o + d.sz) T W2) :
    OpF P (Kd.pair d d2) fs i o T (fun x => W x.1 ∧ W2 x.2) := by
  intro H enc w base n held cs hl hall
  obtain ⟨y, hy⟩ := hall i f hf
  rw [ho, hc] at hy
  obtain ⟨a, hk, hw⟩ := h H enc w base n held _ y hy
  obtain ⟨b, hk2, hw2⟩ := h2 H enc w base n held cs hl hall
  refine ⟨(a, b), ⟨_, _, ?_, hk, hk2⟩, hw, hw2⟩
  rw [← List.drop_drop, List.take_append_drop]
theorem opens_struct {α β : Type} {P : Program} {d : Kd α} {t : TypeId} {fs : Array Field} {T : Nat} {W : α → Prop} (hu : P.underlying t = some (.struct fs)) (hc : P.cellsOf t = T) (h : OpF P d fs 0 0 T W) {f : β → α} {g : α → β} (hg : ∀ a, f (g a) = a) : Opens P (Kd.iso d f) t (fun x => W (f x)) := by
  intro H enc w base fuel held cs x hx
  obtain ⟨xs, n, _, _, hl, hxl, hall⟩ := DataW.trod_struct hu hx
  obtain ⟨a, hk, hw⟩ := h H enc w base n held cs (by omega) (fun j fl hj => by
    have hj2 : j < xs.length := by rw [hxl]; exact (Array.getElem?_eq_some_iff.1 hj).1
    exact ⟨xs[j], by rw [hall j fl hj, List.getElem?_eq_getElem hj2]⟩)
  rw [List.drop_zero] at hk
  exact ⟨g a, by show d.K w (f (g a)) cs; rw [hg]; exact hk, by show W (f (g a)); rw [hg]; exact hw⟩
open Go.ChangeShapes Go.WideShapes in
/-- A parameter: a slice. -/
theorem param_slice {α : Type} {P : Program} {d : Kd α} {t e : TypeId} {W : List α → Prop} {H : Type} {enc : TypeId × Value → H} {w : World} {base b0 : Nat} {held : Bool} {v : Value} {dd : DataW H} {ps : List MemPlace} (hu : P.underlying t = some (.slice e)) (ho : Opens P (Kd.slice e d) t W) (hok : Value.okWide P w .any b0 t v) (h : DataW.Trod enc P w base (fun _ => true) held t v dd ps) : ∃ l, SlV d w v l ∧ W l := by
  obtain ⟨a, len, cap, rfl⟩ := okWide_slice hu hok
  obtain ⟨fuel, hf⟩ := h
  obtain ⟨l, ⟨A, c, he, hl, hc⟩, hw⟩ := ho H enc w base fuel held _ _ hf
  have he : [Value.slice a len cap] = [Value.slice A l.length c] := he
  injection he with he
  exact ⟨l, ⟨A, c, he, hl, hc⟩, hw⟩
/-- A parameter: a struct. -/
theorem param_struct {α : Type} {P : Program} {d : Kd α} {t : TypeId} {fs : Array Field} {W : α → Prop} {H : Type} {enc : TypeId × Value → H} {w : World} {base b0 : Nat} {held : Bool} {v : Value} {dd : DataW H} {ps : List MemPlace} (hu : P.underlying t = some (.struct fs)) (ho : Opens P d t W) (hok : Value.okWide P w .any b0 t v) (h : DataW.Trod enc P w base (fun _ => true) held t v dd ps) : ∃ x cs, v = .agg cs.toArray ∧ d.K w x cs ∧ W x := by
  have h2 : ∃ cs, v = .agg cs ∧ cs.size = P.cellsOf t ∧ Row.okWide P w .any b0 t cs := by
    unfold Value.okWide at hok
    rw [hu] at hok
    exact hok
  obtain ⟨cs, rfl, _⟩ := h2
  obtain ⟨fuel, hf⟩ := h
  obtain ⟨x, hk, hw⟩ := ho H enc w base fuel held _ _ hf
  exact ⟨x, cs.toList, by simp, hk, hw⟩
end Go.Proofs.Ytdcokepmblcdmaa
