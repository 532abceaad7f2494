/- slices.Clone of []string. -/
import Derived.WalkSpells
import Derived.Test.YtdcokepmblcdmaaBase
import Derived.Test.YtdcokepmblcdmaaShelf
import Derived.Test.YtdcokepmblcdmaaAny
import Derived.Test.YtdcokepmblcdmaaCApp
import Derived.Below
import Derived.Deep.Draws
import Derived.OwnWalk
import Derived.Laws.BytesArg
import Derived.Laws.MakeOwn
import Derived.Laws.OwnMore
import Derived.Deep.OwnRows
import Derived.Tactics
import Derived.Lib.ConvBytes
import Derived.Laws.Slices
import Derived.WalkKit
import Derived.KernelRfl
import Derived.RowKit3
import Derived.Deep.LoopGhost
import Derived.Deep.QuietTactic
import Derived.BigQuiet
import Derived.WideLaws
import Derived.Deep.DeepCutAuto
import Derived.Deep.CutBlock
import Derived.Deep.RegionHeld3
import Derived.Laws.Rows
import Derived.Lib.AppendStr
import Derived.ArgAppend
import Derived.Laws.BitsLemmas
import Derived.RowKit
namespace Go.Proofs.Ytdcokepmblcdmaa
open Go.RowKit Go.Proofs.YtdcokepmblcdmaaW.PrintWords Go.Proofs.YtdcokepmblcdmaaW.PrintLast Go.Proofs.YtdcokepmblcdmaaW.PrintMore
attribute [local go_sem] max2_int min2_int max_two min_two max_three min_three max_four min_four
set_option linter.unusedVariables false
set_option linter.unusedSimpArgs false
section
variable {P : Program} {ops : Array Oper} {rest : List Oper} {o : Oper} {a : Act} {Q : Exit → Act → World → Prop}
theorem clone_strs {W : World} (hgd : o.guard = none) (s x : Operand) (t e : TypeId)
    (ho : o.op = .call { callee := .builtin .append, args := #[s, x], argTypes := #[t, t] })
    (ht : P.underlying t = some (.slice e)) (hinfo : (P.info? e).map (fun i => (i.zero, i.size, i.bytes)) = some (some (.string ⟨#[]⟩), 1, 16))
    (A B : Option Addr) (ys : List ByteArray) (c : Nat) (hs : a.eval s = .slice A 0 0) (hx : a.eval x = .slice B ys.length c) (h2 : Kd.string.C W B ys.length ys) (hl : ys.length * 16 ≤ 140737488355328) (hpos : 0 < ys.length)
    (h : ∀ v1 w1, w1.ownsRow W.heap.size e 1 v1 ys.length (encs Value.string ys) → Below W.heap.size W w1 → wpList P ops Q rest (a.put o.dst v1) w1) :
    wpList P ops Q (o :: rest) a W := by
  obtain ⟨i0, hi, hzz⟩ := Option.map_eq_some_iff.1 hinfo
  simp only [Prod.mk.injEq] at hzz
  obtain ⟨hz0, hz1, hz2⟩ := hzz
  have hR := Kd.reads_of_C (enc := Value.string) (d := ByteArray.empty) (h1 := fun _ => rfl) h2
  obtain ⟨bd, rfl, hcell⟩ := hR.2.2 hpos
  refine wpList_append_grows W hgd s x t ho e i0 (.string ⟨#[]⟩) 1 16 ht hi hz0 hz1 hz2 rfl (by decide) A 0 0 [] hs (fun _ => ⟨rfl, rfl⟩) rfl (fun b _ j u hj => by simp at hj) bd ys.length c (encs Value.string ys) hx (by simp [encs]) ?_ ?_ (by omega) (by unfold maxLen; omega) (by omega) ?_
  · intro j u hj
    simp only [encs, List.getElem?_map] at hj
    obtain ⟨b, hb, rfl⟩ := Option.map_eq_some_iff.1 hj
    have hjl := (List.getElem?_eq_some_iff.1 hb).1
    have := hcell j hjl
    rwa [List.getD_eq_getElem?_getD, hb] at this
  · intro u hu
    simp only [encs, List.mem_map] at hu
    obtain ⟨b, _, rfl⟩ := hu
    rfl
  · intro v1 w1 hown hg
    rw [Nat.zero_add, List.nil_append] at hown
    exact h v1 w1 hown ((Below.refl _ _).grown hg (Nat.le_refl _) (fun k hk => by cases hk))
end
set_option maxHeartbeats 1000000 in
theorem Try.Clone_s (B : Option Addr) (ys : List ByteArray) (c : Nat) (w : World) (h2 : Kd.string.C w B ys.length ys) (hl : ys.length * 16 ≤ 140737488355328) (hpos : 0 < ys.length) (hc : ys.length ≤ c) :
    Calls Try.prog 38 #[.slice B ys.length c] w fun e w' => (∃ g cap, e = .returned (.slice (some ⟨g, 0, none⟩) ys.length cap) ∧ w.heap.size ≤ g ∧ w'.ownsRow w.heap.size 9 1 (.slice (some ⟨g, 0, none⟩) ys.length cap) ys.length (encs Value.string ys)) ∧ Below w.heap.size w w' := by
  have m1 := Kd.C_max h2
  obtain ⟨bd, rfl, _⟩ := h2.2.2 hpos
  have hnil : ∀ w1 : World, (binOp .eql 22 (.slice (some bd) ys.length c) (.slice none 0 0)).run Try.prog w1 = .ok (.bool false) w1 := fun w1 => by
    have := Go.Lib.run_eql_slice_nil (P := Try.prog) w1 22 9 (some bd) ys.length c 0 0 (by kernel_rfl)
    simpa using this
  go_enter Try.func38, Try.ntmps38
  go_wp2_with (at_builtin; go_loud (refine clone_strs rfl _ _ 22 9 rfl (by kernel_rfl) (by kernel_rfl) _ _ ys c rfl rfl (Kd.C_alloc h2 _) hl hpos ?_; intro v1 w1 ho hb))
  go_ret
  have hb1 := below_step ((Below.refl _ w).alloc (Nat.le_refl _) _) hb
  rcases ho.2 with ⟨_, h0⟩ | ⟨g, cap, cur, rfl, hg, hh, hr⟩
  · omega
  · have hg' : w.heap.size ≤ g := by simp at hg; omega
    exact ⟨⟨g, cap, rfl, hg', ho.1, .inr ⟨g, cap, cur, rfl, hg', hh, hr⟩⟩, hb1⟩
end Go.Proofs.Ytdcokepmblcdmaa
