/- The contract of octet.Bind: texts put together, or refused. -/
import Derived.Test.YtjhgkcbhllomaaaBase
import Derived.Test.YtjhgkcbhllomaaaShelf
import Derived.Test.YtjhgkcbhllomaaaOct
import Derived.Test.YtjhgkcbhllomaaaBuild
import Derived.Test.YtjhgkcbhllomaaaCWide
import Derived.Test.YtjhgkcbhllomaaaCSame1
import Derived.Below
import Derived.Deep.Draws
import Derived.OwnWalk
import Derived.Laws.BytesArg
import Derived.Laws.MakeOwn
import Derived.Laws.OwnMore
import Derived.Deep.OwnRows
import Derived.Tactics
import Derived.Lib.ConvBytes
import Derived.Laws.Slices
import Derived.WalkKit
import Derived.KernelRfl
import Derived.RowKit3
import Derived.Deep.LoopGhost
import Derived.Deep.QuietTactic
import Derived.BigQuiet
import Derived.WideLaws
import Derived.Deep.DeepCutAuto
import Derived.Deep.CutBlock
import Derived.Deep.RegionHeld3
import Derived.Laws.Rows
import Derived.Lib.AppendStr
import Derived.ArgAppend
import Derived.Laws.BitsLemmas
import Derived.RowKit
namespace Go.Proofs.Ytjhgkcbhllomaaa
open Go.RowKit Go.Proofs.YtjhgkcbhllomaaaW.PrintWords Go.Proofs.YtjhgkcbhllomaaaW.PrintLast Go.Proofs.YtjhgkcbhllomaaaW.PrintMore
attribute [local go_sem] max2_int min2_int max_two min_two max_three min_three max_four min_four
set_option linter.unusedVariables false
set_option linter.unusedSimpArgs false
theorem strCells_len (s : ByteArray) : (Lib.strCells s).length = s.size := by simp [Lib.strCells]
theorem builder_lt {T e B b : Nat} {p : Value} {bs : List Value} {w : World} (h : Lib.BuilderAtF T e B b p bs w) : b < w.heap.size := by
  obtain ⟨_, v, hb, _⟩ := h
  exact blk_lt hb
/-- A builder stays one while what lies below the heap's end stays. -/
theorem isBuilder_below {T e B b : Nat} {bs : List Value} {w w1 : World} (h : Lib.IsBuilderF T e B b bs w) (hb : Below w.heap.size w w1) : Lib.IsBuilderF T e B b bs w1 := by
  have go : ∀ p, Lib.BuilderAtF T e B b p bs w → Lib.BuilderAtF T e B b p bs w1 := by
    rintro p ⟨hB, v, hbk, hown, hne⟩
    exact ⟨hB, v, (hb.block b (blk_lt hbk)).trans hbk, hown.kept (grown_of_below hb none) (by cases v.ownBlock <;> simp), hne⟩
  exact h.elim (fun x => .inl (go _ x)) (fun x => .inr (go _ x))
set_option maxHeartbeats 2000000 in
theorem octet_Bind.many (A : Option Addr) (c : Nat) (xs : List ByteArray) (w : World) (h : 64 < xs.length) (hm : xs.length ≤ 9223372036854775807) :
    Calls Try.prog 10 #[.slice A xs.length c] w fun e w' => e = .returned (.tuple #[.string ⟨#[]⟩, .int .i64 2]) ∧ Below w.heap.size w w' := by
  go_enter Try.func10, Try.ntmps10
  go_wp2
  go_ret2
  exact ⟨rfl, Below.refl _ _⟩
def BindPost (xs : List ByteArray) (w : World) (e : Ending) (w' : World) : Prop :=
  ((mayBind xs ∧ e = .returned (.tuple #[.string (bindS xs), .int .i64 0])) ∨ (¬ mayBind xs ∧ e = .returned (.tuple #[.string ⟨#[]⟩, .int .i64 2]))) ∧ Below w.heap.size w w'
set_option maxHeartbeats 2000000 in
set_option maxRecDepth 100000 in
theorem octet_Bind.few (A : Option Addr) (c : Nat) (xs : List ByteArray) (w : World) (ha : Kd.string.C w A xs.length xs) (hca : xs.length ≤ c) (h64 : xs.length ≤ 64) :
    Calls Try.prog 10 #[.slice A xs.length c] w (BindPost xs w) := by
  go_enter Try.func10, Try.ntmps10
  go_wp2
  go_loopw [14] (fun i wr => ∃ k : Nat, k ≤ xs.length ∧ i = .int .i64 k ∧ Lib.IsBuilderF 45 5 w.heap.size w.heap.size (Lib.byteCells (bindL (xs.take k))) wr ∧ Below w.heap.size w wr ∧ w.heap.size < wr.heap.size ∧ Hid (∀ x ∈ xs.take k, x.size ≤ 4096)) (fun i _ => xs.length - (intOf i).toNat)
  case atStart => exact ⟨0, Nat.zero_le _, rfl, Lib.IsBuilderF.of (Lib.fresh_isBuilder 45 5 w), (Below.refl _ w).alloc (Nat.le_refl _) _, by simp, fun x hx => by simp at hx⟩
  case round =>
    obtain ⟨k, hk, rfl, hI, hb, hz, hA⟩ := hrel
    by_cases hlt : k < xs.length
    · obtain ⟨ad, rfl, hx0⟩ := str_at ha k hlt
      have hx := pw_cell_below hb hx0
      have HB := hid (bindL_take xs k hlt)
      have HM := hid (all_take xs k hlt (p := fun x => x.size ≤ 4096) hA.out)
      have HN := hid (no_take xs k hlt)
      have hlen := bindL_length xs k hk hA.out
      generalize xs.getD k ByteArray.empty = x at *
      by_cases h4 : 4096 < x.size
      · go_wp2
        go_ret2
        exact ⟨.inr ⟨HN.out h4, rfl⟩, hb⟩
      · have zw := wide2_size x.size (by omega)
        have ze := wide2_err x.size (by omega)
        go_wp2_with fail
        refine (octet_Wide.spec _ _ _ (by omega)).mono ?_
        rintro e w1 ⟨rfl, b1⟩
        have hz1 := b1.size
        go_wp2_with fail
        refine (Try.WriteString_k w.heap.size w.heap.size _ _ _ (isBuilder_below hI b1) (by rw [Lib.byteCells_length, zw]; omega) (by omega)).mono ?_
        rintro e w2 ⟨rfl, h2, b2, k2⟩
        have hz2 := b2.size
        have hlt2 := builder_lt h2
        go_wp2_with fail
        refine (Try.WriteString_k w.heap.size w.heap.size _ _ _ (Or.inr h2) (by rw [List.length_append, Lib.byteCells_length, strCells_len, zw]; omega) (by omega)).mono ?_
        rintro e w3 ⟨rfl, h3, b3, k3⟩
        have hlt3 := builder_lt h3
        go_wp2
        go_roundw
        case rel =>
          refine ⟨k + 1, by omega, by go_num, ?_, ((below_then hb (by omega) b1).trans b2).trans b3, hlt3, HM.out (by omega)⟩
          rw [HB.out, Lib.byteCells_append, Lib.byteCells_append]
          exact Or.inr h3
        case measure => simp [intOf]; omega
    · obtain rfl : k = xs.length := by omega
      rw [List.take_length] at hI
      go_wp2_with fail
      refine (Try.Builder_String_any_k w.heap.size w.heap.size _ _ hI (by omega)).mono ?_
      rintro e w1 ⟨rfl, _, b1, _⟩
      go_wp2
      go_ret2
      exact ⟨.inl ⟨⟨h64, fun x hx => hA.out x (by rw [List.take_length]; exact hx)⟩, rfl⟩, hb.trans b1⟩
theorem octet_Bind.spec (A : Option Addr) (c : Nat) (xs : List ByteArray) (w : World) (ha : Kd.string.C w A xs.length xs) (hca : xs.length ≤ c) :
    Calls Try.prog 10 #[.slice A xs.length c] w (BindPost xs w) := by
  by_cases h : 64 < xs.length
  · refine (octet_Bind.many A c xs w h (Kd.C_max ha)).mono ?_
    rintro e w' ⟨rfl, hb⟩
    exact ⟨.inr ⟨fun hm => by have := hm.1; omega, rfl⟩, hb⟩
  · exact octet_Bind.few A c xs w ha hca (by omega)
end Go.Proofs.Ytjhgkcbhllomaaa
