/- The contract of octet.Bytes: what digits say, or that they are none. -/
import Derived.Test.YtjhgkcbhllomaaaBase
import Derived.Test.YtjhgkcbhllomaaaShelf
import Derived.Test.YtjhgkcbhllomaaaOct
import Derived.Below
import Derived.Deep.Draws
import Derived.OwnWalk
import Derived.Laws.BytesArg
import Derived.Laws.MakeOwn
import Derived.Laws.OwnMore
import Derived.Deep.OwnRows
import Derived.Tactics
import Derived.Lib.ConvBytes
import Derived.Laws.Slices
import Derived.WalkKit
import Derived.KernelRfl
import Derived.RowKit3
import Derived.Deep.LoopGhost
import Derived.Deep.QuietTactic
import Derived.BigQuiet
import Derived.WideLaws
import Derived.Deep.DeepCutAuto
import Derived.Deep.CutBlock
import Derived.Deep.RegionHeld3
import Derived.Laws.Rows
import Derived.Lib.AppendStr
import Derived.ArgAppend
import Derived.Laws.BitsLemmas
import Derived.RowKit
namespace Go.Proofs.Ytjhgkcbhllomaaa
open Go.RowKit Go.Proofs.YtjhgkcbhllomaaaW.PrintWords Go.Proofs.YtjhgkcbhllomaaaW.PrintLast Go.Proofs.YtjhgkcbhllomaaaW.PrintMore
attribute [local go_sem] max2_int min2_int max_two min_two max_three min_three max_four min_four
set_option linter.unusedVariables false
set_option linter.unusedSimpArgs false
/-- A byte's place among the digits. -/
theorem at_digit (c : Nat) (hc : c < 256) : Lib.indexByte digs (c : Int).toNat.toUInt8 = if hv c < 16 then (hv c : Int) else -1 := by
  have h : ∀ c : Fin 256, Lib.indexByte digs (c.val : Int).toNat.toUInt8 = if hv c.val < 16 then (hv c.val : Int) else -1 := by decide +kernel
  exact h ⟨c, hc⟩
theorem digit_index (c : Nat) (hc : c < 256) (w : World) :
    Calls Try.prog 21 #[.string (ByteArray.mk #[48, 49, 50, 51, 52, 53, 54, 55, 56, 57, 97, 98, 99, 100, 101, 102]), .int .u8 c] w fun e w' => e = .returned (.int .i64 (if hv c < 16 then (hv c : Int) else -1)) ∧ w' = w := by
  rw [← at_digit c hc]
  exact Try.strings_IndexByte _ _ _
theorem digit_yes (c : Nat) (hc : c < 256) (h : hv c < 16) (w : World) :
    Calls Try.prog 21 #[.string (ByteArray.mk #[48, 49, 50, 51, 52, 53, 54, 55, 56, 57, 97, 98, 99, 100, 101, 102]), .int .u8 c] w fun e w' => e = .returned (.int .i64 (hv c)) ∧ w' = w := by
  have := digit_index c hc w; rwa [if_pos h] at this
theorem digit_no (c : Nat) (hc : c < 256) (h : ¬ hv c < 16) (w : World) :
    Calls Try.prog 21 #[.string (ByteArray.mk #[48, 49, 50, 51, 52, 53, 54, 55, 56, 57, 97, 98, 99, 100, 101, 102]), .int .u8 c] w fun e w' => e = .returned (.int .i64 (-1)) ∧ w' = w := by
  have := digit_index c hc w; rwa [if_neg h] at this
set_option maxHeartbeats 1000000 in
theorem octet_Bytes.odd (s : ByteArray) (w : World) (hs : s.size ≤ 35184372088832) (ho : s.size % 2 = 1) :
    Calls Try.prog 12 #[.string s] w fun e w' => e = .returned (.tuple #[.string ⟨#[]⟩, .int .i64 4]) ∧ Below w.heap.size w w' := by
  go_enter Try.func12, Try.ntmps12
  go_wp2
  go_ret2
  exact ⟨rfl, Below.refl _ _⟩
theorem digits_on {s : ByteArray} {k : Nat} (h : ∀ j, j < 2 * k → hv (bN s j) < 16) (h1 : hv (bN s (2 * k)) < 16) (h2 : hv (bN s (2 * k + 1)) < 16) : ∀ j, j < 2 * (k + 1) → hv (bN s j) < 16 := fun j hj => by
  rcases (show j < 2 * k ∨ j = 2 * k ∨ j = 2 * k + 1 by omega) with h' | rfl | rfl
  · exact h j h'
  · exact h1
  · exact h2
def BytesPost (s : ByteArray) (w : World) (e : Ending) (w' : World) : Prop :=
  ((hexOk s ∧ e = .returned (.tuple #[.string (unhexS s), .int .i64 0])) ∨ (¬ hexOk s ∧ e = .returned (.tuple #[.string ⟨#[]⟩, .int .i64 4]))) ∧ Below w.heap.size w w'
set_option maxHeartbeats 1000000 in
set_option maxRecDepth 100000 in
theorem octet_Bytes.even (s : ByteArray) (w : World) (hs : s.size ≤ 35184372088832) (ho : s.size % 2 = 0) :
    Calls Try.prog 12 #[.string s] w (BytesPost s w) := by
  obtain ⟨m, hm⟩ : ∃ m, m = s.size / 2 := ⟨_, rfl⟩
  have q1 : s.size ≤ 2 * m := by omega
  have q2 : 2 * m ≤ s.size := by omega
  clear ho hm
  go_enter Try.func12, Try.ntmps12
  go_wp2_with (at_make; refine Try.make_u8 (N := 15) rfl rfl _ _ rfl _ rfl rfl _ m ?hm ?hl (Below.refl _ _) (Nat.le_refl _) ?_; (case hm => omega); (case hl => omega); intro A1 c1 w1 ho hb)
  go_loopw [18] (fun i wr => ∃ k : Nat, k ≤ m ∧ i = .int .i64 k ∧ (Kd.int .u8).R 5 wr w.heap.size (fun _ => True) (.slice A1 m c1) (hexTo s k ++ List.replicate (m - k) 0) ∧ Below w.heap.size w wr ∧ Hid (∀ j, j < 2 * k → hv (bN s j) < 16)) (fun i _ => m - (intOf i).toNat)
  case atStart => exact ⟨0, Nat.zero_le _, rfl, ho, hb, fun j hj => by omega⟩
  case round =>
    clear ho hb
    obtain ⟨k, hk, rfl, ho, hb, hD⟩ := hrel
    have hg := bN_at s
    by_cases hlt : k < m
    · have hz := hb.size
      obtain ⟨g, cap, he, hg1, hg2, cells, hg3⟩ := Kd.R_form ho (by rw [List.length_append, hexTo_length, List.length_replicate]; omega)
      have hlen : (hexTo s k ++ List.replicate (m - k) (0 : Int)).length = m := by rw [List.length_append, hexTo_length, List.length_replicate]; omega
      rw [hlen] at he
      injection he with he1 _ he2
      subst he1 he2
      obtain ⟨hx, hf⟩ := Kd.R_celln 0 ho (k : Int) (by omega) (by omega)
      rw [Int.toNat_natCast] at hx hf
      have l1 := bN_lt s (2 * k)
      have l2 := bN_lt s (2 * k + 1)
      by_cases d1 : hv (bN s (2 * k)) < 16
      · by_cases d2 : hv (bN s (2 * k + 1)) < 16
        · go_wp2
          go_quiet ((first | (go_at_call 21; exact Calls.quiet_of_same (digit_yes _ l1 d1 _)) | (go_at_call 21; exact Calls.quiet_of_same (digit_yes _ l2 d2 _))))
          have v1 : ((hv (bN s (2 * k)) : Nat) : Int) < 16 := by omega
          have v2 : ((hv (bN s (2 * k + 1)) : Nat) : Int) < 16 := by omega
          have hp : ∀ nq, (Kd.int .u8).R 5 ((wr.drewN nq).setCell ⟨g, k, none⟩ (.int .u8 (hexAt s k))) w.heap.size (fun _ => True) (.slice (some ⟨g, 0, none⟩) m c1) (hexTo s (k + 1) ++ List.replicate (m - (k + 1)) 0) := fun nq => by
            have := Kd.R_putn (Kd.R_drewN ho nq) (k : Int) (hexAt s k)
            rwa [Int.toNat_natCast, hexTo_set s k m hlt] at this
          go_wp2
          go_roundw
          case rel => exact ⟨k + 1, by omega, by go_num, hp _, (pw_below_drewN hb _).setCell (p := ⟨g, k, none⟩) hg1 _, digits_on hD.out d1 d2⟩
          case measure => simp [intOf]; omega
        · go_wp2
          go_quiet ((first | (go_at_call 21; exact Calls.quiet_of_same (digit_yes _ l1 d1 _)) | (go_at_call 21; exact Calls.quiet_of_same (digit_no _ l2 d2 _))))
          go_wp2
          go_ret2
          exact ⟨.inr ⟨fun hO => d2 (hO.2 _ (by omega)), rfl⟩, pw_below_drewN hb _⟩
      · by_cases d2 : hv (bN s (2 * k + 1)) < 16
        · go_wp2
          go_quiet ((first | (go_at_call 21; exact Calls.quiet_of_same (digit_no _ l1 d1 _)) | (go_at_call 21; exact Calls.quiet_of_same (digit_yes _ l2 d2 _))))
          go_wp2
          go_ret2
          exact ⟨.inr ⟨fun hO => d1 (hO.2 _ (by omega)), rfl⟩, pw_below_drewN hb _⟩
        · go_wp2
          go_quiet ((first | (go_at_call 21; exact Calls.quiet_of_same (digit_no _ l1 d1 _)) | (go_at_call 21; exact Calls.quiet_of_same (digit_no _ l2 d2 _))))
          go_wp2
          go_ret2
          exact ⟨.inr ⟨fun hO => d1 (hO.2 _ (by omega)), rfl⟩, pw_below_drewN hb _⟩
    · obtain rfl : k = m := by omega
      have hcv := own_string (P := Try.prog) Try.underlying42 Try.underlying5 Try.underlying9 (Kd.own_of_R ho)
      go_wp2
      go_ret2
      exact ⟨.inl ⟨⟨by omega, fun j hj => hD.out j (by omega)⟩, by rw [unhexS, show s.size / 2 = k by omega]; rfl⟩, hb⟩
theorem octet_Bytes.spec (s : ByteArray) (w : World) (hs : s.size ≤ 35184372088832) : Calls Try.prog 12 #[.string s] w (BytesPost s w) := by
  rcases (show s.size % 2 = 0 ∨ s.size % 2 = 1 by omega) with h | h
  · exact octet_Bytes.even s w hs h
  · refine (octet_Bytes.odd s w hs h).mono ?_
    rintro e w' ⟨rfl, hb⟩
    exact ⟨.inr ⟨fun hO => by have := hO.1; omega, rfl⟩, hb⟩
end Go.Proofs.Ytjhgkcbhllomaaa
