/- The contract of layer 1's few: at most 66 texts, each cut to 4100 bytes. -/
import Derived.Test.YtjhgkcbhllomaaaBase
import Derived.Test.YtjhgkcbhllomaaaShelf
import Derived.Test.YtjhgkcbhllomaaaOct
import Derived.Test.YtjhgkcbhllomaaaCSame1
import Derived.Below
import Derived.Deep.Draws
import Derived.OwnWalk
import Derived.Laws.BytesArg
import Derived.Laws.MakeOwn
import Derived.Laws.OwnMore
import Derived.Deep.OwnRows
import Derived.Tactics
import Derived.Lib.ConvBytes
import Derived.Laws.Slices
import Derived.WalkKit
import Derived.KernelRfl
import Derived.RowKit3
import Derived.Deep.LoopGhost
import Derived.Deep.QuietTactic
import Derived.BigQuiet
import Derived.WideLaws
import Derived.Deep.DeepCutAuto
import Derived.Deep.CutBlock
import Derived.Deep.RegionHeld3
import Derived.Laws.Rows
import Derived.Lib.AppendStr
import Derived.ArgAppend
import Derived.Laws.BitsLemmas
import Derived.RowKit
namespace Go.Proofs.Ytjhgkcbhllomaaa
open Go.RowKit Go.Proofs.YtjhgkcbhllomaaaW.PrintWords Go.Proofs.YtjhgkcbhllomaaaW.PrintLast Go.Proofs.YtjhgkcbhllomaaaW.PrintMore
attribute [local go_sem] max2_int min2_int max_two min_two max_three min_three max_four min_four
set_option linter.unusedVariables false
set_option linter.unusedSimpArgs false
theorem few_step (ys : List ByteArray) (k : Nat) (h : k < ys.length) : ((ys.map fun s => s.extract 0 (min s.size 4100)).take k ++ ys.drop k).set k ((ys.getD k ByteArray.empty).extract 0 (min (ys.getD k ByteArray.empty).size 4100)) = (ys.map fun s => s.extract 0 (min s.size 4100)).take (k + 1) ++ ys.drop (k + 1) := by
  rw [List.set_append_right _ _ (by rw [List.length_take]; exact Nat.min_le_left _ _), List.length_take, List.length_map, Nat.min_eq_left (Nat.le_of_lt h), Nat.sub_self, List.drop_eq_getElem_cons h, List.set_cons_zero, getD_at _ _ _ h, List.take_succ_eq_append_getElem (by rw [List.length_map]; exact h), List.getElem_map, List.append_assoc, List.singleton_append]
theorem few_at (ys : List ByteArray) (k : Nat) (h : k < ys.length) : rdOf ByteArray.empty ((ys.map fun s => s.extract 0 (min s.size 4100)).take k ++ ys.drop k) (k : Int) = ys.getD k ByteArray.empty := by
  unfold rdOf
  rw [Int.toNat_natCast, List.getD_eq_getElem?_getD, List.getElem?_append_right (by rw [List.length_take]; exact Nat.min_le_left _ _), List.length_take, List.length_map, Nat.min_eq_left (Nat.le_of_lt h), Nat.sub_self, List.getElem?_drop, Nat.add_zero, List.getD_eq_getElem?_getD]
theorem few_len (ys : List ByteArray) (k : Nat) (h : k ≤ ys.length) : ((ys.map fun s => s.extract 0 (min s.size 4100)).take k ++ ys.drop k).length = ys.length := by
  rw [List.length_append, List.length_take, List.length_map, List.length_drop]; omega
theorem extract_self (x : ByteArray) : x.extract 0 x.size = x := by simp
set_option maxHeartbeats 2000000 in
set_option maxRecDepth 100000 in
theorem law01_few (A : Option Addr) (c : Nat) (xs : List ByteArray) (w : World) (ha : Kd.string.C w A xs.length xs) (hca : xs.length ≤ c) :
    Calls Try.prog 9 #[.slice A xs.length c] w fun e w' => ∃ v, e = .returned v ∧ Kd.string.R 9 w' w.heap.size (fun _ => True) v (fewL xs) ∧ Below w.heap.size w w' := by
  have ma := Kd.C_max ha
  obtain ⟨ys, hys⟩ : ∃ ys, ys = xs.take 66 := ⟨_, rfl⟩
  have HC := Kd.C_take ha (m := ys.length) (by rw [hys, List.length_take]; omega)
  have hy2 : xs.take ys.length = ys := by rw [hys, List.length_take]; exact (List.take_eq_take_min).symm
  rw [hy2] at HC
  have hl1 : 66 < xs.length → ys.length = 66 := fun h => by rw [hys, List.length_take]; omega
  have hl2 : ¬ 66 < xs.length → ys.length = xs.length := fun h => by rw [hys, List.length_take]; omega
  have hl3 : ys.length ≤ 66 := by rw [hys, List.length_take]; omega
  have hF : fewL xs = ys.map fun s => s.extract 0 (min s.size 4100) := by rw [hys]; rfl
  rw [hF]
  clear hF hys hy2
  go_enter Try.func9, Try.ntmps9
  by_cases h66 : 66 < xs.length
  · have q1 : ys.length ≤ 66 := by omega
    have q2 : 66 ≤ ys.length := by have := hl1 h66; omega
    have HL : Hid (ys.length = 66) := hl1 h66
    clear hl1 hl2
    go_wp2_with (first | (refine Try.none_str (N := 5) rfl rfl ?hr ?_; (case hr => first | (go_simp; done) | (go_simp; rfl)); intro v1 w1 ho hb) | (at_builtin; refine Try.app_strs rfl _ _ rfl _ [] ys A 66 _ rfl rfl ho ?hC hb ?hS ?hL ?_; (case hC => rw [← HL.out]; exact Kd.C_below HC hb); (case hS => exact hb.size); (case hL => simp <;> omega); intro A1 c1 w2 ho2 hb2))
    go_loopw [14] (fun i wr => ∃ k : Nat, k ≤ ys.length ∧ i = .int .i64 k ∧ Kd.string.R 9 wr w.heap.size (fun _ => True) (.slice A1 ys.length c1) ((ys.map fun s => s.extract 0 (min s.size 4100)).take k ++ ys.drop k) ∧ Below w.heap.size w wr) (fun i _ => ys.length - (intOf i).toNat)
    case atStart => exact ⟨0, Nat.zero_le _, rfl, by rw [List.take_zero, List.nil_append, List.drop_zero]; exact ho2, hb2⟩
    case round =>
      clear ho2 hb2
      obtain ⟨k, hk, rfl, ho, hb⟩ := hrel
      by_cases hlt : k < ys.length
      · obtain ⟨g, cap, he, hg1, hg2, cells, hg3⟩ := Kd.R_form ho (by rw [few_len _ _ hk]; omega)
        rw [few_len _ _ hk] at he
        injection he with he1 _ he2
        subst he1 he2
        obtain ⟨hx, hf⟩ := Kd.R_celln ByteArray.empty ho (k : Int) (by omega) (by omega)
        rw [few_at _ _ hlt] at hx
        rw [Int.toNat_natCast] at hx hf
        have hp := Kd.R_putn ho (k : Int) ((ys.getD k ByteArray.empty).extract 0 (min (ys.getD k ByteArray.empty).size 4100))
        rw [Int.toNat_natCast, few_step _ _ hlt] at hp
        generalize ys.getD k ByteArray.empty = x at *
        by_cases h41 : 4100 < x.size
        · rw [show min x.size 4100 = 4100 by omega] at hp
          go_wp2
          go_roundw
          case rel => exact ⟨k + 1, by omega, by go_num, hp, hb.setCell (p := ⟨g, k, none⟩) hg1 _⟩
          case measure => simp [intOf]; omega
        · rw [show min x.size 4100 = x.size by omega, extract_self] at hp
          go_wp2
          go_roundw
          case rel => exact ⟨k + 1, by omega, by go_num, hp, hb.setCell (p := ⟨g, k, none⟩) hg1 _⟩
          case measure => simp [intOf]; omega
      · obtain rfl : k = ys.length := by omega
        rw [List.drop_of_length_le (Nat.le_refl _), List.append_nil, List.take_of_length_le (by rw [List.length_map]; exact Nat.le_refl _)] at ho
        go_wp2
        go_ret
        exact ⟨_, rfl, ho, hb⟩
  · have q1 : ys.length ≤ xs.length := by have := hl2 h66; omega
    have q2 : xs.length ≤ ys.length := by have := hl2 h66; omega
    have HL : Hid (ys.length = xs.length) := hl2 h66
    clear hl1 hl2
    go_wp2_with (first | (refine Try.none_str (N := 5) rfl rfl ?hr ?_; (case hr => first | (go_simp; done) | (go_simp; rfl)); intro v1 w1 ho hb) | (at_builtin; refine Try.app_strs rfl _ _ rfl _ [] ys A xs.length _ rfl rfl ho ?hC hb ?hS ?hL ?_; (case hC => rw [← HL.out]; exact Kd.C_below HC hb); (case hS => exact hb.size); (case hL => simp <;> omega); intro A1 c1 w2 ho2 hb2))
    go_loopw [14] (fun i wr => ∃ k : Nat, k ≤ ys.length ∧ i = .int .i64 k ∧ Kd.string.R 9 wr w.heap.size (fun _ => True) (.slice A1 ys.length c1) ((ys.map fun s => s.extract 0 (min s.size 4100)).take k ++ ys.drop k) ∧ Below w.heap.size w wr) (fun i _ => ys.length - (intOf i).toNat)
    case atStart => exact ⟨0, Nat.zero_le _, rfl, by rw [List.take_zero, List.nil_append, List.drop_zero]; exact ho2, hb2⟩
    case round =>
      clear ho2 hb2
      obtain ⟨k, hk, rfl, ho, hb⟩ := hrel
      by_cases hlt : k < ys.length
      · obtain ⟨g, cap, he, hg1, hg2, cells, hg3⟩ := Kd.R_form ho (by rw [few_len _ _ hk]; omega)
        rw [few_len _ _ hk] at he
        injection he with he1 _ he2
        subst he1 he2
        obtain ⟨hx, hf⟩ := Kd.R_celln ByteArray.empty ho (k : Int) (by omega) (by omega)
        rw [few_at _ _ hlt] at hx
        rw [Int.toNat_natCast] at hx hf
        have hp := Kd.R_putn ho (k : Int) ((ys.getD k ByteArray.empty).extract 0 (min (ys.getD k ByteArray.empty).size 4100))
        rw [Int.toNat_natCast, few_step _ _ hlt] at hp
        generalize ys.getD k ByteArray.empty = x at *
        by_cases h41 : 4100 < x.size
        · rw [show min x.size 4100 = 4100 by omega] at hp
          go_wp2
          go_roundw
          case rel => exact ⟨k + 1, by omega, by go_num, hp, hb.setCell (p := ⟨g, k, none⟩) hg1 _⟩
          case measure => simp [intOf]; omega
        · rw [show min x.size 4100 = x.size by omega, extract_self] at hp
          go_wp2
          go_roundw
          case rel => exact ⟨k + 1, by omega, by go_num, hp, hb.setCell (p := ⟨g, k, none⟩) hg1 _⟩
          case measure => simp [intOf]; omega
      · obtain rfl : k = ys.length := by omega
        rw [List.drop_of_length_le (Nat.le_refl _), List.append_nil, List.take_of_length_le (by rw [List.length_map]; exact Nat.le_refl _)] at ho
        go_wp2
        go_ret
        exact ⟨_, rfl, ho, hb⟩
end Go.Proofs.Ytjhgkcbhllomaaa
