/- Closed facts on the element types, and small words, for all hand-proved contracts of this seat. -/
import Derived.Test.YtdcokepmblcdmaaProg
import Derived.KernelRfl
import Derived.WalkKit
import Derived.OpenShut
import Derived.Test.YtdcokepmblcdmaaWMore
namespace Go.Proofs
theorem Try.info_u8 : (Try.prog.info? 5).map (fun i => (i.zero, i.size, i.bytes)) = some (some (.int .u8 0), 1, 1) := by kernel_rfl
theorem Try.info_str : (Try.prog.info? 9).map (fun i => (i.zero, i.size, i.bytes)) = some (some (.string ⟨#[]⟩), 1, 16) := by kernel_rfl
theorem Try.info_int : (Try.prog.info? 3).map (fun i => (i.zero, i.size, i.bytes)) = some (some (.int .i64 0), 1, 8) := by kernel_rfl
end Go.Proofs
namespace Go.Proofs.Ytdcokepmblcdmaa
open Go.RowKit
theorem hid {p : Prop} (h : p) : Hid p := h
theorem wf_u64_lo {n : Int} (h : (Lit.int .u64 n).wf = true) : 0 ≤ n := (bounds_u64 h).1
theorem wf_i64_lo {n : Int} (h : (Lit.int .i64 n).wf = true) : -9223372036854775808 ≤ n := (bounds_i64 h).1
theorem wf_i64_hi {n : Int} (h : (Lit.int .i64 n).wf = true) : n ≤ 9223372036854775807 := (bounds_i64 h).2
section
open Go.Proofs.YtdcokepmblcdmaaW.PrintWords Go.Proofs.YtdcokepmblcdmaaW.PrintLast Go.Proofs.YtdcokepmblcdmaaW.PrintMore
variable {ops : Array Oper} {rest : List Oper} {o : Oper} {a : Act} {Q : Exit → Act → World → Prop}
/-- '[]byte{}' -/
theorem Try.none_u8 {w : World} (hgd : o.guard = none) {N : Tmp} (hd : o.dst = some N) (hrun : (execOp a.eval o).run Try.prog w = .ok (.value (.slice (some ⟨w.heap.size, 0, none⟩) 0 0)) (w.alloc (.cells #[] 5)))
    (h : ∀ v1 w1, (Kd.int .u8).R 5 w1 w.heap.size (fun _ => True) v1 [] → Below w.heap.size w w1 → wpList Try.prog ops Q rest (a.put o.dst v1) w1) : wpList Try.prog ops Q (o :: rest) a w :=
  Kd.R_lit (Kd.int .u8) _ 5 hgd hd (xs := ([] : List Int)) (inner := []) (ok := fun _ => True) (okp := fun _ => True) hrun (Reps.none _ _) (fun _ hk => hk) trivial (Below.refl _ _) (Nat.le_refl _) (by simp) (fun v1 w1 h1 h2 _ _ => h v1 w1 h1 h2)
/-- 'b = append(b, c)', b of the call's own. -/
theorem Try.app_u8 {base : Nat} {w W : World} (hgd : o.guard = none) (s x : Operand) (ho : o.op = .call { callee := .builtin .append, args := #[s, x], argTypes := #[26, 26] })
    (v : Value) (xs : List Int) (p : Int) (hs : a.eval s = v) (hx : a.eval x = .slice (some ⟨W.heap.size, 0, none⟩) 1 1) (HO : (Kd.int .u8).R 5 W base (fun _ => True) v xs) (HB : Below base w W) (hbase : base ≤ W.heap.size) (hl : xs.length + 1 ≤ 140737488355328)
    (h : ∀ v1 w1, (Kd.int .u8).R 5 w1 base (fun _ => True) v1 (xs ++ [p]) → Below base w w1 → wpList Try.prog ops Q rest (a.put o.dst v1) w1) : wpList Try.prog ops Q (o :: rest) a (W.alloc (.cells #[.int .u8 p] 5)) :=
  Kd.R_append (Kd.int .u8) (w0 := w) base hgd s x 26 5 (.int .u8 0) 1 ho Try.underlying26 Try.info_u8 rfl (by decide) (by omega) v xs p [.int .u8 p] (fun _ => True) (fun _ => False) hs hx rfl (fun _ hk => hk.elim) (fun _ _ => trivial) HO HB hbase (by omega) (fun v1 w1 h1 h2 _ _ => h v1 w1 h1 h2)
/-- .. and what else stands: another block g. -/
theorem Try.app_u8g {base g : Nat} {ob : Obj} {w W : World} (hgd : o.guard = none) (s x : Operand) (ho : o.op = .call { callee := .builtin .append, args := #[s, x], argTypes := #[26, 26] })
    (v : Value) (xs : List Int) (p : Int) (hs : a.eval s = v) (hx : a.eval x = .slice (some ⟨W.heap.size, 0, none⟩) 1 1) (HO : (Kd.int .u8).R 5 W base (fun k => k ≠ g) v xs) (HB : Below base w W) (hblk : W.heap[g]? = some ob) (hbase : base ≤ W.heap.size) (hl : xs.length + 1 ≤ 140737488355328)
    (h : ∀ v1 w1, (Kd.int .u8).R 5 w1 base (fun k => k ≠ g) v1 (xs ++ [p]) → Below base w w1 → w1.heap[g]? = some ob → wpList Try.prog ops Q rest (a.put o.dst v1) w1) : wpList Try.prog ops Q (o :: rest) a (W.alloc (.cells #[.int .u8 p] 5)) :=
  Kd.R_append (Kd.int .u8) (w0 := w) base hgd s x 26 5 (.int .u8 0) 1 ho Try.underlying26 Try.info_u8 rfl (by decide) (by omega) v xs p [.int .u8 p] (fun k => k ≠ g) (fun _ => False) hs hx rfl (fun _ hk => hk.elim) (fun k hk => by have := blk_lt hblk; omega) HO HB hbase (by omega)
    (fun v1 w1 h1 h2 h3 _ => h v1 w1 h1 h2 (blk_grown hblk h3 (fun e => HO.1 g e.symm rfl)))
/-- 'make([]byte, n)' -/
theorem Try.make_u8 {w W : World} (hgd : o.guard = none) {N : Tmp} (hd : o.dst = some N) (x y : Operand) (ho : o.op = .makeSlice 26 x y) (n : Int) (hx : a.eval x = .int .i64 n) (hy : a.eval y = .int .i64 n) (base : Nat) (m : Nat) (hm : n = m)
    (hl : m ≤ 281474976710656) (HB : Below base w W) (hbase : base ≤ W.heap.size)
    (h : ∀ A1 c1 w1, (Kd.int .u8).R 5 w1 base (fun _ => True) (.slice A1 m c1) (List.replicate m 0) → Below base w w1 → wpList Try.prog ops Q rest (a.put o.dst (.slice A1 m c1)) w1) : wpList Try.prog ops Q (o :: rest) a W := by
  subst hm
  refine Kd.R_make (Kd.int .u8) base 5 hgd hd 26 x y ho (m : Int) hx hy Try.underlying26 (.int .u8 0) 1 Try.info_u8 rfl (by decide) (by omega) 0 (ok := fun _ => True) (okp := fun _ => True) rfl (fun _ hk => hk) trivial (by omega) (by omega) HB hbase ?_
  intro v1 w1 h1 h2 _ _
  rw [Int.toNat_natCast] at h1
  obtain ⟨A1, c1, rfl⟩ := Kd.R_slice h1
  rw [List.length_replicate] at h1 ⊢
  exact h A1 c1 w1 h1 h2
/-- '[]string{}' -/
theorem Try.none_str {w : World} (hgd : o.guard = none) {N : Tmp} (hd : o.dst = some N) (hrun : (execOp a.eval o).run Try.prog w = .ok (.value (.slice (some ⟨w.heap.size, 0, none⟩) 0 0)) (w.alloc (.cells #[] 9)))
    (h : ∀ v1 w1, Kd.string.R 9 w1 w.heap.size (fun _ => True) v1 [] → Below w.heap.size w w1 → wpList Try.prog ops Q rest (a.put o.dst v1) w1) : wpList Try.prog ops Q (o :: rest) a w :=
  Kd.R_lit Kd.string _ 9 hgd hd (xs := ([] : List ByteArray)) (inner := []) (ok := fun _ => True) (okp := fun _ => True) hrun (Reps.none _ _) (fun _ hk => hk) trivial (Below.refl _ _) (Nat.le_refl _) (by simp) (fun v1 w1 h1 h2 _ _ => h v1 w1 h1 h2)
/-- 'l = append(l, m...)', l of the call's own, m read; texts. -/
theorem Try.app_strs {base : Nat} {w W : World} (hgd : o.guard = none) (s x : Operand) (ho : o.op = .call { callee := .builtin .append, args := #[s, x], argTypes := #[22, 22] })
    (v : Value) (xs ys : List ByteArray) (A : Option Addr) (m c : Nat) (hs : a.eval s = v) (hx : a.eval x = .slice A m c) (HO : Kd.string.R 9 W base (fun _ => True) v xs) (HR : Kd.string.C W A m ys) (HB : Below base w W) (hbase : base ≤ W.heap.size) (hl : (xs.length + m) * 16 ≤ 140737488355328)
    (h : ∀ A1 c1 w1, Kd.string.R 9 w1 base (fun _ => True) (.slice A1 (xs ++ ys).length c1) (xs ++ ys) → Below base w w1 → wpList Try.prog ops Q rest (a.put o.dst (.slice A1 (xs ++ ys).length c1)) w1) : wpList Try.prog ops Q (o :: rest) a W := by
  refine Kd.R_append_row Value.string ByteArray.empty (h1 := fun _ => rfl) (w0 := w) base hgd s x 22 9 (.string ⟨#[]⟩) 16 ho Try.underlying22 Try.info_str rfl (by decide) v xs ys A m c (fun _ => True) hs hx (fun _ _ => trivial) HO HR HB hbase hl ?_
  intro v1 w1 h1 h2 _ _
  obtain ⟨A1, c1, rfl⟩ := Kd.R_slice h1
  exact h A1 c1 w1 h1 h2
/-- 'l = append(l, s)', l of the call's own; texts. -/
theorem Try.app_str {base : Nat} {w W : World} (hgd : o.guard = none) (s x : Operand) (ho : o.op = .call { callee := .builtin .append, args := #[s, x], argTypes := #[22, 22] })
    (v : Value) (xs : List ByteArray) (p : ByteArray) (hs : a.eval s = v) (hx : a.eval x = .slice (some ⟨W.heap.size, 0, none⟩) 1 1) (HO : Kd.string.R 9 W base (fun _ => True) v xs) (HB : Below base w W) (hbase : base ≤ W.heap.size) (hl : (xs.length + 1) * 16 ≤ 140737488355328)
    (h : ∀ v1 w1, Kd.string.R 9 w1 base (fun _ => True) v1 (xs ++ [p]) → Below base w w1 → wpList Try.prog ops Q rest (a.put o.dst v1) w1) : wpList Try.prog ops Q (o :: rest) a (W.alloc (.cells #[.string p] 9)) :=
  Kd.R_append Kd.string (w0 := w) base hgd s x 22 9 (.string ⟨#[]⟩) 16 ho Try.underlying22 Try.info_str rfl (by decide) (by omega) v xs p [.string p] (fun _ => True) (fun _ => False) hs hx rfl (fun _ hk => hk.elim) (fun _ _ => trivial) HO HB hbase hl (fun v1 w1 h1 h2 _ _ => h v1 w1 h1 h2)
end
end Go.Proofs.Ytdcokepmblcdmaa
