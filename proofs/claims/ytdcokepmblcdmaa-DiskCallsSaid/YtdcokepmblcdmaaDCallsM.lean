/- Plain laws for DiskCalls. -/
import Derived.Test.YtdcokepmblcdmaaBase
import Derived.Test.YtdcokepmblcdmaaShelf
import Derived.Test.YtdcokepmblcdmaaOct
import Derived.Test.YtdcokepmblcdmaaV
import Derived.Test.YtdcokepmblcdmaaKDisk
import Derived.Test.YtdcokepmblcdmaaAny
import Derived.Test.YtdcokepmblcdmaaCDWell
import Derived.Test.YtdcokepmblcdmaaCDRight
import Derived.Test.YtdcokepmblcdmaaDSave
import Derived.Test.YtdcokepmblcdmaaCDEnds
import Derived.Test.YtdcokepmblcdmaaDNew
import Derived.Test.YtdcokepmblcdmaaDLike
import Derived.Test.YtdcokepmblcdmaaDFlush
import Derived.Test.YtdcokepmblcdmaaDMath
import Derived.Test.YtdcokepmblcdmaaCRef09a
import Derived.Test.YtdcokepmblcdmaaCRef09b
import Derived.Test.YtdcokepmblcdmaaCRef09c
import Derived.Test.YtdcokepmblcdmaaDLastM
import Derived.Below
import Derived.Deep.Draws
import Derived.OwnWalk
import Derived.Laws.BytesArg
import Derived.Laws.MakeOwn
import Derived.Laws.OwnMore
import Derived.Deep.OwnRows
import Derived.Tactics
import Derived.Lib.ConvBytes
import Derived.Laws.Slices
import Derived.WalkKit
import Derived.KernelRfl
import Derived.RowKit3
import Derived.Deep.LoopGhost
import Derived.Deep.QuietTactic
import Derived.BigQuiet
import Derived.WideLaws
import Derived.Deep.DeepCutAuto
import Derived.Deep.CutBlock
import Derived.Deep.RegionHeld3
import Derived.Laws.Rows
import Derived.Lib.AppendStr
import Derived.ArgAppend
import Derived.Laws.BitsLemmas
import Derived.RowKit
namespace Go.Proofs.Ytdcokepmblcdmaa
open Go.RowKit Go.Proofs.YtdcokepmblcdmaaW.PrintWords Go.Proofs.YtdcokepmblcdmaaW.PrintLast Go.Proofs.YtdcokepmblcdmaaW.PrintMore
attribute [local go_sem] max2_int min2_int max_two min_two max_three min_three max_four min_four
set_option linter.unusedVariables false
set_option linter.unusedSimpArgs false
theorem secTo_stands (d : SD) (k : Nat) (j : Nat) (hj : j ≤ d.f1.length) : secTo (fun _ => 1) d.f1 k (d.f0.getD k ByteArray.empty) j = standsTo d k j := by
  induction j with
  | zero => rfl
  | succ j ih =>
    have ih := ih (by omega)
    rw [standsTo_succ d k j (by omega), secTo, ih]
    simp
theorem secTo_left (d : SD) (k : Nat) (l : List Int) (j : Nat) (hj : j ≤ d.f1.length) : secTo (fun i => l.getD i 0) d.f1 k (d.f0.getD k ByteArray.empty) j = leftTo d k l j := by
  induction j with
  | zero => rfl
  | succ j ih =>
    have ih := ih (by omega)
    rw [secTo, leftTo, leftStep, ih]
    generalize d.f1.getD j z36 = x
    rw [List.getD_eq_getElem?_getD]
    cases l[j]? with
    | none => simp
    | some f =>
      simp only [Option.getD_some, Option.some.injEq]
      by_cases h1 : f = 1
      · subst h1; simp
      · by_cases h2 : f = 2
        · subst h2; simp
        · simp [h1, h2]
theorem flush_at {d : SD} (h : rightD d = true) {k : Nat} (hk : k < d.f0.length) : (endsTo (fun _ => 1) d.f0 d.f1 d.f1.length).getD k ByteArray.empty = standsD d k := by
  obtain ⟨_, r2, _⟩ := rightD_open h
  rw [endsTo_at _ r2 hk _ (Nat.le_refl _), secTo_stands d k _ (Nat.le_refl _), standsTo, List.take_length]
  rfl
theorem crash_at {d : SD} (h : rightD d = true) (l : List Int) {k : Nat} (hk : k < d.f0.length) : (endsTo (fun i => l.getD i 0) d.f0 d.f1 d.f1.length).getD k ByteArray.empty = leftTo d k l d.f1.length := by
  obtain ⟨_, r2, _⟩ := rightD_open h
  rw [endsTo_at _ r2 hk _ (Nat.le_refl _), secTo_left d k l _ (Nat.le_refl _)]
def loadD (d : SD) (n : Int) : ByteArray × Int := if rightD d = true ∧ 0 ≤ n ∧ n < d.f0.length then (standsD d n.toNat, 0) else (⟨#[]⟩, 1)
set_option maxHeartbeats 2000000 in
set_option maxRecDepth 100000 in
/-- disk.Load of any disk, at any place. -/
theorem disk_LoadAny (v : Value) (d : SD) (n : Int) (w : World) (hv : VDisk w v d) :
    Calls Try.prog 12 #[v, .int .i64 n] w fun e w' => e = .returned (.tuple #[.string (loadD d n).1, .int .i64 (loadD d n).2]) ∧ Below w.heap.size w w' := by
  by_cases h : rightD d = true ∧ 0 ≤ n ∧ n < d.f0.length
  · rw [loadD, if_pos h]
    exact disk_LoadI v d n w hv h.1 h.2.1 h.2.2
  · rw [loadD, if_neg h]
    obtain ⟨A0, c0, A1, c1, rfl, l0, m0, g0, l1, m1, g1⟩ := VDisk.open (St.start fun w1 => hv.below)
    replace g0 : Kd.string.C w A0 d.f0.length d.f0 := g0.now
    replace g1 := g1.now
    go_enter Try.func12, Try.ntmps12
    go_wp2_with fail
    refine (disk_Right A0 c0 A1 c1 d _ (Kd.C_alloc g0 _) l0 (Kd.C_alloc g1 _) l1).mono ?_
    rintro e w1 ⟨rfl, b1⟩
    have b1' := below_then (below_alloc (Below.refl _ w) _) (by simp) b1
    have hc0 := pw_cell_below b1 (World.cell?_alloc_new w #[.slice A0 d.f0.length c0, .slice A1 d.f1.length c1] 25 0)
    have hc1 := pw_cell_below b1 (World.cell?_alloc_new w #[.slice A0 d.f0.length c0, .slice A1 d.f1.length c1] 25 1)
    by_cases hR : rightD d = true
    · rw [hR]
      by_cases h0 : n < 0
      · go_wp2
        go_ret2
        exact ⟨rfl, b1'⟩
      · have h1 : ¬ n < d.f0.length := fun h1 => h ⟨hR, by omega, h1⟩
        clear h
        go_wp2
        go_ret2
        exact ⟨rfl, b1'⟩
    · rw [Bool.eq_false_iff.mpr hR]
      clear h
      go_wp2
      go_ret2
      exact ⟨rfl, b1'⟩
theorem R_set {α : Type} {d : Kd α} {e base : Nat} {w : World} {ok : Nat → Prop} {v : Value} {xs : List α} (h : d.R e w base ok v xs) {p : Addr} {u : Value} (hp : p.block < base) : d.R e (w.setCell p u) base ok v xs :=
  Kd.R_mono (Kd.R_step (Kd.R_bound h) (fun k hk _ => Below.heap_setCell _ _ _ _ (by have := hk.2.1; omega))) (fun _ hk => hk.1)
section
variable {ops : Array Oper} {o : Oper} {a : Act} {Q : Exit → Act → World → Prop} {Kc : Act → World → Prop}
/-- 'l = append(l, s)' as one step of a region that draws. -/
theorem Try.step_str {base : Nat} {w W : World} (hw : Region.wanted o (yielded ops a.tmps) = true) (s x : Operand) (ho : o.op = .call { callee := .builtin .append, args := #[s, x], argTypes := #[22, 22] })
    (v : Value) (xs : List ByteArray) (p : ByteArray) (hs : a.eval s = v) (hx : a.eval x = .slice (some ⟨W.heap.size, 0, none⟩) 1 1) (HO : Kd.string.R 9 W base (fun _ => True) v xs) (HB : Below base w W) (hbase : base ≤ W.heap.size) (hl : (xs.length + 1) * 16 ≤ 140737488355328)
    (h : ∀ v1 w1, Kd.string.R 9 w1 base (fun _ => True) v1 (xs ++ [p]) → Below base w w1 → Kc (a.put o.dst v1) w1) :
    if Region.wanted o (yielded ops a.tmps) = true then Oper.wp Try.prog o a (W.alloc (.cells #[.string p] 9)) Kc Q else Kc (a.put o.dst undef) (W.alloc (.cells #[.string p] 9)) :=
  Kd.R_append_step Kd.string (w0 := w) base hw s x 22 9 (.string ⟨#[]⟩) 16 ho Try.underlying22 Try.info_str rfl (by decide) (by omega) v xs p [.string p] (fun _ => True) (fun _ => False) hs hx rfl (fun _ hk => hk.elim) (fun _ _ => trivial) HO HB hbase hl (fun v1 w1 h1 h2 _ _ => h v1 w1 h1 h2)
end
theorem newD_no {n : Int} (h : n < 4 ∨ 64 < n) : newD n = (noD, 1) := by unfold newD; rw [if_neg (by omega)]
theorem newD_ok {m : Nat} (h4 : 4 ≤ m) (h64 : m ≤ 64) : newD m = (⟨List.replicate m (sect 0), []⟩, 0) := by unfold newD; rw [if_pos (by omega)]; rfl
theorem Cl.low {B : Nat} {w w1 : World} {a : Addr} {v : Value} (hb : Below B w w1) (h : Cl w a v) (hl : a.block < B) : Cl w1 a v := ⟨(hb.cell hl).trans h.cell, (hb.frozen hl).trans h.free⟩
theorem VDisk.C0 {w : World} {A : Option Addr} {n c : Nat} {u : Value} {d : SD} (h : VDisk w (.agg #[.slice A n c, u]) d) : Kd.string.C w A d.f0.length d.f0 := by
  obtain ⟨G0, j0, G1, j1, he, _, _, g2, _, _, _⟩ := VDisk.open (St.start fun w5 hb5 => h.below hb5)
  injection he with he
  have e1 := congrArg (fun q : Array Value => q[0]?) he
  simp at e1
  rw [e1.1]
  exact g2.now
theorem VDisk.C1 {w : World} {A : Option Addr} {n c : Nat} {u : Value} {d : SD} (h : VDisk w (.agg #[u, .slice A n c]) d) : kWrite.C w A d.f1.length d.f1 := by
  obtain ⟨G0, j0, G1, j1, he, _, _, _, _, _, g2⟩ := VDisk.open (St.start fun w5 hb5 => h.below hb5)
  injection he with he
  have e1 := congrArg (fun q : Array Value => q[1]?) he
  simp at e1
  rw [e1.1]
  exact g2.now
theorem ref_StandsV (v : Value) (d : SD) (k : Nat) (w : World) (hv : VDisk w v d) (hk : k < d.f0.length) :
    Calls Try.prog 18 #[v, .int .i64 k] w fun e w' => e = .returned (.string (standsD d k)) ∧ Below w.heap.size w w' := by
  obtain ⟨A0, c0, A1, c1, rfl, l0, m0, g0, l1, m1, g1⟩ := VDisk.open (St.start fun w1 => hv.below)
  exact ref_Stands A0 c0 A1 c1 d k w g0.now l0 g1.now l1 hk
theorem ref_LeftV (v : Value) (d : SD) (k : Nat) (A : Option Addr) (c : Nat) (l : List Int) (w : World) (hv : VDisk w v d) (hA : (Kd.int .i64).C w A l.length l) (hc : l.length ≤ c) (hk : k < d.f0.length) (hR : rightD d = true) :
    Calls Try.prog 19 #[v, .int .i64 k, .slice A l.length c] w fun e w' => e = .returned (.string (leftTo d k l d.f1.length)) ∧ Below w.heap.size w w' := by
  obtain ⟨A0, c0, A1, c1, rfl, l0, m0, g0, l1, m1, g1⟩ := VDisk.open (St.start fun w1 => hv.below)
  obtain ⟨r1, r2, _⟩ := rightD_open hR
  exact ref_Left A0 c0 A1 c1 d k A c l w g0.now l0 g1.now l1 hA hc hk r1 r2
theorem VDisk.le0 {w : World} {A : Option Addr} {n c : Nat} {u : Value} {d : SD} (h : VDisk w (.agg #[.slice A n c, u]) d) : n = d.f0.length ∧ d.f0.length ≤ c := by
  obtain ⟨G0, j0, G1, j1, he, hl, _, g2, _, _, _⟩ := VDisk.open (St.start fun w5 hb5 => h.below hb5)
  injection he with he
  have e1 := congrArg (fun q : Array Value => q[0]?) he
  simp at e1
  exact ⟨e1.2.1, by rw [e1.2.2]; exact hl⟩
section
variable {ops : Array Oper} {rest : List Oper} {o : Oper} {a : Act} {Q : Exit → Act → World → Prop}
/-- '[]api.Write{}' -/
theorem Try.none_wr {w : World} (hgd : o.guard = none) {N : Tmp} (hd : o.dst = some N) (hrun : (execOp a.eval o).run Try.prog w = .ok (.value (.slice (some ⟨w.heap.size, 0, none⟩) 0 0)) (w.alloc (.cells #[] 36)))
    (h : ∀ v1 w1, kWrite.R 36 w1 w.heap.size (fun _ => True) v1 [] → Below w.heap.size w w1 → wpList Try.prog ops Q rest (a.put o.dst v1) w1) : wpList Try.prog ops Q (o :: rest) a w :=
  Kd.R_lit kWrite _ 36 hgd hd (xs := ([] : List SWrite)) (inner := []) (ok := fun _ => True) (okp := fun _ => True) hrun (Reps.none _ _) (fun _ hk => hk) trivial (Below.refl _ _) (Nat.le_refl _) (by simp) (fun v1 w1 h1 h2 _ _ => h v1 w1 h1 h2)
/-- 'l = append(l, m...)', l of the call's own, m read; writes. -/
theorem Try.app_wrs {base : Nat} {w W : World} (hgd : o.guard = none) (s x : Operand) (ho : o.op = .call { callee := .builtin .append, args := #[s, x], argTypes := #[23, 23] })
    (v : Value) (xs ys : List SWrite) (A : Option Addr) (m c : Nat) (hs : a.eval s = v) (hx : a.eval x = .slice A m c) (HO : kWrite.R 36 W base (fun _ => True) v xs) (HR : kWrite.C W A m ys) (HB : Below base w W) (hbase : base ≤ W.heap.size) (hl : (xs.length + m) * 24 ≤ 140737488355328)
    (h : ∀ A1 c1 w1, kWrite.R 36 w1 base (fun _ => True) (.slice A1 (xs ++ ys).length c1) (xs ++ ys) → Below base w w1 → wpList Try.prog ops Q rest (a.put o.dst (.slice A1 (xs ++ ys).length c1)) w1) : wpList Try.prog ops Q (o :: rest) a W := by
  refine Kd.R_append_rows kWrite (Rr := kWrite.K W) (w0 := w) base hgd s x 23 36 (.agg #[.int .i64 0, .string ⟨#[]⟩]) 24 ho Try.underlying23 Try.info_write rfl (by decide) (by decide) v xs ys A m c (fun _ => True) (fun _ => False) hs hx HO HR (fun x cs hk => by rw [k36_open hk]; exact k36_mkM _ _ _ x) (fun _ hk => hk.elim) (fun _ _ => trivial) HB hbase hl ?_
  intro v1 w1 h1 h2 _ _
  obtain ⟨A1, c1, rfl⟩ := Kd.R_slice h1
  exact h A1 c1 w1 h1 h2
end
end Go.Proofs.Ytdcokepmblcdmaa
