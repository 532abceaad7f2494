/- The kinds of this program's structs (made by the kit's kinds.py), and what reads as one. -/
import Derived.Test.YtdcokepmblcdmaaBase
import Derived.Test.YtdcokepmblcdmaaShelf
import Derived.Test.YtdcokepmblcdmaaV
import Derived.Test.YtdcokepmblcdmaaOpen
import Derived.Below
import Derived.Deep.Draws
import Derived.OwnWalk
import Derived.Laws.BytesArg
import Derived.Laws.MakeOwn
import Derived.Laws.OwnMore
import Derived.Deep.OwnRows
import Derived.Tactics
import Derived.Lib.ConvBytes
import Derived.Laws.Slices
import Derived.WalkKit
import Derived.KernelRfl
import Derived.RowKit3
import Derived.Deep.LoopGhost
import Derived.Deep.QuietTactic
import Derived.BigQuiet
import Derived.WideLaws
import Derived.Deep.DeepCutAuto
import Derived.Deep.CutBlock
import Derived.Deep.RegionHeld3
import Derived.Laws.Rows
import Derived.Lib.AppendStr
import Derived.ArgAppend
import Derived.Laws.BitsLemmas
import Derived.RowKit
namespace Go.Proofs.Ytdcokepmblcdmaa
open Go.RowKit Go.Proofs.YtdcokepmblcdmaaW.PrintWords Go.Proofs.YtdcokepmblcdmaaW.PrintLast Go.Proofs.YtdcokepmblcdmaaW.PrintMore
attribute [local go_sem] max2_int min2_int max_two min_two max_three min_three max_four min_four
set_option linter.unusedVariables false
set_option linter.unusedSimpArgs false
open Kd
/-! #### struct type 36 -/
structure S36 where
  f0 : Int
  f1 : ByteArray
def z36 : S36 := ⟨(0 : Int), (⟨#[]⟩ : ByteArray)⟩
def k36 : Kd S36 := Kd.iso (Kd.pair (Kd.int .i64) Kd.string) (fun x : S36 => (x.f0, x.f1))
theorem k36_open {w : World} {x : S36} {cs : List Value} (h : k36.K w x cs) : cs = [.int .i64 x.f0, .string x.f1] := by
  obtain ⟨_, _, rfl, rfl, rfl⟩ := h
  exact rfl
theorem k36_openM {w : World} {base : Nat} {ok : Nat → Prop} {x : S36} {cs : List Value} (h : k36.M w base ok x cs) : cs = [.int .i64 x.f0, .string x.f1] := by
  obtain ⟨_, _, rfl, rfl, rfl⟩ := h
  exact rfl
theorem k36_mk (w : World) (x : S36)  : k36.K w x [.int .i64 x.f0, .string x.f1] := ⟨[.int .i64 x.f0], [.string x.f1], rfl, rfl, rfl⟩
theorem k36_mkM (w : World) (base : Nat) (ok : Nat → Prop) (x : S36)  : k36.M w base ok x [.int .i64 x.f0, .string x.f1] := ⟨[.int .i64 x.f0], [.string x.f1], rfl, rfl, rfl⟩
def rd_T36 (xs : List S36) (i : Int) : S36 := xs.getD i.toNat z36
theorem at_T36 {w : World} {A : Option Addr} {n : Nat} {xs : List S36} (h : Kd.C k36 w A n xs) (i : Int) (h0 : 0 ≤ i) (h1 : i < n) : ∃ ad , A = some ad ∧ w.cell? (ad.add (i.toNat * 2)) = some (.int .i64 (rd_T36 xs i).f0) ∧ w.cell? ⟨(ad.add (i.toNat * 2)).block, (ad.add (i.toNat * 2)).off + 1, none⟩ = some (.string (rd_T36 xs i).f1) := by
  obtain ⟨ad, c, e, _, hK, hc0⟩ := Kd.C_get h z36 i h0 h1
  have hc : ∀ j u, c[j]? = some u → w.cell? (ad.add (i.toNat * 2 + j)) = some u := hc0
  obtain rfl := k36_open hK
  exact ⟨ad, e, hc 0 _ rfl, by rw [← add_field _ _ 1 (by omega)]; exact hc 1 _ rfl⟩

def rd_L3 (xs : List (List ByteArray)) (i : Int) : (List ByteArray) := xs.getD i.toNat ([] : List ByteArray)
theorem at_L3 {w : World} {A : Option Addr} {n : Nat} {xs : List (List ByteArray)} (h : Kd.C (Kd.slice 9 Kd.string) w A n xs) (i : Int) (h0 : 0 ≤ i) (h1 : i < n) : ∃ ad A0 c0, A = some ad ∧ w.cell? (ad.add i.toNat) = some (.slice A0 (rd_L3 xs i).length c0) ∧ (rd_L3 xs i).length ≤ c0 ∧ Kd.string.C w A0 (rd_L3 xs i).length (rd_L3 xs i) := by
  obtain ⟨ad, c, e, _, hK, hc0⟩ := Kd.C_get h ([] : List ByteArray) i h0 h1
  have hc : ∀ j u, c[j]? = some u → w.cell? (ad.add (i.toNat * 1 + j)) = some u := hc0
  obtain ⟨A0, c0, rfl, l0, g0⟩ := hK
  exact ⟨ad, A0, c0, e, by have hq := hc 0 _ rfl; rwa [Nat.mul_one, Nat.add_zero] at hq, l0, g0⟩

def rd_L4 (xs : List (List S36)) (i : Int) : (List S36) := xs.getD i.toNat ([] : List S36)
theorem at_L4 {w : World} {A : Option Addr} {n : Nat} {xs : List (List S36)} (h : Kd.C (Kd.slice 36 k36) w A n xs) (i : Int) (h0 : 0 ≤ i) (h1 : i < n) : ∃ ad A0 c0, A = some ad ∧ w.cell? (ad.add i.toNat) = some (.slice A0 (rd_L4 xs i).length c0) ∧ (rd_L4 xs i).length ≤ c0 ∧ k36.C w A0 (rd_L4 xs i).length (rd_L4 xs i) := by
  obtain ⟨ad, c, e, _, hK, hc0⟩ := Kd.C_get h ([] : List S36) i h0 h1
  have hc : ∀ j u, c[j]? = some u → w.cell? (ad.add (i.toNat * 1 + j)) = some u := hc0
  obtain ⟨A0, c0, rfl, l0, g0⟩ := hK
  exact ⟨ad, A0, c0, e, by have hq := hc 0 _ rfl; rwa [Nat.mul_one, Nat.add_zero] at hq, l0, g0⟩

/-! #### struct type 25 -/
structure S25 where
  f0 : (List ByteArray)
  f1 : (List S36)
def z25 : S25 := ⟨([] : List ByteArray), ([] : List S36)⟩
def k25 : Kd S25 := Kd.iso (Kd.pair (Kd.slice 9 Kd.string) (Kd.slice 36 k36)) (fun x : S25 => (x.f0, x.f1))
theorem k25_open {w : World} {x : S25} {cs : List Value} (h : k25.K w x cs) : ∃ A0 c0 A1 c1, cs = [.slice A0 x.f0.length c0, .slice A1 x.f1.length c1] ∧ x.f0.length ≤ c0 ∧ Kd.string.C w A0 x.f0.length x.f0 ∧ x.f1.length ≤ c1 ∧ k36.C w A1 x.f1.length x.f1 := by
  obtain ⟨_, _, rfl, ⟨A0, c0, rfl, l0, g0⟩, ⟨A1, c1, rfl, l1, g1⟩⟩ := h
  exact ⟨A0, c0, A1, c1, rfl, l0, g0, l1, g1⟩
theorem k25_openM {w : World} {base : Nat} {ok : Nat → Prop} {x : S25} {cs : List Value} (h : k25.M w base ok x cs) : ∃ v0 v1, cs = [v0, v1] ∧ Kd.string.R 9 w base ok v0 x.f0 ∧ k36.R 36 w base ok v1 x.f1 := by
  obtain ⟨_, _, rfl, ⟨v0, rfl, g0⟩, ⟨v1, rfl, g1⟩⟩ := h
  exact ⟨v0, v1, rfl, g0, g1⟩
theorem k25_mk (w : World) (x : S25) {A0 : Option Addr} {c0 : Nat} (l0 : x.f0.length ≤ c0) (g0 : Kd.string.C w A0 x.f0.length x.f0) {A1 : Option Addr} {c1 : Nat} (l1 : x.f1.length ≤ c1) (g1 : k36.C w A1 x.f1.length x.f1) : k25.K w x [.slice A0 x.f0.length c0, .slice A1 x.f1.length c1] := ⟨[.slice A0 x.f0.length c0], [.slice A1 x.f1.length c1], rfl, ⟨A0, c0, rfl, l0, g0⟩, ⟨A1, c1, rfl, l1, g1⟩⟩
theorem k25_mkM (w : World) (base : Nat) (ok : Nat → Prop) (x : S25) {v0 : Value} (g0 : Kd.string.R 9 w base ok v0 x.f0) {v1 : Value} (g1 : k36.R 36 w base ok v1 x.f1) : k25.M w base ok x [v0, v1] := ⟨[v0], [v1], rfl, ⟨v0, rfl, g0⟩, ⟨v1, rfl, g1⟩⟩
def rd_T25 (xs : List S25) (i : Int) : S25 := xs.getD i.toNat z25
theorem at_T25 {w : World} {A : Option Addr} {n : Nat} {xs : List S25} (h : Kd.C k25 w A n xs) (i : Int) (h0 : 0 ≤ i) (h1 : i < n) : ∃ ad A0 c0 A1 c1, A = some ad ∧ w.cell? (ad.add (i.toNat * 2)) = some (.slice A0 (rd_T25 xs i).f0.length c0) ∧ w.cell? ⟨(ad.add (i.toNat * 2)).block, (ad.add (i.toNat * 2)).off + 1, none⟩ = some (.slice A1 (rd_T25 xs i).f1.length c1) ∧ (rd_T25 xs i).f0.length ≤ c0 ∧ Kd.string.C w A0 (rd_T25 xs i).f0.length (rd_T25 xs i).f0 ∧ (rd_T25 xs i).f1.length ≤ c1 ∧ k36.C w A1 (rd_T25 xs i).f1.length (rd_T25 xs i).f1 := by
  obtain ⟨ad, c, e, _, hK, hc0⟩ := Kd.C_get h z25 i h0 h1
  have hc : ∀ j u, c[j]? = some u → w.cell? (ad.add (i.toNat * 2 + j)) = some u := hc0
  obtain ⟨A0, c0, A1, c1, rfl, l0, g0, l1, g1⟩ := k25_open hK
  exact ⟨ad, A0, c0, A1, c1, e, hc 0 _ rfl, by rw [← add_field _ _ 1 (by omega)]; exact hc 1 _ rfl, l0, g0, l1, g1⟩

def rd_L6 (xs : List (List S25)) (i : Int) : (List S25) := xs.getD i.toNat ([] : List S25)
theorem at_L6 {w : World} {A : Option Addr} {n : Nat} {xs : List (List S25)} (h : Kd.C (Kd.slice 25 k25) w A n xs) (i : Int) (h0 : 0 ≤ i) (h1 : i < n) : ∃ ad A0 c0, A = some ad ∧ w.cell? (ad.add i.toNat) = some (.slice A0 (rd_L6 xs i).length c0) ∧ (rd_L6 xs i).length ≤ c0 ∧ k25.C w A0 (rd_L6 xs i).length (rd_L6 xs i) := by
  obtain ⟨ad, c, e, _, hK, hc0⟩ := Kd.C_get h ([] : List S25) i h0 h1
  have hc : ∀ j u, c[j]? = some u → w.cell? (ad.add (i.toNat * 1 + j)) = some u := hc0
  obtain ⟨A0, c0, rfl, l0, g0⟩ := hK
  exact ⟨ad, A0, c0, e, by have hq := hc 0 _ rfl; rwa [Nat.mul_one, Nat.add_zero] at hq, l0, g0⟩

/-- consignor/api.Write -/
abbrev SWrite := S36
abbrev kWrite : Kd SWrite := k36
/-- consignor/api.Disk -/
abbrev SDisk := S25
abbrev kDisk : Kd SDisk := k25
/-! #### Write -/
abbrev vWrite (x : SWrite) : Value := .agg #[.int .i64 x.f0, .string x.f1]
theorem kWrite_flat : ∀ w w1 x cs, kWrite.K w x cs → kWrite.K w1 x cs := by
  intro w w1 x cs h
  rw [k36_open h]
  exact k36_mk w1 x
def WWrite (x : SWrite) : Prop := ((Lit.int .i64 x.f0).wf = true) ∧ (x.f1.size ≤ 9223372036854775807)
theorem opens_Write : Opens Try.prog kWrite 36 WWrite :=
  opens_struct (g := fun a => ⟨a.1, a.2⟩) Try.underlying36 (by kernel_rfl) (OpF.cons rfl rfl (by kernel_rfl) (opens_int (by kernel_rfl)) (OpF.one rfl rfl (by kernel_rfl) rfl (opens_str (by kernel_rfl)))) (fun _ => rfl)
/-! #### Disk -/
def VDisk (w : World) (v : Value) (x : SDisk) : Prop := ∃ cs, v = .agg cs.toArray ∧ kDisk.K w x cs
theorem VDisk.below {w w1 : World} {v : Value} {x : SDisk} (h : VDisk w v x) (hb : Below w.heap.size w w1) : VDisk w1 v x := by
  obtain ⟨cs, e, hk⟩ := h
  exact ⟨cs, e, kDisk.K_below hb hk⟩
theorem VDisk.open {S : Nat → Prop} {w : World} {v : Value} {x : SDisk} (h : St S w (fun w => VDisk w v x)) : ∃ A0 c0 A1 c1, v = .agg #[.slice A0 x.f0.length c0, .slice A1 x.f1.length c1] ∧ x.f0.length ≤ c0 ∧ x.f0.length ≤ 9223372036854775807 ∧ St S w (fun w => Kd.string.C w A0 x.f0.length x.f0) ∧ x.f1.length ≤ c1 ∧ x.f1.length ≤ 9223372036854775807 ∧ St S w (fun w => kWrite.C w A1 x.f1.length x.f1) := by
  obtain ⟨cs, rfl, hk⟩ := h.now
  obtain ⟨A0, c0, A1, c1, rfl, l0, g0, l1, g1⟩ := k25_open hk
  have hh : ∀ w1, Keep S w w1 → kDisk.K w1 x [.slice A0 x.f0.length c0, .slice A1 x.f1.length c1] := fun w1 k => by
    obtain ⟨cs, e, hk1⟩ := h w1 k
    injection e with e
    have e1 := congrArg Array.toList e
    simp only at e1
    rw [e1]
    exact hk1
  refine ⟨A0, c0, A1, c1, rfl, l0, Kd.C_max g0, fun w1 k => ?_, l1, Kd.C_max g1, fun w1 k => ?_⟩
  · obtain ⟨A0', c0', A1', c1', e, l0', g0', l1', g1'⟩ := k25_open (hh w1 k)
    have e1 := congrArg (fun l : List Value => l[0]?) e
    simp only [List.getElem?_cons_succ, List.getElem?_cons_zero, Option.some.injEq, Value.slice.injEq] at e1
    rw [e1.1]
    exact g0'
  · obtain ⟨A0', c0', A1', c1', e, l0', g0', l1', g1'⟩ := k25_open (hh w1 k)
    have e1 := congrArg (fun l : List Value => l[1]?) e
    simp only [List.getElem?_cons_succ, List.getElem?_cons_zero, Option.some.injEq, Value.slice.injEq] at e1
    rw [e1.1]
    exact g1'
theorem VDisk.mk_ {S : Nat → Prop} {w : World} {x : SDisk} {A0 : Option Addr} {c0 : Nat} (l0 : x.f0.length ≤ c0) (g0 : St S w (fun w => Kd.string.C w A0 x.f0.length x.f0)) {A1 : Option Addr} {c1 : Nat} (l1 : x.f1.length ≤ c1) (g1 : St S w (fun w => kWrite.C w A1 x.f1.length x.f1)) : St S w (fun w => VDisk w (.agg #[.slice A0 x.f0.length c0, .slice A1 x.f1.length c1]) x) := fun w1 k => ⟨_, rfl, k25_mk w1 x l0 (g0 w1 k) l1 (g1 w1 k)⟩
theorem VDisk.mkn {S : Nat → Prop} {w : World} {x : SDisk} {n0 : Nat} {n1 : Nat} {A0 : Option Addr} {c0 : Nat} (e0 : n0 = x.f0.length) (l0 : n0 ≤ c0) (g0 : St S w (fun w => Kd.string.C w A0 x.f0.length x.f0)) {A1 : Option Addr} {c1 : Nat} (e1 : n1 = x.f1.length) (l1 : n1 ≤ c1) (g1 : St S w (fun w => kWrite.C w A1 x.f1.length x.f1)) : St S w (fun w => VDisk w (.agg #[.slice A0 n0 c0, .slice A1 n1 c1]) x) := by
  subst e0
  subst e1
  exact VDisk.mk_ l0 g0 l1 g1
theorem VDisk.zero (S : Nat → Prop) (w : World) : St S w (fun w => VDisk w (.agg #[.slice none 0 0, .slice none 0 0]) z25) := VDisk.mk_ (x := z25) (Nat.le_refl _) (fun w _ => Kd.C_nil _ w) (Nat.le_refl _) (fun w _ => Kd.C_nil _ w)
def WDisk (x : SDisk) : Prop := (∀ y ∈ x.f0, y.size ≤ 9223372036854775807) ∧ (∀ y ∈ x.f1, WWrite y)
theorem opens_Disk : Opens Try.prog kDisk 25 WDisk :=
  opens_struct (g := fun a => ⟨a.1, a.2⟩) Try.underlying25 (by kernel_rfl) (OpF.cons rfl rfl (by kernel_rfl) (opens_slice (d := Kd.string) (by kernel_rfl) (by kernel_rfl) (by decide) (opens_str (by kernel_rfl))) (OpF.one rfl rfl (by kernel_rfl) rfl (opens_slice (d := kWrite) (by kernel_rfl) (by kernel_rfl) (by decide) opens_Write))) (fun _ => rfl)
end Go.Proofs.Ytdcokepmblcdmaa
