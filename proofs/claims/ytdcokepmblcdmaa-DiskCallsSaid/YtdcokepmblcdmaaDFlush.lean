/- disk.Flush, disk.Crash. -/
import Derived.Test.YtdcokepmblcdmaaBase
import Derived.Test.YtdcokepmblcdmaaShelf
import Derived.Test.YtdcokepmblcdmaaOct
import Derived.Test.YtdcokepmblcdmaaV
import Derived.Test.YtdcokepmblcdmaaKDisk
import Derived.Test.YtdcokepmblcdmaaAny
import Derived.Test.YtdcokepmblcdmaaCDWell
import Derived.Test.YtdcokepmblcdmaaCDRight
import Derived.Test.YtdcokepmblcdmaaDSave
import Derived.Test.YtdcokepmblcdmaaCDEnds
import Derived.Below
import Derived.Deep.Draws
import Derived.OwnWalk
import Derived.Laws.BytesArg
import Derived.Laws.MakeOwn
import Derived.Laws.OwnMore
import Derived.Deep.OwnRows
import Derived.Tactics
import Derived.Lib.ConvBytes
import Derived.Laws.Slices
import Derived.WalkKit
import Derived.KernelRfl
import Derived.RowKit3
import Derived.Deep.LoopGhost
import Derived.Deep.QuietTactic
import Derived.BigQuiet
import Derived.WideLaws
import Derived.Deep.DeepCutAuto
import Derived.Deep.CutBlock
import Derived.Deep.RegionHeld3
import Derived.Laws.Rows
import Derived.Lib.AppendStr
import Derived.ArgAppend
import Derived.Laws.BitsLemmas
import Derived.RowKit
namespace Go.Proofs.Ytdcokepmblcdmaa
open Go.RowKit Go.Proofs.YtdcokepmblcdmaaW.PrintWords Go.Proofs.YtdcokepmblcdmaaW.PrintLast Go.Proofs.YtdcokepmblcdmaaW.PrintMore
attribute [local go_sem] max2_int min2_int max_two min_two max_three min_three max_four min_four
set_option linter.unusedVariables false
set_option linter.unusedSimpArgs false
theorem rightD_open {d : SD} (h : rightD d = true) : S128 d.f0 ∧ W128 d.f0.length d.f1 ∧ 4 ≤ d.f0.length ∧ d.f0.length ≤ 64 ∧ d.f1.length ≤ 200 := by
  simp only [rightD, Bool.and_eq_true, decide_eq_true_eq, Bool.not_eq_true', List.any_eq_false, wellW] at h
  obtain ⟨h1, h2, h3, h4, h5⟩ := h
  refine ⟨fun j hj => ?_, fun j hj => ?_, h1, h2, h3⟩
  · have := h4 _ (List.getElem_mem hj)
    simp [badS] at this
    omega
  · rw [List.getD_eq_getElem?_getD, List.getElem?_eq_getElem hj, Option.getD_some]
    have := h5 _ (List.getElem_mem hj)
    simp [badW] at this
    omega
def flushD (d : SD) : SD × Int := if rightD d = true then (⟨endsTo (fun _ => 1) d.f0 d.f1 d.f1.length, []⟩, 0) else (noD, 1)
def crashD (d : SD) (l : List Int) : SD × Int := if rightD d = true then (⟨endsTo (fun i => l.getD i 0) d.f0 d.f1 d.f1.length, []⟩, 0) else (noD, 1)
theorem disk_Flush1 (i : Int) (w : World) : Calls Try.prog 27 (#[.int .i64 i] ++ #[]) w fun e w' => e = .returned (.int .i64 1) ∧ Below w.heap.size w w' := by
  go_enter Try.func27, Try.ntmps27
  go_wp2
  go_ret
  exact ⟨rfl, Below.refl _ _⟩
set_option maxHeartbeats 4000000 in
set_option maxRecDepth 100000 in
theorem disk_Flush (S : Nat → Prop) (v : Value) (d : SD) (w : World) (hS : ∀ k, S k → k < w.heap.size) (hd : St S w (fun w => VDisk w v d)) :
    Calls Try.prog 15 #[v] w fun e w' => (∃ r, e = .returned (.tuple #[r, .int .i64 (flushD d).2]) ∧ St S w' (fun w => VDisk w r (flushD d).1)) ∧ Below w.heap.size w w' := by
  obtain ⟨A0, c0, A1, c1, rfl, l0, m0, h0, l1, m1, h1⟩ := VDisk.open hd
  obtain ⟨S1, hP⟩ := priv w hS 2
  have hz : True := trivial
  have hc : True := trivial
  have hf : True := trivial
  replace h0 := h0.wide hP.down
  replace h1 := h1.wide hP.down
  clear hd
  go_enter Try.func15, Try.ntmps15
  go_wp2_with fail
  refine (disk_Right A0 c0 A1 c1 d _ (h0.at_ (by repeat (first | exact Keep.refl _ _ | (with_reducible assumption) | refine Keep.alloc ?_ _ | refine Keep.drewN ?_ _ | refine Keep.drew ?_ | refine Keep.set ?_ (by first | exact .inl rfl | exact .inr (by dsimp only; omega) | exact .inl (hP.own _ (by dsimp only; omega) (by dsimp only; omega)) | exact .inl (by assumption)) _ | refine Keep.step ?_ (by assumption)))) l0 (h1.at_ (by repeat (first | exact Keep.refl _ _ | (with_reducible assumption) | refine Keep.alloc ?_ _ | refine Keep.drewN ?_ _ | refine Keep.drew ?_ | refine Keep.set ?_ (by first | exact .inl rfl | exact .inr (by dsimp only; omega) | exact .inl (hP.own _ (by dsimp only; omega) (by dsimp only; omega)) | exact .inl (by assumption)) _ | refine Keep.step ?_ (by assumption)))) l1).mono ?_
  rintro e w1 ⟨rfl, b1⟩
  have hc' := fun (b o : Nat) (h : b < w.heap.size + 2) => b1.cell (p := ⟨b, o, none⟩) (show b < _ by first | omega | (simp <;> omega))
  first
    | (replace hc := fun (b o : Nat) (h : b < w.heap.size + 2) => (hc' b o h).trans (hc b o h))
    | (replace hc := fun (b o : Nat) (h : b < w.heap.size + 2) => (hc' b o h).trans ((cell_al (show b < _ by omega)).trans (hc b o h)))
    | (replace hc := fun (b o : Nat) (h : b < w.heap.size + 2) => (hc' b o h).trans ((cell_al (show b < _ by simp <;> omega)).trans ((cell_al (show b < _ by omega)).trans (hc b o h))))
    | (replace hc := fun (b o : Nat) (h : b < w.heap.size + 2) => (hc' b o h).trans ((cell_al (show b < _ by simp <;> omega)).trans ((cell_al (show b < _ by simp <;> omega)).trans ((cell_al (show b < _ by omega)).trans (hc b o h)))))
    | (have hc := hc')
  clear hc'
  have hf' := fun (b o : Nat) (h : b < w.heap.size + 2) => b1.frozen (p := ⟨b, o, none⟩) (show b < _ by first | omega | (simp <;> omega))
  first
    | (replace hf := fun (b o : Nat) (h : b < w.heap.size + 2) => (hf' b o h).trans (hf b o h))
    | (replace hf := fun (b o : Nat) (h : b < w.heap.size + 2) => (hf' b o h).trans ((frozen_al (show b < _ by omega)).trans (hf b o h)))
    | (replace hf := fun (b o : Nat) (h : b < w.heap.size + 2) => (hf' b o h).trans ((frozen_al (show b < _ by simp <;> omega)).trans ((frozen_al (show b < _ by omega)).trans (hf b o h))))
    | (replace hf := fun (b o : Nat) (h : b < w.heap.size + 2) => (hf' b o h).trans ((frozen_al (show b < _ by simp <;> omega)).trans ((frozen_al (show b < _ by simp <;> omega)).trans ((frozen_al (show b < _ by omega)).trans (hf b o h)))))
    | (have hf := hf')
  clear hf'
  have hz' := b1.size
  try simp only [World.size_alloc, World.size_setCell, World.size_drew, size_drewN] at hz'
  replace hz : w.heap.size + 2 ≤ w1.heap.size := by omega
  have hz1 := hz
  clear hz'
  by_cases hR : rightD d = true
  · obtain ⟨r1, r2, r3, r4, r5⟩ := rightD_open hR
    have hs := hid (show flushD d = (⟨endsTo (fun _ => 1) d.f0 d.f1 d.f1.length, []⟩, 0) by unfold flushD; rw [if_pos hR])
    rw [hR]
    clear hR
    go_wp2_with fail
    refine (disk_ends A0 c0 A1 c1 d.f0 d.f1 27 #[] (fun _ => 1) _ (h0.at_ (by repeat (first | exact Keep.refl _ _ | (with_reducible assumption) | refine Keep.alloc ?_ _ | refine Keep.drewN ?_ _ | refine Keep.drew ?_ | refine Keep.set ?_ (by first | exact .inl rfl | exact .inr (by dsimp only; omega) | exact .inl (hP.own _ (by dsimp only; omega) (by dsimp only; omega)) | exact .inl (by assumption)) _ | refine Keep.step ?_ (by assumption)))) l0 (h1.at_ (by repeat (first | exact Keep.refl _ _ | (with_reducible assumption) | refine Keep.alloc ?_ _ | refine Keep.drewN ?_ _ | refine Keep.drew ?_ | refine Keep.set ?_ (by first | exact .inl rfl | exact .inr (by dsimp only; omega) | exact .inl (hP.own _ (by dsimp only; omega) (by dsimp only; omega)) | exact .inl (by assumption)) _ | refine Keep.step ?_ (by assumption)))) l1 r1 r2 (by omega) r4 (fun _ _ => rfl) (fun i w1 _ _ => disk_Flush1 i w1)).mono ?_
    rintro e w2 ⟨⟨g, cap, rfl, hg, hcap, hC⟩, b2⟩
    have hc' := fun (b o : Nat) (h : b < w.heap.size + 2) => b2.cell (p := ⟨b, o, none⟩) (show b < _ by first | omega | (simp <;> omega))
    first
      | (replace hc := fun (b o : Nat) (h : b < w.heap.size + 2) => (hc' b o h).trans (hc b o h))
      | (replace hc := fun (b o : Nat) (h : b < w.heap.size + 2) => (hc' b o h).trans ((cell_al (show b < _ by omega)).trans (hc b o h)))
      | (replace hc := fun (b o : Nat) (h : b < w.heap.size + 2) => (hc' b o h).trans ((cell_al (show b < _ by simp <;> omega)).trans ((cell_al (show b < _ by omega)).trans (hc b o h))))
      | (replace hc := fun (b o : Nat) (h : b < w.heap.size + 2) => (hc' b o h).trans ((cell_al (show b < _ by simp <;> omega)).trans ((cell_al (show b < _ by simp <;> omega)).trans ((cell_al (show b < _ by omega)).trans (hc b o h)))))
      | (have hc := hc')
    clear hc'
    have hf' := fun (b o : Nat) (h : b < w.heap.size + 2) => b2.frozen (p := ⟨b, o, none⟩) (show b < _ by first | omega | (simp <;> omega))
    first
      | (replace hf := fun (b o : Nat) (h : b < w.heap.size + 2) => (hf' b o h).trans (hf b o h))
      | (replace hf := fun (b o : Nat) (h : b < w.heap.size + 2) => (hf' b o h).trans ((frozen_al (show b < _ by omega)).trans (hf b o h)))
      | (replace hf := fun (b o : Nat) (h : b < w.heap.size + 2) => (hf' b o h).trans ((frozen_al (show b < _ by simp <;> omega)).trans ((frozen_al (show b < _ by omega)).trans (hf b o h))))
      | (replace hf := fun (b o : Nat) (h : b < w.heap.size + 2) => (hf' b o h).trans ((frozen_al (show b < _ by simp <;> omega)).trans ((frozen_al (show b < _ by simp <;> omega)).trans ((frozen_al (show b < _ by omega)).trans (hf b o h)))))
      | (have hf := hf')
    clear hf'
    have hz' := b2.size
    try simp only [World.size_alloc, World.size_setCell, World.size_drew, size_drewN] at hz'
    replace hz : w.heap.size + 2 ≤ w2.heap.size := by omega
    have hz2 := hz
    clear hz'
    have hC2 : St S1 w2 (fun w => Kd.string.C w (some ⟨g, 0, none⟩) _ (endsTo (fun _ => 1) d.f0 d.f1 d.f1.length)) := St.ofC (fun _ _ _ _ h => h) hC (fun ad he _ hs => by cases he; have := hP.lt _ hs; have := hz1; dsimp only at *; omega)
    go_wp2
    exact bodyPost_ret (v := .tuple #[.agg #[.slice (some ⟨g, 0, none⟩) d.f0.length cap, .slice none 0 0], .int .i64 0]) (by simp [results, Try.results15, go_sem, *]) rfl ⟨⟨_, by rw [hs.out], by rw [hs.out]; exact VDisk.mkn (x := ⟨endsTo (fun _ => 1) d.f0 d.f1 d.f1.length, []⟩) (endsTo_len _ _ _ _).symm hcap ((hC2.keep (by repeat (first | exact Keep.refl _ _ | (with_reducible assumption) | refine Keep.alloc ?_ _ | refine Keep.drewN ?_ _ | refine Keep.drew ?_ | refine Keep.set ?_ (by first | exact .inl rfl | exact .inr (by dsimp only; omega) | exact .inl (hP.own _ (by dsimp only; omega) (by dsimp only; omega)) | exact .inl (by assumption)) _ | refine Keep.step ?_ (by assumption)))).sub hP.up) rfl (Nat.le_refl _) (fun w _ => Kd.C_nil _ w)⟩, (by repeat (first | exact Below.refl _ _ | (with_reducible assumption) | refine below_alloc ?_ _ | refine pw_below_drewN ?_ _ | refine below_drew ?_ | refine Below.setCell ?_ (by dsimp only; omega) _ | refine below_step ?_ (by assumption)))⟩
  · have hs := hid (show flushD d = (noD, 1) by unfold flushD; rw [if_neg hR])
    rw [Bool.eq_false_iff.mpr hR]
    clear hR
    go_wp2
    exact bodyPost_ret (v := .tuple #[.agg #[.slice none 0 0, .slice none 0 0], .int .i64 1]) (by simp [results, Try.results15, go_sem, *]) rfl ⟨⟨_, by rw [hs.out], by rw [hs.out]; exact VDisk.zero _ _⟩, (by repeat (first | exact Below.refl _ _ | (with_reducible assumption) | refine below_alloc ?_ _ | refine pw_below_drewN ?_ _ | refine below_drew ?_ | refine Below.setCell ?_ (by dsimp only; omega) _ | refine below_step ?_ (by assumption)))⟩
set_option maxHeartbeats 1000000 in
theorem disk_Crash1 (i : Nat) (l : List Int) (A : Option Addr) (c : Nat) (p : Addr) (w : World) (hi : i ≤ 1099511627776) (hp : w.cell? p = some (.slice A l.length c)) (hA : (Kd.int .i64).C w A l.length l) (hc : l.length ≤ c) :
    Calls Try.prog 25 (#[.int .i64 i] ++ #[.pointer (some p)]) w fun e w' => e = .returned (.int .i64 (l.getD i 0)) ∧ Below w.heap.size w w' := by
  have m := Kd.C_max hA
  by_cases hlt : i < l.length
  · obtain ⟨ad, rfl, hcell⟩ := Kd.at_int hA (i : Int) (by omega) (by omega)
    rw [Int.toNat_natCast, rd, Int.toNat_natCast] at hcell
    generalize l.getD i 0 = x at *
    go_enter Try.func25, Try.ntmps25
    go_wp2
    go_ret
    exact ⟨rfl, Below.refl _ _⟩
  · have hx : l.getD i 0 = 0 := by rw [List.getD_eq_getElem?_getD, List.getElem?_eq_none (by omega)]; rfl
    rw [hx]
    clear hx
    go_enter Try.func25, Try.ntmps25
    go_wp2
    go_ret
    exact ⟨rfl, Below.refl _ _⟩
set_option maxHeartbeats 4000000 in
set_option maxRecDepth 100000 in
theorem disk_Crash (S : Nat → Prop) (v : Value) (d : SD) (A : Option Addr) (c : Nat) (l : List Int) (w : World) (hS : ∀ k, S k → k < w.heap.size) (hd : St S w (fun w => VDisk w v d)) (hA : (Kd.int .i64).C w A l.length l) (hcl : l.length ≤ c) :
    Calls Try.prog 13 #[v, .slice A l.length c] w fun e w' => (∃ r, e = .returned (.tuple #[r, .int .i64 (crashD d l).2]) ∧ St S w' (fun w => VDisk w r (crashD d l).1)) ∧ Below w.heap.size w w' := by
  obtain ⟨A0, c0, A1, c1, rfl, l0, m0, h0, l1, m1, h1⟩ := VDisk.open hd
  obtain ⟨S1, hP⟩ := priv w hS 3
  have hz : True := trivial
  have hc : True := trivial
  have hf : True := trivial
  replace h0 := h0.wide hP.down
  replace h1 := h1.wide hP.down
  clear hd
  go_enter Try.func13, Try.ntmps13
  go_wp2_with fail
  refine (disk_Right A0 c0 A1 c1 d _ (h0.at_ (by repeat (first | exact Keep.refl _ _ | (with_reducible assumption) | refine Keep.alloc ?_ _ | refine Keep.drewN ?_ _ | refine Keep.drew ?_ | refine Keep.set ?_ (by first | exact .inl rfl | exact .inr (by dsimp only; omega) | exact .inl (hP.own _ (by dsimp only; omega) (by dsimp only; omega)) | exact .inl (by assumption)) _ | refine Keep.step ?_ (by assumption)))) l0 (h1.at_ (by repeat (first | exact Keep.refl _ _ | (with_reducible assumption) | refine Keep.alloc ?_ _ | refine Keep.drewN ?_ _ | refine Keep.drew ?_ | refine Keep.set ?_ (by first | exact .inl rfl | exact .inr (by dsimp only; omega) | exact .inl (hP.own _ (by dsimp only; omega) (by dsimp only; omega)) | exact .inl (by assumption)) _ | refine Keep.step ?_ (by assumption)))) l1).mono ?_
  rintro e w1 ⟨rfl, b1⟩
  have hc' := fun (b o : Nat) (h : b < w.heap.size + 3) => b1.cell (p := ⟨b, o, none⟩) (show b < _ by first | omega | (simp <;> omega))
  first
    | (replace hc := fun (b o : Nat) (h : b < w.heap.size + 3) => (hc' b o h).trans (hc b o h))
    | (replace hc := fun (b o : Nat) (h : b < w.heap.size + 3) => (hc' b o h).trans ((cell_al (show b < _ by omega)).trans (hc b o h)))
    | (replace hc := fun (b o : Nat) (h : b < w.heap.size + 3) => (hc' b o h).trans ((cell_al (show b < _ by simp <;> omega)).trans ((cell_al (show b < _ by omega)).trans (hc b o h))))
    | (replace hc := fun (b o : Nat) (h : b < w.heap.size + 3) => (hc' b o h).trans ((cell_al (show b < _ by simp <;> omega)).trans ((cell_al (show b < _ by simp <;> omega)).trans ((cell_al (show b < _ by omega)).trans (hc b o h)))))
    | (have hc := hc')
  clear hc'
  have hf' := fun (b o : Nat) (h : b < w.heap.size + 3) => b1.frozen (p := ⟨b, o, none⟩) (show b < _ by first | omega | (simp <;> omega))
  first
    | (replace hf := fun (b o : Nat) (h : b < w.heap.size + 3) => (hf' b o h).trans (hf b o h))
    | (replace hf := fun (b o : Nat) (h : b < w.heap.size + 3) => (hf' b o h).trans ((frozen_al (show b < _ by omega)).trans (hf b o h)))
    | (replace hf := fun (b o : Nat) (h : b < w.heap.size + 3) => (hf' b o h).trans ((frozen_al (show b < _ by simp <;> omega)).trans ((frozen_al (show b < _ by omega)).trans (hf b o h))))
    | (replace hf := fun (b o : Nat) (h : b < w.heap.size + 3) => (hf' b o h).trans ((frozen_al (show b < _ by simp <;> omega)).trans ((frozen_al (show b < _ by simp <;> omega)).trans ((frozen_al (show b < _ by omega)).trans (hf b o h)))))
    | (have hf := hf')
  clear hf'
  have hz' := b1.size
  try simp only [World.size_alloc, World.size_setCell, World.size_drew, size_drewN] at hz'
  replace hz : w.heap.size + 3 ≤ w1.heap.size := by omega
  have hz1 := hz
  clear hz'
  by_cases hR : rightD d = true
  · obtain ⟨r1, r2, r3, r4, r5⟩ := rightD_open hR
    have hs := hid (show crashD d l = (⟨endsTo (fun i => l.getD i 0) d.f0 d.f1 d.f1.length, []⟩, 0) by unfold crashD; rw [if_pos hR])
    rw [hR]
    clear hR
    have q0 : w1.cell? ⟨w.heap.size + 1, 0, none⟩ = some (.slice A l.length c) := by rw [hc _ _ (by omega)]; simp [go_sem]
    go_wp2_with fail
    refine (disk_ends A0 c0 A1 c1 d.f0 d.f1 25 #[.pointer (some ⟨w.heap.size + 1, 0, none⟩)] (fun i => l.getD i 0) _ (h0.at_ (by repeat (first | exact Keep.refl _ _ | (with_reducible assumption) | refine Keep.alloc ?_ _ | refine Keep.drewN ?_ _ | refine Keep.drew ?_ | refine Keep.set ?_ (by first | exact .inl rfl | exact .inr (by dsimp only; omega) | exact .inl (hP.own _ (by dsimp only; omega) (by dsimp only; omega)) | exact .inl (by assumption)) _ | refine Keep.step ?_ (by assumption)))) l0 (h1.at_ (by repeat (first | exact Keep.refl _ _ | (with_reducible assumption) | refine Keep.alloc ?_ _ | refine Keep.drewN ?_ _ | refine Keep.drew ?_ | refine Keep.set ?_ (by first | exact .inl rfl | exact .inr (by dsimp only; omega) | exact .inl (hP.own _ (by dsimp only; omega) (by dsimp only; omega)) | exact .inl (by assumption)) _ | refine Keep.step ?_ (by assumption)))) l1 r1 r2 (by omega) r4 (fun _ _ => rfl) (fun i w2 hi hb2 => disk_Crash1 i l A c _ w2 (by omega) (pw_cell_below hb2 q0) (Kd.C_below (Kd.C_below hA (by repeat (first | exact Below.refl _ _ | (with_reducible assumption) | refine below_alloc ?_ _ | refine pw_below_drewN ?_ _ | refine below_drew ?_ | refine Below.setCell ?_ (by dsimp only; omega) _ | refine below_step ?_ (by assumption)))) hb2) hcl)).mono ?_
    rintro e w2 ⟨⟨g, cap, rfl, hg, hcap, hC⟩, b2⟩
    have hc' := fun (b o : Nat) (h : b < w.heap.size + 3) => b2.cell (p := ⟨b, o, none⟩) (show b < _ by first | omega | (simp <;> omega))
    first
      | (replace hc := fun (b o : Nat) (h : b < w.heap.size + 3) => (hc' b o h).trans (hc b o h))
      | (replace hc := fun (b o : Nat) (h : b < w.heap.size + 3) => (hc' b o h).trans ((cell_al (show b < _ by omega)).trans (hc b o h)))
      | (replace hc := fun (b o : Nat) (h : b < w.heap.size + 3) => (hc' b o h).trans ((cell_al (show b < _ by simp <;> omega)).trans ((cell_al (show b < _ by omega)).trans (hc b o h))))
      | (replace hc := fun (b o : Nat) (h : b < w.heap.size + 3) => (hc' b o h).trans ((cell_al (show b < _ by simp <;> omega)).trans ((cell_al (show b < _ by simp <;> omega)).trans ((cell_al (show b < _ by omega)).trans (hc b o h)))))
      | (have hc := hc')
    clear hc'
    have hf' := fun (b o : Nat) (h : b < w.heap.size + 3) => b2.frozen (p := ⟨b, o, none⟩) (show b < _ by first | omega | (simp <;> omega))
    first
      | (replace hf := fun (b o : Nat) (h : b < w.heap.size + 3) => (hf' b o h).trans (hf b o h))
      | (replace hf := fun (b o : Nat) (h : b < w.heap.size + 3) => (hf' b o h).trans ((frozen_al (show b < _ by omega)).trans (hf b o h)))
      | (replace hf := fun (b o : Nat) (h : b < w.heap.size + 3) => (hf' b o h).trans ((frozen_al (show b < _ by simp <;> omega)).trans ((frozen_al (show b < _ by omega)).trans (hf b o h))))
      | (replace hf := fun (b o : Nat) (h : b < w.heap.size + 3) => (hf' b o h).trans ((frozen_al (show b < _ by simp <;> omega)).trans ((frozen_al (show b < _ by simp <;> omega)).trans ((frozen_al (show b < _ by omega)).trans (hf b o h)))))
      | (have hf := hf')
    clear hf'
    have hz' := b2.size
    try simp only [World.size_alloc, World.size_setCell, World.size_drew, size_drewN] at hz'
    replace hz : w.heap.size + 3 ≤ w2.heap.size := by omega
    have hz2 := hz
    clear hz'
    have hC2 : St S1 w2 (fun w => Kd.string.C w (some ⟨g, 0, none⟩) _ (endsTo (fun i => l.getD i 0) d.f0 d.f1 d.f1.length)) := St.ofC (fun _ _ _ _ h => h) hC (fun ad he _ hs => by cases he; have := hP.lt _ hs; have := hz1; dsimp only at *; omega)
    go_wp2
    exact bodyPost_ret (v := .tuple #[.agg #[.slice (some ⟨g, 0, none⟩) d.f0.length cap, .slice none 0 0], .int .i64 0]) (by simp [results, Try.results13, go_sem, *]) rfl ⟨⟨_, by rw [hs.out], by rw [hs.out]; exact VDisk.mkn (x := ⟨endsTo (fun i => l.getD i 0) d.f0 d.f1 d.f1.length, []⟩) (endsTo_len _ _ _ _).symm hcap ((hC2.keep (by repeat (first | exact Keep.refl _ _ | (with_reducible assumption) | refine Keep.alloc ?_ _ | refine Keep.drewN ?_ _ | refine Keep.drew ?_ | refine Keep.set ?_ (by first | exact .inl rfl | exact .inr (by dsimp only; omega) | exact .inl (hP.own _ (by dsimp only; omega) (by dsimp only; omega)) | exact .inl (by assumption)) _ | refine Keep.step ?_ (by assumption)))).sub hP.up) rfl (Nat.le_refl _) (fun w _ => Kd.C_nil _ w)⟩, (by repeat (first | exact Below.refl _ _ | (with_reducible assumption) | refine below_alloc ?_ _ | refine pw_below_drewN ?_ _ | refine below_drew ?_ | refine Below.setCell ?_ (by dsimp only; omega) _ | refine below_step ?_ (by assumption)))⟩
  · have hs := hid (show crashD d l = (noD, 1) by unfold crashD; rw [if_neg hR])
    rw [Bool.eq_false_iff.mpr hR]
    clear hR
    go_wp2
    exact bodyPost_ret (v := .tuple #[.agg #[.slice none 0 0, .slice none 0 0], .int .i64 1]) (by simp [results, Try.results13, go_sem, *]) rfl ⟨⟨_, by rw [hs.out], by rw [hs.out]; exact VDisk.zero _ _⟩, (by repeat (first | exact Below.refl _ _ | (with_reducible assumption) | refine below_alloc ?_ _ | refine pw_below_drewN ?_ _ | refine below_drew ?_ | refine Below.setCell ?_ (by dsimp only; omega) _ | refine below_step ?_ (by assumption)))⟩
end Go.Proofs.Ytdcokepmblcdmaa
