/- disk.Save. -/
import Derived.Test.YtdcokepmblcdmaaBase
import Derived.Test.YtdcokepmblcdmaaShelf
import Derived.Test.YtdcokepmblcdmaaOct
import Derived.Test.YtdcokepmblcdmaaV
import Derived.Test.YtdcokepmblcdmaaKDisk
import Derived.Test.YtdcokepmblcdmaaAny
import Derived.Test.YtdcokepmblcdmaaCDWell
import Derived.Test.YtdcokepmblcdmaaCDRight
import Derived.Test.YtdcokepmblcdmaaCApp
import Derived.Test.YtdcokepmblcdmaaCClip
import Derived.Below
import Derived.Deep.Draws
import Derived.OwnWalk
import Derived.Laws.BytesArg
import Derived.Laws.MakeOwn
import Derived.Laws.OwnMore
import Derived.Deep.OwnRows
import Derived.Tactics
import Derived.Lib.ConvBytes
import Derived.Laws.Slices
import Derived.WalkKit
import Derived.KernelRfl
import Derived.RowKit3
import Derived.Deep.LoopGhost
import Derived.Deep.QuietTactic
import Derived.BigQuiet
import Derived.WideLaws
import Derived.Deep.DeepCutAuto
import Derived.Deep.CutBlock
import Derived.Deep.RegionHeld3
import Derived.Laws.Rows
import Derived.Lib.AppendStr
import Derived.ArgAppend
import Derived.Laws.BitsLemmas
import Derived.RowKit
namespace Go.Proofs.Ytdcokepmblcdmaa
open Go.RowKit Go.Proofs.YtdcokepmblcdmaaW.PrintWords Go.Proofs.YtdcokepmblcdmaaW.PrintLast Go.Proofs.YtdcokepmblcdmaaW.PrintMore
attribute [local go_sem] max2_int min2_int max_two min_two max_three min_three max_four min_four
set_option linter.unusedVariables false
set_option linter.unusedSimpArgs false
theorem Try.info_write : (Try.prog.info? 36).map (fun i => (i.zero, i.size, i.bytes)) = some (some (.agg #[.int .i64 0, .string ⟨#[]⟩]), 2, 24) := by kernel_rfl
def noD : SD := ⟨[], []⟩
def saveD (d : SD) (l : List SW) : SD × Int := if rightD d = true ∧ wellW d.f0.length l = true then (if d.f1.length + l.length ≤ 200 then (⟨d.f0, d.f1 ++ l⟩, 0) else (noD, 13)) else (noD, 1)
theorem rightD_few {d : SD} (h : rightD d = true) : d.f1.length ≤ 200 := by
  simp only [rightD, Bool.and_eq_true, decide_eq_true_eq] at h
  exact h.2.2.1
set_option maxHeartbeats 4000000 in
set_option maxRecDepth 100000 in
theorem disk_Save (S : Nat → Prop) (v u : Value) (d : SD) (l : List SW) (w : World) (hS : ∀ k, S k → k < w.heap.size) (hd : St S w (fun w => VDisk w v d)) (hl : St S w (fun w => SlV kWrite w u l)) (hn : l.length ≤ 1099511627776) :
    Calls Try.prog 10 #[v, u] w fun e w' => (∃ r, e = .returned (.tuple #[r, .int .i64 (saveD d l).2]) ∧ St S w' (fun w => VDisk w r (saveD d l).1)) ∧ Below w.heap.size w w' := by
  obtain ⟨A0, c0, A1, c1, rfl, l0, m0, h0, l1, m1, h1⟩ := VDisk.open hd
  obtain ⟨B, c, rfl, l2, m2, h2⟩ := SlV.open hl
  obtain ⟨S1, hP⟩ := priv w hS 2
  have hz : True := trivial
  have hc : True := trivial
  have hf : True := trivial
  replace h0 := h0.wide hP.down
  replace h1 := h1.wide hP.down
  replace h2 := h2.wide hP.down
  clear hd hl
  go_enter Try.func10, Try.ntmps10
  go_wp2_with fail
  refine (disk_Right A0 c0 A1 c1 d _ (h0.at_ (by repeat (first | exact Keep.refl _ _ | (with_reducible assumption) | refine Keep.alloc ?_ _ | refine Keep.drewN ?_ _ | refine Keep.drew ?_ | refine Keep.set ?_ (by first | exact .inl rfl | exact .inr (by dsimp only; omega) | exact .inl (hP.own _ (by dsimp only; omega) (by dsimp only; omega)) | exact .inl (by assumption)) _ | refine Keep.step ?_ (by assumption)))) l0 (h1.at_ (by repeat (first | exact Keep.refl _ _ | (with_reducible assumption) | refine Keep.alloc ?_ _ | refine Keep.drewN ?_ _ | refine Keep.drew ?_ | refine Keep.set ?_ (by first | exact .inl rfl | exact .inr (by dsimp only; omega) | exact .inl (hP.own _ (by dsimp only; omega) (by dsimp only; omega)) | exact .inl (by assumption)) _ | refine Keep.step ?_ (by assumption)))) l1).mono ?_
  rintro e w1 ⟨rfl, b1⟩
  have hc' := fun (b o : Nat) (h : b < w.heap.size + 2) => b1.cell (p := ⟨b, o, none⟩) (show b < _ by first | omega | (simp <;> omega))
  first
    | (replace hc := fun (b o : Nat) (h : b < w.heap.size + 2) => (hc' b o h).trans (hc b o h))
    | (replace hc := fun (b o : Nat) (h : b < w.heap.size + 2) => (hc' b o h).trans ((cell_al (show b < _ by omega)).trans (hc b o h)))
    | (replace hc := fun (b o : Nat) (h : b < w.heap.size + 2) => (hc' b o h).trans ((cell_al (show b < _ by simp <;> omega)).trans ((cell_al (show b < _ by omega)).trans (hc b o h))))
    | (replace hc := fun (b o : Nat) (h : b < w.heap.size + 2) => (hc' b o h).trans ((cell_al (show b < _ by simp <;> omega)).trans ((cell_al (show b < _ by simp <;> omega)).trans ((cell_al (show b < _ by omega)).trans (hc b o h)))))
    | (have hc := hc')
  clear hc'
  have hf' := fun (b o : Nat) (h : b < w.heap.size + 2) => b1.frozen (p := ⟨b, o, none⟩) (show b < _ by first | omega | (simp <;> omega))
  first
    | (replace hf := fun (b o : Nat) (h : b < w.heap.size + 2) => (hf' b o h).trans (hf b o h))
    | (replace hf := fun (b o : Nat) (h : b < w.heap.size + 2) => (hf' b o h).trans ((frozen_al (show b < _ by omega)).trans (hf b o h)))
    | (replace hf := fun (b o : Nat) (h : b < w.heap.size + 2) => (hf' b o h).trans ((frozen_al (show b < _ by simp <;> omega)).trans ((frozen_al (show b < _ by omega)).trans (hf b o h))))
    | (replace hf := fun (b o : Nat) (h : b < w.heap.size + 2) => (hf' b o h).trans ((frozen_al (show b < _ by simp <;> omega)).trans ((frozen_al (show b < _ by simp <;> omega)).trans ((frozen_al (show b < _ by omega)).trans (hf b o h)))))
    | (have hf := hf')
  clear hf'
  have hz' := b1.size
  try simp only [World.size_alloc, World.size_setCell, World.size_drew, size_drewN] at hz'
  replace hz : w.heap.size + 2 ≤ w1.heap.size := by omega
  have hz1 := hz
  clear hz'
  by_cases hR : rightD d = true
  · have hfew : d.f1.length ≤ 200 := rightD_few hR
    rw [hR]
    go_wp2_with fail
    refine (disk_well B c l d.f0.length _ (h2.at_ (by repeat (first | exact Keep.refl _ _ | (with_reducible assumption) | refine Keep.alloc ?_ _ | refine Keep.drewN ?_ _ | refine Keep.drew ?_ | refine Keep.set ?_ (by first | exact .inl rfl | exact .inr (by dsimp only; omega) | exact .inl (hP.own _ (by dsimp only; omega) (by dsimp only; omega)) | exact .inl (by assumption)) _ | refine Keep.step ?_ (by assumption)))) l2).mono ?_
    rintro e w2 ⟨rfl, b2⟩
    have hc' := fun (b o : Nat) (h : b < w.heap.size + 2) => b2.cell (p := ⟨b, o, none⟩) (show b < _ by first | omega | (simp <;> omega))
    first
      | (replace hc := fun (b o : Nat) (h : b < w.heap.size + 2) => (hc' b o h).trans (hc b o h))
      | (replace hc := fun (b o : Nat) (h : b < w.heap.size + 2) => (hc' b o h).trans ((cell_al (show b < _ by omega)).trans (hc b o h)))
      | (replace hc := fun (b o : Nat) (h : b < w.heap.size + 2) => (hc' b o h).trans ((cell_al (show b < _ by simp <;> omega)).trans ((cell_al (show b < _ by omega)).trans (hc b o h))))
      | (replace hc := fun (b o : Nat) (h : b < w.heap.size + 2) => (hc' b o h).trans ((cell_al (show b < _ by simp <;> omega)).trans ((cell_al (show b < _ by simp <;> omega)).trans ((cell_al (show b < _ by omega)).trans (hc b o h)))))
      | (have hc := hc')
    clear hc'
    have hf' := fun (b o : Nat) (h : b < w.heap.size + 2) => b2.frozen (p := ⟨b, o, none⟩) (show b < _ by first | omega | (simp <;> omega))
    first
      | (replace hf := fun (b o : Nat) (h : b < w.heap.size + 2) => (hf' b o h).trans (hf b o h))
      | (replace hf := fun (b o : Nat) (h : b < w.heap.size + 2) => (hf' b o h).trans ((frozen_al (show b < _ by omega)).trans (hf b o h)))
      | (replace hf := fun (b o : Nat) (h : b < w.heap.size + 2) => (hf' b o h).trans ((frozen_al (show b < _ by simp <;> omega)).trans ((frozen_al (show b < _ by omega)).trans (hf b o h))))
      | (replace hf := fun (b o : Nat) (h : b < w.heap.size + 2) => (hf' b o h).trans ((frozen_al (show b < _ by simp <;> omega)).trans ((frozen_al (show b < _ by simp <;> omega)).trans ((frozen_al (show b < _ by omega)).trans (hf b o h)))))
      | (have hf := hf')
    clear hf'
    have hz' := b2.size
    try simp only [World.size_alloc, World.size_setCell, World.size_drew, size_drewN] at hz'
    replace hz : w.heap.size + 2 ≤ w2.heap.size := by omega
    have hz2 := hz
    clear hz'
    by_cases hW : wellW d.f0.length l = true
    · rw [hW]
      have hwr : wrap64 ((d.f1.length : Int) + (l.length : Int)) = (d.f1.length : Int) + (l.length : Int) := by unfold wrap64; omega
      by_cases h200 : d.f1.length + l.length ≤ 200
      · have hs := hid (show saveD d l = (⟨d.f0, d.f1 ++ l⟩, 0) by unfold saveD; rw [if_pos ⟨hR, hW⟩, if_pos h200])
        clear hW hR
        go_wp2_with fail
        refine (Try.Clip_w A1 _ c1 _ l1 (by omega)).mono ?_
        rintro e w3 ⟨rfl, rfl⟩
        have k2 : Keep S1 w w2 := (by repeat (first | exact Keep.refl _ _ | (with_reducible assumption) | refine Keep.alloc ?_ _ | refine Keep.drewN ?_ _ | refine Keep.drew ?_ | refine Keep.set ?_ (by first | exact .inl rfl | exact .inr (by dsimp only; omega) | exact .inl (hP.own _ (by dsimp only; omega) (by dsimp only; omega)) | exact .inl (by assumption)) _ | refine Keep.step ?_ (by assumption)))
        have hS2 := hP.lts hz
        go_wp2_with (at_builtin; (refine C_append kWrite rfl _ _ _ _ _ 24 rfl (by kernel_rfl) Try.info_write rfl (by decide) (by decide) A1 B d.f1 l c rfl rfl (h1.at_ k2) (h2.at_ k2) (by omega) ?_; intro A2 c2 w4 l4 g4 b4 hfar; have ga := St.append kWrite_flat hS2 (h1.keep k2) b4 g4 hfar; (have hc' := fun (b o : Nat) (h : b < w.heap.size + 2) => b4.cell (p := ⟨b, o, none⟩) (show b < _ by first | omega | (simp <;> omega))); (first | (replace hc := fun (b o : Nat) (h : b < w.heap.size + 2) => (hc' b o h).trans (hc b o h)) | (replace hc := fun (b o : Nat) (h : b < w.heap.size + 2) => (hc' b o h).trans ((cell_al (show b < _ by omega)).trans (hc b o h))) | (replace hc := fun (b o : Nat) (h : b < w.heap.size + 2) => (hc' b o h).trans ((cell_al (show b < _ by simp <;> omega)).trans ((cell_al (show b < _ by omega)).trans (hc b o h)))) | (replace hc := fun (b o : Nat) (h : b < w.heap.size + 2) => (hc' b o h).trans ((cell_al (show b < _ by simp <;> omega)).trans ((cell_al (show b < _ by simp <;> omega)).trans ((cell_al (show b < _ by omega)).trans (hc b o h))))) | (have hc := hc')); (clear hc'); (have hf' := fun (b o : Nat) (h : b < w.heap.size + 2) => b4.frozen (p := ⟨b, o, none⟩) (show b < _ by first | omega | (simp <;> omega))); (first | (replace hf := fun (b o : Nat) (h : b < w.heap.size + 2) => (hf' b o h).trans (hf b o h)) | (replace hf := fun (b o : Nat) (h : b < w.heap.size + 2) => (hf' b o h).trans ((frozen_al (show b < _ by omega)).trans (hf b o h))) | (replace hf := fun (b o : Nat) (h : b < w.heap.size + 2) => (hf' b o h).trans ((frozen_al (show b < _ by simp <;> omega)).trans ((frozen_al (show b < _ by omega)).trans (hf b o h)))) | (replace hf := fun (b o : Nat) (h : b < w.heap.size + 2) => (hf' b o h).trans ((frozen_al (show b < _ by simp <;> omega)).trans ((frozen_al (show b < _ by simp <;> omega)).trans ((frozen_al (show b < _ by omega)).trans (hf b o h))))) | (have hf := hf')); (clear hf'); (have hz' := b4.size); (try simp only [World.size_alloc, World.size_setCell, World.size_drew, size_drewN] at hz'); (replace hz : w.heap.size + 2 ≤ w4.heap.size := by omega); (have hz4 := hz); (clear hz')))
        exact bodyPost_ret (v := .tuple #[.agg #[.slice A0 d.f0.length c0, .slice A2 (d.f1 ++ l).length c2], .int .i64 0]) (by simp [results, Try.results10, go_sem, *]) rfl ⟨⟨_, by rw [hs.out], by rw [hs.out]; exact VDisk.mk_ (x := ⟨d.f0, d.f1 ++ l⟩) l0 ((h0.keep (by repeat (first | exact Keep.refl _ _ | (with_reducible assumption) | refine Keep.alloc ?_ _ | refine Keep.drewN ?_ _ | refine Keep.drew ?_ | refine Keep.set ?_ (by first | exact .inl rfl | exact .inr (by dsimp only; omega) | exact .inl (hP.own _ (by dsimp only; omega) (by dsimp only; omega)) | exact .inl (by assumption)) _ | refine Keep.step ?_ (by assumption)))).sub hP.up) l4 ((ga.keep (by repeat (first | exact Keep.refl _ _ | (with_reducible assumption) | refine Keep.alloc ?_ _ | refine Keep.drewN ?_ _ | refine Keep.drew ?_ | refine Keep.set ?_ (by first | exact .inl rfl | exact .inr (by dsimp only; omega) | exact .inl (hP.own _ (by dsimp only; omega) (by dsimp only; omega)) | exact .inl (by assumption)) _ | refine Keep.step ?_ (by assumption)))).sub hP.up)⟩, (by repeat (first | exact Below.refl _ _ | (with_reducible assumption) | refine below_alloc ?_ _ | refine pw_below_drewN ?_ _ | refine below_drew ?_ | refine Below.setCell ?_ (by dsimp only; omega) _ | refine below_step ?_ (by assumption)))⟩
      · have hs := hid (show saveD d l = (noD, 13) by unfold saveD; rw [if_pos ⟨hR, hW⟩, if_neg h200])
        clear hW hR
        go_wp2
        exact bodyPost_ret (v := .tuple #[.agg #[.slice none 0 0, .slice none 0 0], .int .i64 13]) (by simp [results, Try.results10, go_sem, *]) rfl ⟨⟨_, by rw [hs.out], by rw [hs.out]; exact VDisk.zero _ _⟩, (by repeat (first | exact Below.refl _ _ | (with_reducible assumption) | refine below_alloc ?_ _ | refine pw_below_drewN ?_ _ | refine below_drew ?_ | refine Below.setCell ?_ (by dsimp only; omega) _ | refine below_step ?_ (by assumption)))⟩
    · have hs := hid (show saveD d l = (noD, 1) by unfold saveD; rw [if_neg (fun h => hW h.2)])
      rw [Bool.eq_false_iff.mpr hW]
      clear hW hR
      go_wp2
      exact bodyPost_ret (v := .tuple #[.agg #[.slice none 0 0, .slice none 0 0], .int .i64 1]) (by simp [results, Try.results10, go_sem, *]) rfl ⟨⟨_, by rw [hs.out], by rw [hs.out]; exact VDisk.zero _ _⟩, (by repeat (first | exact Below.refl _ _ | (with_reducible assumption) | refine below_alloc ?_ _ | refine pw_below_drewN ?_ _ | refine below_drew ?_ | refine Below.setCell ?_ (by dsimp only; omega) _ | refine below_step ?_ (by assumption)))⟩
  · have hs := hid (show saveD d l = (noD, 1) by unfold saveD; rw [if_neg (fun h => hR h.1)])
    rw [Bool.eq_false_iff.mpr hR]
    clear hR
    go_wp2
    exact bodyPost_ret (v := .tuple #[.agg #[.slice none 0 0, .slice none 0 0], .int .i64 1]) (by simp [results, Try.results10, go_sem, *]) rfl ⟨⟨_, by rw [hs.out], by rw [hs.out]; exact VDisk.zero _ _⟩, (by repeat (first | exact Below.refl _ _ | (with_reducible assumption) | refine below_alloc ?_ _ | refine pw_below_drewN ?_ _ | refine below_drew ?_ | refine Below.setCell ?_ (by dsimp only; omega) _ | refine below_step ?_ (by assumption)))⟩
end Go.Proofs.Ytdcokepmblcdmaa
