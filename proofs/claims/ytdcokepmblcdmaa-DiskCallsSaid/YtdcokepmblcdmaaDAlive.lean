/- law09.alive. -/
import Derived.RegionTactic
import Derived.RegionCalls
import Derived.Deep.RegionHeld3
import Derived.Test.YtdcokepmblcdmaaBase
import Derived.Test.YtdcokepmblcdmaaShelf
import Derived.Test.YtdcokepmblcdmaaOct
import Derived.Test.YtdcokepmblcdmaaV
import Derived.Test.YtdcokepmblcdmaaKDisk
import Derived.Test.YtdcokepmblcdmaaAny
import Derived.Test.YtdcokepmblcdmaaCDWell
import Derived.Test.YtdcokepmblcdmaaCDRight
import Derived.Test.YtdcokepmblcdmaaDSave
import Derived.Test.YtdcokepmblcdmaaCDEnds
import Derived.Test.YtdcokepmblcdmaaDNew
import Derived.Test.YtdcokepmblcdmaaDLike
import Derived.Test.YtdcokepmblcdmaaDFlush
import Derived.Test.YtdcokepmblcdmaaDMath
import Derived.Below
import Derived.Deep.Draws
import Derived.OwnWalk
import Derived.Laws.BytesArg
import Derived.Laws.MakeOwn
import Derived.Laws.OwnMore
import Derived.Deep.OwnRows
import Derived.Tactics
import Derived.Lib.ConvBytes
import Derived.Laws.Slices
import Derived.WalkKit
import Derived.KernelRfl
import Derived.RowKit3
import Derived.Deep.LoopGhost
import Derived.Deep.QuietTactic
import Derived.BigQuiet
import Derived.WideLaws
import Derived.Deep.DeepCutAuto
import Derived.Deep.CutBlock
import Derived.Deep.RegionHeld3
import Derived.Laws.Rows
import Derived.Lib.AppendStr
import Derived.ArgAppend
import Derived.Laws.BitsLemmas
import Derived.RowKit
namespace Go.Proofs.Ytdcokepmblcdmaa
open Go.RowKit Go.Proofs.YtdcokepmblcdmaaW.PrintWords Go.Proofs.YtdcokepmblcdmaaW.PrintLast Go.Proofs.YtdcokepmblcdmaaW.PrintMore
attribute [local go_sem] max2_int min2_int max_two min_two max_three min_three max_four min_four
set_option linter.unusedVariables false
set_option linter.unusedSimpArgs false
set_option maxHeartbeats 4000000 in
set_option maxRecDepth 100000 in
theorem law_alive (w : World) : Calls Try.prog 9 #[] w fun e w' => e = .returned (.bool true) ∧ Below w.heap.size w w' := by
  go_enter Try.func9, Try.ntmps9
  go_wp2_with fail
  refine (disk_New (fun _ => False) 4 _ (fun _ h => h.elim)).mono ?_
  rintro e w1 ⟨⟨r1, rfl, d1⟩, b1⟩
  have sz1 := b1.size
  try simp only [World.size_alloc, World.size_setCell, World.size_drew, size_drewN] at sz1
  have e4 : newD 4 = (D4, 0) := rfl
  rw [e4] at d1
  rw [e4]
  clear e4
  obtain ⟨D0, hD0⟩ : ∃ D0 : SD, D0 = D4 := ⟨_, rfl⟩
  rw [← hD0] at d1
  have HD0 := hid hD0
  clear hD0
  have d1' : St (fun k => k = w1.heap.size) w1 (fun w => VDisk w r1 D0) := d1.wide (fun k hk h => by omega)
  obtain ⟨A0, c0, A1, c1, rfl, l0, m0, h0, l1, m1, h1⟩ := VDisk.open d1'
  obtain ⟨X0, X1⟩ : Cl (w1.alloc (.cells #[.slice A0 D0.f0.length c0, .slice A1 D0.f1.length c1] 25)) ⟨w1.heap.size, 0, none⟩ (.slice A0 D0.f0.length c0) ∧ Cl (w1.alloc (.cells #[.slice A0 D0.f0.length c0, .slice A1 D0.f1.length c1] 25)) ⟨w1.heap.size, 1, none⟩ (.slice A1 D0.f1.length c1) := ⟨Cl.new rfl, Cl.new rfl⟩
  have hs := hid (show saveD D0 [⟨1, sect 120⟩] = (⟨D0.f0, [⟨1, sect 120⟩]⟩, 0) by rw [HD0.out]; exact save_D4)
  go_upto_region 2 with (fail)
  go_cut [3] (fun v3 wc => v3 = .int .i64 0 ∧ ∃ A2 c2 A3 c3, Cl wc ⟨w1.heap.size, 0, none⟩ (.slice A2 D0.f0.length c2) ∧ Cl wc ⟨w1.heap.size, 1, none⟩ (.slice A3 1 c3) ∧ St (fun k => k = w1.heap.size) wc (fun w => VDisk w (.agg #[.slice A2 D0.f0.length c2, .slice A3 1 c3]) ⟨D0.f0, [⟨1, sect 120⟩]⟩) ∧ Below w.heap.size w wc)
  case first =>
    go_region_with (first
      | (go_at_call 11; refine (law_sector 120 (by omega) (by omega) _).mono ?_; rintro e w2 ⟨rfl, b2⟩; have sz2 := b2.size; (first | (replace X0 := Cl.below b2 X0) | (replace X0 := Cl.below b2 X0.al) | (replace X0 := Cl.below b2 X0.dr) | (replace X0 := Cl.below b2 X0.drN) | (replace X0 := Cl.below b2 X0.al.al) | (replace X0 := Cl.below b2 X0.al.dr) | (replace X0 := Cl.below b2 X0.al.drN) | (replace X0 := Cl.below b2 X0.dr.al) | (replace X0 := Cl.below b2 X0.dr.dr) | (replace X0 := Cl.below b2 X0.dr.drN) | (replace X0 := Cl.below b2 X0.drN.al) | (replace X0 := Cl.below b2 X0.drN.dr) | (replace X0 := Cl.below b2 X0.drN.drN) | (replace X0 := Cl.below b2 X0.al.al.al) | (replace X0 := Cl.below b2 X0.al.al.dr) | (replace X0 := Cl.below b2 X0.al.al.drN) | (replace X0 := Cl.below b2 X0.al.dr.al) | (replace X0 := Cl.below b2 X0.al.dr.dr) | (replace X0 := Cl.below b2 X0.al.dr.drN) | (replace X0 := Cl.below b2 X0.al.drN.al) | (replace X0 := Cl.below b2 X0.al.drN.dr) | (replace X0 := Cl.below b2 X0.al.drN.drN) | (replace X0 := Cl.below b2 X0.dr.al.al) | (replace X0 := Cl.below b2 X0.dr.al.dr) | (replace X0 := Cl.below b2 X0.dr.al.drN) | (replace X0 := Cl.below b2 X0.dr.dr.al) | (replace X0 := Cl.below b2 X0.dr.dr.dr) | (replace X0 := Cl.below b2 X0.dr.dr.drN) | (replace X0 := Cl.below b2 X0.dr.drN.al) | (replace X0 := Cl.below b2 X0.dr.drN.dr) | (replace X0 := Cl.below b2 X0.dr.drN.drN) | (replace X0 := Cl.below b2 X0.drN.al.al) | (replace X0 := Cl.below b2 X0.drN.al.dr) | (replace X0 := Cl.below b2 X0.drN.al.drN) | (replace X0 := Cl.below b2 X0.drN.dr.al) | (replace X0 := Cl.below b2 X0.drN.dr.dr) | (replace X0 := Cl.below b2 X0.drN.dr.drN) | (replace X0 := Cl.below b2 X0.drN.drN.al) | (replace X0 := Cl.below b2 X0.drN.drN.dr) | (replace X0 := Cl.below b2 X0.drN.drN.drN)); (have X0_c := X0.cell); (have X0_f := X0.free); (have X0_l := X0.lt); (dsimp only at X0_l); (first | (replace X1 := Cl.below b2 X1) | (replace X1 := Cl.below b2 X1.al) | (replace X1 := Cl.below b2 X1.dr) | (replace X1 := Cl.below b2 X1.drN) | (replace X1 := Cl.below b2 X1.al.al) | (replace X1 := Cl.below b2 X1.al.dr) | (replace X1 := Cl.below b2 X1.al.drN) | (replace X1 := Cl.below b2 X1.dr.al) | (replace X1 := Cl.below b2 X1.dr.dr) | (replace X1 := Cl.below b2 X1.dr.drN) | (replace X1 := Cl.below b2 X1.drN.al) | (replace X1 := Cl.below b2 X1.drN.dr) | (replace X1 := Cl.below b2 X1.drN.drN) | (replace X1 := Cl.below b2 X1.al.al.al) | (replace X1 := Cl.below b2 X1.al.al.dr) | (replace X1 := Cl.below b2 X1.al.al.drN) | (replace X1 := Cl.below b2 X1.al.dr.al) | (replace X1 := Cl.below b2 X1.al.dr.dr) | (replace X1 := Cl.below b2 X1.al.dr.drN) | (replace X1 := Cl.below b2 X1.al.drN.al) | (replace X1 := Cl.below b2 X1.al.drN.dr) | (replace X1 := Cl.below b2 X1.al.drN.drN) | (replace X1 := Cl.below b2 X1.dr.al.al) | (replace X1 := Cl.below b2 X1.dr.al.dr) | (replace X1 := Cl.below b2 X1.dr.al.drN) | (replace X1 := Cl.below b2 X1.dr.dr.al) | (replace X1 := Cl.below b2 X1.dr.dr.dr) | (replace X1 := Cl.below b2 X1.dr.dr.drN) | (replace X1 := Cl.below b2 X1.dr.drN.al) | (replace X1 := Cl.below b2 X1.dr.drN.dr) | (replace X1 := Cl.below b2 X1.dr.drN.drN) | (replace X1 := Cl.below b2 X1.drN.al.al) | (replace X1 := Cl.below b2 X1.drN.al.dr) | (replace X1 := Cl.below b2 X1.drN.al.drN) | (replace X1 := Cl.below b2 X1.drN.dr.al) | (replace X1 := Cl.below b2 X1.drN.dr.dr) | (replace X1 := Cl.below b2 X1.drN.dr.drN) | (replace X1 := Cl.below b2 X1.drN.drN.al) | (replace X1 := Cl.below b2 X1.drN.drN.dr) | (replace X1 := Cl.below b2 X1.drN.drN.drN)); (have X1_c := X1.cell); (have X1_f := X1.free); (have X1_l := X1.lt); (dsimp only at X1_l))
      | (go_at_call 10; refine (disk_Save (fun k => k = w1.heap.size) _ _ D0 [⟨1, sect 120⟩] _ (fun k hk => by subst hk; have := b2.size; simp at this ⊢; omega) (d1'.keep (by repeat (first | exact Keep.refl _ _ | (with_reducible assumption) | refine Keep.alloc ?_ _ | refine Keep.drewN ?_ _ | refine Keep.drew ?_ | refine Keep.set ?_ (by first | exact .inl rfl | exact .inr (by dsimp only; omega) | exact .inl (hP.own _ (by dsimp only; omega) (by dsimp only; omega)) | exact .inl (by assumption)) _ | refine Keep.step ?_ (by assumption)))) (SlV.one kWrite_flat (fun w => k36_mk w _) (fun hk => by have := b2.size; simp at this; omega)) (by simp)).mono ?_; rintro e w3 ⟨⟨r3, rfl, d3⟩, b3⟩; rw [hs.out] at d3; rw [hs.out]; obtain ⟨A2, c2, A3, c3, rfl, l2, m2, h2, l3, m3, h3⟩ := VDisk.open d3; (first | (replace X0 := Cl.below b3 X0) | (replace X0 := Cl.below b3 X0.al) | (replace X0 := Cl.below b3 X0.dr) | (replace X0 := Cl.below b3 X0.drN) | (replace X0 := Cl.below b3 X0.al.al) | (replace X0 := Cl.below b3 X0.al.dr) | (replace X0 := Cl.below b3 X0.al.drN) | (replace X0 := Cl.below b3 X0.dr.al) | (replace X0 := Cl.below b3 X0.dr.dr) | (replace X0 := Cl.below b3 X0.dr.drN) | (replace X0 := Cl.below b3 X0.drN.al) | (replace X0 := Cl.below b3 X0.drN.dr) | (replace X0 := Cl.below b3 X0.drN.drN) | (replace X0 := Cl.below b3 X0.al.al.al) | (replace X0 := Cl.below b3 X0.al.al.dr) | (replace X0 := Cl.below b3 X0.al.al.drN) | (replace X0 := Cl.below b3 X0.al.dr.al) | (replace X0 := Cl.below b3 X0.al.dr.dr) | (replace X0 := Cl.below b3 X0.al.dr.drN) | (replace X0 := Cl.below b3 X0.al.drN.al) | (replace X0 := Cl.below b3 X0.al.drN.dr) | (replace X0 := Cl.below b3 X0.al.drN.drN) | (replace X0 := Cl.below b3 X0.dr.al.al) | (replace X0 := Cl.below b3 X0.dr.al.dr) | (replace X0 := Cl.below b3 X0.dr.al.drN) | (replace X0 := Cl.below b3 X0.dr.dr.al) | (replace X0 := Cl.below b3 X0.dr.dr.dr) | (replace X0 := Cl.below b3 X0.dr.dr.drN) | (replace X0 := Cl.below b3 X0.dr.drN.al) | (replace X0 := Cl.below b3 X0.dr.drN.dr) | (replace X0 := Cl.below b3 X0.dr.drN.drN) | (replace X0 := Cl.below b3 X0.drN.al.al) | (replace X0 := Cl.below b3 X0.drN.al.dr) | (replace X0 := Cl.below b3 X0.drN.al.drN) | (replace X0 := Cl.below b3 X0.drN.dr.al) | (replace X0 := Cl.below b3 X0.drN.dr.dr) | (replace X0 := Cl.below b3 X0.drN.dr.drN) | (replace X0 := Cl.below b3 X0.drN.drN.al) | (replace X0 := Cl.below b3 X0.drN.drN.dr) | (replace X0 := Cl.below b3 X0.drN.drN.drN)); (have X0_c := X0.cell); (have X0_f := X0.free); (have X0_l := X0.lt); (dsimp only at X0_l); (first | (replace X1 := Cl.below b3 X1) | (replace X1 := Cl.below b3 X1.al) | (replace X1 := Cl.below b3 X1.dr) | (replace X1 := Cl.below b3 X1.drN) | (replace X1 := Cl.below b3 X1.al.al) | (replace X1 := Cl.below b3 X1.al.dr) | (replace X1 := Cl.below b3 X1.al.drN) | (replace X1 := Cl.below b3 X1.dr.al) | (replace X1 := Cl.below b3 X1.dr.dr) | (replace X1 := Cl.below b3 X1.dr.drN) | (replace X1 := Cl.below b3 X1.drN.al) | (replace X1 := Cl.below b3 X1.drN.dr) | (replace X1 := Cl.below b3 X1.drN.drN) | (replace X1 := Cl.below b3 X1.al.al.al) | (replace X1 := Cl.below b3 X1.al.al.dr) | (replace X1 := Cl.below b3 X1.al.al.drN) | (replace X1 := Cl.below b3 X1.al.dr.al) | (replace X1 := Cl.below b3 X1.al.dr.dr) | (replace X1 := Cl.below b3 X1.al.dr.drN) | (replace X1 := Cl.below b3 X1.al.drN.al) | (replace X1 := Cl.below b3 X1.al.drN.dr) | (replace X1 := Cl.below b3 X1.al.drN.drN) | (replace X1 := Cl.below b3 X1.dr.al.al) | (replace X1 := Cl.below b3 X1.dr.al.dr) | (replace X1 := Cl.below b3 X1.dr.al.drN) | (replace X1 := Cl.below b3 X1.dr.dr.al) | (replace X1 := Cl.below b3 X1.dr.dr.dr) | (replace X1 := Cl.below b3 X1.dr.dr.drN) | (replace X1 := Cl.below b3 X1.dr.drN.al) | (replace X1 := Cl.below b3 X1.dr.drN.dr) | (replace X1 := Cl.below b3 X1.dr.drN.drN) | (replace X1 := Cl.below b3 X1.drN.al.al) | (replace X1 := Cl.below b3 X1.drN.al.dr) | (replace X1 := Cl.below b3 X1.drN.al.drN) | (replace X1 := Cl.below b3 X1.drN.dr.al) | (replace X1 := Cl.below b3 X1.drN.dr.dr) | (replace X1 := Cl.below b3 X1.drN.dr.drN) | (replace X1 := Cl.below b3 X1.drN.drN.al) | (replace X1 := Cl.below b3 X1.drN.drN.dr) | (replace X1 := Cl.below b3 X1.drN.drN.drN)); (have X1_c := X1.cell); (have X1_f := X1.free); (have X1_l := X1.lt); (dsimp only at X1_l)))
    all_goals
      go_wp2_with fail
      go_meet
      exact ⟨rfl, A2, c2, A3, c3, X0.same.beside (by decide), (X1.beside (by decide)).same, d3.keep (by repeat (first | exact Keep.refl _ _ | (with_reducible assumption) | refine Keep.alloc ?_ _ | refine Keep.drewN ?_ _ | refine Keep.drew ?_ | refine Keep.set ?_ (by first | exact .inl rfl | exact .inr (by dsimp only; omega) | exact .inl (hP.own _ (by dsimp only; omega) (by dsimp only; omega)) | exact .inl (by assumption)) _ | refine Keep.step ?_ (by assumption))), (by repeat (first | exact Below.refl _ _ | (with_reducible assumption) | refine below_alloc ?_ _ | refine pw_below_drewN ?_ _ | refine below_drew ?_ | refine Below.setCell ?_ (by dsimp only; omega) _ | refine below_step ?_ (by assumption)))⟩
  case rest =>
    obtain ⟨rfl, A2, c2, A3, c3, Y0, Y1, d3, b3⟩ := hcut
    clear X0 X1 d1 d1' h0 h1 l0 m0 l1 m1
    obtain ⟨L1, hL1⟩ : ∃ L1, L1 = D0.f0.set 1 ((sect 120).extract 0 64 ++ (sect 0).extract 64 128) := ⟨_, rfl⟩
    replace hL1 := hid hL1
    have hs2 := hid (show crashD ⟨D0.f0, [⟨1, sect 120⟩]⟩ [2] = (⟨L1, []⟩, 0) by rw [hL1.out, HD0.out]; exact crash_D4)
    have hw : ∀ k, k = w1.heap.size → k < wc.heap.size := fun k hk => by subst hk; exact Y0.lt
    have Y0_c := Y0.cell
    have Y1_c := Y1.cell
    have Y0_l := Y0.lt
    dsimp only at Y0_l
    go_wp2_with fail
    refine (disk_Crash (fun k => k = w1.heap.size) _ ⟨D0.f0, [⟨1, sect 120⟩]⟩ _ 1 [2] _ (fun k hk => by have := hw k hk; simp; omega) (d3.keep (by repeat (first | exact Keep.refl _ _ | (with_reducible assumption) | refine Keep.alloc ?_ _ | refine Keep.drewN ?_ _ | refine Keep.drew ?_ | refine Keep.set ?_ (by first | exact .inl rfl | exact .inr (by dsimp only; omega) | exact .inl (hP.own _ (by dsimp only; omega) (by dsimp only; omega)) | exact .inl (by assumption)) _ | refine Keep.step ?_ (by assumption)))) (C_one (d := Kd.int .i64) (cs := [.int .i64 2]) (fun _ => rfl)) (Nat.le_refl _)).mono ?_
    rintro e w4 ⟨⟨r4, rfl, d4⟩, b4⟩
    have sz4 := b4.size
    simp only [World.size_alloc] at sz4
    rw [hs2.out] at d4
    rw [hs2.out]
    first
      | (replace Y0 := Cl.below b4 Y0)
      | (replace Y0 := Cl.below b4 Y0.al)
      | (replace Y0 := Cl.below b4 Y0.dr)
      | (replace Y0 := Cl.below b4 Y0.drN)
      | (replace Y0 := Cl.below b4 Y0.al.al)
      | (replace Y0 := Cl.below b4 Y0.al.dr)
      | (replace Y0 := Cl.below b4 Y0.al.drN)
      | (replace Y0 := Cl.below b4 Y0.dr.al)
      | (replace Y0 := Cl.below b4 Y0.dr.dr)
      | (replace Y0 := Cl.below b4 Y0.dr.drN)
      | (replace Y0 := Cl.below b4 Y0.drN.al)
      | (replace Y0 := Cl.below b4 Y0.drN.dr)
      | (replace Y0 := Cl.below b4 Y0.drN.drN)
      | (replace Y0 := Cl.below b4 Y0.al.al.al)
      | (replace Y0 := Cl.below b4 Y0.al.al.dr)
      | (replace Y0 := Cl.below b4 Y0.al.al.drN)
      | (replace Y0 := Cl.below b4 Y0.al.dr.al)
      | (replace Y0 := Cl.below b4 Y0.al.dr.dr)
      | (replace Y0 := Cl.below b4 Y0.al.dr.drN)
      | (replace Y0 := Cl.below b4 Y0.al.drN.al)
      | (replace Y0 := Cl.below b4 Y0.al.drN.dr)
      | (replace Y0 := Cl.below b4 Y0.al.drN.drN)
      | (replace Y0 := Cl.below b4 Y0.dr.al.al)
      | (replace Y0 := Cl.below b4 Y0.dr.al.dr)
      | (replace Y0 := Cl.below b4 Y0.dr.al.drN)
      | (replace Y0 := Cl.below b4 Y0.dr.dr.al)
      | (replace Y0 := Cl.below b4 Y0.dr.dr.dr)
      | (replace Y0 := Cl.below b4 Y0.dr.dr.drN)
      | (replace Y0 := Cl.below b4 Y0.dr.drN.al)
      | (replace Y0 := Cl.below b4 Y0.dr.drN.dr)
      | (replace Y0 := Cl.below b4 Y0.dr.drN.drN)
      | (replace Y0 := Cl.below b4 Y0.drN.al.al)
      | (replace Y0 := Cl.below b4 Y0.drN.al.dr)
      | (replace Y0 := Cl.below b4 Y0.drN.al.drN)
      | (replace Y0 := Cl.below b4 Y0.drN.dr.al)
      | (replace Y0 := Cl.below b4 Y0.drN.dr.dr)
      | (replace Y0 := Cl.below b4 Y0.drN.dr.drN)
      | (replace Y0 := Cl.below b4 Y0.drN.drN.al)
      | (replace Y0 := Cl.below b4 Y0.drN.drN.dr)
      | (replace Y0 := Cl.below b4 Y0.drN.drN.drN)
    have Y0_c := Y0.cell
    have Y0_f := Y0.free
    have Y0_l := Y0.lt
    dsimp only at Y0_l
    first
      | (replace Y1 := Cl.below b4 Y1)
      | (replace Y1 := Cl.below b4 Y1.al)
      | (replace Y1 := Cl.below b4 Y1.dr)
      | (replace Y1 := Cl.below b4 Y1.drN)
      | (replace Y1 := Cl.below b4 Y1.al.al)
      | (replace Y1 := Cl.below b4 Y1.al.dr)
      | (replace Y1 := Cl.below b4 Y1.al.drN)
      | (replace Y1 := Cl.below b4 Y1.dr.al)
      | (replace Y1 := Cl.below b4 Y1.dr.dr)
      | (replace Y1 := Cl.below b4 Y1.dr.drN)
      | (replace Y1 := Cl.below b4 Y1.drN.al)
      | (replace Y1 := Cl.below b4 Y1.drN.dr)
      | (replace Y1 := Cl.below b4 Y1.drN.drN)
      | (replace Y1 := Cl.below b4 Y1.al.al.al)
      | (replace Y1 := Cl.below b4 Y1.al.al.dr)
      | (replace Y1 := Cl.below b4 Y1.al.al.drN)
      | (replace Y1 := Cl.below b4 Y1.al.dr.al)
      | (replace Y1 := Cl.below b4 Y1.al.dr.dr)
      | (replace Y1 := Cl.below b4 Y1.al.dr.drN)
      | (replace Y1 := Cl.below b4 Y1.al.drN.al)
      | (replace Y1 := Cl.below b4 Y1.al.drN.dr)
      | (replace Y1 := Cl.below b4 Y1.al.drN.drN)
      | (replace Y1 := Cl.below b4 Y1.dr.al.al)
      | (replace Y1 := Cl.below b4 Y1.dr.al.dr)
      | (replace Y1 := Cl.below b4 Y1.dr.al.drN)
      | (replace Y1 := Cl.below b4 Y1.dr.dr.al)
      | (replace Y1 := Cl.below b4 Y1.dr.dr.dr)
      | (replace Y1 := Cl.below b4 Y1.dr.dr.drN)
      | (replace Y1 := Cl.below b4 Y1.dr.drN.al)
      | (replace Y1 := Cl.below b4 Y1.dr.drN.dr)
      | (replace Y1 := Cl.below b4 Y1.dr.drN.drN)
      | (replace Y1 := Cl.below b4 Y1.drN.al.al)
      | (replace Y1 := Cl.below b4 Y1.drN.al.dr)
      | (replace Y1 := Cl.below b4 Y1.drN.al.drN)
      | (replace Y1 := Cl.below b4 Y1.drN.dr.al)
      | (replace Y1 := Cl.below b4 Y1.drN.dr.dr)
      | (replace Y1 := Cl.below b4 Y1.drN.dr.drN)
      | (replace Y1 := Cl.below b4 Y1.drN.drN.al)
      | (replace Y1 := Cl.below b4 Y1.drN.drN.dr)
      | (replace Y1 := Cl.below b4 Y1.drN.drN.drN)
    have Y1_c := Y1.cell
    have Y1_f := Y1.free
    have Y1_l := Y1.lt
    dsimp only at Y1_l
    obtain ⟨A4, c4, A5, c5, rfl, l4, m4, h4, l5, m5, h5⟩ := VDisk.open d4
    have hs3 := hid (show rightD ⟨L1, []⟩ = true by rw [hL1.out, HD0.out]; exact right_crash_D4)
    go_wp2_with fail
    refine (disk_LoadI _ ⟨L1, []⟩ 1 _ (d4.at_ (by repeat (first | exact Keep.refl _ _ | (with_reducible assumption) | refine Keep.alloc ?_ _ | refine Keep.drewN ?_ _ | refine Keep.drew ?_ | refine Keep.set ?_ (by first | exact .inl rfl | exact .inr (by dsimp only; omega) | exact .inl (hP.own _ (by dsimp only; omega) (by dsimp only; omega)) | exact .inl (by assumption)) _ | refine Keep.step ?_ (by assumption)))) hs3.out (by omega) (by rw [hL1.out, List.length_set, HD0.out]; decide)).mono ?_
    rintro e w5 ⟨rfl, b5⟩
    have sz5 := b5.size
    simp only [World.size_setCell] at sz5
    have hs4 := hid (show standsD ⟨L1, []⟩ (1 : Int).toNat = (sect 120).extract 0 64 ++ (sect 0).extract 64 128 by rw [hL1.out, HD0.out]; rfl)
    rw [hs4.out]
    have q1 : (sect 0).size = 128 := sect_size 0
    have q2 : (sect 120).size = 128 := sect_size 120
    have q3 : ((sect 120).extract 0 64 ++ (sect 0).extract 64 128).size = 128 := by rw [ByteArray.size_append, ByteArray.size_extract, ByteArray.size_extract]; omega
    have q4 := hid (show (sect 0).extract 64 (sect 0).size = (sect 0).extract 64 128 by rw [q1])
    go_wp2_with fail
    generalize hZ : (sect 120).extract 0 64 ++ (sect 0).extract 64 128 = Z at *
    replace hZ := hid hZ
    go_region_held3 (fun _ => True) (first | trivial) (first | (go_at_call 11; refine (law_sector _ (by omega) (by omega) _).mono ?_; rintro e w6 ⟨rfl, b6⟩; have sz6 := b6.size))
    all_goals
      go_wp2_with fail
      go_ret
      exact ⟨by rw [hZ.out]; simp, (by repeat (first | exact Below.refl _ _ | (with_reducible assumption) | refine below_alloc ?_ _ | refine pw_below_drewN ?_ _ | refine below_drew ?_ | refine Below.setCell ?_ (by dsimp only; omega) _ | refine below_step ?_ (by assumption)))⟩
end Go.Proofs.Ytdcokepmblcdmaa
