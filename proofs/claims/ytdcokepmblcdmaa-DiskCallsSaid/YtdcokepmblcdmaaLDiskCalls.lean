/- The law DiskCalls: for every input it returns true. -/
import Derived.RegionTactic
import Derived.IntWalk
import Derived.BigQuiet
import Derived.Deep.RegionHeld3
import Derived.Test.YtdcokepmblcdmaaBase
import Derived.Test.YtdcokepmblcdmaaShelf
import Derived.Test.YtdcokepmblcdmaaOct
import Derived.Test.YtdcokepmblcdmaaV
import Derived.Test.YtdcokepmblcdmaaOpen
import Derived.Test.YtdcokepmblcdmaaKDisk
import Derived.Test.YtdcokepmblcdmaaAny
import Derived.Test.YtdcokepmblcdmaaCDWell
import Derived.Test.YtdcokepmblcdmaaCDRight
import Derived.Test.YtdcokepmblcdmaaDSave
import Derived.Test.YtdcokepmblcdmaaCDEnds
import Derived.Test.YtdcokepmblcdmaaDNew
import Derived.Test.YtdcokepmblcdmaaDLike
import Derived.Test.YtdcokepmblcdmaaDFlush
import Derived.Test.YtdcokepmblcdmaaDMath
import Derived.Test.YtdcokepmblcdmaaDAlive
import Derived.Test.YtdcokepmblcdmaaCRef09a
import Derived.Test.YtdcokepmblcdmaaCRef09b
import Derived.Test.YtdcokepmblcdmaaCRef09c
import Derived.Test.YtdcokepmblcdmaaTexts
import Derived.Test.YtdcokepmblcdmaaDLaw
import Derived.Test.YtdcokepmblcdmaaDLastM
import Derived.Test.YtdcokepmblcdmaaDCallsM
import Derived.Test.YtdcokepmblcdmaaCApp
import Derived.Below
import Derived.Deep.Draws
import Derived.OwnWalk
import Derived.Laws.BytesArg
import Derived.Laws.MakeOwn
import Derived.Laws.OwnMore
import Derived.Deep.OwnRows
import Derived.Tactics
import Derived.Lib.ConvBytes
import Derived.Laws.Slices
import Derived.WalkKit
import Derived.KernelRfl
import Derived.RowKit3
import Derived.Deep.LoopGhost
import Derived.Deep.QuietTactic
import Derived.BigQuiet
import Derived.WideLaws
import Derived.Deep.DeepCutAuto
import Derived.Deep.CutBlock
import Derived.Deep.RegionHeld3
import Derived.Laws.Rows
import Derived.Lib.AppendStr
import Derived.ArgAppend
import Derived.Laws.BitsLemmas
import Derived.RowKit
namespace Go.Proofs.Ytdcokepmblcdmaa
open Go.RowKit Go.Proofs.YtdcokepmblcdmaaW.PrintWords Go.Proofs.YtdcokepmblcdmaaW.PrintLast Go.Proofs.YtdcokepmblcdmaaW.PrintMore
attribute [local go_sem] max2_int min2_int max_two min_two max_three min_three max_four min_four
set_option linter.unusedVariables false
set_option linter.unusedSimpArgs false
set_option maxHeartbeats 8000000 in
set_option maxRecDepth 100000 in
theorem diskCalls_walk (v : Value) (d0 : SDisk) (n0 at0 : Int) (ul : Value) (l0 : List SW) (u : Value) (fs : List Int) (w : World) (h0 : VDisk w v d0) (_w0 : WDisk d0) (w1 : (Lit.int .i64 n0).wf = true) (w2 : (Lit.int .i64 at0).wf = true) (hl : SlV kWrite w ul l0) (_w3 : ∀ y ∈ l0, WWrite y) (h4 : SlV (Kd.int .i64) w u fs) (_w4 : ∀ y ∈ fs, (Lit.int .i64 y).wf = true) :
    Calls Try.prog 4 #[v, .int .i64 n0, .int .i64 at0, ul, u] w fun e w' => e = .returned (.bool true) ∧ Below w.heap.size w w' := by
  have a1lo := wf_i64_lo w2
  have a1hi := wf_i64_hi w2
  have n1lo := wf_i64_lo w1
  have n1hi := wf_i64_hi w1
  clear w1 w2
  have hd0 : St (fun k => k = w.heap.size) w (fun w => VDisk w v d0) := (St.start fun w1 => h0.below).wide (fun k hk h => by omega)
  obtain ⟨A0, e0, A1, e1, rfl, ll0, m0, g0, ll1, m1, g1⟩ := VDisk.open hd0
  obtain ⟨F, ef, rfl, lf, hF⟩ := h4
  obtain ⟨L, el, rfl, ll, hL⟩ := hl
  have mf := Kd.C_max hF
  have ml := Kd.C_max hL
  go_enter Try.func4, Try.ntmps4
  have X0 : Cl (w.alloc (.cells #[.slice A0 d0.f0.length e0, .slice A1 d0.f1.length e1] 25)) ⟨w.heap.size, 0, none⟩ (.slice A0 d0.f0.length e0) := Cl.new rfl
  have X1 : Cl (w.alloc (.cells #[.slice A0 d0.f0.length e0, .slice A1 d0.f1.length e1] 25)) ⟨w.heap.size, 1, none⟩ (.slice A1 d0.f1.length e1) := Cl.new rfl
  obtain ⟨D1, hD1⟩ : ∃ D1, D1 = fewD d0 := ⟨_, rfl⟩
  replace hD1 := hid hD1
  obtain ⟨l, hl⟩ : ∃ l, l = l0.take 10 := ⟨_, rfl⟩
  have hL1 : kWrite.C w L l.length l := by
    rw [hl]
    rcases Nat.lt_or_ge 10 l0.length with q0 | q0
    · exact Kd.C_take hL (Nat.le_of_lt q0)
    · rw [List.take_of_length_le q0]; exact hL
  have hl10 : l.length ≤ 10 := by rw [hl, List.length_take]; omega
  have hll : l.length ≤ el := by rw [hl, List.length_take]; omega
  have hmin : l.length = min l0.length 10 := by rw [hl, List.length_take]; omega
  clear hl
  replace hmin := hid hmin
  replace hL1 := hid hL1
  replace hF := hid hF
  go_upto_region 1 with (fail)
  go_cut [3] (fun v3 wc => v3 = .slice L l.length el ∧ ∃ B0 q0 B1 q1, Cl wc ⟨w.heap.size, 0, none⟩ (.slice B0 D1.f0.length q0) ∧ Cl wc ⟨w.heap.size, 1, none⟩ (.slice B1 D1.f1.length q1) ∧ VDisk wc (.agg #[.slice B0 D1.f0.length q0, .slice B1 D1.f1.length q1]) D1 ∧ Below w.heap.size w wc)
  case first => as_aux_lemma =>
    have X0_c := X0.cell
    have X1_c := X1.cell
    have i1 : ((0 : Int) ≤ 10) := by omega
    have i2 : ((l0.length : Int) ≤ (el : Int)) := by omega
    have i3 : ((0 : Int) ≤ (l0.length : Int)) := by omega
    have i4 : ((0 : Int) ≤ (l.length : Int)) := by omega
    have i6 : ((l.length : Int) ≤ (el : Int)) := by omega
    have hmin' := hmin.out
    have i5 : (if 10 < l0.length then (10 : Int) else (l0.length : Int)) = (l.length : Int) := by split <;> omega
    have i7 : (if (10 : Int) < (l0.length : Int) then (10 : Int) else (l0.length : Int)) = (l.length : Int) := by split <;> omega
    clear hmin'
    go_region_with
      (first
      | (go_at_call 7; refine (law_few (fun k => k = w.heap.size) _ d0 _ (fun k hk => by subst hk; simp) (hd0.keep (by repeat (first | exact Keep.refl _ _ | (with_reducible assumption) | refine Keep.alloc ?_ _ | refine Keep.drewN ?_ _ | refine Keep.drew ?_ | refine Keep.set ?_ (by first | exact .inl rfl | exact .inr (by dsimp only; omega) | exact .inl (hP.own _ (by dsimp only; omega) (by dsimp only; omega)) | exact .inl (by assumption)) _ | refine Keep.step ?_ (by assumption))))).mono ?_; rintro e w1 ⟨⟨r1, rfl, d1⟩, b1⟩; have sz1 := b1.size; (try simp only [World.size_alloc, World.size_drew] at sz1); rw [← hD1.out] at d1; obtain ⟨B0, p0, B1, p1, rfl, l2, m2, g2, l3, m3, g3⟩ := VDisk.open d1; (first | (replace X0 := Cl.below b1 X0) | (replace X0 := Cl.below b1 X0.al) | (replace X0 := Cl.below b1 X0.dr) | (replace X0 := Cl.below b1 X0.drN) | (replace X0 := Cl.below b1 X0.al.al) | (replace X0 := Cl.below b1 X0.al.dr) | (replace X0 := Cl.below b1 X0.al.drN) | (replace X0 := Cl.below b1 X0.dr.al) | (replace X0 := Cl.below b1 X0.dr.dr) | (replace X0 := Cl.below b1 X0.dr.drN) | (replace X0 := Cl.below b1 X0.drN.al) | (replace X0 := Cl.below b1 X0.drN.dr) | (replace X0 := Cl.below b1 X0.drN.drN) | (replace X0 := Cl.below b1 X0.al.al.al) | (replace X0 := Cl.below b1 X0.al.al.dr) | (replace X0 := Cl.below b1 X0.al.al.drN) | (replace X0 := Cl.below b1 X0.al.dr.al) | (replace X0 := Cl.below b1 X0.al.dr.dr) | (replace X0 := Cl.below b1 X0.al.dr.drN) | (replace X0 := Cl.below b1 X0.al.drN.al) | (replace X0 := Cl.below b1 X0.al.drN.dr) | (replace X0 := Cl.below b1 X0.al.drN.drN) | (replace X0 := Cl.below b1 X0.dr.al.al) | (replace X0 := Cl.below b1 X0.dr.al.dr) | (replace X0 := Cl.below b1 X0.dr.al.drN) | (replace X0 := Cl.below b1 X0.dr.dr.al) | (replace X0 := Cl.below b1 X0.dr.dr.dr) | (replace X0 := Cl.below b1 X0.dr.dr.drN) | (replace X0 := Cl.below b1 X0.dr.drN.al) | (replace X0 := Cl.below b1 X0.dr.drN.dr) | (replace X0 := Cl.below b1 X0.dr.drN.drN) | (replace X0 := Cl.below b1 X0.drN.al.al) | (replace X0 := Cl.below b1 X0.drN.al.dr) | (replace X0 := Cl.below b1 X0.drN.al.drN) | (replace X0 := Cl.below b1 X0.drN.dr.al) | (replace X0 := Cl.below b1 X0.drN.dr.dr) | (replace X0 := Cl.below b1 X0.drN.dr.drN) | (replace X0 := Cl.below b1 X0.drN.drN.al) | (replace X0 := Cl.below b1 X0.drN.drN.dr) | (replace X0 := Cl.below b1 X0.drN.drN.drN)); (have X0_c := X0.cell); (have X0_f := X0.free); (have X0_l := X0.lt); (dsimp only at X0_l); (first | (replace X1 := Cl.below b1 X1) | (replace X1 := Cl.below b1 X1.al) | (replace X1 := Cl.below b1 X1.dr) | (replace X1 := Cl.below b1 X1.drN) | (replace X1 := Cl.below b1 X1.al.al) | (replace X1 := Cl.below b1 X1.al.dr) | (replace X1 := Cl.below b1 X1.al.drN) | (replace X1 := Cl.below b1 X1.dr.al) | (replace X1 := Cl.below b1 X1.dr.dr) | (replace X1 := Cl.below b1 X1.dr.drN) | (replace X1 := Cl.below b1 X1.drN.al) | (replace X1 := Cl.below b1 X1.drN.dr) | (replace X1 := Cl.below b1 X1.drN.drN) | (replace X1 := Cl.below b1 X1.al.al.al) | (replace X1 := Cl.below b1 X1.al.al.dr) | (replace X1 := Cl.below b1 X1.al.al.drN) | (replace X1 := Cl.below b1 X1.al.dr.al) | (replace X1 := Cl.below b1 X1.al.dr.dr) | (replace X1 := Cl.below b1 X1.al.dr.drN) | (replace X1 := Cl.below b1 X1.al.drN.al) | (replace X1 := Cl.below b1 X1.al.drN.dr) | (replace X1 := Cl.below b1 X1.al.drN.drN) | (replace X1 := Cl.below b1 X1.dr.al.al) | (replace X1 := Cl.below b1 X1.dr.al.dr) | (replace X1 := Cl.below b1 X1.dr.al.drN) | (replace X1 := Cl.below b1 X1.dr.dr.al) | (replace X1 := Cl.below b1 X1.dr.dr.dr) | (replace X1 := Cl.below b1 X1.dr.dr.drN) | (replace X1 := Cl.below b1 X1.dr.drN.al) | (replace X1 := Cl.below b1 X1.dr.drN.dr) | (replace X1 := Cl.below b1 X1.dr.drN.drN) | (replace X1 := Cl.below b1 X1.drN.al.al) | (replace X1 := Cl.below b1 X1.drN.al.dr) | (replace X1 := Cl.below b1 X1.drN.al.drN) | (replace X1 := Cl.below b1 X1.drN.dr.al) | (replace X1 := Cl.below b1 X1.drN.dr.dr) | (replace X1 := Cl.below b1 X1.drN.dr.drN) | (replace X1 := Cl.below b1 X1.drN.drN.al) | (replace X1 := Cl.below b1 X1.drN.drN.dr) | (replace X1 := Cl.below b1 X1.drN.drN.drN)); (have X1_c := X1.cell); (have X1_f := X1.free); (have X1_l := X1.lt); (dsimp only at X1_l))
      | fail)
    all_goals
      go_wp2_with fail
      go_meet
      exact ⟨by first | rfl | rw [i7] | rw [i5] | simp [i5], B0, p0, B1, p1, (Cl.pair X0 X1 _ _).1, (Cl.pair X0 X1 _ _).2, d1.at_ (by repeat (first | exact Keep.refl _ _ | (with_reducible assumption) | refine Keep.alloc ?_ _ | refine Keep.drewN ?_ _ | refine Keep.drew ?_ | refine Keep.set ?_ (by first | exact .inl rfl | exact .inr (by dsimp only; omega) | exact .inl (hP.own _ (by dsimp only; omega) (by dsimp only; omega)) | exact .inl (by assumption)) _ | refine Keep.step ?_ (by assumption))), (by repeat (first | exact Below.refl _ _ | (with_reducible assumption) | refine below_alloc ?_ _ | refine pw_below_drewN ?_ _ | refine below_drew ?_ | refine Below.setCell ?_ (by dsimp only; omega) _ | refine below_step ?_ (by assumption)))⟩
  case rest => as_aux_lemma =>
    obtain ⟨rfl, B0, p0, B1, p1, Y0, Y1, hdc, bc⟩ := hcut
    have szc := bc.size
    clear X0 X1 g0 g1 hd0 h0 hL
    have hdc := hid hdc
    have Y0_c := Y0.cell
    have Y1_c := Y1.cell
    have Y0_l := Y0.lt
    dsimp only at Y0_l
    obtain ⟨DN, eN, hN⟩ : ∃ D e, newD n0 = (D, e) := ⟨_, _, rfl⟩
    obtain ⟨sL, eL, hLd⟩ : ∃ D e, loadD D1 at0 = (D, e) := ⟨_, _, rfl⟩
    obtain ⟨DP, eP, hP⟩ : ∃ D e, saveD D1 l = (D, e) := ⟨_, _, rfl⟩
    obtain ⟨DY, eY, hY⟩ : ∃ D e, flushD D1 = (D, e) := ⟨_, _, rfl⟩
    obtain ⟨DC, eC, hC⟩ : ∃ D e, crashD D1 fs = (D, e) := ⟨_, _, rfl⟩
    replace hN := hid hN
    replace hLd := hid hLd
    replace hP := hid hP
    replace hY := hid hY
    replace hC := hid hC
    go_wp2_with fail
    refine Calls.mono (disk_New (fun _ => False) n0 _ (fun _ h => h.elim)) ?_
    rintro e w1 ⟨⟨r1, rfl, d1⟩, b1⟩
    rw [hN.out] at d1
    rw [hN.out]
    have sz1 := b1.size
    first
      | (replace Y0 := Cl.below b1 Y0)
      | (replace Y0 := Cl.below b1 Y0.al)
      | (replace Y0 := Cl.below b1 Y0.dr)
      | (replace Y0 := Cl.below b1 Y0.drN)
      | (replace Y0 := Cl.below b1 Y0.al.al)
      | (replace Y0 := Cl.below b1 Y0.al.dr)
      | (replace Y0 := Cl.below b1 Y0.al.drN)
      | (replace Y0 := Cl.below b1 Y0.dr.al)
      | (replace Y0 := Cl.below b1 Y0.dr.dr)
      | (replace Y0 := Cl.below b1 Y0.dr.drN)
      | (replace Y0 := Cl.below b1 Y0.drN.al)
      | (replace Y0 := Cl.below b1 Y0.drN.dr)
      | (replace Y0 := Cl.below b1 Y0.drN.drN)
      | (replace Y0 := Cl.below b1 Y0.al.al.al)
      | (replace Y0 := Cl.below b1 Y0.al.al.dr)
      | (replace Y0 := Cl.below b1 Y0.al.al.drN)
      | (replace Y0 := Cl.below b1 Y0.al.dr.al)
      | (replace Y0 := Cl.below b1 Y0.al.dr.dr)
      | (replace Y0 := Cl.below b1 Y0.al.dr.drN)
      | (replace Y0 := Cl.below b1 Y0.al.drN.al)
      | (replace Y0 := Cl.below b1 Y0.al.drN.dr)
      | (replace Y0 := Cl.below b1 Y0.al.drN.drN)
      | (replace Y0 := Cl.below b1 Y0.dr.al.al)
      | (replace Y0 := Cl.below b1 Y0.dr.al.dr)
      | (replace Y0 := Cl.below b1 Y0.dr.al.drN)
      | (replace Y0 := Cl.below b1 Y0.dr.dr.al)
      | (replace Y0 := Cl.below b1 Y0.dr.dr.dr)
      | (replace Y0 := Cl.below b1 Y0.dr.dr.drN)
      | (replace Y0 := Cl.below b1 Y0.dr.drN.al)
      | (replace Y0 := Cl.below b1 Y0.dr.drN.dr)
      | (replace Y0 := Cl.below b1 Y0.dr.drN.drN)
      | (replace Y0 := Cl.below b1 Y0.drN.al.al)
      | (replace Y0 := Cl.below b1 Y0.drN.al.dr)
      | (replace Y0 := Cl.below b1 Y0.drN.al.drN)
      | (replace Y0 := Cl.below b1 Y0.drN.dr.al)
      | (replace Y0 := Cl.below b1 Y0.drN.dr.dr)
      | (replace Y0 := Cl.below b1 Y0.drN.dr.drN)
      | (replace Y0 := Cl.below b1 Y0.drN.drN.al)
      | (replace Y0 := Cl.below b1 Y0.drN.drN.dr)
      | (replace Y0 := Cl.below b1 Y0.drN.drN.drN)
    have Y0_c := Y0.cell
    have Y0_f := Y0.free
    have Y0_l := Y0.lt
    dsimp only at Y0_l
    first
      | (replace Y1 := Cl.below b1 Y1)
      | (replace Y1 := Cl.below b1 Y1.al)
      | (replace Y1 := Cl.below b1 Y1.dr)
      | (replace Y1 := Cl.below b1 Y1.drN)
      | (replace Y1 := Cl.below b1 Y1.al.al)
      | (replace Y1 := Cl.below b1 Y1.al.dr)
      | (replace Y1 := Cl.below b1 Y1.al.drN)
      | (replace Y1 := Cl.below b1 Y1.dr.al)
      | (replace Y1 := Cl.below b1 Y1.dr.dr)
      | (replace Y1 := Cl.below b1 Y1.dr.drN)
      | (replace Y1 := Cl.below b1 Y1.drN.al)
      | (replace Y1 := Cl.below b1 Y1.drN.dr)
      | (replace Y1 := Cl.below b1 Y1.drN.drN)
      | (replace Y1 := Cl.below b1 Y1.al.al.al)
      | (replace Y1 := Cl.below b1 Y1.al.al.dr)
      | (replace Y1 := Cl.below b1 Y1.al.al.drN)
      | (replace Y1 := Cl.below b1 Y1.al.dr.al)
      | (replace Y1 := Cl.below b1 Y1.al.dr.dr)
      | (replace Y1 := Cl.below b1 Y1.al.dr.drN)
      | (replace Y1 := Cl.below b1 Y1.al.drN.al)
      | (replace Y1 := Cl.below b1 Y1.al.drN.dr)
      | (replace Y1 := Cl.below b1 Y1.al.drN.drN)
      | (replace Y1 := Cl.below b1 Y1.dr.al.al)
      | (replace Y1 := Cl.below b1 Y1.dr.al.dr)
      | (replace Y1 := Cl.below b1 Y1.dr.al.drN)
      | (replace Y1 := Cl.below b1 Y1.dr.dr.al)
      | (replace Y1 := Cl.below b1 Y1.dr.dr.dr)
      | (replace Y1 := Cl.below b1 Y1.dr.dr.drN)
      | (replace Y1 := Cl.below b1 Y1.dr.drN.al)
      | (replace Y1 := Cl.below b1 Y1.dr.drN.dr)
      | (replace Y1 := Cl.below b1 Y1.dr.drN.drN)
      | (replace Y1 := Cl.below b1 Y1.drN.al.al)
      | (replace Y1 := Cl.below b1 Y1.drN.al.dr)
      | (replace Y1 := Cl.below b1 Y1.drN.al.drN)
      | (replace Y1 := Cl.below b1 Y1.drN.dr.al)
      | (replace Y1 := Cl.below b1 Y1.drN.dr.dr)
      | (replace Y1 := Cl.below b1 Y1.drN.dr.drN)
      | (replace Y1 := Cl.below b1 Y1.drN.drN.al)
      | (replace Y1 := Cl.below b1 Y1.drN.drN.dr)
      | (replace Y1 := Cl.below b1 Y1.drN.drN.drN)
    have Y1_c := Y1.cell
    have Y1_f := Y1.free
    have Y1_l := Y1.lt
    dsimp only at Y1_l
    obtain ⟨N0, n0c, N1, n1c, rfl, _, _, _, _, _, _⟩ := VDisk.open d1
    replace d1 := hid d1.now
    go_wp2_with fail
    refine (disk_LoadAny _ D1 at0 _ (hdc.out.below (by repeat (first | exact Below.refl _ _ | (with_reducible assumption) | refine below_alloc ?_ _ | refine pw_below_drewN ?_ _ | refine below_drew ?_ | refine Below.setCell ?_ (by dsimp only; omega) _ | refine below_step ?_ (by assumption))))).mono ?_
    rintro e w2 ⟨rfl, b2⟩
    rw [hLd.out]
    have sz2 := b2.size
    simp only [World.size_alloc] at sz2
    first
      | (replace Y0 := Cl.below b2 Y0)
      | (replace Y0 := Cl.below b2 Y0.al)
      | (replace Y0 := Cl.below b2 Y0.dr)
      | (replace Y0 := Cl.below b2 Y0.drN)
      | (replace Y0 := Cl.below b2 Y0.al.al)
      | (replace Y0 := Cl.below b2 Y0.al.dr)
      | (replace Y0 := Cl.below b2 Y0.al.drN)
      | (replace Y0 := Cl.below b2 Y0.dr.al)
      | (replace Y0 := Cl.below b2 Y0.dr.dr)
      | (replace Y0 := Cl.below b2 Y0.dr.drN)
      | (replace Y0 := Cl.below b2 Y0.drN.al)
      | (replace Y0 := Cl.below b2 Y0.drN.dr)
      | (replace Y0 := Cl.below b2 Y0.drN.drN)
      | (replace Y0 := Cl.below b2 Y0.al.al.al)
      | (replace Y0 := Cl.below b2 Y0.al.al.dr)
      | (replace Y0 := Cl.below b2 Y0.al.al.drN)
      | (replace Y0 := Cl.below b2 Y0.al.dr.al)
      | (replace Y0 := Cl.below b2 Y0.al.dr.dr)
      | (replace Y0 := Cl.below b2 Y0.al.dr.drN)
      | (replace Y0 := Cl.below b2 Y0.al.drN.al)
      | (replace Y0 := Cl.below b2 Y0.al.drN.dr)
      | (replace Y0 := Cl.below b2 Y0.al.drN.drN)
      | (replace Y0 := Cl.below b2 Y0.dr.al.al)
      | (replace Y0 := Cl.below b2 Y0.dr.al.dr)
      | (replace Y0 := Cl.below b2 Y0.dr.al.drN)
      | (replace Y0 := Cl.below b2 Y0.dr.dr.al)
      | (replace Y0 := Cl.below b2 Y0.dr.dr.dr)
      | (replace Y0 := Cl.below b2 Y0.dr.dr.drN)
      | (replace Y0 := Cl.below b2 Y0.dr.drN.al)
      | (replace Y0 := Cl.below b2 Y0.dr.drN.dr)
      | (replace Y0 := Cl.below b2 Y0.dr.drN.drN)
      | (replace Y0 := Cl.below b2 Y0.drN.al.al)
      | (replace Y0 := Cl.below b2 Y0.drN.al.dr)
      | (replace Y0 := Cl.below b2 Y0.drN.al.drN)
      | (replace Y0 := Cl.below b2 Y0.drN.dr.al)
      | (replace Y0 := Cl.below b2 Y0.drN.dr.dr)
      | (replace Y0 := Cl.below b2 Y0.drN.dr.drN)
      | (replace Y0 := Cl.below b2 Y0.drN.drN.al)
      | (replace Y0 := Cl.below b2 Y0.drN.drN.dr)
      | (replace Y0 := Cl.below b2 Y0.drN.drN.drN)
    have Y0_c := Y0.cell
    have Y0_f := Y0.free
    have Y0_l := Y0.lt
    dsimp only at Y0_l
    first
      | (replace Y1 := Cl.below b2 Y1)
      | (replace Y1 := Cl.below b2 Y1.al)
      | (replace Y1 := Cl.below b2 Y1.dr)
      | (replace Y1 := Cl.below b2 Y1.drN)
      | (replace Y1 := Cl.below b2 Y1.al.al)
      | (replace Y1 := Cl.below b2 Y1.al.dr)
      | (replace Y1 := Cl.below b2 Y1.al.drN)
      | (replace Y1 := Cl.below b2 Y1.dr.al)
      | (replace Y1 := Cl.below b2 Y1.dr.dr)
      | (replace Y1 := Cl.below b2 Y1.dr.drN)
      | (replace Y1 := Cl.below b2 Y1.drN.al)
      | (replace Y1 := Cl.below b2 Y1.drN.dr)
      | (replace Y1 := Cl.below b2 Y1.drN.drN)
      | (replace Y1 := Cl.below b2 Y1.al.al.al)
      | (replace Y1 := Cl.below b2 Y1.al.al.dr)
      | (replace Y1 := Cl.below b2 Y1.al.al.drN)
      | (replace Y1 := Cl.below b2 Y1.al.dr.al)
      | (replace Y1 := Cl.below b2 Y1.al.dr.dr)
      | (replace Y1 := Cl.below b2 Y1.al.dr.drN)
      | (replace Y1 := Cl.below b2 Y1.al.drN.al)
      | (replace Y1 := Cl.below b2 Y1.al.drN.dr)
      | (replace Y1 := Cl.below b2 Y1.al.drN.drN)
      | (replace Y1 := Cl.below b2 Y1.dr.al.al)
      | (replace Y1 := Cl.below b2 Y1.dr.al.dr)
      | (replace Y1 := Cl.below b2 Y1.dr.al.drN)
      | (replace Y1 := Cl.below b2 Y1.dr.dr.al)
      | (replace Y1 := Cl.below b2 Y1.dr.dr.dr)
      | (replace Y1 := Cl.below b2 Y1.dr.dr.drN)
      | (replace Y1 := Cl.below b2 Y1.dr.drN.al)
      | (replace Y1 := Cl.below b2 Y1.dr.drN.dr)
      | (replace Y1 := Cl.below b2 Y1.dr.drN.drN)
      | (replace Y1 := Cl.below b2 Y1.drN.al.al)
      | (replace Y1 := Cl.below b2 Y1.drN.al.dr)
      | (replace Y1 := Cl.below b2 Y1.drN.al.drN)
      | (replace Y1 := Cl.below b2 Y1.drN.dr.al)
      | (replace Y1 := Cl.below b2 Y1.drN.dr.dr)
      | (replace Y1 := Cl.below b2 Y1.drN.dr.drN)
      | (replace Y1 := Cl.below b2 Y1.drN.drN.al)
      | (replace Y1 := Cl.below b2 Y1.drN.drN.dr)
      | (replace Y1 := Cl.below b2 Y1.drN.drN.drN)
    have Y1_c := Y1.cell
    have Y1_f := Y1.free
    have Y1_l := Y1.lt
    dsimp only at Y1_l
    have N0' : Cl w2 ⟨w1.heap.size, 0, none⟩ (.slice N0 DN.f0.length n0c) := Cl.below b2 (Cl.new (j := 0) rfl)
    have N1' : Cl w2 ⟨w1.heap.size, 1, none⟩ (.slice N1 DN.f1.length n1c) := Cl.below b2 (Cl.new (j := 1) rfl)
    go_wp2_with fail
    refine Calls.mono (disk_Save (fun _ => False) _ _ D1 l _ (fun _ h => h.elim) (St.start fun w9 hb9 => (hdc.out.below (by repeat (first | exact Below.refl _ _ | (with_reducible assumption) | refine below_alloc ?_ _ | refine pw_below_drewN ?_ _ | refine below_drew ?_ | refine Below.setCell ?_ (by dsimp only; omega) _ | refine below_step ?_ (by assumption)))).below hb9) (St.start fun w9 hb9 => (SlV.below ⟨L, el, rfl, hll, Kd.C_below hL1.out (by repeat (first | exact Below.refl _ _ | (with_reducible assumption) | refine below_alloc ?_ _ | refine pw_below_drewN ?_ _ | refine below_drew ?_ | refine Below.setCell ?_ (by dsimp only; omega) _ | refine below_step ?_ (by assumption)))⟩ hb9)) (by omega)) ?_
    rintro e w3 ⟨⟨r3, rfl, d3⟩, b3⟩
    rw [hP.out] at d3
    rw [hP.out]
    have sz3 := b3.size
    first
      | (replace Y0 := Cl.below b3 Y0)
      | (replace Y0 := Cl.below b3 Y0.al)
      | (replace Y0 := Cl.below b3 Y0.dr)
      | (replace Y0 := Cl.below b3 Y0.drN)
      | (replace Y0 := Cl.below b3 Y0.al.al)
      | (replace Y0 := Cl.below b3 Y0.al.dr)
      | (replace Y0 := Cl.below b3 Y0.al.drN)
      | (replace Y0 := Cl.below b3 Y0.dr.al)
      | (replace Y0 := Cl.below b3 Y0.dr.dr)
      | (replace Y0 := Cl.below b3 Y0.dr.drN)
      | (replace Y0 := Cl.below b3 Y0.drN.al)
      | (replace Y0 := Cl.below b3 Y0.drN.dr)
      | (replace Y0 := Cl.below b3 Y0.drN.drN)
      | (replace Y0 := Cl.below b3 Y0.al.al.al)
      | (replace Y0 := Cl.below b3 Y0.al.al.dr)
      | (replace Y0 := Cl.below b3 Y0.al.al.drN)
      | (replace Y0 := Cl.below b3 Y0.al.dr.al)
      | (replace Y0 := Cl.below b3 Y0.al.dr.dr)
      | (replace Y0 := Cl.below b3 Y0.al.dr.drN)
      | (replace Y0 := Cl.below b3 Y0.al.drN.al)
      | (replace Y0 := Cl.below b3 Y0.al.drN.dr)
      | (replace Y0 := Cl.below b3 Y0.al.drN.drN)
      | (replace Y0 := Cl.below b3 Y0.dr.al.al)
      | (replace Y0 := Cl.below b3 Y0.dr.al.dr)
      | (replace Y0 := Cl.below b3 Y0.dr.al.drN)
      | (replace Y0 := Cl.below b3 Y0.dr.dr.al)
      | (replace Y0 := Cl.below b3 Y0.dr.dr.dr)
      | (replace Y0 := Cl.below b3 Y0.dr.dr.drN)
      | (replace Y0 := Cl.below b3 Y0.dr.drN.al)
      | (replace Y0 := Cl.below b3 Y0.dr.drN.dr)
      | (replace Y0 := Cl.below b3 Y0.dr.drN.drN)
      | (replace Y0 := Cl.below b3 Y0.drN.al.al)
      | (replace Y0 := Cl.below b3 Y0.drN.al.dr)
      | (replace Y0 := Cl.below b3 Y0.drN.al.drN)
      | (replace Y0 := Cl.below b3 Y0.drN.dr.al)
      | (replace Y0 := Cl.below b3 Y0.drN.dr.dr)
      | (replace Y0 := Cl.below b3 Y0.drN.dr.drN)
      | (replace Y0 := Cl.below b3 Y0.drN.drN.al)
      | (replace Y0 := Cl.below b3 Y0.drN.drN.dr)
      | (replace Y0 := Cl.below b3 Y0.drN.drN.drN)
    have Y0_c := Y0.cell
    have Y0_f := Y0.free
    have Y0_l := Y0.lt
    dsimp only at Y0_l
    first
      | (replace Y1 := Cl.below b3 Y1)
      | (replace Y1 := Cl.below b3 Y1.al)
      | (replace Y1 := Cl.below b3 Y1.dr)
      | (replace Y1 := Cl.below b3 Y1.drN)
      | (replace Y1 := Cl.below b3 Y1.al.al)
      | (replace Y1 := Cl.below b3 Y1.al.dr)
      | (replace Y1 := Cl.below b3 Y1.al.drN)
      | (replace Y1 := Cl.below b3 Y1.dr.al)
      | (replace Y1 := Cl.below b3 Y1.dr.dr)
      | (replace Y1 := Cl.below b3 Y1.dr.drN)
      | (replace Y1 := Cl.below b3 Y1.drN.al)
      | (replace Y1 := Cl.below b3 Y1.drN.dr)
      | (replace Y1 := Cl.below b3 Y1.drN.drN)
      | (replace Y1 := Cl.below b3 Y1.al.al.al)
      | (replace Y1 := Cl.below b3 Y1.al.al.dr)
      | (replace Y1 := Cl.below b3 Y1.al.al.drN)
      | (replace Y1 := Cl.below b3 Y1.al.dr.al)
      | (replace Y1 := Cl.below b3 Y1.al.dr.dr)
      | (replace Y1 := Cl.below b3 Y1.al.dr.drN)
      | (replace Y1 := Cl.below b3 Y1.al.drN.al)
      | (replace Y1 := Cl.below b3 Y1.al.drN.dr)
      | (replace Y1 := Cl.below b3 Y1.al.drN.drN)
      | (replace Y1 := Cl.below b3 Y1.dr.al.al)
      | (replace Y1 := Cl.below b3 Y1.dr.al.dr)
      | (replace Y1 := Cl.below b3 Y1.dr.al.drN)
      | (replace Y1 := Cl.below b3 Y1.dr.dr.al)
      | (replace Y1 := Cl.below b3 Y1.dr.dr.dr)
      | (replace Y1 := Cl.below b3 Y1.dr.dr.drN)
      | (replace Y1 := Cl.below b3 Y1.dr.drN.al)
      | (replace Y1 := Cl.below b3 Y1.dr.drN.dr)
      | (replace Y1 := Cl.below b3 Y1.dr.drN.drN)
      | (replace Y1 := Cl.below b3 Y1.drN.al.al)
      | (replace Y1 := Cl.below b3 Y1.drN.al.dr)
      | (replace Y1 := Cl.below b3 Y1.drN.al.drN)
      | (replace Y1 := Cl.below b3 Y1.drN.dr.al)
      | (replace Y1 := Cl.below b3 Y1.drN.dr.dr)
      | (replace Y1 := Cl.below b3 Y1.drN.dr.drN)
      | (replace Y1 := Cl.below b3 Y1.drN.drN.al)
      | (replace Y1 := Cl.below b3 Y1.drN.drN.dr)
      | (replace Y1 := Cl.below b3 Y1.drN.drN.drN)
    have Y1_c := Y1.cell
    have Y1_f := Y1.free
    have Y1_l := Y1.lt
    dsimp only at Y1_l
    first
      | (replace N0' := Cl.below b3 N0')
      | (replace N0' := Cl.below b3 N0'.al)
      | (replace N0' := Cl.below b3 N0'.dr)
      | (replace N0' := Cl.below b3 N0'.drN)
      | (replace N0' := Cl.below b3 N0'.al.al)
      | (replace N0' := Cl.below b3 N0'.al.dr)
      | (replace N0' := Cl.below b3 N0'.al.drN)
      | (replace N0' := Cl.below b3 N0'.dr.al)
      | (replace N0' := Cl.below b3 N0'.dr.dr)
      | (replace N0' := Cl.below b3 N0'.dr.drN)
      | (replace N0' := Cl.below b3 N0'.drN.al)
      | (replace N0' := Cl.below b3 N0'.drN.dr)
      | (replace N0' := Cl.below b3 N0'.drN.drN)
      | (replace N0' := Cl.below b3 N0'.al.al.al)
      | (replace N0' := Cl.below b3 N0'.al.al.dr)
      | (replace N0' := Cl.below b3 N0'.al.al.drN)
      | (replace N0' := Cl.below b3 N0'.al.dr.al)
      | (replace N0' := Cl.below b3 N0'.al.dr.dr)
      | (replace N0' := Cl.below b3 N0'.al.dr.drN)
      | (replace N0' := Cl.below b3 N0'.al.drN.al)
      | (replace N0' := Cl.below b3 N0'.al.drN.dr)
      | (replace N0' := Cl.below b3 N0'.al.drN.drN)
      | (replace N0' := Cl.below b3 N0'.dr.al.al)
      | (replace N0' := Cl.below b3 N0'.dr.al.dr)
      | (replace N0' := Cl.below b3 N0'.dr.al.drN)
      | (replace N0' := Cl.below b3 N0'.dr.dr.al)
      | (replace N0' := Cl.below b3 N0'.dr.dr.dr)
      | (replace N0' := Cl.below b3 N0'.dr.dr.drN)
      | (replace N0' := Cl.below b3 N0'.dr.drN.al)
      | (replace N0' := Cl.below b3 N0'.dr.drN.dr)
      | (replace N0' := Cl.below b3 N0'.dr.drN.drN)
      | (replace N0' := Cl.below b3 N0'.drN.al.al)
      | (replace N0' := Cl.below b3 N0'.drN.al.dr)
      | (replace N0' := Cl.below b3 N0'.drN.al.drN)
      | (replace N0' := Cl.below b3 N0'.drN.dr.al)
      | (replace N0' := Cl.below b3 N0'.drN.dr.dr)
      | (replace N0' := Cl.below b3 N0'.drN.dr.drN)
      | (replace N0' := Cl.below b3 N0'.drN.drN.al)
      | (replace N0' := Cl.below b3 N0'.drN.drN.dr)
      | (replace N0' := Cl.below b3 N0'.drN.drN.drN)
    have N0'_c := N0'.cell
    have N0'_f := N0'.free
    have N0'_l := N0'.lt
    dsimp only at N0'_l
    first
      | (replace N1' := Cl.below b3 N1')
      | (replace N1' := Cl.below b3 N1'.al)
      | (replace N1' := Cl.below b3 N1'.dr)
      | (replace N1' := Cl.below b3 N1'.drN)
      | (replace N1' := Cl.below b3 N1'.al.al)
      | (replace N1' := Cl.below b3 N1'.al.dr)
      | (replace N1' := Cl.below b3 N1'.al.drN)
      | (replace N1' := Cl.below b3 N1'.dr.al)
      | (replace N1' := Cl.below b3 N1'.dr.dr)
      | (replace N1' := Cl.below b3 N1'.dr.drN)
      | (replace N1' := Cl.below b3 N1'.drN.al)
      | (replace N1' := Cl.below b3 N1'.drN.dr)
      | (replace N1' := Cl.below b3 N1'.drN.drN)
      | (replace N1' := Cl.below b3 N1'.al.al.al)
      | (replace N1' := Cl.below b3 N1'.al.al.dr)
      | (replace N1' := Cl.below b3 N1'.al.al.drN)
      | (replace N1' := Cl.below b3 N1'.al.dr.al)
      | (replace N1' := Cl.below b3 N1'.al.dr.dr)
      | (replace N1' := Cl.below b3 N1'.al.dr.drN)
      | (replace N1' := Cl.below b3 N1'.al.drN.al)
      | (replace N1' := Cl.below b3 N1'.al.drN.dr)
      | (replace N1' := Cl.below b3 N1'.al.drN.drN)
      | (replace N1' := Cl.below b3 N1'.dr.al.al)
      | (replace N1' := Cl.below b3 N1'.dr.al.dr)
      | (replace N1' := Cl.below b3 N1'.dr.al.drN)
      | (replace N1' := Cl.below b3 N1'.dr.dr.al)
      | (replace N1' := Cl.below b3 N1'.dr.dr.dr)
      | (replace N1' := Cl.below b3 N1'.dr.dr.drN)
      | (replace N1' := Cl.below b3 N1'.dr.drN.al)
      | (replace N1' := Cl.below b3 N1'.dr.drN.dr)
      | (replace N1' := Cl.below b3 N1'.dr.drN.drN)
      | (replace N1' := Cl.below b3 N1'.drN.al.al)
      | (replace N1' := Cl.below b3 N1'.drN.al.dr)
      | (replace N1' := Cl.below b3 N1'.drN.al.drN)
      | (replace N1' := Cl.below b3 N1'.drN.dr.al)
      | (replace N1' := Cl.below b3 N1'.drN.dr.dr)
      | (replace N1' := Cl.below b3 N1'.drN.dr.drN)
      | (replace N1' := Cl.below b3 N1'.drN.drN.al)
      | (replace N1' := Cl.below b3 N1'.drN.drN.dr)
      | (replace N1' := Cl.below b3 N1'.drN.drN.drN)
    have N1'_c := N1'.cell
    have N1'_f := N1'.free
    have N1'_l := N1'.lt
    dsimp only at N1'_l
    obtain ⟨P0, p0c, P1, p1c, rfl, _, _, _, _, _, _⟩ := VDisk.open d3
    replace d3 := hid d3.now
    have P0' : Cl (w3.alloc (.cells #[.slice P0 DP.f0.length p0c, .slice P1 DP.f1.length p1c] 25)) ⟨w3.heap.size, 0, none⟩ (.slice P0 DP.f0.length p0c) := Cl.new rfl
    have P1' : Cl (w3.alloc (.cells #[.slice P0 DP.f0.length p0c, .slice P1 DP.f1.length p1c] 25)) ⟨w3.heap.size, 1, none⟩ (.slice P1 DP.f1.length p1c) := Cl.new rfl
    go_wp2_with fail
    refine Calls.mono (disk_Flush (fun _ => False) _ D1 _ (fun _ h => h.elim) (St.start fun w9 hb9 => (hdc.out.below (by repeat (first | exact Below.refl _ _ | (with_reducible assumption) | refine below_alloc ?_ _ | refine pw_below_drewN ?_ _ | refine below_drew ?_ | refine Below.setCell ?_ (by dsimp only; omega) _ | refine below_step ?_ (by assumption)))).below hb9)) ?_
    rintro e w4 ⟨⟨r4, rfl, d4⟩, b4⟩
    rw [hY.out] at d4
    rw [hY.out]
    have sz4 := b4.size
    simp only [World.size_alloc] at sz4
    first
      | (replace Y0 := Cl.below b4 Y0)
      | (replace Y0 := Cl.below b4 Y0.al)
      | (replace Y0 := Cl.below b4 Y0.dr)
      | (replace Y0 := Cl.below b4 Y0.drN)
      | (replace Y0 := Cl.below b4 Y0.al.al)
      | (replace Y0 := Cl.below b4 Y0.al.dr)
      | (replace Y0 := Cl.below b4 Y0.al.drN)
      | (replace Y0 := Cl.below b4 Y0.dr.al)
      | (replace Y0 := Cl.below b4 Y0.dr.dr)
      | (replace Y0 := Cl.below b4 Y0.dr.drN)
      | (replace Y0 := Cl.below b4 Y0.drN.al)
      | (replace Y0 := Cl.below b4 Y0.drN.dr)
      | (replace Y0 := Cl.below b4 Y0.drN.drN)
      | (replace Y0 := Cl.below b4 Y0.al.al.al)
      | (replace Y0 := Cl.below b4 Y0.al.al.dr)
      | (replace Y0 := Cl.below b4 Y0.al.al.drN)
      | (replace Y0 := Cl.below b4 Y0.al.dr.al)
      | (replace Y0 := Cl.below b4 Y0.al.dr.dr)
      | (replace Y0 := Cl.below b4 Y0.al.dr.drN)
      | (replace Y0 := Cl.below b4 Y0.al.drN.al)
      | (replace Y0 := Cl.below b4 Y0.al.drN.dr)
      | (replace Y0 := Cl.below b4 Y0.al.drN.drN)
      | (replace Y0 := Cl.below b4 Y0.dr.al.al)
      | (replace Y0 := Cl.below b4 Y0.dr.al.dr)
      | (replace Y0 := Cl.below b4 Y0.dr.al.drN)
      | (replace Y0 := Cl.below b4 Y0.dr.dr.al)
      | (replace Y0 := Cl.below b4 Y0.dr.dr.dr)
      | (replace Y0 := Cl.below b4 Y0.dr.dr.drN)
      | (replace Y0 := Cl.below b4 Y0.dr.drN.al)
      | (replace Y0 := Cl.below b4 Y0.dr.drN.dr)
      | (replace Y0 := Cl.below b4 Y0.dr.drN.drN)
      | (replace Y0 := Cl.below b4 Y0.drN.al.al)
      | (replace Y0 := Cl.below b4 Y0.drN.al.dr)
      | (replace Y0 := Cl.below b4 Y0.drN.al.drN)
      | (replace Y0 := Cl.below b4 Y0.drN.dr.al)
      | (replace Y0 := Cl.below b4 Y0.drN.dr.dr)
      | (replace Y0 := Cl.below b4 Y0.drN.dr.drN)
      | (replace Y0 := Cl.below b4 Y0.drN.drN.al)
      | (replace Y0 := Cl.below b4 Y0.drN.drN.dr)
      | (replace Y0 := Cl.below b4 Y0.drN.drN.drN)
    have Y0_c := Y0.cell
    have Y0_f := Y0.free
    have Y0_l := Y0.lt
    dsimp only at Y0_l
    first
      | (replace Y1 := Cl.below b4 Y1)
      | (replace Y1 := Cl.below b4 Y1.al)
      | (replace Y1 := Cl.below b4 Y1.dr)
      | (replace Y1 := Cl.below b4 Y1.drN)
      | (replace Y1 := Cl.below b4 Y1.al.al)
      | (replace Y1 := Cl.below b4 Y1.al.dr)
      | (replace Y1 := Cl.below b4 Y1.al.drN)
      | (replace Y1 := Cl.below b4 Y1.dr.al)
      | (replace Y1 := Cl.below b4 Y1.dr.dr)
      | (replace Y1 := Cl.below b4 Y1.dr.drN)
      | (replace Y1 := Cl.below b4 Y1.drN.al)
      | (replace Y1 := Cl.below b4 Y1.drN.dr)
      | (replace Y1 := Cl.below b4 Y1.drN.drN)
      | (replace Y1 := Cl.below b4 Y1.al.al.al)
      | (replace Y1 := Cl.below b4 Y1.al.al.dr)
      | (replace Y1 := Cl.below b4 Y1.al.al.drN)
      | (replace Y1 := Cl.below b4 Y1.al.dr.al)
      | (replace Y1 := Cl.below b4 Y1.al.dr.dr)
      | (replace Y1 := Cl.below b4 Y1.al.dr.drN)
      | (replace Y1 := Cl.below b4 Y1.al.drN.al)
      | (replace Y1 := Cl.below b4 Y1.al.drN.dr)
      | (replace Y1 := Cl.below b4 Y1.al.drN.drN)
      | (replace Y1 := Cl.below b4 Y1.dr.al.al)
      | (replace Y1 := Cl.below b4 Y1.dr.al.dr)
      | (replace Y1 := Cl.below b4 Y1.dr.al.drN)
      | (replace Y1 := Cl.below b4 Y1.dr.dr.al)
      | (replace Y1 := Cl.below b4 Y1.dr.dr.dr)
      | (replace Y1 := Cl.below b4 Y1.dr.dr.drN)
      | (replace Y1 := Cl.below b4 Y1.dr.drN.al)
      | (replace Y1 := Cl.below b4 Y1.dr.drN.dr)
      | (replace Y1 := Cl.below b4 Y1.dr.drN.drN)
      | (replace Y1 := Cl.below b4 Y1.drN.al.al)
      | (replace Y1 := Cl.below b4 Y1.drN.al.dr)
      | (replace Y1 := Cl.below b4 Y1.drN.al.drN)
      | (replace Y1 := Cl.below b4 Y1.drN.dr.al)
      | (replace Y1 := Cl.below b4 Y1.drN.dr.dr)
      | (replace Y1 := Cl.below b4 Y1.drN.dr.drN)
      | (replace Y1 := Cl.below b4 Y1.drN.drN.al)
      | (replace Y1 := Cl.below b4 Y1.drN.drN.dr)
      | (replace Y1 := Cl.below b4 Y1.drN.drN.drN)
    have Y1_c := Y1.cell
    have Y1_f := Y1.free
    have Y1_l := Y1.lt
    dsimp only at Y1_l
    first
      | (replace N0' := Cl.below b4 N0')
      | (replace N0' := Cl.below b4 N0'.al)
      | (replace N0' := Cl.below b4 N0'.dr)
      | (replace N0' := Cl.below b4 N0'.drN)
      | (replace N0' := Cl.below b4 N0'.al.al)
      | (replace N0' := Cl.below b4 N0'.al.dr)
      | (replace N0' := Cl.below b4 N0'.al.drN)
      | (replace N0' := Cl.below b4 N0'.dr.al)
      | (replace N0' := Cl.below b4 N0'.dr.dr)
      | (replace N0' := Cl.below b4 N0'.dr.drN)
      | (replace N0' := Cl.below b4 N0'.drN.al)
      | (replace N0' := Cl.below b4 N0'.drN.dr)
      | (replace N0' := Cl.below b4 N0'.drN.drN)
      | (replace N0' := Cl.below b4 N0'.al.al.al)
      | (replace N0' := Cl.below b4 N0'.al.al.dr)
      | (replace N0' := Cl.below b4 N0'.al.al.drN)
      | (replace N0' := Cl.below b4 N0'.al.dr.al)
      | (replace N0' := Cl.below b4 N0'.al.dr.dr)
      | (replace N0' := Cl.below b4 N0'.al.dr.drN)
      | (replace N0' := Cl.below b4 N0'.al.drN.al)
      | (replace N0' := Cl.below b4 N0'.al.drN.dr)
      | (replace N0' := Cl.below b4 N0'.al.drN.drN)
      | (replace N0' := Cl.below b4 N0'.dr.al.al)
      | (replace N0' := Cl.below b4 N0'.dr.al.dr)
      | (replace N0' := Cl.below b4 N0'.dr.al.drN)
      | (replace N0' := Cl.below b4 N0'.dr.dr.al)
      | (replace N0' := Cl.below b4 N0'.dr.dr.dr)
      | (replace N0' := Cl.below b4 N0'.dr.dr.drN)
      | (replace N0' := Cl.below b4 N0'.dr.drN.al)
      | (replace N0' := Cl.below b4 N0'.dr.drN.dr)
      | (replace N0' := Cl.below b4 N0'.dr.drN.drN)
      | (replace N0' := Cl.below b4 N0'.drN.al.al)
      | (replace N0' := Cl.below b4 N0'.drN.al.dr)
      | (replace N0' := Cl.below b4 N0'.drN.al.drN)
      | (replace N0' := Cl.below b4 N0'.drN.dr.al)
      | (replace N0' := Cl.below b4 N0'.drN.dr.dr)
      | (replace N0' := Cl.below b4 N0'.drN.dr.drN)
      | (replace N0' := Cl.below b4 N0'.drN.drN.al)
      | (replace N0' := Cl.below b4 N0'.drN.drN.dr)
      | (replace N0' := Cl.below b4 N0'.drN.drN.drN)
    have N0'_c := N0'.cell
    have N0'_f := N0'.free
    have N0'_l := N0'.lt
    dsimp only at N0'_l
    first
      | (replace N1' := Cl.below b4 N1')
      | (replace N1' := Cl.below b4 N1'.al)
      | (replace N1' := Cl.below b4 N1'.dr)
      | (replace N1' := Cl.below b4 N1'.drN)
      | (replace N1' := Cl.below b4 N1'.al.al)
      | (replace N1' := Cl.below b4 N1'.al.dr)
      | (replace N1' := Cl.below b4 N1'.al.drN)
      | (replace N1' := Cl.below b4 N1'.dr.al)
      | (replace N1' := Cl.below b4 N1'.dr.dr)
      | (replace N1' := Cl.below b4 N1'.dr.drN)
      | (replace N1' := Cl.below b4 N1'.drN.al)
      | (replace N1' := Cl.below b4 N1'.drN.dr)
      | (replace N1' := Cl.below b4 N1'.drN.drN)
      | (replace N1' := Cl.below b4 N1'.al.al.al)
      | (replace N1' := Cl.below b4 N1'.al.al.dr)
      | (replace N1' := Cl.below b4 N1'.al.al.drN)
      | (replace N1' := Cl.below b4 N1'.al.dr.al)
      | (replace N1' := Cl.below b4 N1'.al.dr.dr)
      | (replace N1' := Cl.below b4 N1'.al.dr.drN)
      | (replace N1' := Cl.below b4 N1'.al.drN.al)
      | (replace N1' := Cl.below b4 N1'.al.drN.dr)
      | (replace N1' := Cl.below b4 N1'.al.drN.drN)
      | (replace N1' := Cl.below b4 N1'.dr.al.al)
      | (replace N1' := Cl.below b4 N1'.dr.al.dr)
      | (replace N1' := Cl.below b4 N1'.dr.al.drN)
      | (replace N1' := Cl.below b4 N1'.dr.dr.al)
      | (replace N1' := Cl.below b4 N1'.dr.dr.dr)
      | (replace N1' := Cl.below b4 N1'.dr.dr.drN)
      | (replace N1' := Cl.below b4 N1'.dr.drN.al)
      | (replace N1' := Cl.below b4 N1'.dr.drN.dr)
      | (replace N1' := Cl.below b4 N1'.dr.drN.drN)
      | (replace N1' := Cl.below b4 N1'.drN.al.al)
      | (replace N1' := Cl.below b4 N1'.drN.al.dr)
      | (replace N1' := Cl.below b4 N1'.drN.al.drN)
      | (replace N1' := Cl.below b4 N1'.drN.dr.al)
      | (replace N1' := Cl.below b4 N1'.drN.dr.dr)
      | (replace N1' := Cl.below b4 N1'.drN.dr.drN)
      | (replace N1' := Cl.below b4 N1'.drN.drN.al)
      | (replace N1' := Cl.below b4 N1'.drN.drN.dr)
      | (replace N1' := Cl.below b4 N1'.drN.drN.drN)
    have N1'_c := N1'.cell
    have N1'_f := N1'.free
    have N1'_l := N1'.lt
    dsimp only at N1'_l
    first
      | (replace P0' := Cl.below b4 P0')
      | (replace P0' := Cl.below b4 P0'.al)
      | (replace P0' := Cl.below b4 P0'.dr)
      | (replace P0' := Cl.below b4 P0'.drN)
      | (replace P0' := Cl.below b4 P0'.al.al)
      | (replace P0' := Cl.below b4 P0'.al.dr)
      | (replace P0' := Cl.below b4 P0'.al.drN)
      | (replace P0' := Cl.below b4 P0'.dr.al)
      | (replace P0' := Cl.below b4 P0'.dr.dr)
      | (replace P0' := Cl.below b4 P0'.dr.drN)
      | (replace P0' := Cl.below b4 P0'.drN.al)
      | (replace P0' := Cl.below b4 P0'.drN.dr)
      | (replace P0' := Cl.below b4 P0'.drN.drN)
      | (replace P0' := Cl.below b4 P0'.al.al.al)
      | (replace P0' := Cl.below b4 P0'.al.al.dr)
      | (replace P0' := Cl.below b4 P0'.al.al.drN)
      | (replace P0' := Cl.below b4 P0'.al.dr.al)
      | (replace P0' := Cl.below b4 P0'.al.dr.dr)
      | (replace P0' := Cl.below b4 P0'.al.dr.drN)
      | (replace P0' := Cl.below b4 P0'.al.drN.al)
      | (replace P0' := Cl.below b4 P0'.al.drN.dr)
      | (replace P0' := Cl.below b4 P0'.al.drN.drN)
      | (replace P0' := Cl.below b4 P0'.dr.al.al)
      | (replace P0' := Cl.below b4 P0'.dr.al.dr)
      | (replace P0' := Cl.below b4 P0'.dr.al.drN)
      | (replace P0' := Cl.below b4 P0'.dr.dr.al)
      | (replace P0' := Cl.below b4 P0'.dr.dr.dr)
      | (replace P0' := Cl.below b4 P0'.dr.dr.drN)
      | (replace P0' := Cl.below b4 P0'.dr.drN.al)
      | (replace P0' := Cl.below b4 P0'.dr.drN.dr)
      | (replace P0' := Cl.below b4 P0'.dr.drN.drN)
      | (replace P0' := Cl.below b4 P0'.drN.al.al)
      | (replace P0' := Cl.below b4 P0'.drN.al.dr)
      | (replace P0' := Cl.below b4 P0'.drN.al.drN)
      | (replace P0' := Cl.below b4 P0'.drN.dr.al)
      | (replace P0' := Cl.below b4 P0'.drN.dr.dr)
      | (replace P0' := Cl.below b4 P0'.drN.dr.drN)
      | (replace P0' := Cl.below b4 P0'.drN.drN.al)
      | (replace P0' := Cl.below b4 P0'.drN.drN.dr)
      | (replace P0' := Cl.below b4 P0'.drN.drN.drN)
    have P0'_c := P0'.cell
    have P0'_f := P0'.free
    have P0'_l := P0'.lt
    dsimp only at P0'_l
    first
      | (replace P1' := Cl.below b4 P1')
      | (replace P1' := Cl.below b4 P1'.al)
      | (replace P1' := Cl.below b4 P1'.dr)
      | (replace P1' := Cl.below b4 P1'.drN)
      | (replace P1' := Cl.below b4 P1'.al.al)
      | (replace P1' := Cl.below b4 P1'.al.dr)
      | (replace P1' := Cl.below b4 P1'.al.drN)
      | (replace P1' := Cl.below b4 P1'.dr.al)
      | (replace P1' := Cl.below b4 P1'.dr.dr)
      | (replace P1' := Cl.below b4 P1'.dr.drN)
      | (replace P1' := Cl.below b4 P1'.drN.al)
      | (replace P1' := Cl.below b4 P1'.drN.dr)
      | (replace P1' := Cl.below b4 P1'.drN.drN)
      | (replace P1' := Cl.below b4 P1'.al.al.al)
      | (replace P1' := Cl.below b4 P1'.al.al.dr)
      | (replace P1' := Cl.below b4 P1'.al.al.drN)
      | (replace P1' := Cl.below b4 P1'.al.dr.al)
      | (replace P1' := Cl.below b4 P1'.al.dr.dr)
      | (replace P1' := Cl.below b4 P1'.al.dr.drN)
      | (replace P1' := Cl.below b4 P1'.al.drN.al)
      | (replace P1' := Cl.below b4 P1'.al.drN.dr)
      | (replace P1' := Cl.below b4 P1'.al.drN.drN)
      | (replace P1' := Cl.below b4 P1'.dr.al.al)
      | (replace P1' := Cl.below b4 P1'.dr.al.dr)
      | (replace P1' := Cl.below b4 P1'.dr.al.drN)
      | (replace P1' := Cl.below b4 P1'.dr.dr.al)
      | (replace P1' := Cl.below b4 P1'.dr.dr.dr)
      | (replace P1' := Cl.below b4 P1'.dr.dr.drN)
      | (replace P1' := Cl.below b4 P1'.dr.drN.al)
      | (replace P1' := Cl.below b4 P1'.dr.drN.dr)
      | (replace P1' := Cl.below b4 P1'.dr.drN.drN)
      | (replace P1' := Cl.below b4 P1'.drN.al.al)
      | (replace P1' := Cl.below b4 P1'.drN.al.dr)
      | (replace P1' := Cl.below b4 P1'.drN.al.drN)
      | (replace P1' := Cl.below b4 P1'.drN.dr.al)
      | (replace P1' := Cl.below b4 P1'.drN.dr.dr)
      | (replace P1' := Cl.below b4 P1'.drN.dr.drN)
      | (replace P1' := Cl.below b4 P1'.drN.drN.al)
      | (replace P1' := Cl.below b4 P1'.drN.drN.dr)
      | (replace P1' := Cl.below b4 P1'.drN.drN.drN)
    have P1'_c := P1'.cell
    have P1'_f := P1'.free
    have P1'_l := P1'.lt
    dsimp only at P1'_l
    obtain ⟨Q0, q0c, Q1, q1c, rfl, _, _, _, _, _, _⟩ := VDisk.open d4
    replace d4 := hid d4.now
    go_wp2_with fail
    refine Calls.mono (disk_Crash (fun _ => False) _ D1 F ef fs _ (fun _ h => h.elim) (St.start fun w9 hb9 => (hdc.out.below (by repeat (first | exact Below.refl _ _ | (with_reducible assumption) | refine below_alloc ?_ _ | refine pw_below_drewN ?_ _ | refine below_drew ?_ | refine Below.setCell ?_ (by dsimp only; omega) _ | refine below_step ?_ (by assumption)))).below hb9) (Kd.C_below hF.out (by repeat (first | exact Below.refl _ _ | (with_reducible assumption) | refine below_alloc ?_ _ | refine pw_below_drewN ?_ _ | refine below_drew ?_ | refine Below.setCell ?_ (by dsimp only; omega) _ | refine below_step ?_ (by assumption)))) lf) ?_
    rintro e w5 ⟨⟨r5, rfl, d5⟩, b5⟩
    rw [hC.out] at d5
    rw [hC.out]
    have sz5 := b5.size
    simp only [World.size_alloc] at sz5
    have Q0' : Cl w5 ⟨w4.heap.size, 0, none⟩ (.slice Q0 DY.f0.length q0c) := Cl.below b5 (Cl.new (j := 0) rfl)
    have Q1' : Cl w5 ⟨w4.heap.size, 1, none⟩ (.slice Q1 DY.f1.length q1c) := Cl.below b5 (Cl.new (j := 1) rfl)
    first
      | (replace Y0 := Cl.below b5 Y0)
      | (replace Y0 := Cl.below b5 Y0.al)
      | (replace Y0 := Cl.below b5 Y0.dr)
      | (replace Y0 := Cl.below b5 Y0.drN)
      | (replace Y0 := Cl.below b5 Y0.al.al)
      | (replace Y0 := Cl.below b5 Y0.al.dr)
      | (replace Y0 := Cl.below b5 Y0.al.drN)
      | (replace Y0 := Cl.below b5 Y0.dr.al)
      | (replace Y0 := Cl.below b5 Y0.dr.dr)
      | (replace Y0 := Cl.below b5 Y0.dr.drN)
      | (replace Y0 := Cl.below b5 Y0.drN.al)
      | (replace Y0 := Cl.below b5 Y0.drN.dr)
      | (replace Y0 := Cl.below b5 Y0.drN.drN)
      | (replace Y0 := Cl.below b5 Y0.al.al.al)
      | (replace Y0 := Cl.below b5 Y0.al.al.dr)
      | (replace Y0 := Cl.below b5 Y0.al.al.drN)
      | (replace Y0 := Cl.below b5 Y0.al.dr.al)
      | (replace Y0 := Cl.below b5 Y0.al.dr.dr)
      | (replace Y0 := Cl.below b5 Y0.al.dr.drN)
      | (replace Y0 := Cl.below b5 Y0.al.drN.al)
      | (replace Y0 := Cl.below b5 Y0.al.drN.dr)
      | (replace Y0 := Cl.below b5 Y0.al.drN.drN)
      | (replace Y0 := Cl.below b5 Y0.dr.al.al)
      | (replace Y0 := Cl.below b5 Y0.dr.al.dr)
      | (replace Y0 := Cl.below b5 Y0.dr.al.drN)
      | (replace Y0 := Cl.below b5 Y0.dr.dr.al)
      | (replace Y0 := Cl.below b5 Y0.dr.dr.dr)
      | (replace Y0 := Cl.below b5 Y0.dr.dr.drN)
      | (replace Y0 := Cl.below b5 Y0.dr.drN.al)
      | (replace Y0 := Cl.below b5 Y0.dr.drN.dr)
      | (replace Y0 := Cl.below b5 Y0.dr.drN.drN)
      | (replace Y0 := Cl.below b5 Y0.drN.al.al)
      | (replace Y0 := Cl.below b5 Y0.drN.al.dr)
      | (replace Y0 := Cl.below b5 Y0.drN.al.drN)
      | (replace Y0 := Cl.below b5 Y0.drN.dr.al)
      | (replace Y0 := Cl.below b5 Y0.drN.dr.dr)
      | (replace Y0 := Cl.below b5 Y0.drN.dr.drN)
      | (replace Y0 := Cl.below b5 Y0.drN.drN.al)
      | (replace Y0 := Cl.below b5 Y0.drN.drN.dr)
      | (replace Y0 := Cl.below b5 Y0.drN.drN.drN)
    have Y0_c := Y0.cell
    have Y0_f := Y0.free
    have Y0_l := Y0.lt
    dsimp only at Y0_l
    first
      | (replace Y1 := Cl.below b5 Y1)
      | (replace Y1 := Cl.below b5 Y1.al)
      | (replace Y1 := Cl.below b5 Y1.dr)
      | (replace Y1 := Cl.below b5 Y1.drN)
      | (replace Y1 := Cl.below b5 Y1.al.al)
      | (replace Y1 := Cl.below b5 Y1.al.dr)
      | (replace Y1 := Cl.below b5 Y1.al.drN)
      | (replace Y1 := Cl.below b5 Y1.dr.al)
      | (replace Y1 := Cl.below b5 Y1.dr.dr)
      | (replace Y1 := Cl.below b5 Y1.dr.drN)
      | (replace Y1 := Cl.below b5 Y1.drN.al)
      | (replace Y1 := Cl.below b5 Y1.drN.dr)
      | (replace Y1 := Cl.below b5 Y1.drN.drN)
      | (replace Y1 := Cl.below b5 Y1.al.al.al)
      | (replace Y1 := Cl.below b5 Y1.al.al.dr)
      | (replace Y1 := Cl.below b5 Y1.al.al.drN)
      | (replace Y1 := Cl.below b5 Y1.al.dr.al)
      | (replace Y1 := Cl.below b5 Y1.al.dr.dr)
      | (replace Y1 := Cl.below b5 Y1.al.dr.drN)
      | (replace Y1 := Cl.below b5 Y1.al.drN.al)
      | (replace Y1 := Cl.below b5 Y1.al.drN.dr)
      | (replace Y1 := Cl.below b5 Y1.al.drN.drN)
      | (replace Y1 := Cl.below b5 Y1.dr.al.al)
      | (replace Y1 := Cl.below b5 Y1.dr.al.dr)
      | (replace Y1 := Cl.below b5 Y1.dr.al.drN)
      | (replace Y1 := Cl.below b5 Y1.dr.dr.al)
      | (replace Y1 := Cl.below b5 Y1.dr.dr.dr)
      | (replace Y1 := Cl.below b5 Y1.dr.dr.drN)
      | (replace Y1 := Cl.below b5 Y1.dr.drN.al)
      | (replace Y1 := Cl.below b5 Y1.dr.drN.dr)
      | (replace Y1 := Cl.below b5 Y1.dr.drN.drN)
      | (replace Y1 := Cl.below b5 Y1.drN.al.al)
      | (replace Y1 := Cl.below b5 Y1.drN.al.dr)
      | (replace Y1 := Cl.below b5 Y1.drN.al.drN)
      | (replace Y1 := Cl.below b5 Y1.drN.dr.al)
      | (replace Y1 := Cl.below b5 Y1.drN.dr.dr)
      | (replace Y1 := Cl.below b5 Y1.drN.dr.drN)
      | (replace Y1 := Cl.below b5 Y1.drN.drN.al)
      | (replace Y1 := Cl.below b5 Y1.drN.drN.dr)
      | (replace Y1 := Cl.below b5 Y1.drN.drN.drN)
    have Y1_c := Y1.cell
    have Y1_f := Y1.free
    have Y1_l := Y1.lt
    dsimp only at Y1_l
    first
      | (replace N0' := Cl.below b5 N0')
      | (replace N0' := Cl.below b5 N0'.al)
      | (replace N0' := Cl.below b5 N0'.dr)
      | (replace N0' := Cl.below b5 N0'.drN)
      | (replace N0' := Cl.below b5 N0'.al.al)
      | (replace N0' := Cl.below b5 N0'.al.dr)
      | (replace N0' := Cl.below b5 N0'.al.drN)
      | (replace N0' := Cl.below b5 N0'.dr.al)
      | (replace N0' := Cl.below b5 N0'.dr.dr)
      | (replace N0' := Cl.below b5 N0'.dr.drN)
      | (replace N0' := Cl.below b5 N0'.drN.al)
      | (replace N0' := Cl.below b5 N0'.drN.dr)
      | (replace N0' := Cl.below b5 N0'.drN.drN)
      | (replace N0' := Cl.below b5 N0'.al.al.al)
      | (replace N0' := Cl.below b5 N0'.al.al.dr)
      | (replace N0' := Cl.below b5 N0'.al.al.drN)
      | (replace N0' := Cl.below b5 N0'.al.dr.al)
      | (replace N0' := Cl.below b5 N0'.al.dr.dr)
      | (replace N0' := Cl.below b5 N0'.al.dr.drN)
      | (replace N0' := Cl.below b5 N0'.al.drN.al)
      | (replace N0' := Cl.below b5 N0'.al.drN.dr)
      | (replace N0' := Cl.below b5 N0'.al.drN.drN)
      | (replace N0' := Cl.below b5 N0'.dr.al.al)
      | (replace N0' := Cl.below b5 N0'.dr.al.dr)
      | (replace N0' := Cl.below b5 N0'.dr.al.drN)
      | (replace N0' := Cl.below b5 N0'.dr.dr.al)
      | (replace N0' := Cl.below b5 N0'.dr.dr.dr)
      | (replace N0' := Cl.below b5 N0'.dr.dr.drN)
      | (replace N0' := Cl.below b5 N0'.dr.drN.al)
      | (replace N0' := Cl.below b5 N0'.dr.drN.dr)
      | (replace N0' := Cl.below b5 N0'.dr.drN.drN)
      | (replace N0' := Cl.below b5 N0'.drN.al.al)
      | (replace N0' := Cl.below b5 N0'.drN.al.dr)
      | (replace N0' := Cl.below b5 N0'.drN.al.drN)
      | (replace N0' := Cl.below b5 N0'.drN.dr.al)
      | (replace N0' := Cl.below b5 N0'.drN.dr.dr)
      | (replace N0' := Cl.below b5 N0'.drN.dr.drN)
      | (replace N0' := Cl.below b5 N0'.drN.drN.al)
      | (replace N0' := Cl.below b5 N0'.drN.drN.dr)
      | (replace N0' := Cl.below b5 N0'.drN.drN.drN)
    have N0'_c := N0'.cell
    have N0'_f := N0'.free
    have N0'_l := N0'.lt
    dsimp only at N0'_l
    first
      | (replace N1' := Cl.below b5 N1')
      | (replace N1' := Cl.below b5 N1'.al)
      | (replace N1' := Cl.below b5 N1'.dr)
      | (replace N1' := Cl.below b5 N1'.drN)
      | (replace N1' := Cl.below b5 N1'.al.al)
      | (replace N1' := Cl.below b5 N1'.al.dr)
      | (replace N1' := Cl.below b5 N1'.al.drN)
      | (replace N1' := Cl.below b5 N1'.dr.al)
      | (replace N1' := Cl.below b5 N1'.dr.dr)
      | (replace N1' := Cl.below b5 N1'.dr.drN)
      | (replace N1' := Cl.below b5 N1'.drN.al)
      | (replace N1' := Cl.below b5 N1'.drN.dr)
      | (replace N1' := Cl.below b5 N1'.drN.drN)
      | (replace N1' := Cl.below b5 N1'.al.al.al)
      | (replace N1' := Cl.below b5 N1'.al.al.dr)
      | (replace N1' := Cl.below b5 N1'.al.al.drN)
      | (replace N1' := Cl.below b5 N1'.al.dr.al)
      | (replace N1' := Cl.below b5 N1'.al.dr.dr)
      | (replace N1' := Cl.below b5 N1'.al.dr.drN)
      | (replace N1' := Cl.below b5 N1'.al.drN.al)
      | (replace N1' := Cl.below b5 N1'.al.drN.dr)
      | (replace N1' := Cl.below b5 N1'.al.drN.drN)
      | (replace N1' := Cl.below b5 N1'.dr.al.al)
      | (replace N1' := Cl.below b5 N1'.dr.al.dr)
      | (replace N1' := Cl.below b5 N1'.dr.al.drN)
      | (replace N1' := Cl.below b5 N1'.dr.dr.al)
      | (replace N1' := Cl.below b5 N1'.dr.dr.dr)
      | (replace N1' := Cl.below b5 N1'.dr.dr.drN)
      | (replace N1' := Cl.below b5 N1'.dr.drN.al)
      | (replace N1' := Cl.below b5 N1'.dr.drN.dr)
      | (replace N1' := Cl.below b5 N1'.dr.drN.drN)
      | (replace N1' := Cl.below b5 N1'.drN.al.al)
      | (replace N1' := Cl.below b5 N1'.drN.al.dr)
      | (replace N1' := Cl.below b5 N1'.drN.al.drN)
      | (replace N1' := Cl.below b5 N1'.drN.dr.al)
      | (replace N1' := Cl.below b5 N1'.drN.dr.dr)
      | (replace N1' := Cl.below b5 N1'.drN.dr.drN)
      | (replace N1' := Cl.below b5 N1'.drN.drN.al)
      | (replace N1' := Cl.below b5 N1'.drN.drN.dr)
      | (replace N1' := Cl.below b5 N1'.drN.drN.drN)
    have N1'_c := N1'.cell
    have N1'_f := N1'.free
    have N1'_l := N1'.lt
    dsimp only at N1'_l
    first
      | (replace P0' := Cl.below b5 P0')
      | (replace P0' := Cl.below b5 P0'.al)
      | (replace P0' := Cl.below b5 P0'.dr)
      | (replace P0' := Cl.below b5 P0'.drN)
      | (replace P0' := Cl.below b5 P0'.al.al)
      | (replace P0' := Cl.below b5 P0'.al.dr)
      | (replace P0' := Cl.below b5 P0'.al.drN)
      | (replace P0' := Cl.below b5 P0'.dr.al)
      | (replace P0' := Cl.below b5 P0'.dr.dr)
      | (replace P0' := Cl.below b5 P0'.dr.drN)
      | (replace P0' := Cl.below b5 P0'.drN.al)
      | (replace P0' := Cl.below b5 P0'.drN.dr)
      | (replace P0' := Cl.below b5 P0'.drN.drN)
      | (replace P0' := Cl.below b5 P0'.al.al.al)
      | (replace P0' := Cl.below b5 P0'.al.al.dr)
      | (replace P0' := Cl.below b5 P0'.al.al.drN)
      | (replace P0' := Cl.below b5 P0'.al.dr.al)
      | (replace P0' := Cl.below b5 P0'.al.dr.dr)
      | (replace P0' := Cl.below b5 P0'.al.dr.drN)
      | (replace P0' := Cl.below b5 P0'.al.drN.al)
      | (replace P0' := Cl.below b5 P0'.al.drN.dr)
      | (replace P0' := Cl.below b5 P0'.al.drN.drN)
      | (replace P0' := Cl.below b5 P0'.dr.al.al)
      | (replace P0' := Cl.below b5 P0'.dr.al.dr)
      | (replace P0' := Cl.below b5 P0'.dr.al.drN)
      | (replace P0' := Cl.below b5 P0'.dr.dr.al)
      | (replace P0' := Cl.below b5 P0'.dr.dr.dr)
      | (replace P0' := Cl.below b5 P0'.dr.dr.drN)
      | (replace P0' := Cl.below b5 P0'.dr.drN.al)
      | (replace P0' := Cl.below b5 P0'.dr.drN.dr)
      | (replace P0' := Cl.below b5 P0'.dr.drN.drN)
      | (replace P0' := Cl.below b5 P0'.drN.al.al)
      | (replace P0' := Cl.below b5 P0'.drN.al.dr)
      | (replace P0' := Cl.below b5 P0'.drN.al.drN)
      | (replace P0' := Cl.below b5 P0'.drN.dr.al)
      | (replace P0' := Cl.below b5 P0'.drN.dr.dr)
      | (replace P0' := Cl.below b5 P0'.drN.dr.drN)
      | (replace P0' := Cl.below b5 P0'.drN.drN.al)
      | (replace P0' := Cl.below b5 P0'.drN.drN.dr)
      | (replace P0' := Cl.below b5 P0'.drN.drN.drN)
    have P0'_c := P0'.cell
    have P0'_f := P0'.free
    have P0'_l := P0'.lt
    dsimp only at P0'_l
    first
      | (replace P1' := Cl.below b5 P1')
      | (replace P1' := Cl.below b5 P1'.al)
      | (replace P1' := Cl.below b5 P1'.dr)
      | (replace P1' := Cl.below b5 P1'.drN)
      | (replace P1' := Cl.below b5 P1'.al.al)
      | (replace P1' := Cl.below b5 P1'.al.dr)
      | (replace P1' := Cl.below b5 P1'.al.drN)
      | (replace P1' := Cl.below b5 P1'.dr.al)
      | (replace P1' := Cl.below b5 P1'.dr.dr)
      | (replace P1' := Cl.below b5 P1'.dr.drN)
      | (replace P1' := Cl.below b5 P1'.drN.al)
      | (replace P1' := Cl.below b5 P1'.drN.dr)
      | (replace P1' := Cl.below b5 P1'.drN.drN)
      | (replace P1' := Cl.below b5 P1'.al.al.al)
      | (replace P1' := Cl.below b5 P1'.al.al.dr)
      | (replace P1' := Cl.below b5 P1'.al.al.drN)
      | (replace P1' := Cl.below b5 P1'.al.dr.al)
      | (replace P1' := Cl.below b5 P1'.al.dr.dr)
      | (replace P1' := Cl.below b5 P1'.al.dr.drN)
      | (replace P1' := Cl.below b5 P1'.al.drN.al)
      | (replace P1' := Cl.below b5 P1'.al.drN.dr)
      | (replace P1' := Cl.below b5 P1'.al.drN.drN)
      | (replace P1' := Cl.below b5 P1'.dr.al.al)
      | (replace P1' := Cl.below b5 P1'.dr.al.dr)
      | (replace P1' := Cl.below b5 P1'.dr.al.drN)
      | (replace P1' := Cl.below b5 P1'.dr.dr.al)
      | (replace P1' := Cl.below b5 P1'.dr.dr.dr)
      | (replace P1' := Cl.below b5 P1'.dr.dr.drN)
      | (replace P1' := Cl.below b5 P1'.dr.drN.al)
      | (replace P1' := Cl.below b5 P1'.dr.drN.dr)
      | (replace P1' := Cl.below b5 P1'.dr.drN.drN)
      | (replace P1' := Cl.below b5 P1'.drN.al.al)
      | (replace P1' := Cl.below b5 P1'.drN.al.dr)
      | (replace P1' := Cl.below b5 P1'.drN.al.drN)
      | (replace P1' := Cl.below b5 P1'.drN.dr.al)
      | (replace P1' := Cl.below b5 P1'.drN.dr.dr)
      | (replace P1' := Cl.below b5 P1'.drN.dr.drN)
      | (replace P1' := Cl.below b5 P1'.drN.drN.al)
      | (replace P1' := Cl.below b5 P1'.drN.drN.dr)
      | (replace P1' := Cl.below b5 P1'.drN.drN.drN)
    have P1'_c := P1'.cell
    have P1'_f := P1'.free
    have P1'_l := P1'.lt
    dsimp only at P1'_l
    obtain ⟨R0, r0c, R1, r1c, rfl, _, _, _, _, _, _⟩ := VDisk.open d5
    replace d5 := hid d5.now
    obtain ⟨bc5, b15, b35, b45⟩ : Below wc.heap.size wc w5 ∧ Below w1.heap.size w1 w5 ∧ Below w3.heap.size w3 w5 ∧ Below w4.heap.size w4 w5 := ⟨(by repeat (first | exact Below.refl _ _ | (with_reducible assumption) | refine below_alloc ?_ _ | refine pw_below_drewN ?_ _ | refine below_drew ?_ | refine Below.setCell ?_ (by dsimp only; omega) _ | refine below_step ?_ (by assumption))), (by repeat (first | exact Below.refl _ _ | (with_reducible assumption) | refine below_alloc ?_ _ | refine pw_below_drewN ?_ _ | refine below_drew ?_ | refine Below.setCell ?_ (by dsimp only; omega) _ | refine below_step ?_ (by assumption))), (by repeat (first | exact Below.refl _ _ | (with_reducible assumption) | refine below_alloc ?_ _ | refine pw_below_drewN ?_ _ | refine below_drew ?_ | refine Below.setCell ?_ (by dsimp only; omega) _ | refine below_step ?_ (by assumption))), (by repeat (first | exact Below.refl _ _ | (with_reducible assumption) | refine below_alloc ?_ _ | refine pw_below_drewN ?_ _ | refine below_drew ?_ | refine Below.setCell ?_ (by dsimp only; omega) _ | refine below_step ?_ (by assumption)))⟩
    go_upto_region 8 with (fail)
    have K0 : Cl ((w5.alloc (.cells #[.slice R0 DC.f0.length r0c, .slice R1 DC.f1.length r1c] 25)).alloc (.cells #[.slice none 0 0, .slice none 0 0] 25)) ⟨w5.heap.size, 0, none⟩ (.slice R0 DC.f0.length r0c) := (Cl.new rfl).al
    have K1 : Cl ((w5.alloc (.cells #[.slice R0 DC.f0.length r0c, .slice R1 DC.f1.length r1c] 25)).alloc (.cells #[.slice none 0 0, .slice none 0 0] 25)) ⟨w5.heap.size, 1, none⟩ (.slice R1 DC.f1.length r1c) := (Cl.new rfl).al
    have E0 : Cl ((w5.alloc (.cells #[.slice R0 DC.f0.length r0c, .slice R1 DC.f1.length r1c] 25)).alloc (.cells #[.slice none 0 0, .slice none 0 0] 25)) ⟨w5.heap.size + 1, 0, none⟩ (.slice none 0 0) := by
      have h := Cl.new (w := w5.alloc (.cells #[.slice R0 DC.f0.length r0c, .slice R1 DC.f1.length r1c] 25)) (cs := #[.slice none 0 0, .slice none 0 0]) (T := 25) (j := 0) (v := .slice none 0 0) rfl
      rw [World.size_alloc] at h
      exact h
    have E1 : Cl ((w5.alloc (.cells #[.slice R0 DC.f0.length r0c, .slice R1 DC.f1.length r1c] 25)).alloc (.cells #[.slice none 0 0, .slice none 0 0] 25)) ⟨w5.heap.size + 1, 1, none⟩ (.slice none 0 0) := by
      have h := Cl.new (w := w5.alloc (.cells #[.slice R0 DC.f0.length r0c, .slice R1 DC.f1.length r1c] 25)) (cs := #[.slice none 0 0, .slice none 0 0]) (T := 25) (j := 1) (v := .slice none 0 0) rfl
      rw [World.size_alloc] at h
      exact h
    have B6 : Below w5.heap.size w5 ((w5.alloc (.cells #[.slice R0 DC.f0.length r0c, .slice R1 DC.f1.length r1c] 25)).alloc (.cells #[.slice none 0 0, .slice none 0 0] 25)) := below_alloc (below_alloc (Below.refl _ _) _) _
    have sz6 := B6.size
    have Bw6 : Below w.heap.size w ((w5.alloc (.cells #[.slice R0 DC.f0.length r0c, .slice R1 DC.f1.length r1c] 25)).alloc (.cells #[.slice none 0 0, .slice none 0 0] 25)) := below_step (below_step bc bc5) B6
    generalize (w5.alloc (.cells #[.slice R0 DC.f0.length r0c, .slice R1 DC.f1.length r1c] 25)).alloc (.cells #[.slice none 0 0, .slice none 0 0] 25) = w6 at *
    replace hdc := hid (hdc.out.below (below_step bc5 B6))
    have dN := hid (d1.out.below (below_step b15 B6))
    have dP := hid (d3.out.below (below_step b35 B6))
    have dY := hid (d4.out.below (below_step b45 B6))
    have dC := hid (d5.out.below B6)
    have hF6 := hid (Kd.C_below hF.out Bw6)
    have hL6 := hid (Kd.C_below hL1.out Bw6)
    replace Y0 := Cl.below B6 Y0
    replace Y1 := Cl.below B6 Y1
    replace N0' := Cl.below B6 N0'
    replace N1' := Cl.below B6 N1'
    replace P0' := Cl.below B6 P0'
    replace P1' := Cl.below B6 P1'
    replace Q0' := Cl.below B6 Q0'
    replace Q1' := Cl.below B6 Q1'
    clear d1 d3 d4 d5 hF hL1 b1 b2 b3 b4 b5 bc B6 bc5 b15 b35 b45 Y0_c Y0_f Y0_l Y1_c Y1_f Y1_l N0'_c N0'_f N0'_l N1'_c N1'_f N1'_l P0'_c P0'_f P0'_l P1'_c P1'_f P1'_l
    have K0_l := K0.lt
    have E0_l := E0.lt
    dsimp only at K0_l E0_l
    go_cut [67] (fun c wx => c = .bool (decide (n0 < 4 ∨ 64 < n0)) ∧ wx = w6)
    case first => as_aux_lemma =>
      by_cases q4 : n0 < 4
      · go_wp2_with fail
        go_meet
        exact ⟨by simp [q4], rfl⟩
      · by_cases q64 : 64 < n0
        · go_wp2_with fail
          go_meet
          exact ⟨by simp [q64], rfl⟩
        · go_wp2_with fail
          go_meet
          exact ⟨by simp [q4, q64], rfl⟩
    case rest => as_aux_lemma =>
      obtain ⟨rfl, hwx⟩ := hcut
      replace hwx := hwx.symm
      subst hwx
      go_upto_if 67 with (fail)
      go_cut [10] (fun c wx => Below w6.heap.size w6 wx)
      case first => as_aux_lemma =>
        by_cases hc : n0 < 4 ∨ 64 < n0
        · obtain ⟨rfl, rfl⟩ : DN = noD ∧ eN = 1 := Prod.mk.inj (hN.out.symm.trans (newD_no hc))
          rw [decide_eq_true hc]
          replace hc := hid hc
          have N0_c := N0'.cell
          have N1_c := N1'.cell
          have E0_c := E0.cell
          have E1_c := E1.cell
          go_wp2_with fail
          refine (ref_Like _ _ noD _ dN.out (VDisk.zero (fun _ => False) _).now).mono ?_
          rintro e w7 ⟨rfl, b7⟩
          go_wp2_with fail
          go_meet
          exact b7
        · rw [decide_eq_false hc]
          obtain ⟨m, rfl⟩ := Int.eq_ofNat_of_zero_le (show 0 ≤ n0 by omega)
          have hm4 : 4 ≤ m := by omega
          have hm64 : m ≤ 64 := by omega
          obtain ⟨hDN, rfl⟩ : DN = ⟨List.replicate m (sect 0), []⟩ ∧ eN = 0 := Prod.mk.inj (hN.out.symm.trans (newD_ok hm4 hm64))
          replace hDN := hid hDN
          replace hc := hid hc
          clear hN
          go_wp2_with fail
          go_loopw [79] (fun i wr => ∃ k : Nat, k ≤ m ∧ i = .int .i64 k ∧ ∃ xs v, Hid (xs = List.replicate k (sect 0)) ∧ Kd.string.R 9 wr (w6.heap.size + 1) (fun _ => True) v xs ∧ Cl wr ⟨w6.heap.size, 0, none⟩ v ∧ Cl wr ⟨w6.heap.size, 1, none⟩ (.slice none 0 0) ∧ Below w6.heap.size w6 wr) (fun i _ => m - (intOf i).toNat)
          case atStart => exact ⟨0, Nat.zero_le _, rfl, [], _, hid rfl, Kd.R_nil _ _ _ _ _, Cl.new rfl, Cl.new rfl, (by repeat (first | exact Below.refl _ _ | (with_reducible assumption) | refine below_alloc ?_ _ | refine pw_below_drewN ?_ _ | refine below_drew ?_ | refine Below.setCell ?_ (by dsimp only; omega) _ | refine below_step ?_ (by assumption)))⟩
          case round => as_aux_lemma =>
            obtain ⟨k, hk, rfl, xs, v, hxs, hv, V0, V1, bk⟩ := hrel
            have szk := bk.size
            have V0_l := V0.lt
            dsimp only at V0_l
            obtain ⟨A, c, rfl⟩ := Kd.R_slice hv
            have hxl : xs.length ≤ 64 := by rw [hxs.out, List.length_replicate]; omega
            by_cases hlt : k < m
            · obtain ⟨ys, hys⟩ : ∃ ys, ys = xs ++ [sect 0] := ⟨_, rfl⟩
              have hys2 := hid (show ys = List.replicate (k + 1) (sect 0) by rw [hys, hxs.out, List.replicate_succ'])
              replace hys := hid hys
              have U0 := V0
              have U1 := V1
              have V0_c := V0.cell
              have V0_f := V0.free
              go_upto_region 14 with (fail)
              go_region_law (first
                | (go_simp; go_at_call 11; refine (law_sector 0 (by omega) (by omega) _).mono ?_; rintro e w9 ⟨rfl, b9⟩; have sz9 := b9.size; (try simp only [World.size_alloc, World.size_drew] at sz9); (first | (replace V0 := Cl.below b9 V0) | (replace V0 := Cl.below b9 V0.al) | (replace V0 := Cl.below b9 V0.dr) | (replace V0 := Cl.below b9 V0.drN) | (replace V0 := Cl.below b9 V0.al.al) | (replace V0 := Cl.below b9 V0.al.dr) | (replace V0 := Cl.below b9 V0.al.drN) | (replace V0 := Cl.below b9 V0.dr.al) | (replace V0 := Cl.below b9 V0.dr.dr) | (replace V0 := Cl.below b9 V0.dr.drN) | (replace V0 := Cl.below b9 V0.drN.al) | (replace V0 := Cl.below b9 V0.drN.dr) | (replace V0 := Cl.below b9 V0.drN.drN) | (replace V0 := Cl.below b9 V0.al.al.al) | (replace V0 := Cl.below b9 V0.al.al.dr) | (replace V0 := Cl.below b9 V0.al.al.drN) | (replace V0 := Cl.below b9 V0.al.dr.al) | (replace V0 := Cl.below b9 V0.al.dr.dr) | (replace V0 := Cl.below b9 V0.al.dr.drN) | (replace V0 := Cl.below b9 V0.al.drN.al) | (replace V0 := Cl.below b9 V0.al.drN.dr) | (replace V0 := Cl.below b9 V0.al.drN.drN) | (replace V0 := Cl.below b9 V0.dr.al.al) | (replace V0 := Cl.below b9 V0.dr.al.dr) | (replace V0 := Cl.below b9 V0.dr.al.drN) | (replace V0 := Cl.below b9 V0.dr.dr.al) | (replace V0 := Cl.below b9 V0.dr.dr.dr) | (replace V0 := Cl.below b9 V0.dr.dr.drN) | (replace V0 := Cl.below b9 V0.dr.drN.al) | (replace V0 := Cl.below b9 V0.dr.drN.dr) | (replace V0 := Cl.below b9 V0.dr.drN.drN) | (replace V0 := Cl.below b9 V0.drN.al.al) | (replace V0 := Cl.below b9 V0.drN.al.dr) | (replace V0 := Cl.below b9 V0.drN.al.drN) | (replace V0 := Cl.below b9 V0.drN.dr.al) | (replace V0 := Cl.below b9 V0.drN.dr.dr) | (replace V0 := Cl.below b9 V0.drN.dr.drN) | (replace V0 := Cl.below b9 V0.drN.drN.al) | (replace V0 := Cl.below b9 V0.drN.drN.dr) | (replace V0 := Cl.below b9 V0.drN.drN.drN)); (have V0_c := V0.cell); (have V0_f := V0.free); (have V0_l := V0.lt); (dsimp only at V0_l); (first | (replace V1 := Cl.below b9 V1) | (replace V1 := Cl.below b9 V1.al) | (replace V1 := Cl.below b9 V1.dr) | (replace V1 := Cl.below b9 V1.drN) | (replace V1 := Cl.below b9 V1.al.al) | (replace V1 := Cl.below b9 V1.al.dr) | (replace V1 := Cl.below b9 V1.al.drN) | (replace V1 := Cl.below b9 V1.dr.al) | (replace V1 := Cl.below b9 V1.dr.dr) | (replace V1 := Cl.below b9 V1.dr.drN) | (replace V1 := Cl.below b9 V1.drN.al) | (replace V1 := Cl.below b9 V1.drN.dr) | (replace V1 := Cl.below b9 V1.drN.drN) | (replace V1 := Cl.below b9 V1.al.al.al) | (replace V1 := Cl.below b9 V1.al.al.dr) | (replace V1 := Cl.below b9 V1.al.al.drN) | (replace V1 := Cl.below b9 V1.al.dr.al) | (replace V1 := Cl.below b9 V1.al.dr.dr) | (replace V1 := Cl.below b9 V1.al.dr.drN) | (replace V1 := Cl.below b9 V1.al.drN.al) | (replace V1 := Cl.below b9 V1.al.drN.dr) | (replace V1 := Cl.below b9 V1.al.drN.drN) | (replace V1 := Cl.below b9 V1.dr.al.al) | (replace V1 := Cl.below b9 V1.dr.al.dr) | (replace V1 := Cl.below b9 V1.dr.al.drN) | (replace V1 := Cl.below b9 V1.dr.dr.al) | (replace V1 := Cl.below b9 V1.dr.dr.dr) | (replace V1 := Cl.below b9 V1.dr.dr.drN) | (replace V1 := Cl.below b9 V1.dr.drN.al) | (replace V1 := Cl.below b9 V1.dr.drN.dr) | (replace V1 := Cl.below b9 V1.dr.drN.drN) | (replace V1 := Cl.below b9 V1.drN.al.al) | (replace V1 := Cl.below b9 V1.drN.al.dr) | (replace V1 := Cl.below b9 V1.drN.al.drN) | (replace V1 := Cl.below b9 V1.drN.dr.al) | (replace V1 := Cl.below b9 V1.drN.dr.dr) | (replace V1 := Cl.below b9 V1.drN.dr.drN) | (replace V1 := Cl.below b9 V1.drN.drN.al) | (replace V1 := Cl.below b9 V1.drN.drN.dr) | (replace V1 := Cl.below b9 V1.drN.drN.drN)); (have V1_c := V1.cell); (have V1_f := V1.free); (have V1_l := V1.lt); (dsimp only at V1_l); have hv9 := Kd.R_below hv (show Below wr.heap.size wr w9 from (by repeat (first | exact Below.refl _ _ | (with_reducible assumption) | refine below_alloc ?_ _ | refine pw_below_drewN ?_ _ | refine below_drew ?_ | refine Below.setCell ?_ (by dsimp only; omega) _ | refine below_step ?_ (by assumption)))))
                | (refine Try.step_str (w := wr) (base := w6.heap.size + 1) rfl (.tmp 82) (.tmp 84) rfl _ xs (sect 0) rfl rfl hv9 (Below.mono (show Below wr.heap.size wr _ from (by repeat (first | exact Below.refl _ _ | (with_reducible assumption) | refine below_alloc ?_ _ | refine pw_below_drewN ?_ _ | refine below_drew ?_ | refine Below.setCell ?_ (by dsimp only; omega) _ | refine below_step ?_ (by assumption)))) (by omega)) (by omega) (by omega) ?_; intro v1 w10 ho1 b10; rw [← hys.out] at ho1; obtain ⟨A1, c1, rfl⟩ := Kd.R_slice ho1; have sz10 := b10.size; have V0 := Cl.low b10 U0 (by dsimp only; omega); have V0_c := V0.cell; have V0_f := V0.free; have V1 := Cl.low b10 U1 (by dsimp only; omega)))
              all_goals
                go_wp2_with fail
                exact ⟨⟨k + 1, by omega, by go_num, ys, _, hys2, R_set ho1 (by dsimp only; omega), V0.same, V1.beside (by decide), Below.setCell (Below.trans bk (Below.mono b10 (by omega))) (Nat.le_refl _) _⟩, by simp [intOf]; omega⟩
            · obtain rfl : k = m := by omega
              obtain ⟨_, hc1, hC1⟩ := Kd.R_reads' hv
              have hW : VDisk wr (.agg #[.slice A xs.length c, .slice none 0 0]) DN := by
                rw [hDN.out, ← hxs.out]
                exact (VDisk.mkn (S := fun _ => False) (x := ⟨xs, []⟩) rfl hc1 (St.start fun w9 hb9 => Kd.C_below hC1 hb9) rfl (Nat.le_refl _) (fun w _ => Kd.C_nil _ w)).now
              have N0_c := (Cl.below bk N0').cell
              have N1_c := (Cl.below bk N1').cell
              have V0_c := V0.cell
              have V1_c := V1.cell
              go_wp2_with fail
              refine (ref_Like _ _ DN _ (dN.out.below bk) hW).mono ?_
              rintro e w7 ⟨rfl, b7⟩
              go_wp2_with fail
              go_meet
              exact below_step bk b7
      case rest => as_aux_lemma =>
        obtain ⟨w7, hw7⟩ : ∃ x, x = wc := ⟨_, rfl⟩
        subst hw7
        have sz7 := hcut.size
        replace hdc := hid (hdc.out.below hcut)
        replace dP := hid (dP.out.below hcut)
        replace dY := hid (dY.out.below hcut)
        replace dC := hid (dC.out.below hcut)
        replace hF6 := hid (Kd.C_below hF6.out hcut)
        replace hL6 := hid (Kd.C_below hL6.out hcut)
        replace Y0 := Cl.below hcut Y0
        replace Y1 := Cl.below hcut Y1
        replace P0' := Cl.below hcut P0'
        replace P1' := Cl.below hcut P1'
        replace Q0' := Cl.below hcut Q0'
        replace Q1' := Cl.below hcut Q1'
        replace K0 := Cl.below hcut K0
        replace K1 := Cl.below hcut K1
        replace E0 := Cl.below hcut E0
        replace E1 := Cl.below hcut E1
        have Bw7 := below_step Bw6 hcut
        clear hcut Bw6 N0' N1' dN hN
        have Y0_c := Y0.cell
        have Y1_c := Y1.cell
        go_upto_region 18 with (fail)
        go_cut [104] (fun c wx => c = .bool false ∧ Below w7.heap.size w7 wx)
        case first => as_aux_lemma =>
          go_region_held3 (fun w' => w'.cell? ⟨w.heap.size, 0, none⟩ = some (.slice B0 D1.f0.length p0) ∧ w'.cell? ⟨w.heap.size, 1, none⟩ = some (.slice B1 D1.f1.length p1)) (first | exact ⟨Y0.cell, Y1.cell⟩ | go_keep)
            (first
            | (go_at_call 17; refine (disk_RightV _ D1 _ (hdc.out.below (show Below w7.heap.size w7 _ from (by repeat (first | exact Below.refl _ _ | (with_reducible assumption) | refine below_alloc ?_ _ | refine pw_below_drewN ?_ _ | refine below_drew ?_ | refine Below.setCell ?_ (by dsimp only; omega) _ | refine below_step ?_ (by assumption)))))).mono ?_; rintro e w8 ⟨rfl, b8⟩; have sz8 := b8.size; (try simp only [World.size_drew] at sz8); (first | (replace Y0 := Cl.below b8 Y0) | (replace Y0 := Cl.below b8 Y0.al) | (replace Y0 := Cl.below b8 Y0.dr) | (replace Y0 := Cl.below b8 Y0.drN) | (replace Y0 := Cl.below b8 Y0.al.al) | (replace Y0 := Cl.below b8 Y0.al.dr) | (replace Y0 := Cl.below b8 Y0.al.drN) | (replace Y0 := Cl.below b8 Y0.dr.al) | (replace Y0 := Cl.below b8 Y0.dr.dr) | (replace Y0 := Cl.below b8 Y0.dr.drN) | (replace Y0 := Cl.below b8 Y0.drN.al) | (replace Y0 := Cl.below b8 Y0.drN.dr) | (replace Y0 := Cl.below b8 Y0.drN.drN) | (replace Y0 := Cl.below b8 Y0.al.al.al) | (replace Y0 := Cl.below b8 Y0.al.al.dr) | (replace Y0 := Cl.below b8 Y0.al.al.drN) | (replace Y0 := Cl.below b8 Y0.al.dr.al) | (replace Y0 := Cl.below b8 Y0.al.dr.dr) | (replace Y0 := Cl.below b8 Y0.al.dr.drN) | (replace Y0 := Cl.below b8 Y0.al.drN.al) | (replace Y0 := Cl.below b8 Y0.al.drN.dr) | (replace Y0 := Cl.below b8 Y0.al.drN.drN) | (replace Y0 := Cl.below b8 Y0.dr.al.al) | (replace Y0 := Cl.below b8 Y0.dr.al.dr) | (replace Y0 := Cl.below b8 Y0.dr.al.drN) | (replace Y0 := Cl.below b8 Y0.dr.dr.al) | (replace Y0 := Cl.below b8 Y0.dr.dr.dr) | (replace Y0 := Cl.below b8 Y0.dr.dr.drN) | (replace Y0 := Cl.below b8 Y0.dr.drN.al) | (replace Y0 := Cl.below b8 Y0.dr.drN.dr) | (replace Y0 := Cl.below b8 Y0.dr.drN.drN) | (replace Y0 := Cl.below b8 Y0.drN.al.al) | (replace Y0 := Cl.below b8 Y0.drN.al.dr) | (replace Y0 := Cl.below b8 Y0.drN.al.drN) | (replace Y0 := Cl.below b8 Y0.drN.dr.al) | (replace Y0 := Cl.below b8 Y0.drN.dr.dr) | (replace Y0 := Cl.below b8 Y0.drN.dr.drN) | (replace Y0 := Cl.below b8 Y0.drN.drN.al) | (replace Y0 := Cl.below b8 Y0.drN.drN.dr) | (replace Y0 := Cl.below b8 Y0.drN.drN.drN)); (have Y0_c := Y0.cell); (have Y0_f := Y0.free); (have Y0_l := Y0.lt); (dsimp only at Y0_l); (first | (replace Y1 := Cl.below b8 Y1) | (replace Y1 := Cl.below b8 Y1.al) | (replace Y1 := Cl.below b8 Y1.dr) | (replace Y1 := Cl.below b8 Y1.drN) | (replace Y1 := Cl.below b8 Y1.al.al) | (replace Y1 := Cl.below b8 Y1.al.dr) | (replace Y1 := Cl.below b8 Y1.al.drN) | (replace Y1 := Cl.below b8 Y1.dr.al) | (replace Y1 := Cl.below b8 Y1.dr.dr) | (replace Y1 := Cl.below b8 Y1.dr.drN) | (replace Y1 := Cl.below b8 Y1.drN.al) | (replace Y1 := Cl.below b8 Y1.drN.dr) | (replace Y1 := Cl.below b8 Y1.drN.drN) | (replace Y1 := Cl.below b8 Y1.al.al.al) | (replace Y1 := Cl.below b8 Y1.al.al.dr) | (replace Y1 := Cl.below b8 Y1.al.al.drN) | (replace Y1 := Cl.below b8 Y1.al.dr.al) | (replace Y1 := Cl.below b8 Y1.al.dr.dr) | (replace Y1 := Cl.below b8 Y1.al.dr.drN) | (replace Y1 := Cl.below b8 Y1.al.drN.al) | (replace Y1 := Cl.below b8 Y1.al.drN.dr) | (replace Y1 := Cl.below b8 Y1.al.drN.drN) | (replace Y1 := Cl.below b8 Y1.dr.al.al) | (replace Y1 := Cl.below b8 Y1.dr.al.dr) | (replace Y1 := Cl.below b8 Y1.dr.al.drN) | (replace Y1 := Cl.below b8 Y1.dr.dr.al) | (replace Y1 := Cl.below b8 Y1.dr.dr.dr) | (replace Y1 := Cl.below b8 Y1.dr.dr.drN) | (replace Y1 := Cl.below b8 Y1.dr.drN.al) | (replace Y1 := Cl.below b8 Y1.dr.drN.dr) | (replace Y1 := Cl.below b8 Y1.dr.drN.drN) | (replace Y1 := Cl.below b8 Y1.drN.al.al) | (replace Y1 := Cl.below b8 Y1.drN.al.dr) | (replace Y1 := Cl.below b8 Y1.drN.al.drN) | (replace Y1 := Cl.below b8 Y1.drN.dr.al) | (replace Y1 := Cl.below b8 Y1.drN.dr.dr) | (replace Y1 := Cl.below b8 Y1.drN.dr.drN) | (replace Y1 := Cl.below b8 Y1.drN.drN.al) | (replace Y1 := Cl.below b8 Y1.drN.drN.dr) | (replace Y1 := Cl.below b8 Y1.drN.drN.drN)); (have Y1_c := Y1.cell); (have Y1_f := Y1.free); (have Y1_l := Y1.lt); (dsimp only at Y1_l))
            | (go_at_call 8; refine (ref_RightV _ D1 _ (hdc.out.below (show Below w7.heap.size w7 _ from (by repeat (first | exact Below.refl _ _ | (with_reducible assumption) | refine below_alloc ?_ _ | refine pw_below_drewN ?_ _ | refine below_drew ?_ | refine Below.setCell ?_ (by dsimp only; omega) _ | refine below_step ?_ (by assumption)))))).mono ?_; rintro e w9 ⟨rfl, b9⟩; have sz9 := b9.size; (try simp only [World.size_drew] at sz9); (first | (replace Y0 := Cl.below b9 Y0) | (replace Y0 := Cl.below b9 Y0.al) | (replace Y0 := Cl.below b9 Y0.dr) | (replace Y0 := Cl.below b9 Y0.drN) | (replace Y0 := Cl.below b9 Y0.al.al) | (replace Y0 := Cl.below b9 Y0.al.dr) | (replace Y0 := Cl.below b9 Y0.al.drN) | (replace Y0 := Cl.below b9 Y0.dr.al) | (replace Y0 := Cl.below b9 Y0.dr.dr) | (replace Y0 := Cl.below b9 Y0.dr.drN) | (replace Y0 := Cl.below b9 Y0.drN.al) | (replace Y0 := Cl.below b9 Y0.drN.dr) | (replace Y0 := Cl.below b9 Y0.drN.drN) | (replace Y0 := Cl.below b9 Y0.al.al.al) | (replace Y0 := Cl.below b9 Y0.al.al.dr) | (replace Y0 := Cl.below b9 Y0.al.al.drN) | (replace Y0 := Cl.below b9 Y0.al.dr.al) | (replace Y0 := Cl.below b9 Y0.al.dr.dr) | (replace Y0 := Cl.below b9 Y0.al.dr.drN) | (replace Y0 := Cl.below b9 Y0.al.drN.al) | (replace Y0 := Cl.below b9 Y0.al.drN.dr) | (replace Y0 := Cl.below b9 Y0.al.drN.drN) | (replace Y0 := Cl.below b9 Y0.dr.al.al) | (replace Y0 := Cl.below b9 Y0.dr.al.dr) | (replace Y0 := Cl.below b9 Y0.dr.al.drN) | (replace Y0 := Cl.below b9 Y0.dr.dr.al) | (replace Y0 := Cl.below b9 Y0.dr.dr.dr) | (replace Y0 := Cl.below b9 Y0.dr.dr.drN) | (replace Y0 := Cl.below b9 Y0.dr.drN.al) | (replace Y0 := Cl.below b9 Y0.dr.drN.dr) | (replace Y0 := Cl.below b9 Y0.dr.drN.drN) | (replace Y0 := Cl.below b9 Y0.drN.al.al) | (replace Y0 := Cl.below b9 Y0.drN.al.dr) | (replace Y0 := Cl.below b9 Y0.drN.al.drN) | (replace Y0 := Cl.below b9 Y0.drN.dr.al) | (replace Y0 := Cl.below b9 Y0.drN.dr.dr) | (replace Y0 := Cl.below b9 Y0.drN.dr.drN) | (replace Y0 := Cl.below b9 Y0.drN.drN.al) | (replace Y0 := Cl.below b9 Y0.drN.drN.dr) | (replace Y0 := Cl.below b9 Y0.drN.drN.drN)); (have Y0_c := Y0.cell); (have Y0_f := Y0.free); (have Y0_l := Y0.lt); (dsimp only at Y0_l); (first | (replace Y1 := Cl.below b9 Y1) | (replace Y1 := Cl.below b9 Y1.al) | (replace Y1 := Cl.below b9 Y1.dr) | (replace Y1 := Cl.below b9 Y1.drN) | (replace Y1 := Cl.below b9 Y1.al.al) | (replace Y1 := Cl.below b9 Y1.al.dr) | (replace Y1 := Cl.below b9 Y1.al.drN) | (replace Y1 := Cl.below b9 Y1.dr.al) | (replace Y1 := Cl.below b9 Y1.dr.dr) | (replace Y1 := Cl.below b9 Y1.dr.drN) | (replace Y1 := Cl.below b9 Y1.drN.al) | (replace Y1 := Cl.below b9 Y1.drN.dr) | (replace Y1 := Cl.below b9 Y1.drN.drN) | (replace Y1 := Cl.below b9 Y1.al.al.al) | (replace Y1 := Cl.below b9 Y1.al.al.dr) | (replace Y1 := Cl.below b9 Y1.al.al.drN) | (replace Y1 := Cl.below b9 Y1.al.dr.al) | (replace Y1 := Cl.below b9 Y1.al.dr.dr) | (replace Y1 := Cl.below b9 Y1.al.dr.drN) | (replace Y1 := Cl.below b9 Y1.al.drN.al) | (replace Y1 := Cl.below b9 Y1.al.drN.dr) | (replace Y1 := Cl.below b9 Y1.al.drN.drN) | (replace Y1 := Cl.below b9 Y1.dr.al.al) | (replace Y1 := Cl.below b9 Y1.dr.al.dr) | (replace Y1 := Cl.below b9 Y1.dr.al.drN) | (replace Y1 := Cl.below b9 Y1.dr.dr.al) | (replace Y1 := Cl.below b9 Y1.dr.dr.dr) | (replace Y1 := Cl.below b9 Y1.dr.dr.drN) | (replace Y1 := Cl.below b9 Y1.dr.drN.al) | (replace Y1 := Cl.below b9 Y1.dr.drN.dr) | (replace Y1 := Cl.below b9 Y1.dr.drN.drN) | (replace Y1 := Cl.below b9 Y1.drN.al.al) | (replace Y1 := Cl.below b9 Y1.drN.al.dr) | (replace Y1 := Cl.below b9 Y1.drN.al.drN) | (replace Y1 := Cl.below b9 Y1.drN.dr.al) | (replace Y1 := Cl.below b9 Y1.drN.dr.dr) | (replace Y1 := Cl.below b9 Y1.drN.dr.drN) | (replace Y1 := Cl.below b9 Y1.drN.drN.al) | (replace Y1 := Cl.below b9 Y1.drN.drN.dr) | (replace Y1 := Cl.below b9 Y1.drN.drN.drN)); (have Y1_c := Y1.cell); (have Y1_f := Y1.free); (have Y1_l := Y1.lt); (dsimp only at Y1_l))
            | (go_at_call 9; refine (law_alive _).mono ?_; rintro e w10 ⟨rfl, b10⟩; have sz10 := b10.size; (try simp only [World.size_drew] at sz10); (first | (replace Y0 := Cl.below b10 Y0) | (replace Y0 := Cl.below b10 Y0.al) | (replace Y0 := Cl.below b10 Y0.dr) | (replace Y0 := Cl.below b10 Y0.drN) | (replace Y0 := Cl.below b10 Y0.al.al) | (replace Y0 := Cl.below b10 Y0.al.dr) | (replace Y0 := Cl.below b10 Y0.al.drN) | (replace Y0 := Cl.below b10 Y0.dr.al) | (replace Y0 := Cl.below b10 Y0.dr.dr) | (replace Y0 := Cl.below b10 Y0.dr.drN) | (replace Y0 := Cl.below b10 Y0.drN.al) | (replace Y0 := Cl.below b10 Y0.drN.dr) | (replace Y0 := Cl.below b10 Y0.drN.drN) | (replace Y0 := Cl.below b10 Y0.al.al.al) | (replace Y0 := Cl.below b10 Y0.al.al.dr) | (replace Y0 := Cl.below b10 Y0.al.al.drN) | (replace Y0 := Cl.below b10 Y0.al.dr.al) | (replace Y0 := Cl.below b10 Y0.al.dr.dr) | (replace Y0 := Cl.below b10 Y0.al.dr.drN) | (replace Y0 := Cl.below b10 Y0.al.drN.al) | (replace Y0 := Cl.below b10 Y0.al.drN.dr) | (replace Y0 := Cl.below b10 Y0.al.drN.drN) | (replace Y0 := Cl.below b10 Y0.dr.al.al) | (replace Y0 := Cl.below b10 Y0.dr.al.dr) | (replace Y0 := Cl.below b10 Y0.dr.al.drN) | (replace Y0 := Cl.below b10 Y0.dr.dr.al) | (replace Y0 := Cl.below b10 Y0.dr.dr.dr) | (replace Y0 := Cl.below b10 Y0.dr.dr.drN) | (replace Y0 := Cl.below b10 Y0.dr.drN.al) | (replace Y0 := Cl.below b10 Y0.dr.drN.dr) | (replace Y0 := Cl.below b10 Y0.dr.drN.drN) | (replace Y0 := Cl.below b10 Y0.drN.al.al) | (replace Y0 := Cl.below b10 Y0.drN.al.dr) | (replace Y0 := Cl.below b10 Y0.drN.al.drN) | (replace Y0 := Cl.below b10 Y0.drN.dr.al) | (replace Y0 := Cl.below b10 Y0.drN.dr.dr) | (replace Y0 := Cl.below b10 Y0.drN.dr.drN) | (replace Y0 := Cl.below b10 Y0.drN.drN.al) | (replace Y0 := Cl.below b10 Y0.drN.drN.dr) | (replace Y0 := Cl.below b10 Y0.drN.drN.drN)); (have Y0_c := Y0.cell); (have Y0_f := Y0.free); (have Y0_l := Y0.lt); (dsimp only at Y0_l); (first | (replace Y1 := Cl.below b10 Y1) | (replace Y1 := Cl.below b10 Y1.al) | (replace Y1 := Cl.below b10 Y1.dr) | (replace Y1 := Cl.below b10 Y1.drN) | (replace Y1 := Cl.below b10 Y1.al.al) | (replace Y1 := Cl.below b10 Y1.al.dr) | (replace Y1 := Cl.below b10 Y1.al.drN) | (replace Y1 := Cl.below b10 Y1.dr.al) | (replace Y1 := Cl.below b10 Y1.dr.dr) | (replace Y1 := Cl.below b10 Y1.dr.drN) | (replace Y1 := Cl.below b10 Y1.drN.al) | (replace Y1 := Cl.below b10 Y1.drN.dr) | (replace Y1 := Cl.below b10 Y1.drN.drN) | (replace Y1 := Cl.below b10 Y1.al.al.al) | (replace Y1 := Cl.below b10 Y1.al.al.dr) | (replace Y1 := Cl.below b10 Y1.al.al.drN) | (replace Y1 := Cl.below b10 Y1.al.dr.al) | (replace Y1 := Cl.below b10 Y1.al.dr.dr) | (replace Y1 := Cl.below b10 Y1.al.dr.drN) | (replace Y1 := Cl.below b10 Y1.al.drN.al) | (replace Y1 := Cl.below b10 Y1.al.drN.dr) | (replace Y1 := Cl.below b10 Y1.al.drN.drN) | (replace Y1 := Cl.below b10 Y1.dr.al.al) | (replace Y1 := Cl.below b10 Y1.dr.al.dr) | (replace Y1 := Cl.below b10 Y1.dr.al.drN) | (replace Y1 := Cl.below b10 Y1.dr.dr.al) | (replace Y1 := Cl.below b10 Y1.dr.dr.dr) | (replace Y1 := Cl.below b10 Y1.dr.dr.drN) | (replace Y1 := Cl.below b10 Y1.dr.drN.al) | (replace Y1 := Cl.below b10 Y1.dr.drN.dr) | (replace Y1 := Cl.below b10 Y1.dr.drN.drN) | (replace Y1 := Cl.below b10 Y1.drN.al.al) | (replace Y1 := Cl.below b10 Y1.drN.al.dr) | (replace Y1 := Cl.below b10 Y1.drN.al.drN) | (replace Y1 := Cl.below b10 Y1.drN.dr.al) | (replace Y1 := Cl.below b10 Y1.drN.dr.dr) | (replace Y1 := Cl.below b10 Y1.drN.dr.drN) | (replace Y1 := Cl.below b10 Y1.drN.drN.al) | (replace Y1 := Cl.below b10 Y1.drN.drN.dr) | (replace Y1 := Cl.below b10 Y1.drN.drN.drN)); (have Y1_c := Y1.cell); (have Y1_f := Y1.free); (have Y1_l := Y1.lt); (dsimp only at Y1_l))
            | fail)
          all_goals
            go_wp2_with fail
            go_meet
            exact ⟨rfl, (by repeat (first | exact Below.refl _ _ | (with_reducible assumption) | refine below_alloc ?_ _ | refine pw_below_drewN ?_ _ | refine below_drew ?_ | refine Below.setCell ?_ (by dsimp only; omega) _ | refine below_step ?_ (by assumption)))⟩
        case rest => as_aux_lemma =>
          obtain ⟨rfl, hb⟩ := hcut
          obtain ⟨w8, hw8⟩ : ∃ x, x = wc := ⟨_, rfl⟩
          subst hw8
          have sz8 := hb.size
          have Y0 := Cl.below hb Y0
          have Y1 := Cl.below hb Y1
          have P0' := Cl.below hb P0'
          have P1' := Cl.below hb P1'
          have Q0' := Cl.below hb Q0'
          have Q1' := Cl.below hb Q1'
          have K0 := Cl.below hb K0
          have K1 := Cl.below hb K1
          have E0 := Cl.below hb E0
          have E1 := Cl.below hb E1
          have Y0_c := Y0.cell
          have Y1_c := Y1.cell
          go_wp2_with fail
          refine (ref_RightV _ D1 _ (hdc.out.below hb)).mono ?_
          rintro e w9 ⟨rfl, b9⟩
          have sz9 := b9.size
          first
            | (replace Y0 := Cl.below b9 Y0)
            | (replace Y0 := Cl.below b9 Y0.al)
            | (replace Y0 := Cl.below b9 Y0.dr)
            | (replace Y0 := Cl.below b9 Y0.drN)
            | (replace Y0 := Cl.below b9 Y0.al.al)
            | (replace Y0 := Cl.below b9 Y0.al.dr)
            | (replace Y0 := Cl.below b9 Y0.al.drN)
            | (replace Y0 := Cl.below b9 Y0.dr.al)
            | (replace Y0 := Cl.below b9 Y0.dr.dr)
            | (replace Y0 := Cl.below b9 Y0.dr.drN)
            | (replace Y0 := Cl.below b9 Y0.drN.al)
            | (replace Y0 := Cl.below b9 Y0.drN.dr)
            | (replace Y0 := Cl.below b9 Y0.drN.drN)
            | (replace Y0 := Cl.below b9 Y0.al.al.al)
            | (replace Y0 := Cl.below b9 Y0.al.al.dr)
            | (replace Y0 := Cl.below b9 Y0.al.al.drN)
            | (replace Y0 := Cl.below b9 Y0.al.dr.al)
            | (replace Y0 := Cl.below b9 Y0.al.dr.dr)
            | (replace Y0 := Cl.below b9 Y0.al.dr.drN)
            | (replace Y0 := Cl.below b9 Y0.al.drN.al)
            | (replace Y0 := Cl.below b9 Y0.al.drN.dr)
            | (replace Y0 := Cl.below b9 Y0.al.drN.drN)
            | (replace Y0 := Cl.below b9 Y0.dr.al.al)
            | (replace Y0 := Cl.below b9 Y0.dr.al.dr)
            | (replace Y0 := Cl.below b9 Y0.dr.al.drN)
            | (replace Y0 := Cl.below b9 Y0.dr.dr.al)
            | (replace Y0 := Cl.below b9 Y0.dr.dr.dr)
            | (replace Y0 := Cl.below b9 Y0.dr.dr.drN)
            | (replace Y0 := Cl.below b9 Y0.dr.drN.al)
            | (replace Y0 := Cl.below b9 Y0.dr.drN.dr)
            | (replace Y0 := Cl.below b9 Y0.dr.drN.drN)
            | (replace Y0 := Cl.below b9 Y0.drN.al.al)
            | (replace Y0 := Cl.below b9 Y0.drN.al.dr)
            | (replace Y0 := Cl.below b9 Y0.drN.al.drN)
            | (replace Y0 := Cl.below b9 Y0.drN.dr.al)
            | (replace Y0 := Cl.below b9 Y0.drN.dr.dr)
            | (replace Y0 := Cl.below b9 Y0.drN.dr.drN)
            | (replace Y0 := Cl.below b9 Y0.drN.drN.al)
            | (replace Y0 := Cl.below b9 Y0.drN.drN.dr)
            | (replace Y0 := Cl.below b9 Y0.drN.drN.drN)
          have Y0_c := Y0.cell
          have Y0_f := Y0.free
          have Y0_l := Y0.lt
          dsimp only at Y0_l
          first
            | (replace Y1 := Cl.below b9 Y1)
            | (replace Y1 := Cl.below b9 Y1.al)
            | (replace Y1 := Cl.below b9 Y1.dr)
            | (replace Y1 := Cl.below b9 Y1.drN)
            | (replace Y1 := Cl.below b9 Y1.al.al)
            | (replace Y1 := Cl.below b9 Y1.al.dr)
            | (replace Y1 := Cl.below b9 Y1.al.drN)
            | (replace Y1 := Cl.below b9 Y1.dr.al)
            | (replace Y1 := Cl.below b9 Y1.dr.dr)
            | (replace Y1 := Cl.below b9 Y1.dr.drN)
            | (replace Y1 := Cl.below b9 Y1.drN.al)
            | (replace Y1 := Cl.below b9 Y1.drN.dr)
            | (replace Y1 := Cl.below b9 Y1.drN.drN)
            | (replace Y1 := Cl.below b9 Y1.al.al.al)
            | (replace Y1 := Cl.below b9 Y1.al.al.dr)
            | (replace Y1 := Cl.below b9 Y1.al.al.drN)
            | (replace Y1 := Cl.below b9 Y1.al.dr.al)
            | (replace Y1 := Cl.below b9 Y1.al.dr.dr)
            | (replace Y1 := Cl.below b9 Y1.al.dr.drN)
            | (replace Y1 := Cl.below b9 Y1.al.drN.al)
            | (replace Y1 := Cl.below b9 Y1.al.drN.dr)
            | (replace Y1 := Cl.below b9 Y1.al.drN.drN)
            | (replace Y1 := Cl.below b9 Y1.dr.al.al)
            | (replace Y1 := Cl.below b9 Y1.dr.al.dr)
            | (replace Y1 := Cl.below b9 Y1.dr.al.drN)
            | (replace Y1 := Cl.below b9 Y1.dr.dr.al)
            | (replace Y1 := Cl.below b9 Y1.dr.dr.dr)
            | (replace Y1 := Cl.below b9 Y1.dr.dr.drN)
            | (replace Y1 := Cl.below b9 Y1.dr.drN.al)
            | (replace Y1 := Cl.below b9 Y1.dr.drN.dr)
            | (replace Y1 := Cl.below b9 Y1.dr.drN.drN)
            | (replace Y1 := Cl.below b9 Y1.drN.al.al)
            | (replace Y1 := Cl.below b9 Y1.drN.al.dr)
            | (replace Y1 := Cl.below b9 Y1.drN.al.drN)
            | (replace Y1 := Cl.below b9 Y1.drN.dr.al)
            | (replace Y1 := Cl.below b9 Y1.drN.dr.dr)
            | (replace Y1 := Cl.below b9 Y1.drN.dr.drN)
            | (replace Y1 := Cl.below b9 Y1.drN.drN.al)
            | (replace Y1 := Cl.below b9 Y1.drN.drN.dr)
            | (replace Y1 := Cl.below b9 Y1.drN.drN.drN)
          have Y1_c := Y1.cell
          have Y1_f := Y1.free
          have Y1_l := Y1.lt
          dsimp only at Y1_l
          first
            | (replace P0' := Cl.below b9 P0')
            | (replace P0' := Cl.below b9 P0'.al)
            | (replace P0' := Cl.below b9 P0'.dr)
            | (replace P0' := Cl.below b9 P0'.drN)
            | (replace P0' := Cl.below b9 P0'.al.al)
            | (replace P0' := Cl.below b9 P0'.al.dr)
            | (replace P0' := Cl.below b9 P0'.al.drN)
            | (replace P0' := Cl.below b9 P0'.dr.al)
            | (replace P0' := Cl.below b9 P0'.dr.dr)
            | (replace P0' := Cl.below b9 P0'.dr.drN)
            | (replace P0' := Cl.below b9 P0'.drN.al)
            | (replace P0' := Cl.below b9 P0'.drN.dr)
            | (replace P0' := Cl.below b9 P0'.drN.drN)
            | (replace P0' := Cl.below b9 P0'.al.al.al)
            | (replace P0' := Cl.below b9 P0'.al.al.dr)
            | (replace P0' := Cl.below b9 P0'.al.al.drN)
            | (replace P0' := Cl.below b9 P0'.al.dr.al)
            | (replace P0' := Cl.below b9 P0'.al.dr.dr)
            | (replace P0' := Cl.below b9 P0'.al.dr.drN)
            | (replace P0' := Cl.below b9 P0'.al.drN.al)
            | (replace P0' := Cl.below b9 P0'.al.drN.dr)
            | (replace P0' := Cl.below b9 P0'.al.drN.drN)
            | (replace P0' := Cl.below b9 P0'.dr.al.al)
            | (replace P0' := Cl.below b9 P0'.dr.al.dr)
            | (replace P0' := Cl.below b9 P0'.dr.al.drN)
            | (replace P0' := Cl.below b9 P0'.dr.dr.al)
            | (replace P0' := Cl.below b9 P0'.dr.dr.dr)
            | (replace P0' := Cl.below b9 P0'.dr.dr.drN)
            | (replace P0' := Cl.below b9 P0'.dr.drN.al)
            | (replace P0' := Cl.below b9 P0'.dr.drN.dr)
            | (replace P0' := Cl.below b9 P0'.dr.drN.drN)
            | (replace P0' := Cl.below b9 P0'.drN.al.al)
            | (replace P0' := Cl.below b9 P0'.drN.al.dr)
            | (replace P0' := Cl.below b9 P0'.drN.al.drN)
            | (replace P0' := Cl.below b9 P0'.drN.dr.al)
            | (replace P0' := Cl.below b9 P0'.drN.dr.dr)
            | (replace P0' := Cl.below b9 P0'.drN.dr.drN)
            | (replace P0' := Cl.below b9 P0'.drN.drN.al)
            | (replace P0' := Cl.below b9 P0'.drN.drN.dr)
            | (replace P0' := Cl.below b9 P0'.drN.drN.drN)
          have P0'_c := P0'.cell
          have P0'_f := P0'.free
          have P0'_l := P0'.lt
          dsimp only at P0'_l
          first
            | (replace P1' := Cl.below b9 P1')
            | (replace P1' := Cl.below b9 P1'.al)
            | (replace P1' := Cl.below b9 P1'.dr)
            | (replace P1' := Cl.below b9 P1'.drN)
            | (replace P1' := Cl.below b9 P1'.al.al)
            | (replace P1' := Cl.below b9 P1'.al.dr)
            | (replace P1' := Cl.below b9 P1'.al.drN)
            | (replace P1' := Cl.below b9 P1'.dr.al)
            | (replace P1' := Cl.below b9 P1'.dr.dr)
            | (replace P1' := Cl.below b9 P1'.dr.drN)
            | (replace P1' := Cl.below b9 P1'.drN.al)
            | (replace P1' := Cl.below b9 P1'.drN.dr)
            | (replace P1' := Cl.below b9 P1'.drN.drN)
            | (replace P1' := Cl.below b9 P1'.al.al.al)
            | (replace P1' := Cl.below b9 P1'.al.al.dr)
            | (replace P1' := Cl.below b9 P1'.al.al.drN)
            | (replace P1' := Cl.below b9 P1'.al.dr.al)
            | (replace P1' := Cl.below b9 P1'.al.dr.dr)
            | (replace P1' := Cl.below b9 P1'.al.dr.drN)
            | (replace P1' := Cl.below b9 P1'.al.drN.al)
            | (replace P1' := Cl.below b9 P1'.al.drN.dr)
            | (replace P1' := Cl.below b9 P1'.al.drN.drN)
            | (replace P1' := Cl.below b9 P1'.dr.al.al)
            | (replace P1' := Cl.below b9 P1'.dr.al.dr)
            | (replace P1' := Cl.below b9 P1'.dr.al.drN)
            | (replace P1' := Cl.below b9 P1'.dr.dr.al)
            | (replace P1' := Cl.below b9 P1'.dr.dr.dr)
            | (replace P1' := Cl.below b9 P1'.dr.dr.drN)
            | (replace P1' := Cl.below b9 P1'.dr.drN.al)
            | (replace P1' := Cl.below b9 P1'.dr.drN.dr)
            | (replace P1' := Cl.below b9 P1'.dr.drN.drN)
            | (replace P1' := Cl.below b9 P1'.drN.al.al)
            | (replace P1' := Cl.below b9 P1'.drN.al.dr)
            | (replace P1' := Cl.below b9 P1'.drN.al.drN)
            | (replace P1' := Cl.below b9 P1'.drN.dr.al)
            | (replace P1' := Cl.below b9 P1'.drN.dr.dr)
            | (replace P1' := Cl.below b9 P1'.drN.dr.drN)
            | (replace P1' := Cl.below b9 P1'.drN.drN.al)
            | (replace P1' := Cl.below b9 P1'.drN.drN.dr)
            | (replace P1' := Cl.below b9 P1'.drN.drN.drN)
          have P1'_c := P1'.cell
          have P1'_f := P1'.free
          have P1'_l := P1'.lt
          dsimp only at P1'_l
          first
            | (replace Q0' := Cl.below b9 Q0')
            | (replace Q0' := Cl.below b9 Q0'.al)
            | (replace Q0' := Cl.below b9 Q0'.dr)
            | (replace Q0' := Cl.below b9 Q0'.drN)
            | (replace Q0' := Cl.below b9 Q0'.al.al)
            | (replace Q0' := Cl.below b9 Q0'.al.dr)
            | (replace Q0' := Cl.below b9 Q0'.al.drN)
            | (replace Q0' := Cl.below b9 Q0'.dr.al)
            | (replace Q0' := Cl.below b9 Q0'.dr.dr)
            | (replace Q0' := Cl.below b9 Q0'.dr.drN)
            | (replace Q0' := Cl.below b9 Q0'.drN.al)
            | (replace Q0' := Cl.below b9 Q0'.drN.dr)
            | (replace Q0' := Cl.below b9 Q0'.drN.drN)
            | (replace Q0' := Cl.below b9 Q0'.al.al.al)
            | (replace Q0' := Cl.below b9 Q0'.al.al.dr)
            | (replace Q0' := Cl.below b9 Q0'.al.al.drN)
            | (replace Q0' := Cl.below b9 Q0'.al.dr.al)
            | (replace Q0' := Cl.below b9 Q0'.al.dr.dr)
            | (replace Q0' := Cl.below b9 Q0'.al.dr.drN)
            | (replace Q0' := Cl.below b9 Q0'.al.drN.al)
            | (replace Q0' := Cl.below b9 Q0'.al.drN.dr)
            | (replace Q0' := Cl.below b9 Q0'.al.drN.drN)
            | (replace Q0' := Cl.below b9 Q0'.dr.al.al)
            | (replace Q0' := Cl.below b9 Q0'.dr.al.dr)
            | (replace Q0' := Cl.below b9 Q0'.dr.al.drN)
            | (replace Q0' := Cl.below b9 Q0'.dr.dr.al)
            | (replace Q0' := Cl.below b9 Q0'.dr.dr.dr)
            | (replace Q0' := Cl.below b9 Q0'.dr.dr.drN)
            | (replace Q0' := Cl.below b9 Q0'.dr.drN.al)
            | (replace Q0' := Cl.below b9 Q0'.dr.drN.dr)
            | (replace Q0' := Cl.below b9 Q0'.dr.drN.drN)
            | (replace Q0' := Cl.below b9 Q0'.drN.al.al)
            | (replace Q0' := Cl.below b9 Q0'.drN.al.dr)
            | (replace Q0' := Cl.below b9 Q0'.drN.al.drN)
            | (replace Q0' := Cl.below b9 Q0'.drN.dr.al)
            | (replace Q0' := Cl.below b9 Q0'.drN.dr.dr)
            | (replace Q0' := Cl.below b9 Q0'.drN.dr.drN)
            | (replace Q0' := Cl.below b9 Q0'.drN.drN.al)
            | (replace Q0' := Cl.below b9 Q0'.drN.drN.dr)
            | (replace Q0' := Cl.below b9 Q0'.drN.drN.drN)
          have Q0'_c := Q0'.cell
          have Q0'_f := Q0'.free
          have Q0'_l := Q0'.lt
          dsimp only at Q0'_l
          first
            | (replace Q1' := Cl.below b9 Q1')
            | (replace Q1' := Cl.below b9 Q1'.al)
            | (replace Q1' := Cl.below b9 Q1'.dr)
            | (replace Q1' := Cl.below b9 Q1'.drN)
            | (replace Q1' := Cl.below b9 Q1'.al.al)
            | (replace Q1' := Cl.below b9 Q1'.al.dr)
            | (replace Q1' := Cl.below b9 Q1'.al.drN)
            | (replace Q1' := Cl.below b9 Q1'.dr.al)
            | (replace Q1' := Cl.below b9 Q1'.dr.dr)
            | (replace Q1' := Cl.below b9 Q1'.dr.drN)
            | (replace Q1' := Cl.below b9 Q1'.drN.al)
            | (replace Q1' := Cl.below b9 Q1'.drN.dr)
            | (replace Q1' := Cl.below b9 Q1'.drN.drN)
            | (replace Q1' := Cl.below b9 Q1'.al.al.al)
            | (replace Q1' := Cl.below b9 Q1'.al.al.dr)
            | (replace Q1' := Cl.below b9 Q1'.al.al.drN)
            | (replace Q1' := Cl.below b9 Q1'.al.dr.al)
            | (replace Q1' := Cl.below b9 Q1'.al.dr.dr)
            | (replace Q1' := Cl.below b9 Q1'.al.dr.drN)
            | (replace Q1' := Cl.below b9 Q1'.al.drN.al)
            | (replace Q1' := Cl.below b9 Q1'.al.drN.dr)
            | (replace Q1' := Cl.below b9 Q1'.al.drN.drN)
            | (replace Q1' := Cl.below b9 Q1'.dr.al.al)
            | (replace Q1' := Cl.below b9 Q1'.dr.al.dr)
            | (replace Q1' := Cl.below b9 Q1'.dr.al.drN)
            | (replace Q1' := Cl.below b9 Q1'.dr.dr.al)
            | (replace Q1' := Cl.below b9 Q1'.dr.dr.dr)
            | (replace Q1' := Cl.below b9 Q1'.dr.dr.drN)
            | (replace Q1' := Cl.below b9 Q1'.dr.drN.al)
            | (replace Q1' := Cl.below b9 Q1'.dr.drN.dr)
            | (replace Q1' := Cl.below b9 Q1'.dr.drN.drN)
            | (replace Q1' := Cl.below b9 Q1'.drN.al.al)
            | (replace Q1' := Cl.below b9 Q1'.drN.al.dr)
            | (replace Q1' := Cl.below b9 Q1'.drN.al.drN)
            | (replace Q1' := Cl.below b9 Q1'.drN.dr.al)
            | (replace Q1' := Cl.below b9 Q1'.drN.dr.dr)
            | (replace Q1' := Cl.below b9 Q1'.drN.dr.drN)
            | (replace Q1' := Cl.below b9 Q1'.drN.drN.al)
            | (replace Q1' := Cl.below b9 Q1'.drN.drN.dr)
            | (replace Q1' := Cl.below b9 Q1'.drN.drN.drN)
          have Q1'_c := Q1'.cell
          have Q1'_f := Q1'.free
          have Q1'_l := Q1'.lt
          dsimp only at Q1'_l
          first
            | (replace K0 := Cl.below b9 K0)
            | (replace K0 := Cl.below b9 K0.al)
            | (replace K0 := Cl.below b9 K0.dr)
            | (replace K0 := Cl.below b9 K0.drN)
            | (replace K0 := Cl.below b9 K0.al.al)
            | (replace K0 := Cl.below b9 K0.al.dr)
            | (replace K0 := Cl.below b9 K0.al.drN)
            | (replace K0 := Cl.below b9 K0.dr.al)
            | (replace K0 := Cl.below b9 K0.dr.dr)
            | (replace K0 := Cl.below b9 K0.dr.drN)
            | (replace K0 := Cl.below b9 K0.drN.al)
            | (replace K0 := Cl.below b9 K0.drN.dr)
            | (replace K0 := Cl.below b9 K0.drN.drN)
            | (replace K0 := Cl.below b9 K0.al.al.al)
            | (replace K0 := Cl.below b9 K0.al.al.dr)
            | (replace K0 := Cl.below b9 K0.al.al.drN)
            | (replace K0 := Cl.below b9 K0.al.dr.al)
            | (replace K0 := Cl.below b9 K0.al.dr.dr)
            | (replace K0 := Cl.below b9 K0.al.dr.drN)
            | (replace K0 := Cl.below b9 K0.al.drN.al)
            | (replace K0 := Cl.below b9 K0.al.drN.dr)
            | (replace K0 := Cl.below b9 K0.al.drN.drN)
            | (replace K0 := Cl.below b9 K0.dr.al.al)
            | (replace K0 := Cl.below b9 K0.dr.al.dr)
            | (replace K0 := Cl.below b9 K0.dr.al.drN)
            | (replace K0 := Cl.below b9 K0.dr.dr.al)
            | (replace K0 := Cl.below b9 K0.dr.dr.dr)
            | (replace K0 := Cl.below b9 K0.dr.dr.drN)
            | (replace K0 := Cl.below b9 K0.dr.drN.al)
            | (replace K0 := Cl.below b9 K0.dr.drN.dr)
            | (replace K0 := Cl.below b9 K0.dr.drN.drN)
            | (replace K0 := Cl.below b9 K0.drN.al.al)
            | (replace K0 := Cl.below b9 K0.drN.al.dr)
            | (replace K0 := Cl.below b9 K0.drN.al.drN)
            | (replace K0 := Cl.below b9 K0.drN.dr.al)
            | (replace K0 := Cl.below b9 K0.drN.dr.dr)
            | (replace K0 := Cl.below b9 K0.drN.dr.drN)
            | (replace K0 := Cl.below b9 K0.drN.drN.al)
            | (replace K0 := Cl.below b9 K0.drN.drN.dr)
            | (replace K0 := Cl.below b9 K0.drN.drN.drN)
          have K0_c := K0.cell
          have K0_f := K0.free
          have K0_l := K0.lt
          dsimp only at K0_l
          first
            | (replace K1 := Cl.below b9 K1)
            | (replace K1 := Cl.below b9 K1.al)
            | (replace K1 := Cl.below b9 K1.dr)
            | (replace K1 := Cl.below b9 K1.drN)
            | (replace K1 := Cl.below b9 K1.al.al)
            | (replace K1 := Cl.below b9 K1.al.dr)
            | (replace K1 := Cl.below b9 K1.al.drN)
            | (replace K1 := Cl.below b9 K1.dr.al)
            | (replace K1 := Cl.below b9 K1.dr.dr)
            | (replace K1 := Cl.below b9 K1.dr.drN)
            | (replace K1 := Cl.below b9 K1.drN.al)
            | (replace K1 := Cl.below b9 K1.drN.dr)
            | (replace K1 := Cl.below b9 K1.drN.drN)
            | (replace K1 := Cl.below b9 K1.al.al.al)
            | (replace K1 := Cl.below b9 K1.al.al.dr)
            | (replace K1 := Cl.below b9 K1.al.al.drN)
            | (replace K1 := Cl.below b9 K1.al.dr.al)
            | (replace K1 := Cl.below b9 K1.al.dr.dr)
            | (replace K1 := Cl.below b9 K1.al.dr.drN)
            | (replace K1 := Cl.below b9 K1.al.drN.al)
            | (replace K1 := Cl.below b9 K1.al.drN.dr)
            | (replace K1 := Cl.below b9 K1.al.drN.drN)
            | (replace K1 := Cl.below b9 K1.dr.al.al)
            | (replace K1 := Cl.below b9 K1.dr.al.dr)
            | (replace K1 := Cl.below b9 K1.dr.al.drN)
            | (replace K1 := Cl.below b9 K1.dr.dr.al)
            | (replace K1 := Cl.below b9 K1.dr.dr.dr)
            | (replace K1 := Cl.below b9 K1.dr.dr.drN)
            | (replace K1 := Cl.below b9 K1.dr.drN.al)
            | (replace K1 := Cl.below b9 K1.dr.drN.dr)
            | (replace K1 := Cl.below b9 K1.dr.drN.drN)
            | (replace K1 := Cl.below b9 K1.drN.al.al)
            | (replace K1 := Cl.below b9 K1.drN.al.dr)
            | (replace K1 := Cl.below b9 K1.drN.al.drN)
            | (replace K1 := Cl.below b9 K1.drN.dr.al)
            | (replace K1 := Cl.below b9 K1.drN.dr.dr)
            | (replace K1 := Cl.below b9 K1.drN.dr.drN)
            | (replace K1 := Cl.below b9 K1.drN.drN.al)
            | (replace K1 := Cl.below b9 K1.drN.drN.dr)
            | (replace K1 := Cl.below b9 K1.drN.drN.drN)
          have K1_c := K1.cell
          have K1_f := K1.free
          have K1_l := K1.lt
          dsimp only at K1_l
          first
            | (replace E0 := Cl.below b9 E0)
            | (replace E0 := Cl.below b9 E0.al)
            | (replace E0 := Cl.below b9 E0.dr)
            | (replace E0 := Cl.below b9 E0.drN)
            | (replace E0 := Cl.below b9 E0.al.al)
            | (replace E0 := Cl.below b9 E0.al.dr)
            | (replace E0 := Cl.below b9 E0.al.drN)
            | (replace E0 := Cl.below b9 E0.dr.al)
            | (replace E0 := Cl.below b9 E0.dr.dr)
            | (replace E0 := Cl.below b9 E0.dr.drN)
            | (replace E0 := Cl.below b9 E0.drN.al)
            | (replace E0 := Cl.below b9 E0.drN.dr)
            | (replace E0 := Cl.below b9 E0.drN.drN)
            | (replace E0 := Cl.below b9 E0.al.al.al)
            | (replace E0 := Cl.below b9 E0.al.al.dr)
            | (replace E0 := Cl.below b9 E0.al.al.drN)
            | (replace E0 := Cl.below b9 E0.al.dr.al)
            | (replace E0 := Cl.below b9 E0.al.dr.dr)
            | (replace E0 := Cl.below b9 E0.al.dr.drN)
            | (replace E0 := Cl.below b9 E0.al.drN.al)
            | (replace E0 := Cl.below b9 E0.al.drN.dr)
            | (replace E0 := Cl.below b9 E0.al.drN.drN)
            | (replace E0 := Cl.below b9 E0.dr.al.al)
            | (replace E0 := Cl.below b9 E0.dr.al.dr)
            | (replace E0 := Cl.below b9 E0.dr.al.drN)
            | (replace E0 := Cl.below b9 E0.dr.dr.al)
            | (replace E0 := Cl.below b9 E0.dr.dr.dr)
            | (replace E0 := Cl.below b9 E0.dr.dr.drN)
            | (replace E0 := Cl.below b9 E0.dr.drN.al)
            | (replace E0 := Cl.below b9 E0.dr.drN.dr)
            | (replace E0 := Cl.below b9 E0.dr.drN.drN)
            | (replace E0 := Cl.below b9 E0.drN.al.al)
            | (replace E0 := Cl.below b9 E0.drN.al.dr)
            | (replace E0 := Cl.below b9 E0.drN.al.drN)
            | (replace E0 := Cl.below b9 E0.drN.dr.al)
            | (replace E0 := Cl.below b9 E0.drN.dr.dr)
            | (replace E0 := Cl.below b9 E0.drN.dr.drN)
            | (replace E0 := Cl.below b9 E0.drN.drN.al)
            | (replace E0 := Cl.below b9 E0.drN.drN.dr)
            | (replace E0 := Cl.below b9 E0.drN.drN.drN)
          have E0_c := E0.cell
          have E0_f := E0.free
          have E0_l := E0.lt
          dsimp only at E0_l
          first
            | (replace E1 := Cl.below b9 E1)
            | (replace E1 := Cl.below b9 E1.al)
            | (replace E1 := Cl.below b9 E1.dr)
            | (replace E1 := Cl.below b9 E1.drN)
            | (replace E1 := Cl.below b9 E1.al.al)
            | (replace E1 := Cl.below b9 E1.al.dr)
            | (replace E1 := Cl.below b9 E1.al.drN)
            | (replace E1 := Cl.below b9 E1.dr.al)
            | (replace E1 := Cl.below b9 E1.dr.dr)
            | (replace E1 := Cl.below b9 E1.dr.drN)
            | (replace E1 := Cl.below b9 E1.drN.al)
            | (replace E1 := Cl.below b9 E1.drN.dr)
            | (replace E1 := Cl.below b9 E1.drN.drN)
            | (replace E1 := Cl.below b9 E1.al.al.al)
            | (replace E1 := Cl.below b9 E1.al.al.dr)
            | (replace E1 := Cl.below b9 E1.al.al.drN)
            | (replace E1 := Cl.below b9 E1.al.dr.al)
            | (replace E1 := Cl.below b9 E1.al.dr.dr)
            | (replace E1 := Cl.below b9 E1.al.dr.drN)
            | (replace E1 := Cl.below b9 E1.al.drN.al)
            | (replace E1 := Cl.below b9 E1.al.drN.dr)
            | (replace E1 := Cl.below b9 E1.al.drN.drN)
            | (replace E1 := Cl.below b9 E1.dr.al.al)
            | (replace E1 := Cl.below b9 E1.dr.al.dr)
            | (replace E1 := Cl.below b9 E1.dr.al.drN)
            | (replace E1 := Cl.below b9 E1.dr.dr.al)
            | (replace E1 := Cl.below b9 E1.dr.dr.dr)
            | (replace E1 := Cl.below b9 E1.dr.dr.drN)
            | (replace E1 := Cl.below b9 E1.dr.drN.al)
            | (replace E1 := Cl.below b9 E1.dr.drN.dr)
            | (replace E1 := Cl.below b9 E1.dr.drN.drN)
            | (replace E1 := Cl.below b9 E1.drN.al.al)
            | (replace E1 := Cl.below b9 E1.drN.al.dr)
            | (replace E1 := Cl.below b9 E1.drN.al.drN)
            | (replace E1 := Cl.below b9 E1.drN.dr.al)
            | (replace E1 := Cl.below b9 E1.drN.dr.dr)
            | (replace E1 := Cl.below b9 E1.drN.dr.drN)
            | (replace E1 := Cl.below b9 E1.drN.drN.al)
            | (replace E1 := Cl.below b9 E1.drN.drN.dr)
            | (replace E1 := Cl.below b9 E1.drN.drN.drN)
          have E1_c := E1.cell
          have E1_f := E1.free
          have E1_l := E1.lt
          dsimp only at E1_l
          by_cases hR : rightD D1 = true
          · rw [hR]
            obtain ⟨hDY, rfl⟩ : DY = ⟨endsTo (fun _ => 1) D1.f0 D1.f1 D1.f1.length, []⟩ ∧ eY = 0 := Prod.mk.inj (hY.out.symm.trans (flushD_ok hR))
            obtain ⟨hDC, rfl⟩ : DC = ⟨endsTo (fun i => fs.getD i 0) D1.f0 D1.f1 D1.f1.length, []⟩ ∧ eC = 0 := Prod.mk.inj (hC.out.symm.trans (crashD_ok fs hR))
            have hYl : DY.f0.length = D1.f0.length := by rw [hDY]; exact endsTo_len _ _ _ _
            have hCl : DC.f0.length = D1.f0.length := by rw [hDC]; exact endsTo_len _ _ _ _
            have hY1 : DY.f1.length = 0 := by rw [hDY]; rfl
            have hC1 : DC.f1.length = 0 := by rw [hDC]; rfl
            have hYa := hid (show ∀ k, k < D1.f0.length → DY.f0.getD k ByteArray.empty = standsD D1 k from fun k hk => by rw [hDY]; exact flush_at hR hk)
            have hCa := hid (show ∀ k, k < D1.f0.length → DC.f0.getD k ByteArray.empty = leftTo D1 k fs D1.f1.length from fun k hk => by rw [hDC]; exact crash_at hR fs hk)
            clear hDY hDC hY hC
            obtain ⟨t1, t2, t3, _, _⟩ := rightD_parts hR
            replace hR := hid hR
            have q1 : (DY.f0.length : Int) = (D1.f0.length : Int) := by omega
            have q2 : (DC.f0.length : Int) = (D1.f0.length : Int) := by omega
            replace hYl := hid hYl
            replace hCl := hid hCl
            have dB := below_step hb b9
            replace hdc := hid (hdc.out.below dB)
            replace dP := hid (dP.out.below dB)
            replace dY := hid (dY.out.below dB)
            replace dC := hid (dC.out.below dB)
            replace hF6 := hid (Kd.C_below hF6.out dB)
            replace hL6 := hid (Kd.C_below hL6.out dB)
            have Bw9 := below_step Bw7 dB
            clear dB hb b9
            go_wp2_with fail
            clear q1 q2
            go_loopw [182] (fun i wr => ∃ k : Nat, k ≤ D1.f0.length ∧ i = .int .i64 k ∧ Below w9.heap.size w9 wr) (fun i _ => D1.f0.length - (intOf i).toNat)
            case atStart => exact ⟨0, Nat.zero_le _, rfl, Below.refl _ _⟩
            case round => as_aux_lemma =>
              obtain ⟨k, hk, rfl, bk⟩ := hrel
              have szk := bk.size
              have Y0 := Cl.below bk Y0
              have Y1 := Cl.below bk Y1
              have P0' := Cl.below bk P0'
              have P1' := Cl.below bk P1'
              have Q0' := Cl.below bk Q0'
              have K0 := Cl.below bk K0
              have E0 := Cl.below bk E0
              have E1 := Cl.below bk E1
              replace hdc := hid (hdc.out.below bk)
              replace hF6 := hid (Kd.C_below hF6.out bk)
              by_cases hlt : k < D1.f0.length
              · obtain ⟨yd, rfl, hyc⟩ := Kd.at_string (VDisk.C0 (dY.out.below bk)) (k : Int) (by omega) (by have := hYl.out; omega)
                rw [Int.toNat_natCast, rdOf, Int.toNat_natCast, hYa.out k hlt] at hyc
                obtain ⟨cd, rfl, hcc⟩ := Kd.at_string (VDisk.C0 (dC.out.below bk)) (k : Int) (by omega) (by have := hCl.out; omega)
                rw [Int.toNat_natCast, rdOf, Int.toNat_natCast, hCa.out k hlt] at hcc
                have i1 : (0 : Int) ≤ (k : Int) := by omega
                have i2 : (k : Int) < (DY.f0.length : Int) := by have := hYl.out; omega
                have i3 : (k : Int) < (DC.f0.length : Int) := by have := hCl.out; omega
                have Y0_c := Y0.cell
                have Y1_c := Y1.cell
                have Q0'_c := Q0'.cell
                have K0_c := K0.cell
                go_upto_region 27 with (fail)
                go_cut [205] (fun c wx => c = .bool false ∧ Below wr.heap.size wr wx)
                case first => as_aux_lemma =>
                  go_region_held3 (fun w' => w'.cell? ⟨w.heap.size, 0, none⟩ = some (.slice B0 D1.f0.length p0) ∧ w'.cell? ⟨w.heap.size, 1, none⟩ = some (.slice B1 D1.f1.length p1) ∧ w'.cell? ⟨w4.heap.size, 0, none⟩ = some (.slice (some yd) DY.f0.length q0c) ∧ w'.cell? ⟨w5.heap.size, 0, none⟩ = some (.slice (some cd) DC.f0.length r0c) ∧ w'.cell? (yd.add k) = some (.string (standsD D1 k)) ∧ w'.cell? (cd.add k) = some (.string (leftTo D1 k fs D1.f1.length))) (first | exact ⟨Y0.cell, Y1.cell, Q0'.cell, K0.cell, hyc, hcc⟩ | go_keep)
                    (first
                    | (go_at_call 18; refine (ref_StandsV _ D1 k _ (hdc.out.below (show Below wr.heap.size wr _ from (by repeat (first | exact Below.refl _ _ | (with_reducible assumption) | refine below_alloc ?_ _ | refine pw_below_drewN ?_ _ | refine below_drew ?_ | refine Below.setCell ?_ (by dsimp only; omega) _ | refine below_step ?_ (by assumption))))) hlt).mono ?_; rintro e w10 ⟨rfl, b10⟩; have sz10 := b10.size; (try simp only [World.size_drew] at sz10); (first | (replace Y0 := Cl.below b10 Y0) | (replace Y0 := Cl.below b10 Y0.al) | (replace Y0 := Cl.below b10 Y0.dr) | (replace Y0 := Cl.below b10 Y0.drN) | (replace Y0 := Cl.below b10 Y0.al.al) | (replace Y0 := Cl.below b10 Y0.al.dr) | (replace Y0 := Cl.below b10 Y0.al.drN) | (replace Y0 := Cl.below b10 Y0.dr.al) | (replace Y0 := Cl.below b10 Y0.dr.dr) | (replace Y0 := Cl.below b10 Y0.dr.drN) | (replace Y0 := Cl.below b10 Y0.drN.al) | (replace Y0 := Cl.below b10 Y0.drN.dr) | (replace Y0 := Cl.below b10 Y0.drN.drN) | (replace Y0 := Cl.below b10 Y0.al.al.al) | (replace Y0 := Cl.below b10 Y0.al.al.dr) | (replace Y0 := Cl.below b10 Y0.al.al.drN) | (replace Y0 := Cl.below b10 Y0.al.dr.al) | (replace Y0 := Cl.below b10 Y0.al.dr.dr) | (replace Y0 := Cl.below b10 Y0.al.dr.drN) | (replace Y0 := Cl.below b10 Y0.al.drN.al) | (replace Y0 := Cl.below b10 Y0.al.drN.dr) | (replace Y0 := Cl.below b10 Y0.al.drN.drN) | (replace Y0 := Cl.below b10 Y0.dr.al.al) | (replace Y0 := Cl.below b10 Y0.dr.al.dr) | (replace Y0 := Cl.below b10 Y0.dr.al.drN) | (replace Y0 := Cl.below b10 Y0.dr.dr.al) | (replace Y0 := Cl.below b10 Y0.dr.dr.dr) | (replace Y0 := Cl.below b10 Y0.dr.dr.drN) | (replace Y0 := Cl.below b10 Y0.dr.drN.al) | (replace Y0 := Cl.below b10 Y0.dr.drN.dr) | (replace Y0 := Cl.below b10 Y0.dr.drN.drN) | (replace Y0 := Cl.below b10 Y0.drN.al.al) | (replace Y0 := Cl.below b10 Y0.drN.al.dr) | (replace Y0 := Cl.below b10 Y0.drN.al.drN) | (replace Y0 := Cl.below b10 Y0.drN.dr.al) | (replace Y0 := Cl.below b10 Y0.drN.dr.dr) | (replace Y0 := Cl.below b10 Y0.drN.dr.drN) | (replace Y0 := Cl.below b10 Y0.drN.drN.al) | (replace Y0 := Cl.below b10 Y0.drN.drN.dr) | (replace Y0 := Cl.below b10 Y0.drN.drN.drN)); (have Y0_c := Y0.cell); (have Y0_f := Y0.free); (have Y0_l := Y0.lt); (dsimp only at Y0_l); (first | (replace Y1 := Cl.below b10 Y1) | (replace Y1 := Cl.below b10 Y1.al) | (replace Y1 := Cl.below b10 Y1.dr) | (replace Y1 := Cl.below b10 Y1.drN) | (replace Y1 := Cl.below b10 Y1.al.al) | (replace Y1 := Cl.below b10 Y1.al.dr) | (replace Y1 := Cl.below b10 Y1.al.drN) | (replace Y1 := Cl.below b10 Y1.dr.al) | (replace Y1 := Cl.below b10 Y1.dr.dr) | (replace Y1 := Cl.below b10 Y1.dr.drN) | (replace Y1 := Cl.below b10 Y1.drN.al) | (replace Y1 := Cl.below b10 Y1.drN.dr) | (replace Y1 := Cl.below b10 Y1.drN.drN) | (replace Y1 := Cl.below b10 Y1.al.al.al) | (replace Y1 := Cl.below b10 Y1.al.al.dr) | (replace Y1 := Cl.below b10 Y1.al.al.drN) | (replace Y1 := Cl.below b10 Y1.al.dr.al) | (replace Y1 := Cl.below b10 Y1.al.dr.dr) | (replace Y1 := Cl.below b10 Y1.al.dr.drN) | (replace Y1 := Cl.below b10 Y1.al.drN.al) | (replace Y1 := Cl.below b10 Y1.al.drN.dr) | (replace Y1 := Cl.below b10 Y1.al.drN.drN) | (replace Y1 := Cl.below b10 Y1.dr.al.al) | (replace Y1 := Cl.below b10 Y1.dr.al.dr) | (replace Y1 := Cl.below b10 Y1.dr.al.drN) | (replace Y1 := Cl.below b10 Y1.dr.dr.al) | (replace Y1 := Cl.below b10 Y1.dr.dr.dr) | (replace Y1 := Cl.below b10 Y1.dr.dr.drN) | (replace Y1 := Cl.below b10 Y1.dr.drN.al) | (replace Y1 := Cl.below b10 Y1.dr.drN.dr) | (replace Y1 := Cl.below b10 Y1.dr.drN.drN) | (replace Y1 := Cl.below b10 Y1.drN.al.al) | (replace Y1 := Cl.below b10 Y1.drN.al.dr) | (replace Y1 := Cl.below b10 Y1.drN.al.drN) | (replace Y1 := Cl.below b10 Y1.drN.dr.al) | (replace Y1 := Cl.below b10 Y1.drN.dr.dr) | (replace Y1 := Cl.below b10 Y1.drN.dr.drN) | (replace Y1 := Cl.below b10 Y1.drN.drN.al) | (replace Y1 := Cl.below b10 Y1.drN.drN.dr) | (replace Y1 := Cl.below b10 Y1.drN.drN.drN)); (have Y1_c := Y1.cell); (have Y1_f := Y1.free); (have Y1_l := Y1.lt); (dsimp only at Y1_l); (first | (replace Q0' := Cl.below b10 Q0') | (replace Q0' := Cl.below b10 Q0'.al) | (replace Q0' := Cl.below b10 Q0'.dr) | (replace Q0' := Cl.below b10 Q0'.drN) | (replace Q0' := Cl.below b10 Q0'.al.al) | (replace Q0' := Cl.below b10 Q0'.al.dr) | (replace Q0' := Cl.below b10 Q0'.al.drN) | (replace Q0' := Cl.below b10 Q0'.dr.al) | (replace Q0' := Cl.below b10 Q0'.dr.dr) | (replace Q0' := Cl.below b10 Q0'.dr.drN) | (replace Q0' := Cl.below b10 Q0'.drN.al) | (replace Q0' := Cl.below b10 Q0'.drN.dr) | (replace Q0' := Cl.below b10 Q0'.drN.drN) | (replace Q0' := Cl.below b10 Q0'.al.al.al) | (replace Q0' := Cl.below b10 Q0'.al.al.dr) | (replace Q0' := Cl.below b10 Q0'.al.al.drN) | (replace Q0' := Cl.below b10 Q0'.al.dr.al) | (replace Q0' := Cl.below b10 Q0'.al.dr.dr) | (replace Q0' := Cl.below b10 Q0'.al.dr.drN) | (replace Q0' := Cl.below b10 Q0'.al.drN.al) | (replace Q0' := Cl.below b10 Q0'.al.drN.dr) | (replace Q0' := Cl.below b10 Q0'.al.drN.drN) | (replace Q0' := Cl.below b10 Q0'.dr.al.al) | (replace Q0' := Cl.below b10 Q0'.dr.al.dr) | (replace Q0' := Cl.below b10 Q0'.dr.al.drN) | (replace Q0' := Cl.below b10 Q0'.dr.dr.al) | (replace Q0' := Cl.below b10 Q0'.dr.dr.dr) | (replace Q0' := Cl.below b10 Q0'.dr.dr.drN) | (replace Q0' := Cl.below b10 Q0'.dr.drN.al) | (replace Q0' := Cl.below b10 Q0'.dr.drN.dr) | (replace Q0' := Cl.below b10 Q0'.dr.drN.drN) | (replace Q0' := Cl.below b10 Q0'.drN.al.al) | (replace Q0' := Cl.below b10 Q0'.drN.al.dr) | (replace Q0' := Cl.below b10 Q0'.drN.al.drN) | (replace Q0' := Cl.below b10 Q0'.drN.dr.al) | (replace Q0' := Cl.below b10 Q0'.drN.dr.dr) | (replace Q0' := Cl.below b10 Q0'.drN.dr.drN) | (replace Q0' := Cl.below b10 Q0'.drN.drN.al) | (replace Q0' := Cl.below b10 Q0'.drN.drN.dr) | (replace Q0' := Cl.below b10 Q0'.drN.drN.drN)); (have Q0'_c := Q0'.cell); (have Q0'_f := Q0'.free); (have Q0'_l := Q0'.lt); (dsimp only at Q0'_l); (first | (replace K0 := Cl.below b10 K0) | (replace K0 := Cl.below b10 K0.al) | (replace K0 := Cl.below b10 K0.dr) | (replace K0 := Cl.below b10 K0.drN) | (replace K0 := Cl.below b10 K0.al.al) | (replace K0 := Cl.below b10 K0.al.dr) | (replace K0 := Cl.below b10 K0.al.drN) | (replace K0 := Cl.below b10 K0.dr.al) | (replace K0 := Cl.below b10 K0.dr.dr) | (replace K0 := Cl.below b10 K0.dr.drN) | (replace K0 := Cl.below b10 K0.drN.al) | (replace K0 := Cl.below b10 K0.drN.dr) | (replace K0 := Cl.below b10 K0.drN.drN) | (replace K0 := Cl.below b10 K0.al.al.al) | (replace K0 := Cl.below b10 K0.al.al.dr) | (replace K0 := Cl.below b10 K0.al.al.drN) | (replace K0 := Cl.below b10 K0.al.dr.al) | (replace K0 := Cl.below b10 K0.al.dr.dr) | (replace K0 := Cl.below b10 K0.al.dr.drN) | (replace K0 := Cl.below b10 K0.al.drN.al) | (replace K0 := Cl.below b10 K0.al.drN.dr) | (replace K0 := Cl.below b10 K0.al.drN.drN) | (replace K0 := Cl.below b10 K0.dr.al.al) | (replace K0 := Cl.below b10 K0.dr.al.dr) | (replace K0 := Cl.below b10 K0.dr.al.drN) | (replace K0 := Cl.below b10 K0.dr.dr.al) | (replace K0 := Cl.below b10 K0.dr.dr.dr) | (replace K0 := Cl.below b10 K0.dr.dr.drN) | (replace K0 := Cl.below b10 K0.dr.drN.al) | (replace K0 := Cl.below b10 K0.dr.drN.dr) | (replace K0 := Cl.below b10 K0.dr.drN.drN) | (replace K0 := Cl.below b10 K0.drN.al.al) | (replace K0 := Cl.below b10 K0.drN.al.dr) | (replace K0 := Cl.below b10 K0.drN.al.drN) | (replace K0 := Cl.below b10 K0.drN.dr.al) | (replace K0 := Cl.below b10 K0.drN.dr.dr) | (replace K0 := Cl.below b10 K0.drN.dr.drN) | (replace K0 := Cl.below b10 K0.drN.drN.al) | (replace K0 := Cl.below b10 K0.drN.drN.dr) | (replace K0 := Cl.below b10 K0.drN.drN.drN)); (have K0_c := K0.cell); (have K0_f := K0.free); (have K0_l := K0.lt); (dsimp only at K0_l); replace hyc := pw_cell_below b10 hyc; replace hcc := pw_cell_below b10 hcc)
                    | (go_at_call 19; refine (ref_LeftV _ D1 k F ef fs _ (hdc.out.below (show Below wr.heap.size wr _ from (by repeat (first | exact Below.refl _ _ | (with_reducible assumption) | refine below_alloc ?_ _ | refine pw_below_drewN ?_ _ | refine below_drew ?_ | refine Below.setCell ?_ (by dsimp only; omega) _ | refine below_step ?_ (by assumption))))) (Kd.C_below hF6.out (show Below wr.heap.size wr _ from (by repeat (first | exact Below.refl _ _ | (with_reducible assumption) | refine below_alloc ?_ _ | refine pw_below_drewN ?_ _ | refine below_drew ?_ | refine Below.setCell ?_ (by dsimp only; omega) _ | refine below_step ?_ (by assumption))))) lf hlt hR.out).mono ?_; rintro e w11 ⟨rfl, b11⟩; have sz11 := b11.size; (try simp only [World.size_drew] at sz11); (first | (replace Y0 := Cl.below b11 Y0) | (replace Y0 := Cl.below b11 Y0.al) | (replace Y0 := Cl.below b11 Y0.dr) | (replace Y0 := Cl.below b11 Y0.drN) | (replace Y0 := Cl.below b11 Y0.al.al) | (replace Y0 := Cl.below b11 Y0.al.dr) | (replace Y0 := Cl.below b11 Y0.al.drN) | (replace Y0 := Cl.below b11 Y0.dr.al) | (replace Y0 := Cl.below b11 Y0.dr.dr) | (replace Y0 := Cl.below b11 Y0.dr.drN) | (replace Y0 := Cl.below b11 Y0.drN.al) | (replace Y0 := Cl.below b11 Y0.drN.dr) | (replace Y0 := Cl.below b11 Y0.drN.drN) | (replace Y0 := Cl.below b11 Y0.al.al.al) | (replace Y0 := Cl.below b11 Y0.al.al.dr) | (replace Y0 := Cl.below b11 Y0.al.al.drN) | (replace Y0 := Cl.below b11 Y0.al.dr.al) | (replace Y0 := Cl.below b11 Y0.al.dr.dr) | (replace Y0 := Cl.below b11 Y0.al.dr.drN) | (replace Y0 := Cl.below b11 Y0.al.drN.al) | (replace Y0 := Cl.below b11 Y0.al.drN.dr) | (replace Y0 := Cl.below b11 Y0.al.drN.drN) | (replace Y0 := Cl.below b11 Y0.dr.al.al) | (replace Y0 := Cl.below b11 Y0.dr.al.dr) | (replace Y0 := Cl.below b11 Y0.dr.al.drN) | (replace Y0 := Cl.below b11 Y0.dr.dr.al) | (replace Y0 := Cl.below b11 Y0.dr.dr.dr) | (replace Y0 := Cl.below b11 Y0.dr.dr.drN) | (replace Y0 := Cl.below b11 Y0.dr.drN.al) | (replace Y0 := Cl.below b11 Y0.dr.drN.dr) | (replace Y0 := Cl.below b11 Y0.dr.drN.drN) | (replace Y0 := Cl.below b11 Y0.drN.al.al) | (replace Y0 := Cl.below b11 Y0.drN.al.dr) | (replace Y0 := Cl.below b11 Y0.drN.al.drN) | (replace Y0 := Cl.below b11 Y0.drN.dr.al) | (replace Y0 := Cl.below b11 Y0.drN.dr.dr) | (replace Y0 := Cl.below b11 Y0.drN.dr.drN) | (replace Y0 := Cl.below b11 Y0.drN.drN.al) | (replace Y0 := Cl.below b11 Y0.drN.drN.dr) | (replace Y0 := Cl.below b11 Y0.drN.drN.drN)); (have Y0_c := Y0.cell); (have Y0_f := Y0.free); (have Y0_l := Y0.lt); (dsimp only at Y0_l); (first | (replace Y1 := Cl.below b11 Y1) | (replace Y1 := Cl.below b11 Y1.al) | (replace Y1 := Cl.below b11 Y1.dr) | (replace Y1 := Cl.below b11 Y1.drN) | (replace Y1 := Cl.below b11 Y1.al.al) | (replace Y1 := Cl.below b11 Y1.al.dr) | (replace Y1 := Cl.below b11 Y1.al.drN) | (replace Y1 := Cl.below b11 Y1.dr.al) | (replace Y1 := Cl.below b11 Y1.dr.dr) | (replace Y1 := Cl.below b11 Y1.dr.drN) | (replace Y1 := Cl.below b11 Y1.drN.al) | (replace Y1 := Cl.below b11 Y1.drN.dr) | (replace Y1 := Cl.below b11 Y1.drN.drN) | (replace Y1 := Cl.below b11 Y1.al.al.al) | (replace Y1 := Cl.below b11 Y1.al.al.dr) | (replace Y1 := Cl.below b11 Y1.al.al.drN) | (replace Y1 := Cl.below b11 Y1.al.dr.al) | (replace Y1 := Cl.below b11 Y1.al.dr.dr) | (replace Y1 := Cl.below b11 Y1.al.dr.drN) | (replace Y1 := Cl.below b11 Y1.al.drN.al) | (replace Y1 := Cl.below b11 Y1.al.drN.dr) | (replace Y1 := Cl.below b11 Y1.al.drN.drN) | (replace Y1 := Cl.below b11 Y1.dr.al.al) | (replace Y1 := Cl.below b11 Y1.dr.al.dr) | (replace Y1 := Cl.below b11 Y1.dr.al.drN) | (replace Y1 := Cl.below b11 Y1.dr.dr.al) | (replace Y1 := Cl.below b11 Y1.dr.dr.dr) | (replace Y1 := Cl.below b11 Y1.dr.dr.drN) | (replace Y1 := Cl.below b11 Y1.dr.drN.al) | (replace Y1 := Cl.below b11 Y1.dr.drN.dr) | (replace Y1 := Cl.below b11 Y1.dr.drN.drN) | (replace Y1 := Cl.below b11 Y1.drN.al.al) | (replace Y1 := Cl.below b11 Y1.drN.al.dr) | (replace Y1 := Cl.below b11 Y1.drN.al.drN) | (replace Y1 := Cl.below b11 Y1.drN.dr.al) | (replace Y1 := Cl.below b11 Y1.drN.dr.dr) | (replace Y1 := Cl.below b11 Y1.drN.dr.drN) | (replace Y1 := Cl.below b11 Y1.drN.drN.al) | (replace Y1 := Cl.below b11 Y1.drN.drN.dr) | (replace Y1 := Cl.below b11 Y1.drN.drN.drN)); (have Y1_c := Y1.cell); (have Y1_f := Y1.free); (have Y1_l := Y1.lt); (dsimp only at Y1_l); (first | (replace Q0' := Cl.below b11 Q0') | (replace Q0' := Cl.below b11 Q0'.al) | (replace Q0' := Cl.below b11 Q0'.dr) | (replace Q0' := Cl.below b11 Q0'.drN) | (replace Q0' := Cl.below b11 Q0'.al.al) | (replace Q0' := Cl.below b11 Q0'.al.dr) | (replace Q0' := Cl.below b11 Q0'.al.drN) | (replace Q0' := Cl.below b11 Q0'.dr.al) | (replace Q0' := Cl.below b11 Q0'.dr.dr) | (replace Q0' := Cl.below b11 Q0'.dr.drN) | (replace Q0' := Cl.below b11 Q0'.drN.al) | (replace Q0' := Cl.below b11 Q0'.drN.dr) | (replace Q0' := Cl.below b11 Q0'.drN.drN) | (replace Q0' := Cl.below b11 Q0'.al.al.al) | (replace Q0' := Cl.below b11 Q0'.al.al.dr) | (replace Q0' := Cl.below b11 Q0'.al.al.drN) | (replace Q0' := Cl.below b11 Q0'.al.dr.al) | (replace Q0' := Cl.below b11 Q0'.al.dr.dr) | (replace Q0' := Cl.below b11 Q0'.al.dr.drN) | (replace Q0' := Cl.below b11 Q0'.al.drN.al) | (replace Q0' := Cl.below b11 Q0'.al.drN.dr) | (replace Q0' := Cl.below b11 Q0'.al.drN.drN) | (replace Q0' := Cl.below b11 Q0'.dr.al.al) | (replace Q0' := Cl.below b11 Q0'.dr.al.dr) | (replace Q0' := Cl.below b11 Q0'.dr.al.drN) | (replace Q0' := Cl.below b11 Q0'.dr.dr.al) | (replace Q0' := Cl.below b11 Q0'.dr.dr.dr) | (replace Q0' := Cl.below b11 Q0'.dr.dr.drN) | (replace Q0' := Cl.below b11 Q0'.dr.drN.al) | (replace Q0' := Cl.below b11 Q0'.dr.drN.dr) | (replace Q0' := Cl.below b11 Q0'.dr.drN.drN) | (replace Q0' := Cl.below b11 Q0'.drN.al.al) | (replace Q0' := Cl.below b11 Q0'.drN.al.dr) | (replace Q0' := Cl.below b11 Q0'.drN.al.drN) | (replace Q0' := Cl.below b11 Q0'.drN.dr.al) | (replace Q0' := Cl.below b11 Q0'.drN.dr.dr) | (replace Q0' := Cl.below b11 Q0'.drN.dr.drN) | (replace Q0' := Cl.below b11 Q0'.drN.drN.al) | (replace Q0' := Cl.below b11 Q0'.drN.drN.dr) | (replace Q0' := Cl.below b11 Q0'.drN.drN.drN)); (have Q0'_c := Q0'.cell); (have Q0'_f := Q0'.free); (have Q0'_l := Q0'.lt); (dsimp only at Q0'_l); (first | (replace K0 := Cl.below b11 K0) | (replace K0 := Cl.below b11 K0.al) | (replace K0 := Cl.below b11 K0.dr) | (replace K0 := Cl.below b11 K0.drN) | (replace K0 := Cl.below b11 K0.al.al) | (replace K0 := Cl.below b11 K0.al.dr) | (replace K0 := Cl.below b11 K0.al.drN) | (replace K0 := Cl.below b11 K0.dr.al) | (replace K0 := Cl.below b11 K0.dr.dr) | (replace K0 := Cl.below b11 K0.dr.drN) | (replace K0 := Cl.below b11 K0.drN.al) | (replace K0 := Cl.below b11 K0.drN.dr) | (replace K0 := Cl.below b11 K0.drN.drN) | (replace K0 := Cl.below b11 K0.al.al.al) | (replace K0 := Cl.below b11 K0.al.al.dr) | (replace K0 := Cl.below b11 K0.al.al.drN) | (replace K0 := Cl.below b11 K0.al.dr.al) | (replace K0 := Cl.below b11 K0.al.dr.dr) | (replace K0 := Cl.below b11 K0.al.dr.drN) | (replace K0 := Cl.below b11 K0.al.drN.al) | (replace K0 := Cl.below b11 K0.al.drN.dr) | (replace K0 := Cl.below b11 K0.al.drN.drN) | (replace K0 := Cl.below b11 K0.dr.al.al) | (replace K0 := Cl.below b11 K0.dr.al.dr) | (replace K0 := Cl.below b11 K0.dr.al.drN) | (replace K0 := Cl.below b11 K0.dr.dr.al) | (replace K0 := Cl.below b11 K0.dr.dr.dr) | (replace K0 := Cl.below b11 K0.dr.dr.drN) | (replace K0 := Cl.below b11 K0.dr.drN.al) | (replace K0 := Cl.below b11 K0.dr.drN.dr) | (replace K0 := Cl.below b11 K0.dr.drN.drN) | (replace K0 := Cl.below b11 K0.drN.al.al) | (replace K0 := Cl.below b11 K0.drN.al.dr) | (replace K0 := Cl.below b11 K0.drN.al.drN) | (replace K0 := Cl.below b11 K0.drN.dr.al) | (replace K0 := Cl.below b11 K0.drN.dr.dr) | (replace K0 := Cl.below b11 K0.drN.dr.drN) | (replace K0 := Cl.below b11 K0.drN.drN.al) | (replace K0 := Cl.below b11 K0.drN.drN.dr) | (replace K0 := Cl.below b11 K0.drN.drN.drN)); (have K0_c := K0.cell); (have K0_f := K0.free); (have K0_l := K0.lt); (dsimp only at K0_l); replace hyc := pw_cell_below b11 hyc; replace hcc := pw_cell_below b11 hcc)
                    | fail)
                  all_goals
                    go_wp2_with fail
                    go_meet
                    exact ⟨rfl, (by repeat (first | exact Below.refl _ _ | (with_reducible assumption) | refine below_alloc ?_ _ | refine pw_below_drewN ?_ _ | refine below_drew ?_ | refine Below.setCell ?_ (by dsimp only; omega) _ | refine below_step ?_ (by assumption)))⟩
                case rest => as_aux_lemma =>
                  obtain ⟨rfl, hb⟩ := hcut
                  go_wp2_with fail
                  exact ⟨⟨k + 1, by omega, by go_num, below_step bk hb⟩, by simp [intOf]; omega⟩
              · obtain rfl : k = D1.f0.length := by omega
                have Y0_c := Y0.cell
                have Y1_c := Y1.cell
                go_upto_region 30 with (fail)
                go_cut [215] (fun c wx => c = .bool (decide (at0 < 0 ∨ (D1.f0.length : Int) ≤ at0)) ∧ wx = wr)
                case first => as_aux_lemma =>
                  by_cases z0 : at0 < 0
                  · go_wp2_with fail
                    go_meet
                    exact ⟨by simp [z0], rfl⟩
                  · by_cases zn : (D1.f0.length : Int) ≤ at0
                    · go_wp2_with fail
                      go_meet
                      exact ⟨by simp [zn], rfl⟩
                    · go_wp2_with fail
                      go_meet
                      exact ⟨by simp [z0, zn], rfl⟩
                case rest => as_aux_lemma =>
                  obtain ⟨rfl, hwx⟩ := hcut
                  replace hwx := hwx.symm
                  subst hwx
                  go_upto_if 215 with (fail)
                  go_cut [10] (fun c wx => Below wr.heap.size wr wx)
                  case first => as_aux_lemma =>
                    by_cases hc : at0 < 0 ∨ (D1.f0.length : Int) ≤ at0
                    · obtain ⟨rfl, rfl⟩ : sL = ⟨#[]⟩ ∧ eL = 1 := Prod.mk.inj (hLd.out.symm.trans (by unfold loadD; rw [if_neg (fun h => by omega)]))
                      rw [decide_eq_true hc]
                      replace hc := hid hc
                      go_wp2_with fail
                      go_meet
                      exact Below.refl _ _
                    · rw [decide_eq_false hc]
                      obtain ⟨j, rfl⟩ := Int.eq_ofNat_of_zero_le (show 0 ≤ at0 by omega)
                      obtain ⟨rfl, rfl⟩ : sL = standsD D1 j ∧ eL = 0 := Prod.mk.inj (hLd.out.symm.trans (by unfold loadD; rw [if_pos ⟨hR.out, by omega, by omega⟩]; rfl))
                      have hj : j < D1.f0.length := by omega
                      replace hc := hid hc
                      go_wp2_with fail
                      refine (ref_StandsV _ D1 j _ hdc.out hj).mono ?_
                      rintro e w10 ⟨rfl, b10⟩
                      go_wp2_with fail
                      go_meet
                      exact b10
                  case rest => as_aux_lemma =>
                    obtain ⟨w11, hw11⟩ : ∃ x, x = wc := ⟨_, rfl⟩
                    subst hw11
                    have sz11 := hcut.size
                    have B11 := below_step bk hcut
                    replace hdc := hid (hdc.out.below hcut)
                    replace dP := hid (dP.out.below B11)
                    replace hL6 := hid (Kd.C_below hL6.out B11)
                    replace Y0 := Cl.below hcut Y0
                    replace Y1 := Cl.below hcut Y1
                    replace P0' := Cl.below hcut P0'
                    replace P1' := Cl.below hcut P1'
                    replace E0 := Cl.below hcut E0
                    replace E1 := Cl.below hcut E1
                    have Bw11 := below_step Bw9 B11
                    clear hcut bk B11 Bw9 Q0' K0 dY dC hYa hCa hYl hCl
                    have Y0_c := Y0.cell
                    have Y1_c := Y1.cell
                    go_wp2_with fail
                    refine (ref_Well L el l (D1.f0.length : Int) _ hL6.out hll).mono ?_
                    rintro e w12 ⟨rfl, b12⟩
                    have sz12 := b12.size
                    first
                      | (replace Y0 := Cl.below b12 Y0)
                      | (replace Y0 := Cl.below b12 Y0.al)
                      | (replace Y0 := Cl.below b12 Y0.dr)
                      | (replace Y0 := Cl.below b12 Y0.drN)
                      | (replace Y0 := Cl.below b12 Y0.al.al)
                      | (replace Y0 := Cl.below b12 Y0.al.dr)
                      | (replace Y0 := Cl.below b12 Y0.al.drN)
                      | (replace Y0 := Cl.below b12 Y0.dr.al)
                      | (replace Y0 := Cl.below b12 Y0.dr.dr)
                      | (replace Y0 := Cl.below b12 Y0.dr.drN)
                      | (replace Y0 := Cl.below b12 Y0.drN.al)
                      | (replace Y0 := Cl.below b12 Y0.drN.dr)
                      | (replace Y0 := Cl.below b12 Y0.drN.drN)
                      | (replace Y0 := Cl.below b12 Y0.al.al.al)
                      | (replace Y0 := Cl.below b12 Y0.al.al.dr)
                      | (replace Y0 := Cl.below b12 Y0.al.al.drN)
                      | (replace Y0 := Cl.below b12 Y0.al.dr.al)
                      | (replace Y0 := Cl.below b12 Y0.al.dr.dr)
                      | (replace Y0 := Cl.below b12 Y0.al.dr.drN)
                      | (replace Y0 := Cl.below b12 Y0.al.drN.al)
                      | (replace Y0 := Cl.below b12 Y0.al.drN.dr)
                      | (replace Y0 := Cl.below b12 Y0.al.drN.drN)
                      | (replace Y0 := Cl.below b12 Y0.dr.al.al)
                      | (replace Y0 := Cl.below b12 Y0.dr.al.dr)
                      | (replace Y0 := Cl.below b12 Y0.dr.al.drN)
                      | (replace Y0 := Cl.below b12 Y0.dr.dr.al)
                      | (replace Y0 := Cl.below b12 Y0.dr.dr.dr)
                      | (replace Y0 := Cl.below b12 Y0.dr.dr.drN)
                      | (replace Y0 := Cl.below b12 Y0.dr.drN.al)
                      | (replace Y0 := Cl.below b12 Y0.dr.drN.dr)
                      | (replace Y0 := Cl.below b12 Y0.dr.drN.drN)
                      | (replace Y0 := Cl.below b12 Y0.drN.al.al)
                      | (replace Y0 := Cl.below b12 Y0.drN.al.dr)
                      | (replace Y0 := Cl.below b12 Y0.drN.al.drN)
                      | (replace Y0 := Cl.below b12 Y0.drN.dr.al)
                      | (replace Y0 := Cl.below b12 Y0.drN.dr.dr)
                      | (replace Y0 := Cl.below b12 Y0.drN.dr.drN)
                      | (replace Y0 := Cl.below b12 Y0.drN.drN.al)
                      | (replace Y0 := Cl.below b12 Y0.drN.drN.dr)
                      | (replace Y0 := Cl.below b12 Y0.drN.drN.drN)
                    have Y0_c := Y0.cell
                    have Y0_f := Y0.free
                    have Y0_l := Y0.lt
                    dsimp only at Y0_l
                    first
                      | (replace Y1 := Cl.below b12 Y1)
                      | (replace Y1 := Cl.below b12 Y1.al)
                      | (replace Y1 := Cl.below b12 Y1.dr)
                      | (replace Y1 := Cl.below b12 Y1.drN)
                      | (replace Y1 := Cl.below b12 Y1.al.al)
                      | (replace Y1 := Cl.below b12 Y1.al.dr)
                      | (replace Y1 := Cl.below b12 Y1.al.drN)
                      | (replace Y1 := Cl.below b12 Y1.dr.al)
                      | (replace Y1 := Cl.below b12 Y1.dr.dr)
                      | (replace Y1 := Cl.below b12 Y1.dr.drN)
                      | (replace Y1 := Cl.below b12 Y1.drN.al)
                      | (replace Y1 := Cl.below b12 Y1.drN.dr)
                      | (replace Y1 := Cl.below b12 Y1.drN.drN)
                      | (replace Y1 := Cl.below b12 Y1.al.al.al)
                      | (replace Y1 := Cl.below b12 Y1.al.al.dr)
                      | (replace Y1 := Cl.below b12 Y1.al.al.drN)
                      | (replace Y1 := Cl.below b12 Y1.al.dr.al)
                      | (replace Y1 := Cl.below b12 Y1.al.dr.dr)
                      | (replace Y1 := Cl.below b12 Y1.al.dr.drN)
                      | (replace Y1 := Cl.below b12 Y1.al.drN.al)
                      | (replace Y1 := Cl.below b12 Y1.al.drN.dr)
                      | (replace Y1 := Cl.below b12 Y1.al.drN.drN)
                      | (replace Y1 := Cl.below b12 Y1.dr.al.al)
                      | (replace Y1 := Cl.below b12 Y1.dr.al.dr)
                      | (replace Y1 := Cl.below b12 Y1.dr.al.drN)
                      | (replace Y1 := Cl.below b12 Y1.dr.dr.al)
                      | (replace Y1 := Cl.below b12 Y1.dr.dr.dr)
                      | (replace Y1 := Cl.below b12 Y1.dr.dr.drN)
                      | (replace Y1 := Cl.below b12 Y1.dr.drN.al)
                      | (replace Y1 := Cl.below b12 Y1.dr.drN.dr)
                      | (replace Y1 := Cl.below b12 Y1.dr.drN.drN)
                      | (replace Y1 := Cl.below b12 Y1.drN.al.al)
                      | (replace Y1 := Cl.below b12 Y1.drN.al.dr)
                      | (replace Y1 := Cl.below b12 Y1.drN.al.drN)
                      | (replace Y1 := Cl.below b12 Y1.drN.dr.al)
                      | (replace Y1 := Cl.below b12 Y1.drN.dr.dr)
                      | (replace Y1 := Cl.below b12 Y1.drN.dr.drN)
                      | (replace Y1 := Cl.below b12 Y1.drN.drN.al)
                      | (replace Y1 := Cl.below b12 Y1.drN.drN.dr)
                      | (replace Y1 := Cl.below b12 Y1.drN.drN.drN)
                    have Y1_c := Y1.cell
                    have Y1_f := Y1.free
                    have Y1_l := Y1.lt
                    dsimp only at Y1_l
                    first
                      | (replace P0' := Cl.below b12 P0')
                      | (replace P0' := Cl.below b12 P0'.al)
                      | (replace P0' := Cl.below b12 P0'.dr)
                      | (replace P0' := Cl.below b12 P0'.drN)
                      | (replace P0' := Cl.below b12 P0'.al.al)
                      | (replace P0' := Cl.below b12 P0'.al.dr)
                      | (replace P0' := Cl.below b12 P0'.al.drN)
                      | (replace P0' := Cl.below b12 P0'.dr.al)
                      | (replace P0' := Cl.below b12 P0'.dr.dr)
                      | (replace P0' := Cl.below b12 P0'.dr.drN)
                      | (replace P0' := Cl.below b12 P0'.drN.al)
                      | (replace P0' := Cl.below b12 P0'.drN.dr)
                      | (replace P0' := Cl.below b12 P0'.drN.drN)
                      | (replace P0' := Cl.below b12 P0'.al.al.al)
                      | (replace P0' := Cl.below b12 P0'.al.al.dr)
                      | (replace P0' := Cl.below b12 P0'.al.al.drN)
                      | (replace P0' := Cl.below b12 P0'.al.dr.al)
                      | (replace P0' := Cl.below b12 P0'.al.dr.dr)
                      | (replace P0' := Cl.below b12 P0'.al.dr.drN)
                      | (replace P0' := Cl.below b12 P0'.al.drN.al)
                      | (replace P0' := Cl.below b12 P0'.al.drN.dr)
                      | (replace P0' := Cl.below b12 P0'.al.drN.drN)
                      | (replace P0' := Cl.below b12 P0'.dr.al.al)
                      | (replace P0' := Cl.below b12 P0'.dr.al.dr)
                      | (replace P0' := Cl.below b12 P0'.dr.al.drN)
                      | (replace P0' := Cl.below b12 P0'.dr.dr.al)
                      | (replace P0' := Cl.below b12 P0'.dr.dr.dr)
                      | (replace P0' := Cl.below b12 P0'.dr.dr.drN)
                      | (replace P0' := Cl.below b12 P0'.dr.drN.al)
                      | (replace P0' := Cl.below b12 P0'.dr.drN.dr)
                      | (replace P0' := Cl.below b12 P0'.dr.drN.drN)
                      | (replace P0' := Cl.below b12 P0'.drN.al.al)
                      | (replace P0' := Cl.below b12 P0'.drN.al.dr)
                      | (replace P0' := Cl.below b12 P0'.drN.al.drN)
                      | (replace P0' := Cl.below b12 P0'.drN.dr.al)
                      | (replace P0' := Cl.below b12 P0'.drN.dr.dr)
                      | (replace P0' := Cl.below b12 P0'.drN.dr.drN)
                      | (replace P0' := Cl.below b12 P0'.drN.drN.al)
                      | (replace P0' := Cl.below b12 P0'.drN.drN.dr)
                      | (replace P0' := Cl.below b12 P0'.drN.drN.drN)
                    have P0'_c := P0'.cell
                    have P0'_f := P0'.free
                    have P0'_l := P0'.lt
                    dsimp only at P0'_l
                    first
                      | (replace P1' := Cl.below b12 P1')
                      | (replace P1' := Cl.below b12 P1'.al)
                      | (replace P1' := Cl.below b12 P1'.dr)
                      | (replace P1' := Cl.below b12 P1'.drN)
                      | (replace P1' := Cl.below b12 P1'.al.al)
                      | (replace P1' := Cl.below b12 P1'.al.dr)
                      | (replace P1' := Cl.below b12 P1'.al.drN)
                      | (replace P1' := Cl.below b12 P1'.dr.al)
                      | (replace P1' := Cl.below b12 P1'.dr.dr)
                      | (replace P1' := Cl.below b12 P1'.dr.drN)
                      | (replace P1' := Cl.below b12 P1'.drN.al)
                      | (replace P1' := Cl.below b12 P1'.drN.dr)
                      | (replace P1' := Cl.below b12 P1'.drN.drN)
                      | (replace P1' := Cl.below b12 P1'.al.al.al)
                      | (replace P1' := Cl.below b12 P1'.al.al.dr)
                      | (replace P1' := Cl.below b12 P1'.al.al.drN)
                      | (replace P1' := Cl.below b12 P1'.al.dr.al)
                      | (replace P1' := Cl.below b12 P1'.al.dr.dr)
                      | (replace P1' := Cl.below b12 P1'.al.dr.drN)
                      | (replace P1' := Cl.below b12 P1'.al.drN.al)
                      | (replace P1' := Cl.below b12 P1'.al.drN.dr)
                      | (replace P1' := Cl.below b12 P1'.al.drN.drN)
                      | (replace P1' := Cl.below b12 P1'.dr.al.al)
                      | (replace P1' := Cl.below b12 P1'.dr.al.dr)
                      | (replace P1' := Cl.below b12 P1'.dr.al.drN)
                      | (replace P1' := Cl.below b12 P1'.dr.dr.al)
                      | (replace P1' := Cl.below b12 P1'.dr.dr.dr)
                      | (replace P1' := Cl.below b12 P1'.dr.dr.drN)
                      | (replace P1' := Cl.below b12 P1'.dr.drN.al)
                      | (replace P1' := Cl.below b12 P1'.dr.drN.dr)
                      | (replace P1' := Cl.below b12 P1'.dr.drN.drN)
                      | (replace P1' := Cl.below b12 P1'.drN.al.al)
                      | (replace P1' := Cl.below b12 P1'.drN.al.dr)
                      | (replace P1' := Cl.below b12 P1'.drN.al.drN)
                      | (replace P1' := Cl.below b12 P1'.drN.dr.al)
                      | (replace P1' := Cl.below b12 P1'.drN.dr.dr)
                      | (replace P1' := Cl.below b12 P1'.drN.dr.drN)
                      | (replace P1' := Cl.below b12 P1'.drN.drN.al)
                      | (replace P1' := Cl.below b12 P1'.drN.drN.dr)
                      | (replace P1' := Cl.below b12 P1'.drN.drN.drN)
                    have P1'_c := P1'.cell
                    have P1'_f := P1'.free
                    have P1'_l := P1'.lt
                    dsimp only at P1'_l
                    first
                      | (replace E0 := Cl.below b12 E0)
                      | (replace E0 := Cl.below b12 E0.al)
                      | (replace E0 := Cl.below b12 E0.dr)
                      | (replace E0 := Cl.below b12 E0.drN)
                      | (replace E0 := Cl.below b12 E0.al.al)
                      | (replace E0 := Cl.below b12 E0.al.dr)
                      | (replace E0 := Cl.below b12 E0.al.drN)
                      | (replace E0 := Cl.below b12 E0.dr.al)
                      | (replace E0 := Cl.below b12 E0.dr.dr)
                      | (replace E0 := Cl.below b12 E0.dr.drN)
                      | (replace E0 := Cl.below b12 E0.drN.al)
                      | (replace E0 := Cl.below b12 E0.drN.dr)
                      | (replace E0 := Cl.below b12 E0.drN.drN)
                      | (replace E0 := Cl.below b12 E0.al.al.al)
                      | (replace E0 := Cl.below b12 E0.al.al.dr)
                      | (replace E0 := Cl.below b12 E0.al.al.drN)
                      | (replace E0 := Cl.below b12 E0.al.dr.al)
                      | (replace E0 := Cl.below b12 E0.al.dr.dr)
                      | (replace E0 := Cl.below b12 E0.al.dr.drN)
                      | (replace E0 := Cl.below b12 E0.al.drN.al)
                      | (replace E0 := Cl.below b12 E0.al.drN.dr)
                      | (replace E0 := Cl.below b12 E0.al.drN.drN)
                      | (replace E0 := Cl.below b12 E0.dr.al.al)
                      | (replace E0 := Cl.below b12 E0.dr.al.dr)
                      | (replace E0 := Cl.below b12 E0.dr.al.drN)
                      | (replace E0 := Cl.below b12 E0.dr.dr.al)
                      | (replace E0 := Cl.below b12 E0.dr.dr.dr)
                      | (replace E0 := Cl.below b12 E0.dr.dr.drN)
                      | (replace E0 := Cl.below b12 E0.dr.drN.al)
                      | (replace E0 := Cl.below b12 E0.dr.drN.dr)
                      | (replace E0 := Cl.below b12 E0.dr.drN.drN)
                      | (replace E0 := Cl.below b12 E0.drN.al.al)
                      | (replace E0 := Cl.below b12 E0.drN.al.dr)
                      | (replace E0 := Cl.below b12 E0.drN.al.drN)
                      | (replace E0 := Cl.below b12 E0.drN.dr.al)
                      | (replace E0 := Cl.below b12 E0.drN.dr.dr)
                      | (replace E0 := Cl.below b12 E0.drN.dr.drN)
                      | (replace E0 := Cl.below b12 E0.drN.drN.al)
                      | (replace E0 := Cl.below b12 E0.drN.drN.dr)
                      | (replace E0 := Cl.below b12 E0.drN.drN.drN)
                    have E0_c := E0.cell
                    have E0_f := E0.free
                    have E0_l := E0.lt
                    dsimp only at E0_l
                    first
                      | (replace E1 := Cl.below b12 E1)
                      | (replace E1 := Cl.below b12 E1.al)
                      | (replace E1 := Cl.below b12 E1.dr)
                      | (replace E1 := Cl.below b12 E1.drN)
                      | (replace E1 := Cl.below b12 E1.al.al)
                      | (replace E1 := Cl.below b12 E1.al.dr)
                      | (replace E1 := Cl.below b12 E1.al.drN)
                      | (replace E1 := Cl.below b12 E1.dr.al)
                      | (replace E1 := Cl.below b12 E1.dr.dr)
                      | (replace E1 := Cl.below b12 E1.dr.drN)
                      | (replace E1 := Cl.below b12 E1.drN.al)
                      | (replace E1 := Cl.below b12 E1.drN.dr)
                      | (replace E1 := Cl.below b12 E1.drN.drN)
                      | (replace E1 := Cl.below b12 E1.al.al.al)
                      | (replace E1 := Cl.below b12 E1.al.al.dr)
                      | (replace E1 := Cl.below b12 E1.al.al.drN)
                      | (replace E1 := Cl.below b12 E1.al.dr.al)
                      | (replace E1 := Cl.below b12 E1.al.dr.dr)
                      | (replace E1 := Cl.below b12 E1.al.dr.drN)
                      | (replace E1 := Cl.below b12 E1.al.drN.al)
                      | (replace E1 := Cl.below b12 E1.al.drN.dr)
                      | (replace E1 := Cl.below b12 E1.al.drN.drN)
                      | (replace E1 := Cl.below b12 E1.dr.al.al)
                      | (replace E1 := Cl.below b12 E1.dr.al.dr)
                      | (replace E1 := Cl.below b12 E1.dr.al.drN)
                      | (replace E1 := Cl.below b12 E1.dr.dr.al)
                      | (replace E1 := Cl.below b12 E1.dr.dr.dr)
                      | (replace E1 := Cl.below b12 E1.dr.dr.drN)
                      | (replace E1 := Cl.below b12 E1.dr.drN.al)
                      | (replace E1 := Cl.below b12 E1.dr.drN.dr)
                      | (replace E1 := Cl.below b12 E1.dr.drN.drN)
                      | (replace E1 := Cl.below b12 E1.drN.al.al)
                      | (replace E1 := Cl.below b12 E1.drN.al.dr)
                      | (replace E1 := Cl.below b12 E1.drN.al.drN)
                      | (replace E1 := Cl.below b12 E1.drN.dr.al)
                      | (replace E1 := Cl.below b12 E1.drN.dr.dr)
                      | (replace E1 := Cl.below b12 E1.drN.dr.drN)
                      | (replace E1 := Cl.below b12 E1.drN.drN.al)
                      | (replace E1 := Cl.below b12 E1.drN.drN.dr)
                      | (replace E1 := Cl.below b12 E1.drN.drN.drN)
                    have E1_c := E1.cell
                    have E1_f := E1.free
                    have E1_l := E1.lt
                    dsimp only at E1_l
                    by_cases hW : wellW D1.f0.length l = true
                    · rw [hW]
                      by_cases hn : D1.f1.length + l.length ≤ 200
                      · obtain ⟨hDP, rfl⟩ : DP = ⟨D1.f0, D1.f1 ++ l⟩ ∧ eP = 0 := Prod.mk.inj (hP.out.symm.trans (saveD_ok hR.out hW hn))
                        replace hW := hid hW
                        replace hDP := hid hDP
                        obtain ⟨ws, hws⟩ : ∃ ws, ws = D1.f1 ++ l := ⟨_, rfl⟩
                        have hwl : ws.length ≤ 200 := by rw [hws, List.length_append]; exact hn
                        rw [← hws] at hDP
                        replace hws := hid hws
                        replace hDP := hid hDP
                        have c1 := VDisk.C1 hdc.out
                        have c0 := VDisk.C0 hdc.out
                        obtain ⟨_, l0'⟩ := VDisk.le0 hdc.out
                        replace hdc := hid hdc.out
                        go_upto_region 40 with (fail)
                        have W0 : Cl (w12.alloc (.cells #[.slice B0 D1.f0.length p0, .slice B1 D1.f1.length p1] 25)) ⟨w12.heap.size, 0, none⟩ (.slice B0 D1.f0.length p0) := Cl.new rfl
                        have W1 : Cl (w12.alloc (.cells #[.slice B0 D1.f0.length p0, .slice B1 D1.f1.length p1] 25)) ⟨w12.heap.size, 1, none⟩ (.slice B1 D1.f1.length p1) := Cl.new rfl
                        have B13 : Below w11.heap.size w11 (w12.alloc (.cells #[.slice B0 D1.f0.length p0, .slice B1 D1.f1.length p1] 25)) := below_alloc b12 _
                        have sz13 := World.size_alloc w12 (.cells #[.slice B0 D1.f0.length p0, .slice B1 D1.f1.length p1] 25)
                        replace Y1 := Y1.al (o := .cells #[.slice B0 D1.f0.length p0, .slice B1 D1.f1.length p1] 25)
                        replace P0' := P0'.al (o := .cells #[.slice B0 D1.f0.length p0, .slice B1 D1.f1.length p1] 25)
                        replace P1' := P1'.al (o := .cells #[.slice B0 D1.f0.length p0, .slice B1 D1.f1.length p1] 25)
                        generalize w12.alloc (.cells #[.slice B0 D1.f0.length p0, .slice B1 D1.f1.length p1] 25) = w13 at *
                        have hlt13 := W0.lt
                        dsimp only at hlt13
                        go_wp2_with (first
                          | (refine Try.none_wr (N := 263) rfl rfl ?hr ?_; (case hr => first | (go_simp; done) | (go_simp; rfl)); intro v1 w14 ho1 hb1; have Y1n := Cl.below hb1 Y1; have Y1n_c := Y1n.cell)
                          | (at_builtin; refine Try.app_wrs rfl (.tmp 263) (.tmp 265) rfl _ [] D1.f1 B1 _ _ rfl rfl ho1 (Kd.C_below c1 (below_step B13 hb1)) hb1 hb1.size (by simp only [List.length_nil]; omega) ?_; intro A2 c2 w15 ho2 hb2; rw [List.nil_append] at ho2 ⊢)
                          | (at_builtin; refine Try.app_wrs rfl (.tmp 266) (.tmp 267) rfl _ D1.f1 l L _ _ rfl rfl ho2 (Kd.C_below hL6.out (below_step B13 hb2)) hb2 hb2.size (by omega) ?_; intro A3 c3 w16 ho3 hb3; rw [← hws.out] at ho3 ⊢; have V0 := Cl.low hb3 W0 hlt13; have V1 := Cl.low hb3 W1 hlt13; have V1_c := V1.cell; have V1_f := V1.free; have Z0 := V0.beside (i := 1) (u := .slice A3 ws.length c3) (by decide); have Z1 := V1.same (u := .slice A3 ws.length c3); have Z0_c := Z0.cell; have Z1_c := Z1.cell; have G0 := (Cl.low hb3 P0' P0'.lt).far (p := ⟨w12.heap.size, 1, none⟩) (u := .slice A3 ws.length c3) (by dsimp only; omega); have G1 := (Cl.low hb3 P1' P1'.lt).far (p := ⟨w12.heap.size, 1, none⟩) (u := .slice A3 ws.length c3) (by dsimp only; omega); have G0_c := G0.cell; have G1_c := G1.cell)
                          | fail)
                        have B17 : Below w11.heap.size w11 (w16.setCell ⟨w12.heap.size, 1, none⟩ (.slice A3 ws.length c3)) := Below.setCell (below_step B13 hb3) (by dsimp only; omega) _
                        obtain ⟨_, l3', c3'⟩ := Kd.R_reads' (R_set (p := ⟨w12.heap.size, 1, none⟩) (u := .slice A3 ws.length c3) ho3 hlt13)
                        refine (ref_Like _ _ DP _ (dP.out.below B17) ?_).mono ?_
                        · rw [hDP.out]
                          exact (VDisk.mkn (S := fun _ => False) (x := ⟨D1.f0, ws⟩) rfl l0' (St.start fun w hb => Kd.C_below (Kd.C_below c0 B17) hb) rfl l3' (St.start fun w hb => Kd.C_below c3' hb)).now
                        rintro e w18 ⟨rfl, b18⟩
                        go_wp2_with fail
                        go_ret
                        exact ⟨rfl, below_step (below_step Bw11 B17) b18⟩
                      · obtain ⟨rfl, rfl⟩ : DP = noD ∧ eP = 13 := Prod.mk.inj (hP.out.symm.trans (by unfold saveD; rw [if_pos ⟨hR.out, hW⟩, if_neg hn]))
                        replace hW := hid hW
                        go_wp2_with fail
                        refine (ref_Like _ _ noD _ (dP.out.below b12) (VDisk.zero (fun _ => False) _).now).mono ?_
                        rintro e w13 ⟨rfl, b13⟩
                        go_wp2_with fail
                        go_ret
                        exact ⟨rfl, below_step (below_step Bw11 b12) b13⟩
                    · obtain ⟨rfl, rfl⟩ : DP = noD ∧ eP = 1 := Prod.mk.inj (hP.out.symm.trans (by unfold saveD; rw [if_neg (fun h => hW h.2)]))
                      rw [Bool.eq_false_iff.mpr hW]
                      clear hW
                      go_wp2_with fail
                      refine (ref_Like _ _ noD _ (dP.out.below b12) (VDisk.zero (fun _ => False) _).now).mono ?_
                      rintro e w13 ⟨rfl, b13⟩
                      go_wp2_with fail
                      go_ret
                      exact ⟨rfl, below_step (below_step Bw11 b12) b13⟩
          · obtain ⟨rfl, rfl⟩ : sL = ⟨#[]⟩ ∧ eL = 1 := Prod.mk.inj (hLd.out.symm.trans (by unfold loadD; rw [if_neg (fun h => hR h.1)]))
            obtain ⟨rfl, rfl⟩ : DP = noD ∧ eP = 1 := Prod.mk.inj (hP.out.symm.trans (by unfold saveD; rw [if_neg (fun h => hR h.1)]))
            obtain ⟨rfl, rfl⟩ : DY = noD ∧ eY = 1 := Prod.mk.inj (hY.out.symm.trans (by unfold flushD; rw [if_neg hR]))
            obtain ⟨rfl, rfl⟩ : DC = noD ∧ eC = 1 := Prod.mk.inj (hC.out.symm.trans (by unfold crashD; rw [if_neg hR]))
            rw [Bool.eq_false_iff.mpr hR]
            clear hR hLd hP hY hC
            go_wp2_with fail
            refine (ref_Like _ _ noD _ (dP.out.below (below_step hb b9)) (VDisk.zero (fun _ => False) _).now).mono ?_
            rintro e w10 ⟨rfl, b10⟩
            have sz10 := b10.size
            first
              | (replace Y0 := Cl.below b10 Y0)
              | (replace Y0 := Cl.below b10 Y0.al)
              | (replace Y0 := Cl.below b10 Y0.dr)
              | (replace Y0 := Cl.below b10 Y0.drN)
              | (replace Y0 := Cl.below b10 Y0.al.al)
              | (replace Y0 := Cl.below b10 Y0.al.dr)
              | (replace Y0 := Cl.below b10 Y0.al.drN)
              | (replace Y0 := Cl.below b10 Y0.dr.al)
              | (replace Y0 := Cl.below b10 Y0.dr.dr)
              | (replace Y0 := Cl.below b10 Y0.dr.drN)
              | (replace Y0 := Cl.below b10 Y0.drN.al)
              | (replace Y0 := Cl.below b10 Y0.drN.dr)
              | (replace Y0 := Cl.below b10 Y0.drN.drN)
              | (replace Y0 := Cl.below b10 Y0.al.al.al)
              | (replace Y0 := Cl.below b10 Y0.al.al.dr)
              | (replace Y0 := Cl.below b10 Y0.al.al.drN)
              | (replace Y0 := Cl.below b10 Y0.al.dr.al)
              | (replace Y0 := Cl.below b10 Y0.al.dr.dr)
              | (replace Y0 := Cl.below b10 Y0.al.dr.drN)
              | (replace Y0 := Cl.below b10 Y0.al.drN.al)
              | (replace Y0 := Cl.below b10 Y0.al.drN.dr)
              | (replace Y0 := Cl.below b10 Y0.al.drN.drN)
              | (replace Y0 := Cl.below b10 Y0.dr.al.al)
              | (replace Y0 := Cl.below b10 Y0.dr.al.dr)
              | (replace Y0 := Cl.below b10 Y0.dr.al.drN)
              | (replace Y0 := Cl.below b10 Y0.dr.dr.al)
              | (replace Y0 := Cl.below b10 Y0.dr.dr.dr)
              | (replace Y0 := Cl.below b10 Y0.dr.dr.drN)
              | (replace Y0 := Cl.below b10 Y0.dr.drN.al)
              | (replace Y0 := Cl.below b10 Y0.dr.drN.dr)
              | (replace Y0 := Cl.below b10 Y0.dr.drN.drN)
              | (replace Y0 := Cl.below b10 Y0.drN.al.al)
              | (replace Y0 := Cl.below b10 Y0.drN.al.dr)
              | (replace Y0 := Cl.below b10 Y0.drN.al.drN)
              | (replace Y0 := Cl.below b10 Y0.drN.dr.al)
              | (replace Y0 := Cl.below b10 Y0.drN.dr.dr)
              | (replace Y0 := Cl.below b10 Y0.drN.dr.drN)
              | (replace Y0 := Cl.below b10 Y0.drN.drN.al)
              | (replace Y0 := Cl.below b10 Y0.drN.drN.dr)
              | (replace Y0 := Cl.below b10 Y0.drN.drN.drN)
            have Y0_c := Y0.cell
            have Y0_f := Y0.free
            have Y0_l := Y0.lt
            dsimp only at Y0_l
            first
              | (replace Y1 := Cl.below b10 Y1)
              | (replace Y1 := Cl.below b10 Y1.al)
              | (replace Y1 := Cl.below b10 Y1.dr)
              | (replace Y1 := Cl.below b10 Y1.drN)
              | (replace Y1 := Cl.below b10 Y1.al.al)
              | (replace Y1 := Cl.below b10 Y1.al.dr)
              | (replace Y1 := Cl.below b10 Y1.al.drN)
              | (replace Y1 := Cl.below b10 Y1.dr.al)
              | (replace Y1 := Cl.below b10 Y1.dr.dr)
              | (replace Y1 := Cl.below b10 Y1.dr.drN)
              | (replace Y1 := Cl.below b10 Y1.drN.al)
              | (replace Y1 := Cl.below b10 Y1.drN.dr)
              | (replace Y1 := Cl.below b10 Y1.drN.drN)
              | (replace Y1 := Cl.below b10 Y1.al.al.al)
              | (replace Y1 := Cl.below b10 Y1.al.al.dr)
              | (replace Y1 := Cl.below b10 Y1.al.al.drN)
              | (replace Y1 := Cl.below b10 Y1.al.dr.al)
              | (replace Y1 := Cl.below b10 Y1.al.dr.dr)
              | (replace Y1 := Cl.below b10 Y1.al.dr.drN)
              | (replace Y1 := Cl.below b10 Y1.al.drN.al)
              | (replace Y1 := Cl.below b10 Y1.al.drN.dr)
              | (replace Y1 := Cl.below b10 Y1.al.drN.drN)
              | (replace Y1 := Cl.below b10 Y1.dr.al.al)
              | (replace Y1 := Cl.below b10 Y1.dr.al.dr)
              | (replace Y1 := Cl.below b10 Y1.dr.al.drN)
              | (replace Y1 := Cl.below b10 Y1.dr.dr.al)
              | (replace Y1 := Cl.below b10 Y1.dr.dr.dr)
              | (replace Y1 := Cl.below b10 Y1.dr.dr.drN)
              | (replace Y1 := Cl.below b10 Y1.dr.drN.al)
              | (replace Y1 := Cl.below b10 Y1.dr.drN.dr)
              | (replace Y1 := Cl.below b10 Y1.dr.drN.drN)
              | (replace Y1 := Cl.below b10 Y1.drN.al.al)
              | (replace Y1 := Cl.below b10 Y1.drN.al.dr)
              | (replace Y1 := Cl.below b10 Y1.drN.al.drN)
              | (replace Y1 := Cl.below b10 Y1.drN.dr.al)
              | (replace Y1 := Cl.below b10 Y1.drN.dr.dr)
              | (replace Y1 := Cl.below b10 Y1.drN.dr.drN)
              | (replace Y1 := Cl.below b10 Y1.drN.drN.al)
              | (replace Y1 := Cl.below b10 Y1.drN.drN.dr)
              | (replace Y1 := Cl.below b10 Y1.drN.drN.drN)
            have Y1_c := Y1.cell
            have Y1_f := Y1.free
            have Y1_l := Y1.lt
            dsimp only at Y1_l
            first
              | (replace Q0' := Cl.below b10 Q0')
              | (replace Q0' := Cl.below b10 Q0'.al)
              | (replace Q0' := Cl.below b10 Q0'.dr)
              | (replace Q0' := Cl.below b10 Q0'.drN)
              | (replace Q0' := Cl.below b10 Q0'.al.al)
              | (replace Q0' := Cl.below b10 Q0'.al.dr)
              | (replace Q0' := Cl.below b10 Q0'.al.drN)
              | (replace Q0' := Cl.below b10 Q0'.dr.al)
              | (replace Q0' := Cl.below b10 Q0'.dr.dr)
              | (replace Q0' := Cl.below b10 Q0'.dr.drN)
              | (replace Q0' := Cl.below b10 Q0'.drN.al)
              | (replace Q0' := Cl.below b10 Q0'.drN.dr)
              | (replace Q0' := Cl.below b10 Q0'.drN.drN)
              | (replace Q0' := Cl.below b10 Q0'.al.al.al)
              | (replace Q0' := Cl.below b10 Q0'.al.al.dr)
              | (replace Q0' := Cl.below b10 Q0'.al.al.drN)
              | (replace Q0' := Cl.below b10 Q0'.al.dr.al)
              | (replace Q0' := Cl.below b10 Q0'.al.dr.dr)
              | (replace Q0' := Cl.below b10 Q0'.al.dr.drN)
              | (replace Q0' := Cl.below b10 Q0'.al.drN.al)
              | (replace Q0' := Cl.below b10 Q0'.al.drN.dr)
              | (replace Q0' := Cl.below b10 Q0'.al.drN.drN)
              | (replace Q0' := Cl.below b10 Q0'.dr.al.al)
              | (replace Q0' := Cl.below b10 Q0'.dr.al.dr)
              | (replace Q0' := Cl.below b10 Q0'.dr.al.drN)
              | (replace Q0' := Cl.below b10 Q0'.dr.dr.al)
              | (replace Q0' := Cl.below b10 Q0'.dr.dr.dr)
              | (replace Q0' := Cl.below b10 Q0'.dr.dr.drN)
              | (replace Q0' := Cl.below b10 Q0'.dr.drN.al)
              | (replace Q0' := Cl.below b10 Q0'.dr.drN.dr)
              | (replace Q0' := Cl.below b10 Q0'.dr.drN.drN)
              | (replace Q0' := Cl.below b10 Q0'.drN.al.al)
              | (replace Q0' := Cl.below b10 Q0'.drN.al.dr)
              | (replace Q0' := Cl.below b10 Q0'.drN.al.drN)
              | (replace Q0' := Cl.below b10 Q0'.drN.dr.al)
              | (replace Q0' := Cl.below b10 Q0'.drN.dr.dr)
              | (replace Q0' := Cl.below b10 Q0'.drN.dr.drN)
              | (replace Q0' := Cl.below b10 Q0'.drN.drN.al)
              | (replace Q0' := Cl.below b10 Q0'.drN.drN.dr)
              | (replace Q0' := Cl.below b10 Q0'.drN.drN.drN)
            have Q0'_c := Q0'.cell
            have Q0'_f := Q0'.free
            have Q0'_l := Q0'.lt
            dsimp only at Q0'_l
            first
              | (replace Q1' := Cl.below b10 Q1')
              | (replace Q1' := Cl.below b10 Q1'.al)
              | (replace Q1' := Cl.below b10 Q1'.dr)
              | (replace Q1' := Cl.below b10 Q1'.drN)
              | (replace Q1' := Cl.below b10 Q1'.al.al)
              | (replace Q1' := Cl.below b10 Q1'.al.dr)
              | (replace Q1' := Cl.below b10 Q1'.al.drN)
              | (replace Q1' := Cl.below b10 Q1'.dr.al)
              | (replace Q1' := Cl.below b10 Q1'.dr.dr)
              | (replace Q1' := Cl.below b10 Q1'.dr.drN)
              | (replace Q1' := Cl.below b10 Q1'.drN.al)
              | (replace Q1' := Cl.below b10 Q1'.drN.dr)
              | (replace Q1' := Cl.below b10 Q1'.drN.drN)
              | (replace Q1' := Cl.below b10 Q1'.al.al.al)
              | (replace Q1' := Cl.below b10 Q1'.al.al.dr)
              | (replace Q1' := Cl.below b10 Q1'.al.al.drN)
              | (replace Q1' := Cl.below b10 Q1'.al.dr.al)
              | (replace Q1' := Cl.below b10 Q1'.al.dr.dr)
              | (replace Q1' := Cl.below b10 Q1'.al.dr.drN)
              | (replace Q1' := Cl.below b10 Q1'.al.drN.al)
              | (replace Q1' := Cl.below b10 Q1'.al.drN.dr)
              | (replace Q1' := Cl.below b10 Q1'.al.drN.drN)
              | (replace Q1' := Cl.below b10 Q1'.dr.al.al)
              | (replace Q1' := Cl.below b10 Q1'.dr.al.dr)
              | (replace Q1' := Cl.below b10 Q1'.dr.al.drN)
              | (replace Q1' := Cl.below b10 Q1'.dr.dr.al)
              | (replace Q1' := Cl.below b10 Q1'.dr.dr.dr)
              | (replace Q1' := Cl.below b10 Q1'.dr.dr.drN)
              | (replace Q1' := Cl.below b10 Q1'.dr.drN.al)
              | (replace Q1' := Cl.below b10 Q1'.dr.drN.dr)
              | (replace Q1' := Cl.below b10 Q1'.dr.drN.drN)
              | (replace Q1' := Cl.below b10 Q1'.drN.al.al)
              | (replace Q1' := Cl.below b10 Q1'.drN.al.dr)
              | (replace Q1' := Cl.below b10 Q1'.drN.al.drN)
              | (replace Q1' := Cl.below b10 Q1'.drN.dr.al)
              | (replace Q1' := Cl.below b10 Q1'.drN.dr.dr)
              | (replace Q1' := Cl.below b10 Q1'.drN.dr.drN)
              | (replace Q1' := Cl.below b10 Q1'.drN.drN.al)
              | (replace Q1' := Cl.below b10 Q1'.drN.drN.dr)
              | (replace Q1' := Cl.below b10 Q1'.drN.drN.drN)
            have Q1'_c := Q1'.cell
            have Q1'_f := Q1'.free
            have Q1'_l := Q1'.lt
            dsimp only at Q1'_l
            first
              | (replace K0 := Cl.below b10 K0)
              | (replace K0 := Cl.below b10 K0.al)
              | (replace K0 := Cl.below b10 K0.dr)
              | (replace K0 := Cl.below b10 K0.drN)
              | (replace K0 := Cl.below b10 K0.al.al)
              | (replace K0 := Cl.below b10 K0.al.dr)
              | (replace K0 := Cl.below b10 K0.al.drN)
              | (replace K0 := Cl.below b10 K0.dr.al)
              | (replace K0 := Cl.below b10 K0.dr.dr)
              | (replace K0 := Cl.below b10 K0.dr.drN)
              | (replace K0 := Cl.below b10 K0.drN.al)
              | (replace K0 := Cl.below b10 K0.drN.dr)
              | (replace K0 := Cl.below b10 K0.drN.drN)
              | (replace K0 := Cl.below b10 K0.al.al.al)
              | (replace K0 := Cl.below b10 K0.al.al.dr)
              | (replace K0 := Cl.below b10 K0.al.al.drN)
              | (replace K0 := Cl.below b10 K0.al.dr.al)
              | (replace K0 := Cl.below b10 K0.al.dr.dr)
              | (replace K0 := Cl.below b10 K0.al.dr.drN)
              | (replace K0 := Cl.below b10 K0.al.drN.al)
              | (replace K0 := Cl.below b10 K0.al.drN.dr)
              | (replace K0 := Cl.below b10 K0.al.drN.drN)
              | (replace K0 := Cl.below b10 K0.dr.al.al)
              | (replace K0 := Cl.below b10 K0.dr.al.dr)
              | (replace K0 := Cl.below b10 K0.dr.al.drN)
              | (replace K0 := Cl.below b10 K0.dr.dr.al)
              | (replace K0 := Cl.below b10 K0.dr.dr.dr)
              | (replace K0 := Cl.below b10 K0.dr.dr.drN)
              | (replace K0 := Cl.below b10 K0.dr.drN.al)
              | (replace K0 := Cl.below b10 K0.dr.drN.dr)
              | (replace K0 := Cl.below b10 K0.dr.drN.drN)
              | (replace K0 := Cl.below b10 K0.drN.al.al)
              | (replace K0 := Cl.below b10 K0.drN.al.dr)
              | (replace K0 := Cl.below b10 K0.drN.al.drN)
              | (replace K0 := Cl.below b10 K0.drN.dr.al)
              | (replace K0 := Cl.below b10 K0.drN.dr.dr)
              | (replace K0 := Cl.below b10 K0.drN.dr.drN)
              | (replace K0 := Cl.below b10 K0.drN.drN.al)
              | (replace K0 := Cl.below b10 K0.drN.drN.dr)
              | (replace K0 := Cl.below b10 K0.drN.drN.drN)
            have K0_c := K0.cell
            have K0_f := K0.free
            have K0_l := K0.lt
            dsimp only at K0_l
            first
              | (replace K1 := Cl.below b10 K1)
              | (replace K1 := Cl.below b10 K1.al)
              | (replace K1 := Cl.below b10 K1.dr)
              | (replace K1 := Cl.below b10 K1.drN)
              | (replace K1 := Cl.below b10 K1.al.al)
              | (replace K1 := Cl.below b10 K1.al.dr)
              | (replace K1 := Cl.below b10 K1.al.drN)
              | (replace K1 := Cl.below b10 K1.dr.al)
              | (replace K1 := Cl.below b10 K1.dr.dr)
              | (replace K1 := Cl.below b10 K1.dr.drN)
              | (replace K1 := Cl.below b10 K1.drN.al)
              | (replace K1 := Cl.below b10 K1.drN.dr)
              | (replace K1 := Cl.below b10 K1.drN.drN)
              | (replace K1 := Cl.below b10 K1.al.al.al)
              | (replace K1 := Cl.below b10 K1.al.al.dr)
              | (replace K1 := Cl.below b10 K1.al.al.drN)
              | (replace K1 := Cl.below b10 K1.al.dr.al)
              | (replace K1 := Cl.below b10 K1.al.dr.dr)
              | (replace K1 := Cl.below b10 K1.al.dr.drN)
              | (replace K1 := Cl.below b10 K1.al.drN.al)
              | (replace K1 := Cl.below b10 K1.al.drN.dr)
              | (replace K1 := Cl.below b10 K1.al.drN.drN)
              | (replace K1 := Cl.below b10 K1.dr.al.al)
              | (replace K1 := Cl.below b10 K1.dr.al.dr)
              | (replace K1 := Cl.below b10 K1.dr.al.drN)
              | (replace K1 := Cl.below b10 K1.dr.dr.al)
              | (replace K1 := Cl.below b10 K1.dr.dr.dr)
              | (replace K1 := Cl.below b10 K1.dr.dr.drN)
              | (replace K1 := Cl.below b10 K1.dr.drN.al)
              | (replace K1 := Cl.below b10 K1.dr.drN.dr)
              | (replace K1 := Cl.below b10 K1.dr.drN.drN)
              | (replace K1 := Cl.below b10 K1.drN.al.al)
              | (replace K1 := Cl.below b10 K1.drN.al.dr)
              | (replace K1 := Cl.below b10 K1.drN.al.drN)
              | (replace K1 := Cl.below b10 K1.drN.dr.al)
              | (replace K1 := Cl.below b10 K1.drN.dr.dr)
              | (replace K1 := Cl.below b10 K1.drN.dr.drN)
              | (replace K1 := Cl.below b10 K1.drN.drN.al)
              | (replace K1 := Cl.below b10 K1.drN.drN.dr)
              | (replace K1 := Cl.below b10 K1.drN.drN.drN)
            have K1_c := K1.cell
            have K1_f := K1.free
            have K1_l := K1.lt
            dsimp only at K1_l
            first
              | (replace E0 := Cl.below b10 E0)
              | (replace E0 := Cl.below b10 E0.al)
              | (replace E0 := Cl.below b10 E0.dr)
              | (replace E0 := Cl.below b10 E0.drN)
              | (replace E0 := Cl.below b10 E0.al.al)
              | (replace E0 := Cl.below b10 E0.al.dr)
              | (replace E0 := Cl.below b10 E0.al.drN)
              | (replace E0 := Cl.below b10 E0.dr.al)
              | (replace E0 := Cl.below b10 E0.dr.dr)
              | (replace E0 := Cl.below b10 E0.dr.drN)
              | (replace E0 := Cl.below b10 E0.drN.al)
              | (replace E0 := Cl.below b10 E0.drN.dr)
              | (replace E0 := Cl.below b10 E0.drN.drN)
              | (replace E0 := Cl.below b10 E0.al.al.al)
              | (replace E0 := Cl.below b10 E0.al.al.dr)
              | (replace E0 := Cl.below b10 E0.al.al.drN)
              | (replace E0 := Cl.below b10 E0.al.dr.al)
              | (replace E0 := Cl.below b10 E0.al.dr.dr)
              | (replace E0 := Cl.below b10 E0.al.dr.drN)
              | (replace E0 := Cl.below b10 E0.al.drN.al)
              | (replace E0 := Cl.below b10 E0.al.drN.dr)
              | (replace E0 := Cl.below b10 E0.al.drN.drN)
              | (replace E0 := Cl.below b10 E0.dr.al.al)
              | (replace E0 := Cl.below b10 E0.dr.al.dr)
              | (replace E0 := Cl.below b10 E0.dr.al.drN)
              | (replace E0 := Cl.below b10 E0.dr.dr.al)
              | (replace E0 := Cl.below b10 E0.dr.dr.dr)
              | (replace E0 := Cl.below b10 E0.dr.dr.drN)
              | (replace E0 := Cl.below b10 E0.dr.drN.al)
              | (replace E0 := Cl.below b10 E0.dr.drN.dr)
              | (replace E0 := Cl.below b10 E0.dr.drN.drN)
              | (replace E0 := Cl.below b10 E0.drN.al.al)
              | (replace E0 := Cl.below b10 E0.drN.al.dr)
              | (replace E0 := Cl.below b10 E0.drN.al.drN)
              | (replace E0 := Cl.below b10 E0.drN.dr.al)
              | (replace E0 := Cl.below b10 E0.drN.dr.dr)
              | (replace E0 := Cl.below b10 E0.drN.dr.drN)
              | (replace E0 := Cl.below b10 E0.drN.drN.al)
              | (replace E0 := Cl.below b10 E0.drN.drN.dr)
              | (replace E0 := Cl.below b10 E0.drN.drN.drN)
            have E0_c := E0.cell
            have E0_f := E0.free
            have E0_l := E0.lt
            dsimp only at E0_l
            first
              | (replace E1 := Cl.below b10 E1)
              | (replace E1 := Cl.below b10 E1.al)
              | (replace E1 := Cl.below b10 E1.dr)
              | (replace E1 := Cl.below b10 E1.drN)
              | (replace E1 := Cl.below b10 E1.al.al)
              | (replace E1 := Cl.below b10 E1.al.dr)
              | (replace E1 := Cl.below b10 E1.al.drN)
              | (replace E1 := Cl.below b10 E1.dr.al)
              | (replace E1 := Cl.below b10 E1.dr.dr)
              | (replace E1 := Cl.below b10 E1.dr.drN)
              | (replace E1 := Cl.below b10 E1.drN.al)
              | (replace E1 := Cl.below b10 E1.drN.dr)
              | (replace E1 := Cl.below b10 E1.drN.drN)
              | (replace E1 := Cl.below b10 E1.al.al.al)
              | (replace E1 := Cl.below b10 E1.al.al.dr)
              | (replace E1 := Cl.below b10 E1.al.al.drN)
              | (replace E1 := Cl.below b10 E1.al.dr.al)
              | (replace E1 := Cl.below b10 E1.al.dr.dr)
              | (replace E1 := Cl.below b10 E1.al.dr.drN)
              | (replace E1 := Cl.below b10 E1.al.drN.al)
              | (replace E1 := Cl.below b10 E1.al.drN.dr)
              | (replace E1 := Cl.below b10 E1.al.drN.drN)
              | (replace E1 := Cl.below b10 E1.dr.al.al)
              | (replace E1 := Cl.below b10 E1.dr.al.dr)
              | (replace E1 := Cl.below b10 E1.dr.al.drN)
              | (replace E1 := Cl.below b10 E1.dr.dr.al)
              | (replace E1 := Cl.below b10 E1.dr.dr.dr)
              | (replace E1 := Cl.below b10 E1.dr.dr.drN)
              | (replace E1 := Cl.below b10 E1.dr.drN.al)
              | (replace E1 := Cl.below b10 E1.dr.drN.dr)
              | (replace E1 := Cl.below b10 E1.dr.drN.drN)
              | (replace E1 := Cl.below b10 E1.drN.al.al)
              | (replace E1 := Cl.below b10 E1.drN.al.dr)
              | (replace E1 := Cl.below b10 E1.drN.al.drN)
              | (replace E1 := Cl.below b10 E1.drN.dr.al)
              | (replace E1 := Cl.below b10 E1.drN.dr.dr)
              | (replace E1 := Cl.below b10 E1.drN.dr.drN)
              | (replace E1 := Cl.below b10 E1.drN.drN.al)
              | (replace E1 := Cl.below b10 E1.drN.drN.dr)
              | (replace E1 := Cl.below b10 E1.drN.drN.drN)
            have E1_c := E1.cell
            have E1_f := E1.free
            have E1_l := E1.lt
            dsimp only at E1_l
            go_wp2_with fail
            refine (ref_Like _ _ noD _ (dY.out.below (below_step (below_step hb b9) b10)) (VDisk.zero (fun _ => False) _).now).mono ?_
            rintro e w11 ⟨rfl, b11⟩
            have sz11 := b11.size
            first
              | (replace Y0 := Cl.below b11 Y0)
              | (replace Y0 := Cl.below b11 Y0.al)
              | (replace Y0 := Cl.below b11 Y0.dr)
              | (replace Y0 := Cl.below b11 Y0.drN)
              | (replace Y0 := Cl.below b11 Y0.al.al)
              | (replace Y0 := Cl.below b11 Y0.al.dr)
              | (replace Y0 := Cl.below b11 Y0.al.drN)
              | (replace Y0 := Cl.below b11 Y0.dr.al)
              | (replace Y0 := Cl.below b11 Y0.dr.dr)
              | (replace Y0 := Cl.below b11 Y0.dr.drN)
              | (replace Y0 := Cl.below b11 Y0.drN.al)
              | (replace Y0 := Cl.below b11 Y0.drN.dr)
              | (replace Y0 := Cl.below b11 Y0.drN.drN)
              | (replace Y0 := Cl.below b11 Y0.al.al.al)
              | (replace Y0 := Cl.below b11 Y0.al.al.dr)
              | (replace Y0 := Cl.below b11 Y0.al.al.drN)
              | (replace Y0 := Cl.below b11 Y0.al.dr.al)
              | (replace Y0 := Cl.below b11 Y0.al.dr.dr)
              | (replace Y0 := Cl.below b11 Y0.al.dr.drN)
              | (replace Y0 := Cl.below b11 Y0.al.drN.al)
              | (replace Y0 := Cl.below b11 Y0.al.drN.dr)
              | (replace Y0 := Cl.below b11 Y0.al.drN.drN)
              | (replace Y0 := Cl.below b11 Y0.dr.al.al)
              | (replace Y0 := Cl.below b11 Y0.dr.al.dr)
              | (replace Y0 := Cl.below b11 Y0.dr.al.drN)
              | (replace Y0 := Cl.below b11 Y0.dr.dr.al)
              | (replace Y0 := Cl.below b11 Y0.dr.dr.dr)
              | (replace Y0 := Cl.below b11 Y0.dr.dr.drN)
              | (replace Y0 := Cl.below b11 Y0.dr.drN.al)
              | (replace Y0 := Cl.below b11 Y0.dr.drN.dr)
              | (replace Y0 := Cl.below b11 Y0.dr.drN.drN)
              | (replace Y0 := Cl.below b11 Y0.drN.al.al)
              | (replace Y0 := Cl.below b11 Y0.drN.al.dr)
              | (replace Y0 := Cl.below b11 Y0.drN.al.drN)
              | (replace Y0 := Cl.below b11 Y0.drN.dr.al)
              | (replace Y0 := Cl.below b11 Y0.drN.dr.dr)
              | (replace Y0 := Cl.below b11 Y0.drN.dr.drN)
              | (replace Y0 := Cl.below b11 Y0.drN.drN.al)
              | (replace Y0 := Cl.below b11 Y0.drN.drN.dr)
              | (replace Y0 := Cl.below b11 Y0.drN.drN.drN)
            have Y0_c := Y0.cell
            have Y0_f := Y0.free
            have Y0_l := Y0.lt
            dsimp only at Y0_l
            first
              | (replace Y1 := Cl.below b11 Y1)
              | (replace Y1 := Cl.below b11 Y1.al)
              | (replace Y1 := Cl.below b11 Y1.dr)
              | (replace Y1 := Cl.below b11 Y1.drN)
              | (replace Y1 := Cl.below b11 Y1.al.al)
              | (replace Y1 := Cl.below b11 Y1.al.dr)
              | (replace Y1 := Cl.below b11 Y1.al.drN)
              | (replace Y1 := Cl.below b11 Y1.dr.al)
              | (replace Y1 := Cl.below b11 Y1.dr.dr)
              | (replace Y1 := Cl.below b11 Y1.dr.drN)
              | (replace Y1 := Cl.below b11 Y1.drN.al)
              | (replace Y1 := Cl.below b11 Y1.drN.dr)
              | (replace Y1 := Cl.below b11 Y1.drN.drN)
              | (replace Y1 := Cl.below b11 Y1.al.al.al)
              | (replace Y1 := Cl.below b11 Y1.al.al.dr)
              | (replace Y1 := Cl.below b11 Y1.al.al.drN)
              | (replace Y1 := Cl.below b11 Y1.al.dr.al)
              | (replace Y1 := Cl.below b11 Y1.al.dr.dr)
              | (replace Y1 := Cl.below b11 Y1.al.dr.drN)
              | (replace Y1 := Cl.below b11 Y1.al.drN.al)
              | (replace Y1 := Cl.below b11 Y1.al.drN.dr)
              | (replace Y1 := Cl.below b11 Y1.al.drN.drN)
              | (replace Y1 := Cl.below b11 Y1.dr.al.al)
              | (replace Y1 := Cl.below b11 Y1.dr.al.dr)
              | (replace Y1 := Cl.below b11 Y1.dr.al.drN)
              | (replace Y1 := Cl.below b11 Y1.dr.dr.al)
              | (replace Y1 := Cl.below b11 Y1.dr.dr.dr)
              | (replace Y1 := Cl.below b11 Y1.dr.dr.drN)
              | (replace Y1 := Cl.below b11 Y1.dr.drN.al)
              | (replace Y1 := Cl.below b11 Y1.dr.drN.dr)
              | (replace Y1 := Cl.below b11 Y1.dr.drN.drN)
              | (replace Y1 := Cl.below b11 Y1.drN.al.al)
              | (replace Y1 := Cl.below b11 Y1.drN.al.dr)
              | (replace Y1 := Cl.below b11 Y1.drN.al.drN)
              | (replace Y1 := Cl.below b11 Y1.drN.dr.al)
              | (replace Y1 := Cl.below b11 Y1.drN.dr.dr)
              | (replace Y1 := Cl.below b11 Y1.drN.dr.drN)
              | (replace Y1 := Cl.below b11 Y1.drN.drN.al)
              | (replace Y1 := Cl.below b11 Y1.drN.drN.dr)
              | (replace Y1 := Cl.below b11 Y1.drN.drN.drN)
            have Y1_c := Y1.cell
            have Y1_f := Y1.free
            have Y1_l := Y1.lt
            dsimp only at Y1_l
            first
              | (replace K0 := Cl.below b11 K0)
              | (replace K0 := Cl.below b11 K0.al)
              | (replace K0 := Cl.below b11 K0.dr)
              | (replace K0 := Cl.below b11 K0.drN)
              | (replace K0 := Cl.below b11 K0.al.al)
              | (replace K0 := Cl.below b11 K0.al.dr)
              | (replace K0 := Cl.below b11 K0.al.drN)
              | (replace K0 := Cl.below b11 K0.dr.al)
              | (replace K0 := Cl.below b11 K0.dr.dr)
              | (replace K0 := Cl.below b11 K0.dr.drN)
              | (replace K0 := Cl.below b11 K0.drN.al)
              | (replace K0 := Cl.below b11 K0.drN.dr)
              | (replace K0 := Cl.below b11 K0.drN.drN)
              | (replace K0 := Cl.below b11 K0.al.al.al)
              | (replace K0 := Cl.below b11 K0.al.al.dr)
              | (replace K0 := Cl.below b11 K0.al.al.drN)
              | (replace K0 := Cl.below b11 K0.al.dr.al)
              | (replace K0 := Cl.below b11 K0.al.dr.dr)
              | (replace K0 := Cl.below b11 K0.al.dr.drN)
              | (replace K0 := Cl.below b11 K0.al.drN.al)
              | (replace K0 := Cl.below b11 K0.al.drN.dr)
              | (replace K0 := Cl.below b11 K0.al.drN.drN)
              | (replace K0 := Cl.below b11 K0.dr.al.al)
              | (replace K0 := Cl.below b11 K0.dr.al.dr)
              | (replace K0 := Cl.below b11 K0.dr.al.drN)
              | (replace K0 := Cl.below b11 K0.dr.dr.al)
              | (replace K0 := Cl.below b11 K0.dr.dr.dr)
              | (replace K0 := Cl.below b11 K0.dr.dr.drN)
              | (replace K0 := Cl.below b11 K0.dr.drN.al)
              | (replace K0 := Cl.below b11 K0.dr.drN.dr)
              | (replace K0 := Cl.below b11 K0.dr.drN.drN)
              | (replace K0 := Cl.below b11 K0.drN.al.al)
              | (replace K0 := Cl.below b11 K0.drN.al.dr)
              | (replace K0 := Cl.below b11 K0.drN.al.drN)
              | (replace K0 := Cl.below b11 K0.drN.dr.al)
              | (replace K0 := Cl.below b11 K0.drN.dr.dr)
              | (replace K0 := Cl.below b11 K0.drN.dr.drN)
              | (replace K0 := Cl.below b11 K0.drN.drN.al)
              | (replace K0 := Cl.below b11 K0.drN.drN.dr)
              | (replace K0 := Cl.below b11 K0.drN.drN.drN)
            have K0_c := K0.cell
            have K0_f := K0.free
            have K0_l := K0.lt
            dsimp only at K0_l
            first
              | (replace K1 := Cl.below b11 K1)
              | (replace K1 := Cl.below b11 K1.al)
              | (replace K1 := Cl.below b11 K1.dr)
              | (replace K1 := Cl.below b11 K1.drN)
              | (replace K1 := Cl.below b11 K1.al.al)
              | (replace K1 := Cl.below b11 K1.al.dr)
              | (replace K1 := Cl.below b11 K1.al.drN)
              | (replace K1 := Cl.below b11 K1.dr.al)
              | (replace K1 := Cl.below b11 K1.dr.dr)
              | (replace K1 := Cl.below b11 K1.dr.drN)
              | (replace K1 := Cl.below b11 K1.drN.al)
              | (replace K1 := Cl.below b11 K1.drN.dr)
              | (replace K1 := Cl.below b11 K1.drN.drN)
              | (replace K1 := Cl.below b11 K1.al.al.al)
              | (replace K1 := Cl.below b11 K1.al.al.dr)
              | (replace K1 := Cl.below b11 K1.al.al.drN)
              | (replace K1 := Cl.below b11 K1.al.dr.al)
              | (replace K1 := Cl.below b11 K1.al.dr.dr)
              | (replace K1 := Cl.below b11 K1.al.dr.drN)
              | (replace K1 := Cl.below b11 K1.al.drN.al)
              | (replace K1 := Cl.below b11 K1.al.drN.dr)
              | (replace K1 := Cl.below b11 K1.al.drN.drN)
              | (replace K1 := Cl.below b11 K1.dr.al.al)
              | (replace K1 := Cl.below b11 K1.dr.al.dr)
              | (replace K1 := Cl.below b11 K1.dr.al.drN)
              | (replace K1 := Cl.below b11 K1.dr.dr.al)
              | (replace K1 := Cl.below b11 K1.dr.dr.dr)
              | (replace K1 := Cl.below b11 K1.dr.dr.drN)
              | (replace K1 := Cl.below b11 K1.dr.drN.al)
              | (replace K1 := Cl.below b11 K1.dr.drN.dr)
              | (replace K1 := Cl.below b11 K1.dr.drN.drN)
              | (replace K1 := Cl.below b11 K1.drN.al.al)
              | (replace K1 := Cl.below b11 K1.drN.al.dr)
              | (replace K1 := Cl.below b11 K1.drN.al.drN)
              | (replace K1 := Cl.below b11 K1.drN.dr.al)
              | (replace K1 := Cl.below b11 K1.drN.dr.dr)
              | (replace K1 := Cl.below b11 K1.drN.dr.drN)
              | (replace K1 := Cl.below b11 K1.drN.drN.al)
              | (replace K1 := Cl.below b11 K1.drN.drN.dr)
              | (replace K1 := Cl.below b11 K1.drN.drN.drN)
            have K1_c := K1.cell
            have K1_f := K1.free
            have K1_l := K1.lt
            dsimp only at K1_l
            first
              | (replace E0 := Cl.below b11 E0)
              | (replace E0 := Cl.below b11 E0.al)
              | (replace E0 := Cl.below b11 E0.dr)
              | (replace E0 := Cl.below b11 E0.drN)
              | (replace E0 := Cl.below b11 E0.al.al)
              | (replace E0 := Cl.below b11 E0.al.dr)
              | (replace E0 := Cl.below b11 E0.al.drN)
              | (replace E0 := Cl.below b11 E0.dr.al)
              | (replace E0 := Cl.below b11 E0.dr.dr)
              | (replace E0 := Cl.below b11 E0.dr.drN)
              | (replace E0 := Cl.below b11 E0.drN.al)
              | (replace E0 := Cl.below b11 E0.drN.dr)
              | (replace E0 := Cl.below b11 E0.drN.drN)
              | (replace E0 := Cl.below b11 E0.al.al.al)
              | (replace E0 := Cl.below b11 E0.al.al.dr)
              | (replace E0 := Cl.below b11 E0.al.al.drN)
              | (replace E0 := Cl.below b11 E0.al.dr.al)
              | (replace E0 := Cl.below b11 E0.al.dr.dr)
              | (replace E0 := Cl.below b11 E0.al.dr.drN)
              | (replace E0 := Cl.below b11 E0.al.drN.al)
              | (replace E0 := Cl.below b11 E0.al.drN.dr)
              | (replace E0 := Cl.below b11 E0.al.drN.drN)
              | (replace E0 := Cl.below b11 E0.dr.al.al)
              | (replace E0 := Cl.below b11 E0.dr.al.dr)
              | (replace E0 := Cl.below b11 E0.dr.al.drN)
              | (replace E0 := Cl.below b11 E0.dr.dr.al)
              | (replace E0 := Cl.below b11 E0.dr.dr.dr)
              | (replace E0 := Cl.below b11 E0.dr.dr.drN)
              | (replace E0 := Cl.below b11 E0.dr.drN.al)
              | (replace E0 := Cl.below b11 E0.dr.drN.dr)
              | (replace E0 := Cl.below b11 E0.dr.drN.drN)
              | (replace E0 := Cl.below b11 E0.drN.al.al)
              | (replace E0 := Cl.below b11 E0.drN.al.dr)
              | (replace E0 := Cl.below b11 E0.drN.al.drN)
              | (replace E0 := Cl.below b11 E0.drN.dr.al)
              | (replace E0 := Cl.below b11 E0.drN.dr.dr)
              | (replace E0 := Cl.below b11 E0.drN.dr.drN)
              | (replace E0 := Cl.below b11 E0.drN.drN.al)
              | (replace E0 := Cl.below b11 E0.drN.drN.dr)
              | (replace E0 := Cl.below b11 E0.drN.drN.drN)
            have E0_c := E0.cell
            have E0_f := E0.free
            have E0_l := E0.lt
            dsimp only at E0_l
            first
              | (replace E1 := Cl.below b11 E1)
              | (replace E1 := Cl.below b11 E1.al)
              | (replace E1 := Cl.below b11 E1.dr)
              | (replace E1 := Cl.below b11 E1.drN)
              | (replace E1 := Cl.below b11 E1.al.al)
              | (replace E1 := Cl.below b11 E1.al.dr)
              | (replace E1 := Cl.below b11 E1.al.drN)
              | (replace E1 := Cl.below b11 E1.dr.al)
              | (replace E1 := Cl.below b11 E1.dr.dr)
              | (replace E1 := Cl.below b11 E1.dr.drN)
              | (replace E1 := Cl.below b11 E1.drN.al)
              | (replace E1 := Cl.below b11 E1.drN.dr)
              | (replace E1 := Cl.below b11 E1.drN.drN)
              | (replace E1 := Cl.below b11 E1.al.al.al)
              | (replace E1 := Cl.below b11 E1.al.al.dr)
              | (replace E1 := Cl.below b11 E1.al.al.drN)
              | (replace E1 := Cl.below b11 E1.al.dr.al)
              | (replace E1 := Cl.below b11 E1.al.dr.dr)
              | (replace E1 := Cl.below b11 E1.al.dr.drN)
              | (replace E1 := Cl.below b11 E1.al.drN.al)
              | (replace E1 := Cl.below b11 E1.al.drN.dr)
              | (replace E1 := Cl.below b11 E1.al.drN.drN)
              | (replace E1 := Cl.below b11 E1.dr.al.al)
              | (replace E1 := Cl.below b11 E1.dr.al.dr)
              | (replace E1 := Cl.below b11 E1.dr.al.drN)
              | (replace E1 := Cl.below b11 E1.dr.dr.al)
              | (replace E1 := Cl.below b11 E1.dr.dr.dr)
              | (replace E1 := Cl.below b11 E1.dr.dr.drN)
              | (replace E1 := Cl.below b11 E1.dr.drN.al)
              | (replace E1 := Cl.below b11 E1.dr.drN.dr)
              | (replace E1 := Cl.below b11 E1.dr.drN.drN)
              | (replace E1 := Cl.below b11 E1.drN.al.al)
              | (replace E1 := Cl.below b11 E1.drN.al.dr)
              | (replace E1 := Cl.below b11 E1.drN.al.drN)
              | (replace E1 := Cl.below b11 E1.drN.dr.al)
              | (replace E1 := Cl.below b11 E1.drN.dr.dr)
              | (replace E1 := Cl.below b11 E1.drN.dr.drN)
              | (replace E1 := Cl.below b11 E1.drN.drN.al)
              | (replace E1 := Cl.below b11 E1.drN.drN.dr)
              | (replace E1 := Cl.below b11 E1.drN.drN.drN)
            have E1_c := E1.cell
            have E1_f := E1.free
            have E1_l := E1.lt
            dsimp only at E1_l
            go_wp2_with fail
            refine (ref_Like _ _ noD _ (dC.out.below (below_step (below_step (below_step hb b9) b10) b11)) (VDisk.zero (fun _ => False) _).now).mono ?_
            rintro e w12 ⟨rfl, b12⟩
            go_wp2_with fail
            go_ret
            exact ⟨rfl, below_step (below_step (below_step (below_step (below_step Bw7 hb) b9) b10) b11) b12⟩
end Go.Proofs.Ytdcokepmblcdmaa
