/- The law DiskLast: for every input it returns true. -/
import Derived.RegionTactic
import Derived.IntWalk
import Derived.BigQuiet
import Derived.Deep.RegionHeld3
import Derived.Test.YtdcokepmblcdmaaBase
import Derived.Test.YtdcokepmblcdmaaShelf
import Derived.Test.YtdcokepmblcdmaaOct
import Derived.Test.YtdcokepmblcdmaaV
import Derived.Test.YtdcokepmblcdmaaOpen
import Derived.Test.YtdcokepmblcdmaaKDisk
import Derived.Test.YtdcokepmblcdmaaAny
import Derived.Test.YtdcokepmblcdmaaCDWell
import Derived.Test.YtdcokepmblcdmaaCDRight
import Derived.Test.YtdcokepmblcdmaaDSave
import Derived.Test.YtdcokepmblcdmaaCDEnds
import Derived.Test.YtdcokepmblcdmaaDNew
import Derived.Test.YtdcokepmblcdmaaDLike
import Derived.Test.YtdcokepmblcdmaaDFlush
import Derived.Test.YtdcokepmblcdmaaDMath
import Derived.Test.YtdcokepmblcdmaaDAlive
import Derived.Test.YtdcokepmblcdmaaCRef09b
import Derived.Test.YtdcokepmblcdmaaTexts
import Derived.Test.YtdcokepmblcdmaaDLaw
import Derived.Test.YtdcokepmblcdmaaDLastM
import Derived.Below
import Derived.Deep.Draws
import Derived.OwnWalk
import Derived.Laws.BytesArg
import Derived.Laws.MakeOwn
import Derived.Laws.OwnMore
import Derived.Deep.OwnRows
import Derived.Tactics
import Derived.Lib.ConvBytes
import Derived.Laws.Slices
import Derived.WalkKit
import Derived.KernelRfl
import Derived.RowKit3
import Derived.Deep.LoopGhost
import Derived.Deep.QuietTactic
import Derived.BigQuiet
import Derived.WideLaws
import Derived.Deep.DeepCutAuto
import Derived.Deep.CutBlock
import Derived.Deep.RegionHeld3
import Derived.Laws.Rows
import Derived.Lib.AppendStr
import Derived.ArgAppend
import Derived.Laws.BitsLemmas
import Derived.RowKit
namespace Go.Proofs.Ytdcokepmblcdmaa
open Go.RowKit Go.Proofs.YtdcokepmblcdmaaW.PrintWords Go.Proofs.YtdcokepmblcdmaaW.PrintLast Go.Proofs.YtdcokepmblcdmaaW.PrintMore
attribute [local go_sem] max2_int min2_int max_two min_two max_three min_three max_four min_four
set_option linter.unusedVariables false
set_option linter.unusedSimpArgs false
set_option maxHeartbeats 8000000 in
set_option maxRecDepth 100000 in
theorem diskLast_walk (v : Value) (d0 : SDisk) (at0 : Int) (ul : Value) (l : List Int) (u : Value) (fs : List Int) (w : World) (h0 : VDisk w v d0) (_w0 : WDisk d0) (w1 : (Lit.int .i64 at0).wf = true) (hl : SlV (Kd.int .u8) w ul l) (wl : ∀ y ∈ l, (Lit.int .u8 y).wf = true) (h4 : SlV (Kd.int .i64) w u fs) (_w4 : ∀ y ∈ fs, (Lit.int .i64 y).wf = true) :
    Calls Try.prog 3 #[v, .int .i64 at0, ul, u] w fun e w' => e = .returned (.bool true) ∧ Below w.heap.size w w' := by
  have a1lo := wf_i64_lo w1
  have a1hi := wf_i64_hi w1
  clear w1
  have hd0 : St (fun k => k = w.heap.size) w (fun w => VDisk w v d0) := (St.start fun w1 => h0.below).wide (fun k hk h => by omega)
  obtain ⟨A0, e0, A1, e1, rfl, l0, m0, g0, l1, m1, g1⟩ := VDisk.open hd0
  obtain ⟨F, ef, rfl, lf, hF⟩ := h4
  obtain ⟨L, el, rfl, ll, hL⟩ := hl
  have mf := Kd.C_max hF
  have ml := Kd.C_max hL
  go_enter Try.func3, Try.ntmps3
  go_wp2_with fail
  refine (law_few (fun k => k = w.heap.size) _ d0 _ (fun k hk => by subst hk; simp) (hd0.keep (by repeat (first | exact Keep.refl _ _ | (with_reducible assumption) | refine Keep.alloc ?_ _ | refine Keep.drewN ?_ _ | refine Keep.drew ?_ | refine Keep.set ?_ (by first | exact .inl rfl | exact .inr (by dsimp only; omega) | exact .inl (hP.own _ (by dsimp only; omega) (by dsimp only; omega)) | exact .inl (by assumption)) _ | refine Keep.step ?_ (by assumption))))).mono ?_
  rintro e w1 ⟨⟨r1, rfl, d1⟩, b1⟩
  have sz1 := b1.size
  try simp only [World.size_alloc, World.size_setCell, World.size_drew, size_drewN] at sz1
  have X0 := Cl.below b1 (Cl.new (j := 0) rfl)
  have X1 := Cl.below b1 (Cl.new (j := 1) rfl)
  obtain ⟨D1, hD1⟩ : ∃ D1, D1 = fewD d0 := ⟨_, rfl⟩
  rw [← hD1] at d1
  clear hD1 g0 g1 hd0 h0
  obtain ⟨B0, q0, B1, q1, rfl, l2, m2, g2, l3, m3, g3⟩ := VDisk.open d1
  have X0_c := X0.cell
  have X0_f := X0.free
  have X1_c := X1.cell
  have X1_f := X1.free
  obtain ⟨D2, hD2⟩ : ∃ D2 : SD, D2 = ⟨D1.f0, []⟩ := ⟨_, rfl⟩
  obtain ⟨Y0, Y1⟩ := Cl.pair X0 X1 (.slice B0 D1.f0.length q0) (.slice B1 D1.f1.length q1)
  have Y1_c := Y1.cell
  have Y1_f := Y1.free
  have T0 := Y0.beside (i := 1) (u := .slice none 0 0) (by decide)
  have T1 := Y1.same (u := .slice none 0 0)
  have T0_c := T0.cell
  have T1_c := T1.cell
  have d2 : VDisk (((w1.setCell ⟨w.heap.size, 0, none⟩ (.slice B0 D1.f0.length q0)).setCell ⟨w.heap.size, 1, none⟩ (.slice B1 D1.f1.length q1)).setCell ⟨w.heap.size, 1, none⟩ (.slice none 0 0)) (.agg #[.slice B0 D1.f0.length q0, .slice none 0 0]) D2 := by
    rw [hD2]
    exact (VDisk.mkn (S := fun k => k = w.heap.size) (x := ⟨D1.f0, []⟩) rfl l2 (g2.keep (by repeat (first | exact Keep.refl _ _ | (with_reducible assumption) | refine Keep.alloc ?_ _ | refine Keep.drewN ?_ _ | refine Keep.drew ?_ | refine Keep.set ?_ (by first | exact .inl rfl | exact .inr (by dsimp only; omega) | exact .inl (hP.own _ (by dsimp only; omega) (by dsimp only; omega)) | exact .inl (by assumption)) _ | refine Keep.step ?_ (by assumption)))) rfl (Nat.le_refl _) (fun w _ => Kd.C_nil _ w)).now
  go_wp2_with fail
  refine (ref_RightV _ D2 _ d2).mono ?_
  rintro e w2 ⟨rfl, b2⟩
  have sz2 := b2.size
  simp only [World.size_setCell] at sz2
  first
    | (replace T0 := Cl.below b2 T0)
    | (replace T0 := Cl.below b2 T0.al)
    | (replace T0 := Cl.below b2 T0.dr)
    | (replace T0 := Cl.below b2 T0.drN)
    | (replace T0 := Cl.below b2 T0.al.al)
    | (replace T0 := Cl.below b2 T0.al.dr)
    | (replace T0 := Cl.below b2 T0.al.drN)
    | (replace T0 := Cl.below b2 T0.dr.al)
    | (replace T0 := Cl.below b2 T0.dr.dr)
    | (replace T0 := Cl.below b2 T0.dr.drN)
    | (replace T0 := Cl.below b2 T0.drN.al)
    | (replace T0 := Cl.below b2 T0.drN.dr)
    | (replace T0 := Cl.below b2 T0.drN.drN)
    | (replace T0 := Cl.below b2 T0.al.al.al)
    | (replace T0 := Cl.below b2 T0.al.al.dr)
    | (replace T0 := Cl.below b2 T0.al.al.drN)
    | (replace T0 := Cl.below b2 T0.al.dr.al)
    | (replace T0 := Cl.below b2 T0.al.dr.dr)
    | (replace T0 := Cl.below b2 T0.al.dr.drN)
    | (replace T0 := Cl.below b2 T0.al.drN.al)
    | (replace T0 := Cl.below b2 T0.al.drN.dr)
    | (replace T0 := Cl.below b2 T0.al.drN.drN)
    | (replace T0 := Cl.below b2 T0.dr.al.al)
    | (replace T0 := Cl.below b2 T0.dr.al.dr)
    | (replace T0 := Cl.below b2 T0.dr.al.drN)
    | (replace T0 := Cl.below b2 T0.dr.dr.al)
    | (replace T0 := Cl.below b2 T0.dr.dr.dr)
    | (replace T0 := Cl.below b2 T0.dr.dr.drN)
    | (replace T0 := Cl.below b2 T0.dr.drN.al)
    | (replace T0 := Cl.below b2 T0.dr.drN.dr)
    | (replace T0 := Cl.below b2 T0.dr.drN.drN)
    | (replace T0 := Cl.below b2 T0.drN.al.al)
    | (replace T0 := Cl.below b2 T0.drN.al.dr)
    | (replace T0 := Cl.below b2 T0.drN.al.drN)
    | (replace T0 := Cl.below b2 T0.drN.dr.al)
    | (replace T0 := Cl.below b2 T0.drN.dr.dr)
    | (replace T0 := Cl.below b2 T0.drN.dr.drN)
    | (replace T0 := Cl.below b2 T0.drN.drN.al)
    | (replace T0 := Cl.below b2 T0.drN.drN.dr)
    | (replace T0 := Cl.below b2 T0.drN.drN.drN)
  have T0_c := T0.cell
  have T0_f := T0.free
  have T0_l := T0.lt
  dsimp only at T0_l
  first
    | (replace T1 := Cl.below b2 T1)
    | (replace T1 := Cl.below b2 T1.al)
    | (replace T1 := Cl.below b2 T1.dr)
    | (replace T1 := Cl.below b2 T1.drN)
    | (replace T1 := Cl.below b2 T1.al.al)
    | (replace T1 := Cl.below b2 T1.al.dr)
    | (replace T1 := Cl.below b2 T1.al.drN)
    | (replace T1 := Cl.below b2 T1.dr.al)
    | (replace T1 := Cl.below b2 T1.dr.dr)
    | (replace T1 := Cl.below b2 T1.dr.drN)
    | (replace T1 := Cl.below b2 T1.drN.al)
    | (replace T1 := Cl.below b2 T1.drN.dr)
    | (replace T1 := Cl.below b2 T1.drN.drN)
    | (replace T1 := Cl.below b2 T1.al.al.al)
    | (replace T1 := Cl.below b2 T1.al.al.dr)
    | (replace T1 := Cl.below b2 T1.al.al.drN)
    | (replace T1 := Cl.below b2 T1.al.dr.al)
    | (replace T1 := Cl.below b2 T1.al.dr.dr)
    | (replace T1 := Cl.below b2 T1.al.dr.drN)
    | (replace T1 := Cl.below b2 T1.al.drN.al)
    | (replace T1 := Cl.below b2 T1.al.drN.dr)
    | (replace T1 := Cl.below b2 T1.al.drN.drN)
    | (replace T1 := Cl.below b2 T1.dr.al.al)
    | (replace T1 := Cl.below b2 T1.dr.al.dr)
    | (replace T1 := Cl.below b2 T1.dr.al.drN)
    | (replace T1 := Cl.below b2 T1.dr.dr.al)
    | (replace T1 := Cl.below b2 T1.dr.dr.dr)
    | (replace T1 := Cl.below b2 T1.dr.dr.drN)
    | (replace T1 := Cl.below b2 T1.dr.drN.al)
    | (replace T1 := Cl.below b2 T1.dr.drN.dr)
    | (replace T1 := Cl.below b2 T1.dr.drN.drN)
    | (replace T1 := Cl.below b2 T1.drN.al.al)
    | (replace T1 := Cl.below b2 T1.drN.al.dr)
    | (replace T1 := Cl.below b2 T1.drN.al.drN)
    | (replace T1 := Cl.below b2 T1.drN.dr.al)
    | (replace T1 := Cl.below b2 T1.drN.dr.dr)
    | (replace T1 := Cl.below b2 T1.drN.dr.drN)
    | (replace T1 := Cl.below b2 T1.drN.drN.al)
    | (replace T1 := Cl.below b2 T1.drN.drN.dr)
    | (replace T1 := Cl.below b2 T1.drN.drN.drN)
  have T1_c := T1.cell
  have T1_f := T1.free
  have T1_l := T1.lt
  dsimp only at T1_l
  have B2 : Below w.heap.size w w2 := (by repeat (first | exact Below.refl _ _ | (with_reducible assumption) | refine below_alloc ?_ _ | refine pw_below_drewN ?_ _ | refine below_drew ?_ | refine Below.setCell ?_ (by dsimp only; omega) _ | refine below_step ?_ (by assumption)))
  have hd2 := hid (d2.below b2)
  have hFS := hid (Kd.C_below hF B2)
  have hLS := hid (Kd.C_below hL B2)
  clear X0 X1 X0_c X0_f X1_c X1_f Y0 Y1 Y1_c Y1_f d1 d2 g2 g3 hF hL b1 b2
  by_cases hR : rightD D2 = true
  · rw [hR]
    obtain ⟨p1, p2, p3, p4, p5⟩ := rightD_parts hR
    have hl2 : D2.f0.length = D1.f0.length := by rw [hD2]
    rw [hl2] at p1 p2
    replace hl2 := hid hl2
    replace hD2 := hid hD2
    have hRR := hid hR
    have P4 := hid p4
    have P5 := hid p5
    clear hR p4 p5
    have hn : (0 : Int) < D1.f0.length := by omega
    obtain ⟨x1, x2, x3, x4⟩ := mod_place (a := at0) hn
    have hnz : ((D1.f0.length : Int) == 0) = false := beq_eq_false_iff_ne.2 (by omega)
    have hnz2 : ¬ D1.f0 = [] := fun h => by rw [h] at p1; simp at p1
    have wr1 : IntKind.i64.wrap (at0.tmod D1.f0.length + D1.f0.length) = at0.tmod D1.f0.length + D1.f0.length := IntWalk.i64_in _ (by omega)
    go_wp2_with fail
    go_quiet (fail)
    clear wr1 x3 x4 hnz
    generalize hA1 : (at0.tmod D1.f0.length + D1.f0.length) % D1.f0.length = a1 at *
    clear hA1 a1lo a1hi
    have hd3 := hid (hd2.out.below (show Below w2.heap.size w2 (w2.drewN nq) from (by repeat (first | exact Below.refl _ _ | (with_reducible assumption) | refine below_alloc ?_ _ | refine pw_below_drewN ?_ _ | refine below_drew ?_ | refine Below.setCell ?_ (by dsimp only; omega) _ | refine below_step ?_ (by assumption)))))
    have hF3 := hid (Kd.C_below hFS.out (show Below w2.heap.size w2 (w2.drewN nq) from (by repeat (first | exact Below.refl _ _ | (with_reducible assumption) | refine below_alloc ?_ _ | refine pw_below_drewN ?_ _ | refine below_drew ?_ | refine Below.setCell ?_ (by dsimp only; omega) _ | refine below_step ?_ (by assumption)))))
    have hL3 := hid (Kd.C_below hLS.out (show Below w2.heap.size w2 (w2.drewN nq) from (by repeat (first | exact Below.refl _ _ | (with_reducible assumption) | refine below_alloc ?_ _ | refine pw_below_drewN ?_ _ | refine below_drew ?_ | refine Below.setCell ?_ (by dsimp only; omega) _ | refine below_step ?_ (by assumption)))))
    have sz3 : w.heap.size ≤ (w2.drewN nq).heap.size := by rw [size_drewN]; omega
    have B3 : Below w.heap.size w (w2.drewN nq) := (by repeat (first | exact Below.refl _ _ | (with_reducible assumption) | refine below_alloc ?_ _ | refine pw_below_drewN ?_ _ | refine below_drew ?_ | refine Below.setCell ?_ (by dsimp only; omega) _ | refine below_step ?_ (by assumption)))
    have Z0 := T0.drN (n := nq)
    have Z1 := T1.drN (n := nq)
    generalize w2.drewN nq = w3 at *
    clear hd2 hFS hLS T0 T1 T0_c T0_f T0_l T1_c T1_f T1_l B2
    have Z0_c := Z0.cell
    have Z1_c := Z1.cell
    have Z0_l := Z0.lt
    dsimp only at Z0_l
    obtain ⟨G0, j0, G1, j1, he, _, _, g2, _, _, _⟩ := VDisk.open (St.start fun w5 hb5 => hd3.out.below hb5)
    have hG : Kd.string.C w3 B0 D1.f0.length D2.f0 := by
      injection he with he
      have e1 := congrArg (fun q : Array Value => q[0]?) he
      simp at e1
      rw [e1.1, ← hl2.out]
      exact g2.now
    clear he g2
    obtain ⟨bd, rfl, hcell⟩ := Kd.at_string hG a1 x1 (by omega)
    have hsz : (rdOf ByteArray.empty D2.f0 a1).size = 128 := P4.out _ (by
      rw [rdOf, List.getD_eq_getElem?_getD, List.getElem?_eq_getElem (by rw [hl2.out]; omega)]
      exact List.getElem_mem _)
    generalize hb0 : rdOf ByteArray.empty D2.f0 a1 = b0 at *
    replace hb0 := hid hb0
    replace hG := hid hG
    go_wp2_with fail
    go_quiet (fail)
    have hd4 := hid (hd3.out.below (show Below w3.heap.size w3 (w3.drewN nq) from (by repeat (first | exact Below.refl _ _ | (with_reducible assumption) | refine below_alloc ?_ _ | refine pw_below_drewN ?_ _ | refine below_drew ?_ | refine Below.setCell ?_ (by dsimp only; omega) _ | refine below_step ?_ (by assumption)))))
    have hF4 := hid (Kd.C_below hF3.out (show Below w3.heap.size w3 (w3.drewN nq) from (by repeat (first | exact Below.refl _ _ | (with_reducible assumption) | refine below_alloc ?_ _ | refine pw_below_drewN ?_ _ | refine below_drew ?_ | refine Below.setCell ?_ (by dsimp only; omega) _ | refine below_step ?_ (by assumption)))))
    have hL4 := hid (Kd.C_below hL3.out (show Below w3.heap.size w3 (w3.drewN nq) from (by repeat (first | exact Below.refl _ _ | (with_reducible assumption) | refine below_alloc ?_ _ | refine pw_below_drewN ?_ _ | refine below_drew ?_ | refine Below.setCell ?_ (by dsimp only; omega) _ | refine below_step ?_ (by assumption)))))
    have sz4 : w.heap.size < (w3.drewN nq).heap.size := by rw [size_drewN]; omega
    have B4 : Below w.heap.size w (w3.drewN nq) := (by repeat (first | exact Below.refl _ _ | (with_reducible assumption) | refine below_alloc ?_ _ | refine pw_below_drewN ?_ _ | refine below_drew ?_ | refine Below.setCell ?_ (by dsimp only; omega) _ | refine below_step ?_ (by assumption)))
    have V0 := Z0.drN (n := nq)
    have V1 := Z1.drN (n := nq)
    generalize w3.drewN nq = w4 at *
    clear hd3 hF3 hL3 Z0 Z1 Z0_c Z1_c Z0_l B3 sz3
    have V0_c := V0.cell
    have V1_c := V1.cell
    have hd2' : VDisk w4 (.agg #[.slice (some bd) D1.f0.length q0, .slice none 0 0]) ⟨D2.f0, lastW a1 (l.take 0)⟩ := by
      have := hd4.out
      rw [hD2.out] at this ⊢
      exact this
    have H1 : 4 ≤ D2.f0.length := by rw [hl2.out]; omega
    have H2 : D2.f0.length ≤ 64 := by rw [hl2.out]; omega
    have H3 : a1 < D2.f0.length := by rw [hl2.out]; exact x2
    go_wp2_with fail
    go_loopw [9, 10, 55] (fun vf vs i wr => ∃ k : Nat, k ≤ l.length ∧ k ≤ 20 ∧ i = .int .i64 k ∧ vf = .string (firstTo fs l b0 k) ∧ vs = .string (secondTo fs l b0 k) ∧ ∃ N0 m0 n0 N1 m1 n1, Cl wr ⟨w4.heap.size, 0, none⟩ (.slice N0 m0 n0) ∧ Cl wr ⟨w4.heap.size, 1, none⟩ (.slice N1 m1 n1) ∧ St (fun j => j = w4.heap.size) wr (fun w => VDisk w (.agg #[.slice N0 m0 n0, .slice N1 m1 n1]) ⟨D2.f0, lastW a1 (l.take k)⟩) ∧ Below w4.heap.size w4 wr) (fun _ _ i _ => l.length - (intOf i).toNat)
    case atStart =>
      exact ⟨0, Nat.zero_le _, Nat.zero_le _, rfl, rfl, rfl, _, _, _, _, _, _, Cl.new rfl, Cl.new rfl, (((St.start fun w5 hb5 => hd2'.below hb5).wide (fun k (h1 : k < w4.heap.size) h2 => by omega)).keep (by repeat (first | exact Keep.refl _ _ | (with_reducible assumption) | refine Keep.alloc ?_ _ | refine Keep.drewN ?_ _ | refine Keep.drew ?_ | refine Keep.set ?_ (by first | exact .inl rfl | exact .inr (by dsimp only; omega) | exact .inl (hP.own _ (by dsimp only; omega) (by dsimp only; omega)) | exact .inl (by assumption)) _ | refine Keep.step ?_ (by assumption)))), (by repeat (first | exact Below.refl _ _ | (with_reducible assumption) | refine below_alloc ?_ _ | refine pw_below_drewN ?_ _ | refine below_drew ?_ | refine Below.setCell ?_ (by dsimp only; omega) _ | refine below_step ?_ (by assumption)))⟩
    case round =>
      obtain ⟨k, hk, hk20, rfl, rfl, rfl, N0, m0, n0, N1, m1, n1, Z0, Z1, hx, bk⟩ := hrel
      have szk := bk.size
      have Z0_l := Z0.lt
      dsimp only at Z0_l
      by_cases hlt : k < l.length ∧ k < 20
      · obtain ⟨hlt, hk2⟩ := hlt
        obtain ⟨ad, rfl, hcl⟩ := Kd.at_int (Kd.C_below hL4.out bk) (k : Int) (by omega) (by omega)
        rw [Int.toNat_natCast, rd, Int.toNat_natCast] at hcl
        obtain ⟨c0, c1⟩ := bounds_u8 (wl (l.getD k 0) (by rw [List.getD_eq_getElem?_getD, List.getElem?_eq_getElem hlt]; exact List.getElem_mem _))
        obtain ⟨X0, hX0⟩ : ∃ X : SD, X = ⟨D2.f0, lastW a1 (l.take k)⟩ := ⟨_, rfl⟩
        obtain ⟨X, hX⟩ : ∃ X : SD, X = ⟨D2.f0, lastW a1 (l.take (k + 1))⟩ := ⟨_, rfl⟩
        rw [← hX0] at hx
        have hs := hid (show saveD X0 [⟨a1, sect (l.getD k 0)⟩] = (X, 0) by rw [hX0, hX]; exact save_last H1 H2 P4.out x1 H3 hlt hk2)
        have hL := hid (show standsD X a1.toNat = sect (l.getD k 0) by rw [hX]; exact stands_last x1 hlt)
        have hXR := hid (show rightD X = true by rw [hX]; exact rightD_last H1 H2 P4.out x1 H3 (by rw [List.length_take]; omega))
        have hXl : a1 < X.f0.length := by rw [hX]; exact H3
        have F1 := hid (show firstTo fs l b0 (k + 1) = if fs.getD k 0 = 1 ∨ fs.getD k 0 = 2 then (sect (l.getD k 0)).extract 0 64 else firstTo fs l b0 k from rfl)
        have F2 := hid (show secondTo fs l b0 (k + 1) = if fs.getD k 0 = 1 then (sect (l.getD k 0)).extract 64 128 else secondTo fs l b0 k from rfl)
        replace hX := hid hX
        replace hX0 := hid hX0
        have hS0 : ∀ j, j = w4.heap.size → j < wr.heap.size := fun j hj => by omega
        generalize hcc : l.getD k 0 = c at *
        generalize firstTo fs l b0 k = vf at *
        generalize secondTo fs l b0 k = vs at *
        replace hcc := hid hcc
        go_upto_region 12 with (fail)
        go_cut [14, 15] (fun v14 v15 wc => v15 = .int .i64 0 ∧ ∃ g E0 m2 k0 E1 m3 k1, v14 = .pointer (some ⟨g, 0, none⟩) ∧ Cl wc ⟨g, 0, none⟩ (.slice E0 m2 k0) ∧ Cl wc ⟨g, 1, none⟩ (.slice E1 m3 k1) ∧ St (fun j => j = w4.heap.size) wc (fun w => VDisk w (.agg #[.slice E0 m2 k0, .slice E1 m3 k1]) X) ∧ Cl wc ⟨w4.heap.size, 0, none⟩ (.slice N0 m0 n0) ∧ Cl wc ⟨w4.heap.size, 1, none⟩ (.slice N1 m1 n1) ∧ Below w4.heap.size w4 wc ∧ w4.heap.size < g)
        case first =>
          go_region_held3 (fun w' => w'.cell? ⟨w4.heap.size, 0, none⟩ = some (.slice N0 m0 n0) ∧ w'.cell? ⟨w4.heap.size, 1, none⟩ = some (.slice N1 m1 n1))
            (first | exact ⟨Z0.cell, Z1.cell⟩ | exact ⟨((Z0.far (by dsimp only; omega)).far (by dsimp only; omega)).cell, ((Z1.far (by dsimp only; omega)).far (by dsimp only; omega)).cell⟩ | exact ⟨Z0.al.cell, Z1.al.cell⟩ | exact ⟨Z0.al.al.cell, Z1.al.al.cell⟩ | go_keep)
            (first
            | (go_at_call 11; refine (law_sector _ c0 c1 _).mono ?_; rintro e w5 ⟨rfl, b5⟩; have sz5 := b5.size; (try simp only [World.size_alloc, World.size_drew] at sz5); (first | (replace Z0 := Cl.below b5 Z0) | (replace Z0 := Cl.below b5 Z0.al) | (replace Z0 := Cl.below b5 Z0.dr) | (replace Z0 := Cl.below b5 Z0.drN) | (replace Z0 := Cl.below b5 Z0.al.al) | (replace Z0 := Cl.below b5 Z0.al.dr) | (replace Z0 := Cl.below b5 Z0.al.drN) | (replace Z0 := Cl.below b5 Z0.dr.al) | (replace Z0 := Cl.below b5 Z0.dr.dr) | (replace Z0 := Cl.below b5 Z0.dr.drN) | (replace Z0 := Cl.below b5 Z0.drN.al) | (replace Z0 := Cl.below b5 Z0.drN.dr) | (replace Z0 := Cl.below b5 Z0.drN.drN) | (replace Z0 := Cl.below b5 Z0.al.al.al) | (replace Z0 := Cl.below b5 Z0.al.al.dr) | (replace Z0 := Cl.below b5 Z0.al.al.drN) | (replace Z0 := Cl.below b5 Z0.al.dr.al) | (replace Z0 := Cl.below b5 Z0.al.dr.dr) | (replace Z0 := Cl.below b5 Z0.al.dr.drN) | (replace Z0 := Cl.below b5 Z0.al.drN.al) | (replace Z0 := Cl.below b5 Z0.al.drN.dr) | (replace Z0 := Cl.below b5 Z0.al.drN.drN) | (replace Z0 := Cl.below b5 Z0.dr.al.al) | (replace Z0 := Cl.below b5 Z0.dr.al.dr) | (replace Z0 := Cl.below b5 Z0.dr.al.drN) | (replace Z0 := Cl.below b5 Z0.dr.dr.al) | (replace Z0 := Cl.below b5 Z0.dr.dr.dr) | (replace Z0 := Cl.below b5 Z0.dr.dr.drN) | (replace Z0 := Cl.below b5 Z0.dr.drN.al) | (replace Z0 := Cl.below b5 Z0.dr.drN.dr) | (replace Z0 := Cl.below b5 Z0.dr.drN.drN) | (replace Z0 := Cl.below b5 Z0.drN.al.al) | (replace Z0 := Cl.below b5 Z0.drN.al.dr) | (replace Z0 := Cl.below b5 Z0.drN.al.drN) | (replace Z0 := Cl.below b5 Z0.drN.dr.al) | (replace Z0 := Cl.below b5 Z0.drN.dr.dr) | (replace Z0 := Cl.below b5 Z0.drN.dr.drN) | (replace Z0 := Cl.below b5 Z0.drN.drN.al) | (replace Z0 := Cl.below b5 Z0.drN.drN.dr) | (replace Z0 := Cl.below b5 Z0.drN.drN.drN)); (have Z0_c := Z0.cell); (have Z0_f := Z0.free); (have Z0_l := Z0.lt); (dsimp only at Z0_l); (first | (replace Z1 := Cl.below b5 Z1) | (replace Z1 := Cl.below b5 Z1.al) | (replace Z1 := Cl.below b5 Z1.dr) | (replace Z1 := Cl.below b5 Z1.drN) | (replace Z1 := Cl.below b5 Z1.al.al) | (replace Z1 := Cl.below b5 Z1.al.dr) | (replace Z1 := Cl.below b5 Z1.al.drN) | (replace Z1 := Cl.below b5 Z1.dr.al) | (replace Z1 := Cl.below b5 Z1.dr.dr) | (replace Z1 := Cl.below b5 Z1.dr.drN) | (replace Z1 := Cl.below b5 Z1.drN.al) | (replace Z1 := Cl.below b5 Z1.drN.dr) | (replace Z1 := Cl.below b5 Z1.drN.drN) | (replace Z1 := Cl.below b5 Z1.al.al.al) | (replace Z1 := Cl.below b5 Z1.al.al.dr) | (replace Z1 := Cl.below b5 Z1.al.al.drN) | (replace Z1 := Cl.below b5 Z1.al.dr.al) | (replace Z1 := Cl.below b5 Z1.al.dr.dr) | (replace Z1 := Cl.below b5 Z1.al.dr.drN) | (replace Z1 := Cl.below b5 Z1.al.drN.al) | (replace Z1 := Cl.below b5 Z1.al.drN.dr) | (replace Z1 := Cl.below b5 Z1.al.drN.drN) | (replace Z1 := Cl.below b5 Z1.dr.al.al) | (replace Z1 := Cl.below b5 Z1.dr.al.dr) | (replace Z1 := Cl.below b5 Z1.dr.al.drN) | (replace Z1 := Cl.below b5 Z1.dr.dr.al) | (replace Z1 := Cl.below b5 Z1.dr.dr.dr) | (replace Z1 := Cl.below b5 Z1.dr.dr.drN) | (replace Z1 := Cl.below b5 Z1.dr.drN.al) | (replace Z1 := Cl.below b5 Z1.dr.drN.dr) | (replace Z1 := Cl.below b5 Z1.dr.drN.drN) | (replace Z1 := Cl.below b5 Z1.drN.al.al) | (replace Z1 := Cl.below b5 Z1.drN.al.dr) | (replace Z1 := Cl.below b5 Z1.drN.al.drN) | (replace Z1 := Cl.below b5 Z1.drN.dr.al) | (replace Z1 := Cl.below b5 Z1.drN.dr.dr) | (replace Z1 := Cl.below b5 Z1.drN.dr.drN) | (replace Z1 := Cl.below b5 Z1.drN.drN.al) | (replace Z1 := Cl.below b5 Z1.drN.drN.dr) | (replace Z1 := Cl.below b5 Z1.drN.drN.drN)); (have Z1_c := Z1.cell); (have Z1_f := Z1.free); (have Z1_l := Z1.lt); (dsimp only at Z1_l); (try (have V0 := Cl.below b5 (Cl.new (cs := #[.slice none 0 0, .slice none 0 0]) (j := 0) rfl); have V1 := Cl.below b5 (Cl.new (cs := #[.slice none 0 0, .slice none 0 0]) (j := 1) rfl); (try simp only [World.size_drew] at V0 V1); have V0_c := V0.cell; have V0_f := V0.free; have V1_c := V1.cell; have V1_f := V1.free)); (try (have V0 := Cl.below b5 (Cl.dr (Cl.new (cs := #[.slice none 0 0, .slice none 0 0]) (j := 0) rfl)); have V1 := Cl.below b5 (Cl.dr (Cl.new (cs := #[.slice none 0 0, .slice none 0 0]) (j := 1) rfl)); (try simp only [World.size_drew] at V0 V1); have V0_c := V0.cell; have V0_f := V0.free; have V1_c := V1.cell; have V1_f := V1.free)))
            | (go_at_call 10; (with_reducible refine Calls.mono (disk_Save_st (fun j => j = w4.heap.size) wr _ _ X0 ⟨a1, sect c⟩ _ hS0 ?_ ?_ hx ?_) ?_); (· (repeat (first | exact Below.refl _ _ | (with_reducible assumption) | refine below_alloc ?_ _ | refine pw_below_drewN ?_ _ | refine below_drew ?_ | refine Below.setCell ?_ (by dsimp only; omega) _ | refine below_step ?_ (by assumption)))); (· ((try simp only [World.size_alloc, World.size_drew]); omega)); (· first | exact C_one (cs := [.int .i64 a1, .string (sect c)]) (fun w => k36_mk w ⟨a1, sect c⟩) | exact Kd.C_alloc (C_one (cs := [.int .i64 a1, .string (sect c)]) (fun w => k36_mk w ⟨a1, sect c⟩)) _ | (have hq := C_one (W := w5.alloc (.cells #[.slice none 0 0, .slice none 0 0] 25)) (T := 36) (d := kWrite) (x := ⟨a1, sect c⟩) (cs := [.int .i64 a1, .string (sect c)]) (fun w => k36_mk w ⟨a1, sect c⟩); simp only [World.size_alloc] at hq; exact hq)); rintro e w6 ⟨⟨r6, rfl, d6⟩, b6⟩; have sz6 := b6.size; simp only [World.size_alloc] at sz6 d6; rw [hs.out] at d6; rw [hs.out]; obtain ⟨E0, k0, E1, k1, rfl, l6, m6, i6, l7, m7, i7⟩ := VDisk.open d6; (first | (replace Z0 := Cl.below b6 Z0) | (replace Z0 := Cl.below b6 Z0.al) | (replace Z0 := Cl.below b6 Z0.dr) | (replace Z0 := Cl.below b6 Z0.drN) | (replace Z0 := Cl.below b6 Z0.al.al) | (replace Z0 := Cl.below b6 Z0.al.dr) | (replace Z0 := Cl.below b6 Z0.al.drN) | (replace Z0 := Cl.below b6 Z0.dr.al) | (replace Z0 := Cl.below b6 Z0.dr.dr) | (replace Z0 := Cl.below b6 Z0.dr.drN) | (replace Z0 := Cl.below b6 Z0.drN.al) | (replace Z0 := Cl.below b6 Z0.drN.dr) | (replace Z0 := Cl.below b6 Z0.drN.drN) | (replace Z0 := Cl.below b6 Z0.al.al.al) | (replace Z0 := Cl.below b6 Z0.al.al.dr) | (replace Z0 := Cl.below b6 Z0.al.al.drN) | (replace Z0 := Cl.below b6 Z0.al.dr.al) | (replace Z0 := Cl.below b6 Z0.al.dr.dr) | (replace Z0 := Cl.below b6 Z0.al.dr.drN) | (replace Z0 := Cl.below b6 Z0.al.drN.al) | (replace Z0 := Cl.below b6 Z0.al.drN.dr) | (replace Z0 := Cl.below b6 Z0.al.drN.drN) | (replace Z0 := Cl.below b6 Z0.dr.al.al) | (replace Z0 := Cl.below b6 Z0.dr.al.dr) | (replace Z0 := Cl.below b6 Z0.dr.al.drN) | (replace Z0 := Cl.below b6 Z0.dr.dr.al) | (replace Z0 := Cl.below b6 Z0.dr.dr.dr) | (replace Z0 := Cl.below b6 Z0.dr.dr.drN) | (replace Z0 := Cl.below b6 Z0.dr.drN.al) | (replace Z0 := Cl.below b6 Z0.dr.drN.dr) | (replace Z0 := Cl.below b6 Z0.dr.drN.drN) | (replace Z0 := Cl.below b6 Z0.drN.al.al) | (replace Z0 := Cl.below b6 Z0.drN.al.dr) | (replace Z0 := Cl.below b6 Z0.drN.al.drN) | (replace Z0 := Cl.below b6 Z0.drN.dr.al) | (replace Z0 := Cl.below b6 Z0.drN.dr.dr) | (replace Z0 := Cl.below b6 Z0.drN.dr.drN) | (replace Z0 := Cl.below b6 Z0.drN.drN.al) | (replace Z0 := Cl.below b6 Z0.drN.drN.dr) | (replace Z0 := Cl.below b6 Z0.drN.drN.drN)); (have Z0_c := Z0.cell); (have Z0_f := Z0.free); (have Z0_l := Z0.lt); (dsimp only at Z0_l); (first | (replace Z1 := Cl.below b6 Z1) | (replace Z1 := Cl.below b6 Z1.al) | (replace Z1 := Cl.below b6 Z1.dr) | (replace Z1 := Cl.below b6 Z1.drN) | (replace Z1 := Cl.below b6 Z1.al.al) | (replace Z1 := Cl.below b6 Z1.al.dr) | (replace Z1 := Cl.below b6 Z1.al.drN) | (replace Z1 := Cl.below b6 Z1.dr.al) | (replace Z1 := Cl.below b6 Z1.dr.dr) | (replace Z1 := Cl.below b6 Z1.dr.drN) | (replace Z1 := Cl.below b6 Z1.drN.al) | (replace Z1 := Cl.below b6 Z1.drN.dr) | (replace Z1 := Cl.below b6 Z1.drN.drN) | (replace Z1 := Cl.below b6 Z1.al.al.al) | (replace Z1 := Cl.below b6 Z1.al.al.dr) | (replace Z1 := Cl.below b6 Z1.al.al.drN) | (replace Z1 := Cl.below b6 Z1.al.dr.al) | (replace Z1 := Cl.below b6 Z1.al.dr.dr) | (replace Z1 := Cl.below b6 Z1.al.dr.drN) | (replace Z1 := Cl.below b6 Z1.al.drN.al) | (replace Z1 := Cl.below b6 Z1.al.drN.dr) | (replace Z1 := Cl.below b6 Z1.al.drN.drN) | (replace Z1 := Cl.below b6 Z1.dr.al.al) | (replace Z1 := Cl.below b6 Z1.dr.al.dr) | (replace Z1 := Cl.below b6 Z1.dr.al.drN) | (replace Z1 := Cl.below b6 Z1.dr.dr.al) | (replace Z1 := Cl.below b6 Z1.dr.dr.dr) | (replace Z1 := Cl.below b6 Z1.dr.dr.drN) | (replace Z1 := Cl.below b6 Z1.dr.drN.al) | (replace Z1 := Cl.below b6 Z1.dr.drN.dr) | (replace Z1 := Cl.below b6 Z1.dr.drN.drN) | (replace Z1 := Cl.below b6 Z1.drN.al.al) | (replace Z1 := Cl.below b6 Z1.drN.al.dr) | (replace Z1 := Cl.below b6 Z1.drN.al.drN) | (replace Z1 := Cl.below b6 Z1.drN.dr.al) | (replace Z1 := Cl.below b6 Z1.drN.dr.dr) | (replace Z1 := Cl.below b6 Z1.drN.dr.drN) | (replace Z1 := Cl.below b6 Z1.drN.drN.al) | (replace Z1 := Cl.below b6 Z1.drN.drN.dr) | (replace Z1 := Cl.below b6 Z1.drN.drN.drN)); (have Z1_c := Z1.cell); (have Z1_f := Z1.free); (have Z1_l := Z1.lt); (dsimp only at Z1_l); (try ((first | (replace V0 := Cl.below b6 V0) | (replace V0 := Cl.below b6 V0.al) | (replace V0 := Cl.below b6 V0.dr) | (replace V0 := Cl.below b6 V0.drN) | (replace V0 := Cl.below b6 V0.al.al) | (replace V0 := Cl.below b6 V0.al.dr) | (replace V0 := Cl.below b6 V0.al.drN) | (replace V0 := Cl.below b6 V0.dr.al) | (replace V0 := Cl.below b6 V0.dr.dr) | (replace V0 := Cl.below b6 V0.dr.drN) | (replace V0 := Cl.below b6 V0.drN.al) | (replace V0 := Cl.below b6 V0.drN.dr) | (replace V0 := Cl.below b6 V0.drN.drN) | (replace V0 := Cl.below b6 V0.al.al.al) | (replace V0 := Cl.below b6 V0.al.al.dr) | (replace V0 := Cl.below b6 V0.al.al.drN) | (replace V0 := Cl.below b6 V0.al.dr.al) | (replace V0 := Cl.below b6 V0.al.dr.dr) | (replace V0 := Cl.below b6 V0.al.dr.drN) | (replace V0 := Cl.below b6 V0.al.drN.al) | (replace V0 := Cl.below b6 V0.al.drN.dr) | (replace V0 := Cl.below b6 V0.al.drN.drN) | (replace V0 := Cl.below b6 V0.dr.al.al) | (replace V0 := Cl.below b6 V0.dr.al.dr) | (replace V0 := Cl.below b6 V0.dr.al.drN) | (replace V0 := Cl.below b6 V0.dr.dr.al) | (replace V0 := Cl.below b6 V0.dr.dr.dr) | (replace V0 := Cl.below b6 V0.dr.dr.drN) | (replace V0 := Cl.below b6 V0.dr.drN.al) | (replace V0 := Cl.below b6 V0.dr.drN.dr) | (replace V0 := Cl.below b6 V0.dr.drN.drN) | (replace V0 := Cl.below b6 V0.drN.al.al) | (replace V0 := Cl.below b6 V0.drN.al.dr) | (replace V0 := Cl.below b6 V0.drN.al.drN) | (replace V0 := Cl.below b6 V0.drN.dr.al) | (replace V0 := Cl.below b6 V0.drN.dr.dr) | (replace V0 := Cl.below b6 V0.drN.dr.drN) | (replace V0 := Cl.below b6 V0.drN.drN.al) | (replace V0 := Cl.below b6 V0.drN.drN.dr) | (replace V0 := Cl.below b6 V0.drN.drN.drN)); (have V0_c := V0.cell); (have V0_f := V0.free); (have V0_l := V0.lt); (dsimp only at V0_l); (first | (replace V1 := Cl.below b6 V1) | (replace V1 := Cl.below b6 V1.al) | (replace V1 := Cl.below b6 V1.dr) | (replace V1 := Cl.below b6 V1.drN) | (replace V1 := Cl.below b6 V1.al.al) | (replace V1 := Cl.below b6 V1.al.dr) | (replace V1 := Cl.below b6 V1.al.drN) | (replace V1 := Cl.below b6 V1.dr.al) | (replace V1 := Cl.below b6 V1.dr.dr) | (replace V1 := Cl.below b6 V1.dr.drN) | (replace V1 := Cl.below b6 V1.drN.al) | (replace V1 := Cl.below b6 V1.drN.dr) | (replace V1 := Cl.below b6 V1.drN.drN) | (replace V1 := Cl.below b6 V1.al.al.al) | (replace V1 := Cl.below b6 V1.al.al.dr) | (replace V1 := Cl.below b6 V1.al.al.drN) | (replace V1 := Cl.below b6 V1.al.dr.al) | (replace V1 := Cl.below b6 V1.al.dr.dr) | (replace V1 := Cl.below b6 V1.al.dr.drN) | (replace V1 := Cl.below b6 V1.al.drN.al) | (replace V1 := Cl.below b6 V1.al.drN.dr) | (replace V1 := Cl.below b6 V1.al.drN.drN) | (replace V1 := Cl.below b6 V1.dr.al.al) | (replace V1 := Cl.below b6 V1.dr.al.dr) | (replace V1 := Cl.below b6 V1.dr.al.drN) | (replace V1 := Cl.below b6 V1.dr.dr.al) | (replace V1 := Cl.below b6 V1.dr.dr.dr) | (replace V1 := Cl.below b6 V1.dr.dr.drN) | (replace V1 := Cl.below b6 V1.dr.drN.al) | (replace V1 := Cl.below b6 V1.dr.drN.dr) | (replace V1 := Cl.below b6 V1.dr.drN.drN) | (replace V1 := Cl.below b6 V1.drN.al.al) | (replace V1 := Cl.below b6 V1.drN.al.dr) | (replace V1 := Cl.below b6 V1.drN.al.drN) | (replace V1 := Cl.below b6 V1.drN.dr.al) | (replace V1 := Cl.below b6 V1.drN.dr.dr) | (replace V1 := Cl.below b6 V1.drN.dr.drN) | (replace V1 := Cl.below b6 V1.drN.drN.al) | (replace V1 := Cl.below b6 V1.drN.drN.dr) | (replace V1 := Cl.below b6 V1.drN.drN.drN)); (have V1_c := V1.cell); (have V1_f := V1.free); (have V1_l := V1.lt); (dsimp only at V1_l))); (try (have U0 := Cl.below b6 (Cl.new (cs := #[.slice none 0 0, .slice none 0 0]) (j := 0) rfl); have U1 := Cl.below b6 (Cl.new (cs := #[.slice none 0 0, .slice none 0 0]) (j := 1) rfl); (try simp only [World.size_alloc] at U0 U1); have U0_c := U0.cell; have U0_f := U0.free; have U1_c := U1.cell; have U1_f := U1.free)); (try (have U0 := Cl.below b6 (Cl.al (Cl.new (cs := #[.slice none 0 0, .slice none 0 0]) (j := 0) rfl)); have U1 := Cl.below b6 (Cl.al (Cl.new (cs := #[.slice none 0 0, .slice none 0 0]) (j := 1) rfl)); (try simp only [World.size_alloc] at U0 U1); have U0_c := U0.cell; have U0_f := U0.free; have U1_c := U1.cell; have U1_f := U1.free)))
            | fail)
          all_goals
            go_wp2_with fail
            go_meet
            first
            | exact ⟨rfl, _, E0, _, k0, E1, _, k1, rfl, Cl.new rfl, Cl.new rfl, (d6.keep (Keep.alloc (Keep.refl _ _) _)).sub (fun _ h => .inl h), Z0.al, Z1.al, (by repeat (first | exact Below.refl _ _ | (with_reducible assumption) | refine below_alloc ?_ _ | refine pw_below_drewN ?_ _ | refine below_drew ?_ | refine Below.setCell ?_ (by dsimp only; omega) _ | refine below_step ?_ (by assumption))), by omega⟩
            | exact ⟨rfl, _, E0, _, k0, E1, _, k1, rfl, (Cl.pair U0 U1 _ _).1, (Cl.pair U0 U1 _ _).2, (d6.keep (Keep.set (Keep.set (Keep.refl _ _) (.inl (.inr (by refine ⟨?_, ?_, ?_⟩ <;> dsimp only <;> omega))) _) (.inl (.inr (by refine ⟨?_, ?_, ?_⟩ <;> dsimp only <;> omega))) _)).sub (fun _ h => .inl h), ((Z0.far (by dsimp only; omega)).far (by dsimp only; omega)), ((Z1.far (by dsimp only; omega)).far (by dsimp only; omega)), (by repeat (first | exact Below.refl _ _ | (with_reducible assumption) | refine below_alloc ?_ _ | refine pw_below_drewN ?_ _ | refine below_drew ?_ | refine Below.setCell ?_ (by dsimp only; omega) _ | refine below_step ?_ (by assumption))), by omega⟩
            | exact ⟨rfl, _, E0, _, k0, E1, _, k1, rfl, (Cl.pair V0 V1 _ _).1, (Cl.pair V0 V1 _ _).2, (d6.keep (Keep.set (Keep.set (Keep.refl _ _) (.inl (.inr (by refine ⟨?_, ?_, ?_⟩ <;> dsimp only <;> omega))) _) (.inl (.inr (by refine ⟨?_, ?_, ?_⟩ <;> dsimp only <;> omega))) _)).sub (fun _ h => .inl h), ((Z0.far (by dsimp only; omega)).far (by dsimp only; omega)), ((Z1.far (by dsimp only; omega)).far (by dsimp only; omega)), (by repeat (first | exact Below.refl _ _ | (with_reducible assumption) | refine below_alloc ?_ _ | refine pw_below_drewN ?_ _ | refine below_drew ?_ | refine Below.setCell ?_ (by dsimp only; omega) _ | refine below_step ?_ (by assumption))), by omega⟩
            | trace_state
        case rest =>
          obtain ⟨rfl, g, E0, m2, k0, E1, m3, k1, rfl, U0, U1, hx2, Y0, Y1, Bc, hg⟩ := hcut
          have szc := Bc.size
          clear Z0 Z1 hx hs bk Z0_l hS0 hX0
          have U0_c := U0.cell
          have U1_c := U1.cell
          have Y0_c := Y0.cell
          have Y0_f := Y0.free
          have Y1_c := Y1.cell
          have Y1_f := Y1.free
          obtain ⟨Z0, Z1⟩ := Cl.pair Y0 Y1 (.slice E0 m2 k0) (.slice E1 m3 k1)
          have Z0_c := Z0.cell
          have Z1_c := Z1.cell
          have Z0_l := Y0.lt
          dsimp only at Z0_l
          go_wp2_with fail
          refine (disk_LoadI _ X a1 _ (hx2.at_ (by repeat (first | exact Keep.refl _ _ | (with_reducible assumption) | refine Keep.alloc ?_ _ | refine Keep.drewN ?_ _ | refine Keep.drew ?_ | refine Keep.set ?_ (by first | exact .inl rfl | exact .inr (by dsimp only; omega) | exact .inl (hP.own _ (by dsimp only; omega) (by dsimp only; omega)) | exact .inl (by assumption)) _ | refine Keep.step ?_ (by assumption)))) hXR.out x1 hXl).mono ?_
          rintro e w5 ⟨rfl, b5⟩
          rw [hL.out]
          have sz5 := b5.size
          simp only [World.size_setCell] at sz5
          first
            | (replace Z0 := Cl.below b5 Z0)
            | (replace Z0 := Cl.below b5 Z0.al)
            | (replace Z0 := Cl.below b5 Z0.dr)
            | (replace Z0 := Cl.below b5 Z0.drN)
            | (replace Z0 := Cl.below b5 Z0.al.al)
            | (replace Z0 := Cl.below b5 Z0.al.dr)
            | (replace Z0 := Cl.below b5 Z0.al.drN)
            | (replace Z0 := Cl.below b5 Z0.dr.al)
            | (replace Z0 := Cl.below b5 Z0.dr.dr)
            | (replace Z0 := Cl.below b5 Z0.dr.drN)
            | (replace Z0 := Cl.below b5 Z0.drN.al)
            | (replace Z0 := Cl.below b5 Z0.drN.dr)
            | (replace Z0 := Cl.below b5 Z0.drN.drN)
            | (replace Z0 := Cl.below b5 Z0.al.al.al)
            | (replace Z0 := Cl.below b5 Z0.al.al.dr)
            | (replace Z0 := Cl.below b5 Z0.al.al.drN)
            | (replace Z0 := Cl.below b5 Z0.al.dr.al)
            | (replace Z0 := Cl.below b5 Z0.al.dr.dr)
            | (replace Z0 := Cl.below b5 Z0.al.dr.drN)
            | (replace Z0 := Cl.below b5 Z0.al.drN.al)
            | (replace Z0 := Cl.below b5 Z0.al.drN.dr)
            | (replace Z0 := Cl.below b5 Z0.al.drN.drN)
            | (replace Z0 := Cl.below b5 Z0.dr.al.al)
            | (replace Z0 := Cl.below b5 Z0.dr.al.dr)
            | (replace Z0 := Cl.below b5 Z0.dr.al.drN)
            | (replace Z0 := Cl.below b5 Z0.dr.dr.al)
            | (replace Z0 := Cl.below b5 Z0.dr.dr.dr)
            | (replace Z0 := Cl.below b5 Z0.dr.dr.drN)
            | (replace Z0 := Cl.below b5 Z0.dr.drN.al)
            | (replace Z0 := Cl.below b5 Z0.dr.drN.dr)
            | (replace Z0 := Cl.below b5 Z0.dr.drN.drN)
            | (replace Z0 := Cl.below b5 Z0.drN.al.al)
            | (replace Z0 := Cl.below b5 Z0.drN.al.dr)
            | (replace Z0 := Cl.below b5 Z0.drN.al.drN)
            | (replace Z0 := Cl.below b5 Z0.drN.dr.al)
            | (replace Z0 := Cl.below b5 Z0.drN.dr.dr)
            | (replace Z0 := Cl.below b5 Z0.drN.dr.drN)
            | (replace Z0 := Cl.below b5 Z0.drN.drN.al)
            | (replace Z0 := Cl.below b5 Z0.drN.drN.dr)
            | (replace Z0 := Cl.below b5 Z0.drN.drN.drN)
          have Z0_c := Z0.cell
          have Z0_f := Z0.free
          have Z0_l := Z0.lt
          dsimp only at Z0_l
          first
            | (replace Z1 := Cl.below b5 Z1)
            | (replace Z1 := Cl.below b5 Z1.al)
            | (replace Z1 := Cl.below b5 Z1.dr)
            | (replace Z1 := Cl.below b5 Z1.drN)
            | (replace Z1 := Cl.below b5 Z1.al.al)
            | (replace Z1 := Cl.below b5 Z1.al.dr)
            | (replace Z1 := Cl.below b5 Z1.al.drN)
            | (replace Z1 := Cl.below b5 Z1.dr.al)
            | (replace Z1 := Cl.below b5 Z1.dr.dr)
            | (replace Z1 := Cl.below b5 Z1.dr.drN)
            | (replace Z1 := Cl.below b5 Z1.drN.al)
            | (replace Z1 := Cl.below b5 Z1.drN.dr)
            | (replace Z1 := Cl.below b5 Z1.drN.drN)
            | (replace Z1 := Cl.below b5 Z1.al.al.al)
            | (replace Z1 := Cl.below b5 Z1.al.al.dr)
            | (replace Z1 := Cl.below b5 Z1.al.al.drN)
            | (replace Z1 := Cl.below b5 Z1.al.dr.al)
            | (replace Z1 := Cl.below b5 Z1.al.dr.dr)
            | (replace Z1 := Cl.below b5 Z1.al.dr.drN)
            | (replace Z1 := Cl.below b5 Z1.al.drN.al)
            | (replace Z1 := Cl.below b5 Z1.al.drN.dr)
            | (replace Z1 := Cl.below b5 Z1.al.drN.drN)
            | (replace Z1 := Cl.below b5 Z1.dr.al.al)
            | (replace Z1 := Cl.below b5 Z1.dr.al.dr)
            | (replace Z1 := Cl.below b5 Z1.dr.al.drN)
            | (replace Z1 := Cl.below b5 Z1.dr.dr.al)
            | (replace Z1 := Cl.below b5 Z1.dr.dr.dr)
            | (replace Z1 := Cl.below b5 Z1.dr.dr.drN)
            | (replace Z1 := Cl.below b5 Z1.dr.drN.al)
            | (replace Z1 := Cl.below b5 Z1.dr.drN.dr)
            | (replace Z1 := Cl.below b5 Z1.dr.drN.drN)
            | (replace Z1 := Cl.below b5 Z1.drN.al.al)
            | (replace Z1 := Cl.below b5 Z1.drN.al.dr)
            | (replace Z1 := Cl.below b5 Z1.drN.al.drN)
            | (replace Z1 := Cl.below b5 Z1.drN.dr.al)
            | (replace Z1 := Cl.below b5 Z1.drN.dr.dr)
            | (replace Z1 := Cl.below b5 Z1.drN.dr.drN)
            | (replace Z1 := Cl.below b5 Z1.drN.drN.al)
            | (replace Z1 := Cl.below b5 Z1.drN.drN.dr)
            | (replace Z1 := Cl.below b5 Z1.drN.drN.drN)
          have Z1_c := Z1.cell
          have Z1_f := Z1.free
          have Z1_l := Z1.lt
          dsimp only at Z1_l
          go_wp2_with fail
          refine (law_sector _ c0 c1 _).mono ?_
          rintro e w6 ⟨rfl, b6⟩
          have sz6 := b6.size
          first
            | (replace Z0 := Cl.below b6 Z0)
            | (replace Z0 := Cl.below b6 Z0.al)
            | (replace Z0 := Cl.below b6 Z0.dr)
            | (replace Z0 := Cl.below b6 Z0.drN)
            | (replace Z0 := Cl.below b6 Z0.al.al)
            | (replace Z0 := Cl.below b6 Z0.al.dr)
            | (replace Z0 := Cl.below b6 Z0.al.drN)
            | (replace Z0 := Cl.below b6 Z0.dr.al)
            | (replace Z0 := Cl.below b6 Z0.dr.dr)
            | (replace Z0 := Cl.below b6 Z0.dr.drN)
            | (replace Z0 := Cl.below b6 Z0.drN.al)
            | (replace Z0 := Cl.below b6 Z0.drN.dr)
            | (replace Z0 := Cl.below b6 Z0.drN.drN)
            | (replace Z0 := Cl.below b6 Z0.al.al.al)
            | (replace Z0 := Cl.below b6 Z0.al.al.dr)
            | (replace Z0 := Cl.below b6 Z0.al.al.drN)
            | (replace Z0 := Cl.below b6 Z0.al.dr.al)
            | (replace Z0 := Cl.below b6 Z0.al.dr.dr)
            | (replace Z0 := Cl.below b6 Z0.al.dr.drN)
            | (replace Z0 := Cl.below b6 Z0.al.drN.al)
            | (replace Z0 := Cl.below b6 Z0.al.drN.dr)
            | (replace Z0 := Cl.below b6 Z0.al.drN.drN)
            | (replace Z0 := Cl.below b6 Z0.dr.al.al)
            | (replace Z0 := Cl.below b6 Z0.dr.al.dr)
            | (replace Z0 := Cl.below b6 Z0.dr.al.drN)
            | (replace Z0 := Cl.below b6 Z0.dr.dr.al)
            | (replace Z0 := Cl.below b6 Z0.dr.dr.dr)
            | (replace Z0 := Cl.below b6 Z0.dr.dr.drN)
            | (replace Z0 := Cl.below b6 Z0.dr.drN.al)
            | (replace Z0 := Cl.below b6 Z0.dr.drN.dr)
            | (replace Z0 := Cl.below b6 Z0.dr.drN.drN)
            | (replace Z0 := Cl.below b6 Z0.drN.al.al)
            | (replace Z0 := Cl.below b6 Z0.drN.al.dr)
            | (replace Z0 := Cl.below b6 Z0.drN.al.drN)
            | (replace Z0 := Cl.below b6 Z0.drN.dr.al)
            | (replace Z0 := Cl.below b6 Z0.drN.dr.dr)
            | (replace Z0 := Cl.below b6 Z0.drN.dr.drN)
            | (replace Z0 := Cl.below b6 Z0.drN.drN.al)
            | (replace Z0 := Cl.below b6 Z0.drN.drN.dr)
            | (replace Z0 := Cl.below b6 Z0.drN.drN.drN)
          have Z0_c := Z0.cell
          have Z0_f := Z0.free
          have Z0_l := Z0.lt
          dsimp only at Z0_l
          first
            | (replace Z1 := Cl.below b6 Z1)
            | (replace Z1 := Cl.below b6 Z1.al)
            | (replace Z1 := Cl.below b6 Z1.dr)
            | (replace Z1 := Cl.below b6 Z1.drN)
            | (replace Z1 := Cl.below b6 Z1.al.al)
            | (replace Z1 := Cl.below b6 Z1.al.dr)
            | (replace Z1 := Cl.below b6 Z1.al.drN)
            | (replace Z1 := Cl.below b6 Z1.dr.al)
            | (replace Z1 := Cl.below b6 Z1.dr.dr)
            | (replace Z1 := Cl.below b6 Z1.dr.drN)
            | (replace Z1 := Cl.below b6 Z1.drN.al)
            | (replace Z1 := Cl.below b6 Z1.drN.dr)
            | (replace Z1 := Cl.below b6 Z1.drN.drN)
            | (replace Z1 := Cl.below b6 Z1.al.al.al)
            | (replace Z1 := Cl.below b6 Z1.al.al.dr)
            | (replace Z1 := Cl.below b6 Z1.al.al.drN)
            | (replace Z1 := Cl.below b6 Z1.al.dr.al)
            | (replace Z1 := Cl.below b6 Z1.al.dr.dr)
            | (replace Z1 := Cl.below b6 Z1.al.dr.drN)
            | (replace Z1 := Cl.below b6 Z1.al.drN.al)
            | (replace Z1 := Cl.below b6 Z1.al.drN.dr)
            | (replace Z1 := Cl.below b6 Z1.al.drN.drN)
            | (replace Z1 := Cl.below b6 Z1.dr.al.al)
            | (replace Z1 := Cl.below b6 Z1.dr.al.dr)
            | (replace Z1 := Cl.below b6 Z1.dr.al.drN)
            | (replace Z1 := Cl.below b6 Z1.dr.dr.al)
            | (replace Z1 := Cl.below b6 Z1.dr.dr.dr)
            | (replace Z1 := Cl.below b6 Z1.dr.dr.drN)
            | (replace Z1 := Cl.below b6 Z1.dr.drN.al)
            | (replace Z1 := Cl.below b6 Z1.dr.drN.dr)
            | (replace Z1 := Cl.below b6 Z1.dr.drN.drN)
            | (replace Z1 := Cl.below b6 Z1.drN.al.al)
            | (replace Z1 := Cl.below b6 Z1.drN.al.dr)
            | (replace Z1 := Cl.below b6 Z1.drN.al.drN)
            | (replace Z1 := Cl.below b6 Z1.drN.dr.al)
            | (replace Z1 := Cl.below b6 Z1.drN.dr.dr)
            | (replace Z1 := Cl.below b6 Z1.drN.dr.drN)
            | (replace Z1 := Cl.below b6 Z1.drN.drN.al)
            | (replace Z1 := Cl.below b6 Z1.drN.drN.dr)
            | (replace Z1 := Cl.below b6 Z1.drN.drN.drN)
          have Z1_c := Z1.cell
          have Z1_f := Z1.free
          have Z1_l := Z1.lt
          dsimp only at Z1_l
          have qs : (sect c).size = 128 := sect_size c
          have qe := hid (show (sect c).extract 64 (sect c).size = (sect c).extract 64 128 by rw [qs])
          by_cases hf : k < fs.length
          · obtain ⟨fd, rfl, hfc⟩ := Kd.at_int (Kd.C_below hF4.out (show Below w4.heap.size w4 w6 from (by repeat (first | exact Below.refl _ _ | (with_reducible assumption) | refine below_alloc ?_ _ | refine pw_below_drewN ?_ _ | refine below_drew ?_ | refine Below.setCell ?_ (by dsimp only; omega) _ | refine below_step ?_ (by assumption))))) (k : Int) (by omega) (by omega)
            rw [Int.toNat_natCast, rd, Int.toNat_natCast] at hfc
            generalize fs.getD k 0 = f at *
            by_cases f1 : f = 1
            · subst f1
              go_wp2_with fail
              refine (law_sector _ c0 c1 _).mono ?_
              rintro e w7 ⟨rfl, b7⟩
              have sz7 := b7.size
              first
                | (replace Z0 := Cl.below b7 Z0)
                | (replace Z0 := Cl.below b7 Z0.al)
                | (replace Z0 := Cl.below b7 Z0.dr)
                | (replace Z0 := Cl.below b7 Z0.drN)
                | (replace Z0 := Cl.below b7 Z0.al.al)
                | (replace Z0 := Cl.below b7 Z0.al.dr)
                | (replace Z0 := Cl.below b7 Z0.al.drN)
                | (replace Z0 := Cl.below b7 Z0.dr.al)
                | (replace Z0 := Cl.below b7 Z0.dr.dr)
                | (replace Z0 := Cl.below b7 Z0.dr.drN)
                | (replace Z0 := Cl.below b7 Z0.drN.al)
                | (replace Z0 := Cl.below b7 Z0.drN.dr)
                | (replace Z0 := Cl.below b7 Z0.drN.drN)
                | (replace Z0 := Cl.below b7 Z0.al.al.al)
                | (replace Z0 := Cl.below b7 Z0.al.al.dr)
                | (replace Z0 := Cl.below b7 Z0.al.al.drN)
                | (replace Z0 := Cl.below b7 Z0.al.dr.al)
                | (replace Z0 := Cl.below b7 Z0.al.dr.dr)
                | (replace Z0 := Cl.below b7 Z0.al.dr.drN)
                | (replace Z0 := Cl.below b7 Z0.al.drN.al)
                | (replace Z0 := Cl.below b7 Z0.al.drN.dr)
                | (replace Z0 := Cl.below b7 Z0.al.drN.drN)
                | (replace Z0 := Cl.below b7 Z0.dr.al.al)
                | (replace Z0 := Cl.below b7 Z0.dr.al.dr)
                | (replace Z0 := Cl.below b7 Z0.dr.al.drN)
                | (replace Z0 := Cl.below b7 Z0.dr.dr.al)
                | (replace Z0 := Cl.below b7 Z0.dr.dr.dr)
                | (replace Z0 := Cl.below b7 Z0.dr.dr.drN)
                | (replace Z0 := Cl.below b7 Z0.dr.drN.al)
                | (replace Z0 := Cl.below b7 Z0.dr.drN.dr)
                | (replace Z0 := Cl.below b7 Z0.dr.drN.drN)
                | (replace Z0 := Cl.below b7 Z0.drN.al.al)
                | (replace Z0 := Cl.below b7 Z0.drN.al.dr)
                | (replace Z0 := Cl.below b7 Z0.drN.al.drN)
                | (replace Z0 := Cl.below b7 Z0.drN.dr.al)
                | (replace Z0 := Cl.below b7 Z0.drN.dr.dr)
                | (replace Z0 := Cl.below b7 Z0.drN.dr.drN)
                | (replace Z0 := Cl.below b7 Z0.drN.drN.al)
                | (replace Z0 := Cl.below b7 Z0.drN.drN.dr)
                | (replace Z0 := Cl.below b7 Z0.drN.drN.drN)
              have Z0_c := Z0.cell
              have Z0_f := Z0.free
              have Z0_l := Z0.lt
              dsimp only at Z0_l
              first
                | (replace Z1 := Cl.below b7 Z1)
                | (replace Z1 := Cl.below b7 Z1.al)
                | (replace Z1 := Cl.below b7 Z1.dr)
                | (replace Z1 := Cl.below b7 Z1.drN)
                | (replace Z1 := Cl.below b7 Z1.al.al)
                | (replace Z1 := Cl.below b7 Z1.al.dr)
                | (replace Z1 := Cl.below b7 Z1.al.drN)
                | (replace Z1 := Cl.below b7 Z1.dr.al)
                | (replace Z1 := Cl.below b7 Z1.dr.dr)
                | (replace Z1 := Cl.below b7 Z1.dr.drN)
                | (replace Z1 := Cl.below b7 Z1.drN.al)
                | (replace Z1 := Cl.below b7 Z1.drN.dr)
                | (replace Z1 := Cl.below b7 Z1.drN.drN)
                | (replace Z1 := Cl.below b7 Z1.al.al.al)
                | (replace Z1 := Cl.below b7 Z1.al.al.dr)
                | (replace Z1 := Cl.below b7 Z1.al.al.drN)
                | (replace Z1 := Cl.below b7 Z1.al.dr.al)
                | (replace Z1 := Cl.below b7 Z1.al.dr.dr)
                | (replace Z1 := Cl.below b7 Z1.al.dr.drN)
                | (replace Z1 := Cl.below b7 Z1.al.drN.al)
                | (replace Z1 := Cl.below b7 Z1.al.drN.dr)
                | (replace Z1 := Cl.below b7 Z1.al.drN.drN)
                | (replace Z1 := Cl.below b7 Z1.dr.al.al)
                | (replace Z1 := Cl.below b7 Z1.dr.al.dr)
                | (replace Z1 := Cl.below b7 Z1.dr.al.drN)
                | (replace Z1 := Cl.below b7 Z1.dr.dr.al)
                | (replace Z1 := Cl.below b7 Z1.dr.dr.dr)
                | (replace Z1 := Cl.below b7 Z1.dr.dr.drN)
                | (replace Z1 := Cl.below b7 Z1.dr.drN.al)
                | (replace Z1 := Cl.below b7 Z1.dr.drN.dr)
                | (replace Z1 := Cl.below b7 Z1.dr.drN.drN)
                | (replace Z1 := Cl.below b7 Z1.drN.al.al)
                | (replace Z1 := Cl.below b7 Z1.drN.al.dr)
                | (replace Z1 := Cl.below b7 Z1.drN.al.drN)
                | (replace Z1 := Cl.below b7 Z1.drN.dr.al)
                | (replace Z1 := Cl.below b7 Z1.drN.dr.dr)
                | (replace Z1 := Cl.below b7 Z1.drN.dr.drN)
                | (replace Z1 := Cl.below b7 Z1.drN.drN.al)
                | (replace Z1 := Cl.below b7 Z1.drN.drN.dr)
                | (replace Z1 := Cl.below b7 Z1.drN.drN.drN)
              have Z1_c := Z1.cell
              have Z1_f := Z1.free
              have Z1_l := Z1.lt
              dsimp only at Z1_l
              replace hfc := (b7.cell (World.block_lt_of_cell? w6 _ hfc)).trans hfc
              go_wp2_with fail
              refine (law_sector _ c0 c1 _).mono ?_
              rintro e w8 ⟨rfl, b8⟩
              have sz8 := b8.size
              first
                | (replace Z0 := Cl.below b8 Z0)
                | (replace Z0 := Cl.below b8 Z0.al)
                | (replace Z0 := Cl.below b8 Z0.dr)
                | (replace Z0 := Cl.below b8 Z0.drN)
                | (replace Z0 := Cl.below b8 Z0.al.al)
                | (replace Z0 := Cl.below b8 Z0.al.dr)
                | (replace Z0 := Cl.below b8 Z0.al.drN)
                | (replace Z0 := Cl.below b8 Z0.dr.al)
                | (replace Z0 := Cl.below b8 Z0.dr.dr)
                | (replace Z0 := Cl.below b8 Z0.dr.drN)
                | (replace Z0 := Cl.below b8 Z0.drN.al)
                | (replace Z0 := Cl.below b8 Z0.drN.dr)
                | (replace Z0 := Cl.below b8 Z0.drN.drN)
                | (replace Z0 := Cl.below b8 Z0.al.al.al)
                | (replace Z0 := Cl.below b8 Z0.al.al.dr)
                | (replace Z0 := Cl.below b8 Z0.al.al.drN)
                | (replace Z0 := Cl.below b8 Z0.al.dr.al)
                | (replace Z0 := Cl.below b8 Z0.al.dr.dr)
                | (replace Z0 := Cl.below b8 Z0.al.dr.drN)
                | (replace Z0 := Cl.below b8 Z0.al.drN.al)
                | (replace Z0 := Cl.below b8 Z0.al.drN.dr)
                | (replace Z0 := Cl.below b8 Z0.al.drN.drN)
                | (replace Z0 := Cl.below b8 Z0.dr.al.al)
                | (replace Z0 := Cl.below b8 Z0.dr.al.dr)
                | (replace Z0 := Cl.below b8 Z0.dr.al.drN)
                | (replace Z0 := Cl.below b8 Z0.dr.dr.al)
                | (replace Z0 := Cl.below b8 Z0.dr.dr.dr)
                | (replace Z0 := Cl.below b8 Z0.dr.dr.drN)
                | (replace Z0 := Cl.below b8 Z0.dr.drN.al)
                | (replace Z0 := Cl.below b8 Z0.dr.drN.dr)
                | (replace Z0 := Cl.below b8 Z0.dr.drN.drN)
                | (replace Z0 := Cl.below b8 Z0.drN.al.al)
                | (replace Z0 := Cl.below b8 Z0.drN.al.dr)
                | (replace Z0 := Cl.below b8 Z0.drN.al.drN)
                | (replace Z0 := Cl.below b8 Z0.drN.dr.al)
                | (replace Z0 := Cl.below b8 Z0.drN.dr.dr)
                | (replace Z0 := Cl.below b8 Z0.drN.dr.drN)
                | (replace Z0 := Cl.below b8 Z0.drN.drN.al)
                | (replace Z0 := Cl.below b8 Z0.drN.drN.dr)
                | (replace Z0 := Cl.below b8 Z0.drN.drN.drN)
              have Z0_c := Z0.cell
              have Z0_f := Z0.free
              have Z0_l := Z0.lt
              dsimp only at Z0_l
              first
                | (replace Z1 := Cl.below b8 Z1)
                | (replace Z1 := Cl.below b8 Z1.al)
                | (replace Z1 := Cl.below b8 Z1.dr)
                | (replace Z1 := Cl.below b8 Z1.drN)
                | (replace Z1 := Cl.below b8 Z1.al.al)
                | (replace Z1 := Cl.below b8 Z1.al.dr)
                | (replace Z1 := Cl.below b8 Z1.al.drN)
                | (replace Z1 := Cl.below b8 Z1.dr.al)
                | (replace Z1 := Cl.below b8 Z1.dr.dr)
                | (replace Z1 := Cl.below b8 Z1.dr.drN)
                | (replace Z1 := Cl.below b8 Z1.drN.al)
                | (replace Z1 := Cl.below b8 Z1.drN.dr)
                | (replace Z1 := Cl.below b8 Z1.drN.drN)
                | (replace Z1 := Cl.below b8 Z1.al.al.al)
                | (replace Z1 := Cl.below b8 Z1.al.al.dr)
                | (replace Z1 := Cl.below b8 Z1.al.al.drN)
                | (replace Z1 := Cl.below b8 Z1.al.dr.al)
                | (replace Z1 := Cl.below b8 Z1.al.dr.dr)
                | (replace Z1 := Cl.below b8 Z1.al.dr.drN)
                | (replace Z1 := Cl.below b8 Z1.al.drN.al)
                | (replace Z1 := Cl.below b8 Z1.al.drN.dr)
                | (replace Z1 := Cl.below b8 Z1.al.drN.drN)
                | (replace Z1 := Cl.below b8 Z1.dr.al.al)
                | (replace Z1 := Cl.below b8 Z1.dr.al.dr)
                | (replace Z1 := Cl.below b8 Z1.dr.al.drN)
                | (replace Z1 := Cl.below b8 Z1.dr.dr.al)
                | (replace Z1 := Cl.below b8 Z1.dr.dr.dr)
                | (replace Z1 := Cl.below b8 Z1.dr.dr.drN)
                | (replace Z1 := Cl.below b8 Z1.dr.drN.al)
                | (replace Z1 := Cl.below b8 Z1.dr.drN.dr)
                | (replace Z1 := Cl.below b8 Z1.dr.drN.drN)
                | (replace Z1 := Cl.below b8 Z1.drN.al.al)
                | (replace Z1 := Cl.below b8 Z1.drN.al.dr)
                | (replace Z1 := Cl.below b8 Z1.drN.al.drN)
                | (replace Z1 := Cl.below b8 Z1.drN.dr.al)
                | (replace Z1 := Cl.below b8 Z1.drN.dr.dr)
                | (replace Z1 := Cl.below b8 Z1.drN.dr.drN)
                | (replace Z1 := Cl.below b8 Z1.drN.drN.al)
                | (replace Z1 := Cl.below b8 Z1.drN.drN.dr)
                | (replace Z1 := Cl.below b8 Z1.drN.drN.drN)
              have Z1_c := Z1.cell
              have Z1_f := Z1.free
              have Z1_l := Z1.lt
              dsimp only at Z1_l
              go_wp2_with fail
              exact ⟨⟨k + 1, by omega, by omega, by go_num, by rw [F1.out, if_pos (by simp)], by rw [F2.out, if_pos (by simp)], _, _, _, _, _, _, Z0, Z1, by rw [← hX.out]; exact hx2.keep (by repeat (first | exact Keep.refl _ _ | (with_reducible assumption) | refine Keep.alloc ?_ _ | refine Keep.drewN ?_ _ | refine Keep.drew ?_ | refine Keep.set ?_ (by first | exact .inl rfl | exact .inr (by dsimp only; omega) | exact .inl (hP.own _ (by dsimp only; omega) (by dsimp only; omega)) | exact .inl (by assumption)) _ | refine Keep.step ?_ (by assumption))), (by repeat (first | exact Below.refl _ _ | (with_reducible assumption) | refine below_alloc ?_ _ | refine pw_below_drewN ?_ _ | refine below_drew ?_ | refine Below.setCell ?_ (by dsimp only; omega) _ | refine below_step ?_ (by assumption)))⟩, by simp [intOf]; omega⟩
            · have f1' : (f == 1) = false := beq_eq_false_iff_ne.2 f1
              by_cases f2 : f = 2
              · subst f2
                clear f1'
                go_wp2_with fail
                refine (law_sector _ c0 c1 _).mono ?_
                rintro e w7 ⟨rfl, b7⟩
                have sz7 := b7.size
                first
                  | (replace Z0 := Cl.below b7 Z0)
                  | (replace Z0 := Cl.below b7 Z0.al)
                  | (replace Z0 := Cl.below b7 Z0.dr)
                  | (replace Z0 := Cl.below b7 Z0.drN)
                  | (replace Z0 := Cl.below b7 Z0.al.al)
                  | (replace Z0 := Cl.below b7 Z0.al.dr)
                  | (replace Z0 := Cl.below b7 Z0.al.drN)
                  | (replace Z0 := Cl.below b7 Z0.dr.al)
                  | (replace Z0 := Cl.below b7 Z0.dr.dr)
                  | (replace Z0 := Cl.below b7 Z0.dr.drN)
                  | (replace Z0 := Cl.below b7 Z0.drN.al)
                  | (replace Z0 := Cl.below b7 Z0.drN.dr)
                  | (replace Z0 := Cl.below b7 Z0.drN.drN)
                  | (replace Z0 := Cl.below b7 Z0.al.al.al)
                  | (replace Z0 := Cl.below b7 Z0.al.al.dr)
                  | (replace Z0 := Cl.below b7 Z0.al.al.drN)
                  | (replace Z0 := Cl.below b7 Z0.al.dr.al)
                  | (replace Z0 := Cl.below b7 Z0.al.dr.dr)
                  | (replace Z0 := Cl.below b7 Z0.al.dr.drN)
                  | (replace Z0 := Cl.below b7 Z0.al.drN.al)
                  | (replace Z0 := Cl.below b7 Z0.al.drN.dr)
                  | (replace Z0 := Cl.below b7 Z0.al.drN.drN)
                  | (replace Z0 := Cl.below b7 Z0.dr.al.al)
                  | (replace Z0 := Cl.below b7 Z0.dr.al.dr)
                  | (replace Z0 := Cl.below b7 Z0.dr.al.drN)
                  | (replace Z0 := Cl.below b7 Z0.dr.dr.al)
                  | (replace Z0 := Cl.below b7 Z0.dr.dr.dr)
                  | (replace Z0 := Cl.below b7 Z0.dr.dr.drN)
                  | (replace Z0 := Cl.below b7 Z0.dr.drN.al)
                  | (replace Z0 := Cl.below b7 Z0.dr.drN.dr)
                  | (replace Z0 := Cl.below b7 Z0.dr.drN.drN)
                  | (replace Z0 := Cl.below b7 Z0.drN.al.al)
                  | (replace Z0 := Cl.below b7 Z0.drN.al.dr)
                  | (replace Z0 := Cl.below b7 Z0.drN.al.drN)
                  | (replace Z0 := Cl.below b7 Z0.drN.dr.al)
                  | (replace Z0 := Cl.below b7 Z0.drN.dr.dr)
                  | (replace Z0 := Cl.below b7 Z0.drN.dr.drN)
                  | (replace Z0 := Cl.below b7 Z0.drN.drN.al)
                  | (replace Z0 := Cl.below b7 Z0.drN.drN.dr)
                  | (replace Z0 := Cl.below b7 Z0.drN.drN.drN)
                have Z0_c := Z0.cell
                have Z0_f := Z0.free
                have Z0_l := Z0.lt
                dsimp only at Z0_l
                first
                  | (replace Z1 := Cl.below b7 Z1)
                  | (replace Z1 := Cl.below b7 Z1.al)
                  | (replace Z1 := Cl.below b7 Z1.dr)
                  | (replace Z1 := Cl.below b7 Z1.drN)
                  | (replace Z1 := Cl.below b7 Z1.al.al)
                  | (replace Z1 := Cl.below b7 Z1.al.dr)
                  | (replace Z1 := Cl.below b7 Z1.al.drN)
                  | (replace Z1 := Cl.below b7 Z1.dr.al)
                  | (replace Z1 := Cl.below b7 Z1.dr.dr)
                  | (replace Z1 := Cl.below b7 Z1.dr.drN)
                  | (replace Z1 := Cl.below b7 Z1.drN.al)
                  | (replace Z1 := Cl.below b7 Z1.drN.dr)
                  | (replace Z1 := Cl.below b7 Z1.drN.drN)
                  | (replace Z1 := Cl.below b7 Z1.al.al.al)
                  | (replace Z1 := Cl.below b7 Z1.al.al.dr)
                  | (replace Z1 := Cl.below b7 Z1.al.al.drN)
                  | (replace Z1 := Cl.below b7 Z1.al.dr.al)
                  | (replace Z1 := Cl.below b7 Z1.al.dr.dr)
                  | (replace Z1 := Cl.below b7 Z1.al.dr.drN)
                  | (replace Z1 := Cl.below b7 Z1.al.drN.al)
                  | (replace Z1 := Cl.below b7 Z1.al.drN.dr)
                  | (replace Z1 := Cl.below b7 Z1.al.drN.drN)
                  | (replace Z1 := Cl.below b7 Z1.dr.al.al)
                  | (replace Z1 := Cl.below b7 Z1.dr.al.dr)
                  | (replace Z1 := Cl.below b7 Z1.dr.al.drN)
                  | (replace Z1 := Cl.below b7 Z1.dr.dr.al)
                  | (replace Z1 := Cl.below b7 Z1.dr.dr.dr)
                  | (replace Z1 := Cl.below b7 Z1.dr.dr.drN)
                  | (replace Z1 := Cl.below b7 Z1.dr.drN.al)
                  | (replace Z1 := Cl.below b7 Z1.dr.drN.dr)
                  | (replace Z1 := Cl.below b7 Z1.dr.drN.drN)
                  | (replace Z1 := Cl.below b7 Z1.drN.al.al)
                  | (replace Z1 := Cl.below b7 Z1.drN.al.dr)
                  | (replace Z1 := Cl.below b7 Z1.drN.al.drN)
                  | (replace Z1 := Cl.below b7 Z1.drN.dr.al)
                  | (replace Z1 := Cl.below b7 Z1.drN.dr.dr)
                  | (replace Z1 := Cl.below b7 Z1.drN.dr.drN)
                  | (replace Z1 := Cl.below b7 Z1.drN.drN.al)
                  | (replace Z1 := Cl.below b7 Z1.drN.drN.dr)
                  | (replace Z1 := Cl.below b7 Z1.drN.drN.drN)
                have Z1_c := Z1.cell
                have Z1_f := Z1.free
                have Z1_l := Z1.lt
                dsimp only at Z1_l
                replace hfc := (b7.cell (World.block_lt_of_cell? w6 _ hfc)).trans hfc
                go_wp2_with fail
                exact ⟨⟨k + 1, by omega, by omega, by go_num, by rw [F1.out, if_pos (by simp)], by rw [F2.out, if_neg (by simp)], _, _, _, _, _, _, Z0, Z1, by rw [← hX.out]; exact hx2.keep (by repeat (first | exact Keep.refl _ _ | (with_reducible assumption) | refine Keep.alloc ?_ _ | refine Keep.drewN ?_ _ | refine Keep.drew ?_ | refine Keep.set ?_ (by first | exact .inl rfl | exact .inr (by dsimp only; omega) | exact .inl (hP.own _ (by dsimp only; omega) (by dsimp only; omega)) | exact .inl (by assumption)) _ | refine Keep.step ?_ (by assumption))), (by repeat (first | exact Below.refl _ _ | (with_reducible assumption) | refine below_alloc ?_ _ | refine pw_below_drewN ?_ _ | refine below_drew ?_ | refine Below.setCell ?_ (by dsimp only; omega) _ | refine below_step ?_ (by assumption)))⟩, by simp [intOf]; omega⟩
              · have f2' : (f == 2) = false := beq_eq_false_iff_ne.2 f2
                go_wp2_with fail
                exact ⟨⟨k + 1, by omega, by omega, by go_num, by rw [F1.out, if_neg (by omega)], by rw [F2.out, if_neg f1], _, _, _, _, _, _, Z0, Z1, by rw [← hX.out]; exact hx2.keep (by repeat (first | exact Keep.refl _ _ | (with_reducible assumption) | refine Keep.alloc ?_ _ | refine Keep.drewN ?_ _ | refine Keep.drew ?_ | refine Keep.set ?_ (by first | exact .inl rfl | exact .inr (by dsimp only; omega) | exact .inl (hP.own _ (by dsimp only; omega) (by dsimp only; omega)) | exact .inl (by assumption)) _ | refine Keep.step ?_ (by assumption))), (by repeat (first | exact Below.refl _ _ | (with_reducible assumption) | refine below_alloc ?_ _ | refine pw_below_drewN ?_ _ | refine below_drew ?_ | refine Below.setCell ?_ (by dsimp only; omega) _ | refine below_step ?_ (by assumption)))⟩, by simp [intOf]; omega⟩
          · have hf0 : fs.getD k 0 = 0 := by rw [List.getD_eq_getElem?_getD, List.getElem?_eq_none (by omega)]; rfl
            rw [hf0] at F1 F2
            clear hf0
            go_wp2_with fail
            exact ⟨⟨k + 1, by omega, by omega, by go_num, by rw [F1.out, if_neg (by simp)], by rw [F2.out, if_neg (by simp)], _, _, _, _, _, _, Z0, Z1, by rw [← hX.out]; exact hx2.keep (by repeat (first | exact Keep.refl _ _ | (with_reducible assumption) | refine Keep.alloc ?_ _ | refine Keep.drewN ?_ _ | refine Keep.drew ?_ | refine Keep.set ?_ (by first | exact .inl rfl | exact .inr (by dsimp only; omega) | exact .inl (hP.own _ (by dsimp only; omega) (by dsimp only; omega)) | exact .inl (by assumption)) _ | refine Keep.step ?_ (by assumption))), (by repeat (first | exact Below.refl _ _ | (with_reducible assumption) | refine below_alloc ?_ _ | refine pw_below_drewN ?_ _ | refine below_drew ?_ | refine Below.setCell ?_ (by dsimp only; omega) _ | refine below_step ?_ (by assumption)))⟩, by simp [intOf]; omega⟩
      · obtain ⟨E, hE1, hE2, hE3⟩ := crash_last (s := D2.f0) (a := a1) (l := l) (fs := fs) (k := k) H1 H2 P4.out x1 H3 hk hk20
        have hb0' : D2.f0.getD a1.toNat ByteArray.empty = b0 := hb0.out
        rw [hb0'] at hE3
        clear hb0'
        obtain ⟨Y, hY⟩ : ∃ Y : SD, Y = ⟨E, []⟩ := ⟨_, rfl⟩
        have hYl : Y.f0.length = D1.f0.length := by rw [hY, ← hl2.out]; exact hE2
        have hYa := hid (show Y.f0.getD a1.toNat ByteArray.empty = firstTo fs l b0 k ++ secondTo fs l b0 k by rw [hY]; exact hE3)
        have zf := firstTo_size fs l hsz k
        have zs := secondTo_size fs l hsz k
        rw [← hY] at hE1
        clear hY hE2 hE3
        replace hE1 := hid hE1
        generalize firstTo fs l b0 k = vf at *
        generalize secondTo fs l b0 k = vs at *
        have hT : k = l.length ∨ (k < l.length ∧ 20 ≤ k ∧ ∃ ad : Addr, L = some ad ∧ wr.cell? (ad.add k) = some (.int .u8 (l.getD k 0))) := by
          by_cases h : k < l.length
          · right
            obtain ⟨ad, hA, hcl⟩ := Kd.at_int (Kd.C_below hL4.out bk) (k : Int) (by omega) (by omega)
            rw [Int.toNat_natCast, rd, Int.toNat_natCast] at hcl
            exact ⟨h, by omega, ad, hA, hcl⟩
          · left; omega
        clear hlt
        have Z0_c := Z0.cell
        have Z1_c := Z1.cell
        replace hYl := hid hYl
        rcases hT with hT | ⟨hT, hT2, ad, rfl, hcl⟩
        all_goals
          go_wp2_with fail
          refine Calls.mono (disk_Crash (fun _ => False) _ ⟨D2.f0, lastW a1 (l.take k)⟩ F ef fs _ (fun _ h => h.elim) (St.start fun w9 hb9 => (hx.at_ (by repeat (first | exact Keep.refl _ _ | (with_reducible assumption) | refine Keep.alloc ?_ _ | refine Keep.drewN ?_ _ | refine Keep.drew ?_ | refine Keep.set ?_ (by first | exact .inl rfl | exact .inr (by dsimp only; omega) | exact .inl (hP.own _ (by dsimp only; omega) (by dsimp only; omega)) | exact .inl (by assumption)) _ | refine Keep.step ?_ (by assumption)))).below hb9) (Kd.C_below hF4.out bk) lf) ?_
          rintro e w5 ⟨⟨r5, rfl, d5⟩, b5⟩
          rw [hE1.out] at d5
          rw [hE1.out]
          have sz5 := b5.size
          have U0 := V0.below (below_step bk b5)
          have U1 := V1.below (below_step bk b5)
          obtain ⟨G0, j0, G1, j1, rfl, o0, o1, i0, o2, o3, i1⟩ := VDisk.open d5
          have U0_c := U0.cell
          have U1_c := U1.cell
          go_wp2_with fail
          refine (law_alive _).mono ?_
          rintro e w6 ⟨rfl, b6⟩
          have sz6 := b6.size
          simp only [World.size_alloc] at sz6
          have R0 := Cl.below b6 (Cl.new (j := 0) rfl)
          have R1 := Cl.below b6 (Cl.new (j := 1) rfl)
          have R0_c := R0.cell
          have R1_c := R1.cell
          have S0 := Cl.below b6 U0.al
          have S1 := Cl.below b6 U1.al
          have S0_c := S0.cell
          have S1_c := S1.cell
          obtain ⟨gd, rfl, hgc⟩ := Kd.at_string (i0.at_ (show Keep (fun _ => False) w5 w6 from (by repeat (first | exact Keep.refl _ _ | (with_reducible assumption) | refine Keep.alloc ?_ _ | refine Keep.drewN ?_ _ | refine Keep.drew ?_ | refine Keep.set ?_ (by first | exact .inl rfl | exact .inr (by dsimp only; omega) | exact .inl (hP.own _ (by dsimp only; omega) (by dsimp only; omega)) | exact .inl (by assumption)) _ | refine Keep.step ?_ (by assumption))))) a1 x1 (by have := hYl.out; omega)
          rw [rdOf, hYa.out] at hgc
          have hlen : ((Y.f0.length : Int) == (D1.f0.length : Int)) = true := beq_iff_eq.2 (by have := hYl.out; omega)
          have hYlt : a1 < Y.f0.length := by have := hYl.out; omega
          go_wp2_with fail
          go_ret
          exact ⟨rfl, (by repeat (first | exact Below.refl _ _ | (with_reducible assumption) | refine below_alloc ?_ _ | refine pw_below_drewN ?_ _ | refine below_drew ?_ | refine Below.setCell ?_ (by dsimp only; omega) _ | refine below_step ?_ (by assumption)))⟩
  · rw [Bool.eq_false_iff.mpr hR]
    clear hR hD2
    go_wp2_with fail
    refine (law_alive _).mono ?_
    rintro e w3 ⟨rfl, b3⟩
    go_wp2
    go_ret
    exact ⟨rfl, (by repeat (first | exact Below.refl _ _ | (with_reducible assumption) | refine below_alloc ?_ _ | refine pw_below_drewN ?_ _ | refine below_drew ?_ | refine Below.setCell ?_ (by dsimp only; omega) _ | refine below_step ?_ (by assumption)))⟩
end Go.Proofs.Ytdcokepmblcdmaa
