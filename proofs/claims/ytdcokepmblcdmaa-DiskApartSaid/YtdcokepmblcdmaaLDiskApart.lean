/- The law DiskApart: for every input it returns true. -/
import Derived.RegionTactic
import Derived.IntWalk
import Derived.BigQuiet
import Derived.Deep.RegionHeld3
import Derived.Test.YtdcokepmblcdmaaBase
import Derived.Test.YtdcokepmblcdmaaShelf
import Derived.Test.YtdcokepmblcdmaaOct
import Derived.Test.YtdcokepmblcdmaaV
import Derived.Test.YtdcokepmblcdmaaOpen
import Derived.Test.YtdcokepmblcdmaaKDisk
import Derived.Test.YtdcokepmblcdmaaAny
import Derived.Test.YtdcokepmblcdmaaCDWell
import Derived.Test.YtdcokepmblcdmaaCDRight
import Derived.Test.YtdcokepmblcdmaaDSave
import Derived.Test.YtdcokepmblcdmaaCDEnds
import Derived.Test.YtdcokepmblcdmaaDNew
import Derived.Test.YtdcokepmblcdmaaDLike
import Derived.Test.YtdcokepmblcdmaaDFlush
import Derived.Test.YtdcokepmblcdmaaDMath
import Derived.Test.YtdcokepmblcdmaaDAlive
import Derived.Test.YtdcokepmblcdmaaCRef09b
import Derived.Test.YtdcokepmblcdmaaTexts
import Derived.Below
import Derived.Deep.Draws
import Derived.OwnWalk
import Derived.Laws.BytesArg
import Derived.Laws.MakeOwn
import Derived.Laws.OwnMore
import Derived.Deep.OwnRows
import Derived.Tactics
import Derived.Lib.ConvBytes
import Derived.Laws.Slices
import Derived.WalkKit
import Derived.KernelRfl
import Derived.RowKit3
import Derived.Deep.LoopGhost
import Derived.Deep.QuietTactic
import Derived.BigQuiet
import Derived.WideLaws
import Derived.Deep.DeepCutAuto
import Derived.Deep.CutBlock
import Derived.Deep.RegionHeld3
import Derived.Laws.Rows
import Derived.Lib.AppendStr
import Derived.ArgAppend
import Derived.Laws.BitsLemmas
import Derived.RowKit
namespace Go.Proofs.Ytdcokepmblcdmaa
open Go.RowKit Go.Proofs.YtdcokepmblcdmaaW.PrintWords Go.Proofs.YtdcokepmblcdmaaW.PrintLast Go.Proofs.YtdcokepmblcdmaaW.PrintMore
attribute [local go_sem] max2_int min2_int max_two min_two max_three min_three max_four min_four
set_option linter.unusedVariables false
set_option linter.unusedSimpArgs false
theorem disk_RightV (v : Value) (d : SD) (w : World) (hv : VDisk w v d) : Calls Try.prog 17 #[v] w fun e w' => e = .returned (.bool (rightD d)) ∧ Below w.heap.size w w' := by
  obtain ⟨A0, c0, A1, c1, rfl, l0, m0, g0, l1, m1, g1⟩ := VDisk.open (St.start fun w1 => hv.below)
  exact disk_Right A0 c0 A1 c1 d w g0.now l0 g1.now l1
theorem ref_RightV (v : Value) (d : SD) (w : World) (hv : VDisk w v d) : Calls Try.prog 8 #[v] w fun e w' => e = .returned (.bool (rightD d)) ∧ Below w.heap.size w w' := by
  obtain ⟨A0, c0, A1, c1, rfl, l0, m0, g0, l1, m1, g1⟩ := VDisk.open (St.start fun w1 => hv.below)
  exact ref_Right A0 c0 A1 c1 d w g0.now l0 g1.now l1
/-- disk.Save of one write; what it gives hangs on no block from w0 on that was there, but the write's own. -/
theorem disk_Save_any (w0 : World) (rb : Nat) (v : Value) (d : SD) (x : SW) (w : World) (hb : Below w0.heap.size w0 w) (hd : VDisk w0 v d) (hrow : kWrite.C w (some ⟨rb, 0, none⟩) [x].length [x]) :
    Calls Try.prog 10 #[v, .slice (some ⟨rb, 0, none⟩) 1 1] w fun e w' => (∃ r, e = .returned (.tuple #[r, .int .i64 (saveD d [x]).2]) ∧ St (fun k => w0.heap.size ≤ k ∧ k < w.heap.size ∧ k ≠ rb) w' (fun w => VDisk w r (saveD d [x]).1)) ∧ Below w.heap.size w w' :=
  disk_Save (fun k => w0.heap.size ≤ k ∧ k < w.heap.size ∧ k ≠ rb) v _ d [x] w (fun _ h => h.2.1)
    (((St.start fun w5 hb5 => hd.below hb5).wide (fun k (h1 : k < w0.heap.size) h2 => by have := h2.1; omega)).keep (Keep.of_below hb))
    (SlV.mk_ (xs := [x]) (c := 1) (Nat.le_refl _) (St.ofC kWrite_flat hrow (fun ad e _ hs => by cases e; exact hs.2.2 rfl))) (by simp)
theorem stands_snoc (d : SD) (x : SW) (k : Nat) : standsD ⟨d.f0, d.f1 ++ [x]⟩ k = if x.f0 = (k : Int) then x.f1 else standsD d k := by
  unfold standsD
  rw [List.foldl_append]
  rfl
theorem mod_place {a n : Int} (hn : 0 < n) : 0 ≤ (a.tmod n + n) % n ∧ (a.tmod n + n) % n < n ∧ 0 ≤ a.tmod n + n ∧ a.tmod n + n < 2 * n := by
  have h1 := Int.tmod_lt_of_pos a hn
  have h2 : -n < a.tmod n := by
    have := Int.tmod_lt_of_pos (-a) hn
    rw [Int.neg_tmod] at this
    omega
  exact ⟨Int.emod_nonneg _ (by omega), Int.emod_lt_of_pos _ hn, by omega, by omega⟩
set_option maxHeartbeats 8000000 in
set_option maxRecDepth 100000 in
theorem diskApart_walk (v : Value) (d0 : SDisk) (at0 ot0 c : Int) (u : Value) (fs : List Int) (w : World) (h0 : VDisk w v d0) (_w0 : WDisk d0) (w1 : (Lit.int .i64 at0).wf = true) (w2 : (Lit.int .i64 ot0).wf = true) (w3 : (Lit.int .u8 c).wf = true) (h4 : SlV (Kd.int .i64) w u fs) (_w4 : ∀ y ∈ fs, (Lit.int .i64 y).wf = true) :
    Calls Try.prog 6 #[v, .int .i64 at0, .int .i64 ot0, .int .u8 c, u] w fun e w' => e = .returned (.bool true) ∧ Below w.heap.size w w' := by
  have a1lo := wf_i64_lo w1
  have a1hi := wf_i64_hi w1
  have o1lo := wf_i64_lo w2
  have o1hi := wf_i64_hi w2
  obtain ⟨c0, c1⟩ := bounds_u8 w3
  clear w1 w2 w3
  have hd0 : St (fun k => k = w.heap.size) w (fun w => VDisk w v d0) := (St.start fun w1 => h0.below).wide (fun k hk h => by omega)
  obtain ⟨A0, e0, A1, e1, rfl, l0, m0, g0, l1, m1, g1⟩ := VDisk.open hd0
  obtain ⟨F, ef, rfl, lf, hF⟩ := h4
  have mf := Kd.C_max hF
  go_enter Try.func6, Try.ntmps6
  go_wp2_with fail
  refine (law_few (fun k => k = w.heap.size) _ d0 _ (fun k hk => by subst hk; simp) (hd0.keep (by repeat (first | exact Keep.refl _ _ | (with_reducible assumption) | refine Keep.alloc ?_ _ | refine Keep.drewN ?_ _ | refine Keep.drew ?_ | refine Keep.set ?_ (by first | exact .inl rfl | exact .inr (by dsimp only; omega) | exact .inl (hP.own _ (by dsimp only; omega) (by dsimp only; omega)) | exact .inl (by assumption)) _ | refine Keep.step ?_ (by assumption))))).mono ?_
  rintro e w1 ⟨⟨r1, rfl, d1⟩, b1⟩
  have sz1 := b1.size
  try simp only [World.size_alloc, World.size_setCell, World.size_drew, size_drewN] at sz1
  have X0 := Cl.below b1 (Cl.new (j := 0) rfl)
  have X1 := Cl.below b1 (Cl.new (j := 1) rfl)
  obtain ⟨D1, hD1⟩ : ∃ D1, D1 = fewD d0 := ⟨_, rfl⟩
  rw [← hD1] at d1
  clear hD1 g0 g1 hd0 h0
  obtain ⟨B0, q0, B1, q1, rfl, l2, m2, g2, l3, m3, g3⟩ := VDisk.open d1
  have X0_c := X0.cell
  have X0_f := X0.free
  have X1_c := X1.cell
  have X1_f := X1.free
  obtain ⟨Y0, Y1⟩ := Cl.pair X0 X1 (.slice B0 D1.f0.length q0) (.slice B1 D1.f1.length q1)
  go_wp2_with fail
  refine (ref_RightV _ D1 _ (d1.at_ (by repeat (first | exact Keep.refl _ _ | (with_reducible assumption) | refine Keep.alloc ?_ _ | refine Keep.drewN ?_ _ | refine Keep.drew ?_ | refine Keep.set ?_ (by first | exact .inl rfl | exact .inr (by dsimp only; omega) | exact .inl (hP.own _ (by dsimp only; omega) (by dsimp only; omega)) | exact .inl (by assumption)) _ | refine Keep.step ?_ (by assumption))))).mono ?_
  rintro e w2 ⟨rfl, b2⟩
  have sz2 := b2.size
  simp only [World.size_setCell] at sz2
  first
    | (replace Y0 := Cl.below b2 Y0)
    | (replace Y0 := Cl.below b2 Y0.al)
    | (replace Y0 := Cl.below b2 Y0.dr)
    | (replace Y0 := Cl.below b2 Y0.drN)
    | (replace Y0 := Cl.below b2 Y0.al.al)
    | (replace Y0 := Cl.below b2 Y0.al.dr)
    | (replace Y0 := Cl.below b2 Y0.al.drN)
    | (replace Y0 := Cl.below b2 Y0.dr.al)
    | (replace Y0 := Cl.below b2 Y0.dr.dr)
    | (replace Y0 := Cl.below b2 Y0.dr.drN)
    | (replace Y0 := Cl.below b2 Y0.drN.al)
    | (replace Y0 := Cl.below b2 Y0.drN.dr)
    | (replace Y0 := Cl.below b2 Y0.drN.drN)
    | (replace Y0 := Cl.below b2 Y0.al.al.al)
    | (replace Y0 := Cl.below b2 Y0.al.al.dr)
    | (replace Y0 := Cl.below b2 Y0.al.al.drN)
    | (replace Y0 := Cl.below b2 Y0.al.dr.al)
    | (replace Y0 := Cl.below b2 Y0.al.dr.dr)
    | (replace Y0 := Cl.below b2 Y0.al.dr.drN)
    | (replace Y0 := Cl.below b2 Y0.al.drN.al)
    | (replace Y0 := Cl.below b2 Y0.al.drN.dr)
    | (replace Y0 := Cl.below b2 Y0.al.drN.drN)
    | (replace Y0 := Cl.below b2 Y0.dr.al.al)
    | (replace Y0 := Cl.below b2 Y0.dr.al.dr)
    | (replace Y0 := Cl.below b2 Y0.dr.al.drN)
    | (replace Y0 := Cl.below b2 Y0.dr.dr.al)
    | (replace Y0 := Cl.below b2 Y0.dr.dr.dr)
    | (replace Y0 := Cl.below b2 Y0.dr.dr.drN)
    | (replace Y0 := Cl.below b2 Y0.dr.drN.al)
    | (replace Y0 := Cl.below b2 Y0.dr.drN.dr)
    | (replace Y0 := Cl.below b2 Y0.dr.drN.drN)
    | (replace Y0 := Cl.below b2 Y0.drN.al.al)
    | (replace Y0 := Cl.below b2 Y0.drN.al.dr)
    | (replace Y0 := Cl.below b2 Y0.drN.al.drN)
    | (replace Y0 := Cl.below b2 Y0.drN.dr.al)
    | (replace Y0 := Cl.below b2 Y0.drN.dr.dr)
    | (replace Y0 := Cl.below b2 Y0.drN.dr.drN)
    | (replace Y0 := Cl.below b2 Y0.drN.drN.al)
    | (replace Y0 := Cl.below b2 Y0.drN.drN.dr)
    | (replace Y0 := Cl.below b2 Y0.drN.drN.drN)
  have Y0_c := Y0.cell
  have Y0_f := Y0.free
  have Y0_l := Y0.lt
  dsimp only at Y0_l
  first
    | (replace Y1 := Cl.below b2 Y1)
    | (replace Y1 := Cl.below b2 Y1.al)
    | (replace Y1 := Cl.below b2 Y1.dr)
    | (replace Y1 := Cl.below b2 Y1.drN)
    | (replace Y1 := Cl.below b2 Y1.al.al)
    | (replace Y1 := Cl.below b2 Y1.al.dr)
    | (replace Y1 := Cl.below b2 Y1.al.drN)
    | (replace Y1 := Cl.below b2 Y1.dr.al)
    | (replace Y1 := Cl.below b2 Y1.dr.dr)
    | (replace Y1 := Cl.below b2 Y1.dr.drN)
    | (replace Y1 := Cl.below b2 Y1.drN.al)
    | (replace Y1 := Cl.below b2 Y1.drN.dr)
    | (replace Y1 := Cl.below b2 Y1.drN.drN)
    | (replace Y1 := Cl.below b2 Y1.al.al.al)
    | (replace Y1 := Cl.below b2 Y1.al.al.dr)
    | (replace Y1 := Cl.below b2 Y1.al.al.drN)
    | (replace Y1 := Cl.below b2 Y1.al.dr.al)
    | (replace Y1 := Cl.below b2 Y1.al.dr.dr)
    | (replace Y1 := Cl.below b2 Y1.al.dr.drN)
    | (replace Y1 := Cl.below b2 Y1.al.drN.al)
    | (replace Y1 := Cl.below b2 Y1.al.drN.dr)
    | (replace Y1 := Cl.below b2 Y1.al.drN.drN)
    | (replace Y1 := Cl.below b2 Y1.dr.al.al)
    | (replace Y1 := Cl.below b2 Y1.dr.al.dr)
    | (replace Y1 := Cl.below b2 Y1.dr.al.drN)
    | (replace Y1 := Cl.below b2 Y1.dr.dr.al)
    | (replace Y1 := Cl.below b2 Y1.dr.dr.dr)
    | (replace Y1 := Cl.below b2 Y1.dr.dr.drN)
    | (replace Y1 := Cl.below b2 Y1.dr.drN.al)
    | (replace Y1 := Cl.below b2 Y1.dr.drN.dr)
    | (replace Y1 := Cl.below b2 Y1.dr.drN.drN)
    | (replace Y1 := Cl.below b2 Y1.drN.al.al)
    | (replace Y1 := Cl.below b2 Y1.drN.al.dr)
    | (replace Y1 := Cl.below b2 Y1.drN.al.drN)
    | (replace Y1 := Cl.below b2 Y1.drN.dr.al)
    | (replace Y1 := Cl.below b2 Y1.drN.dr.dr)
    | (replace Y1 := Cl.below b2 Y1.drN.dr.drN)
    | (replace Y1 := Cl.below b2 Y1.drN.drN.al)
    | (replace Y1 := Cl.below b2 Y1.drN.drN.dr)
    | (replace Y1 := Cl.below b2 Y1.drN.drN.drN)
  have Y1_c := Y1.cell
  have Y1_f := Y1.free
  have Y1_l := Y1.lt
  dsimp only at Y1_l
  have hd := hid (d1.at_ (show Keep (fun k => k = w.heap.size) w1 w2 from (by repeat (first | exact Keep.refl _ _ | (with_reducible assumption) | refine Keep.alloc ?_ _ | refine Keep.drewN ?_ _ | refine Keep.drew ?_ | refine Keep.set ?_ (by first | exact .inl rfl | exact .inr (by dsimp only; omega) | exact .inl (hP.own _ (by dsimp only; omega) (by dsimp only; omega)) | exact .inl (by assumption)) _ | refine Keep.step ?_ (by assumption)))))
  have B2 : Below w.heap.size w w2 := (by repeat (first | exact Below.refl _ _ | (with_reducible assumption) | refine below_alloc ?_ _ | refine pw_below_drewN ?_ _ | refine below_drew ?_ | refine Below.setCell ?_ (by dsimp only; omega) _ | refine below_step ?_ (by assumption)))
  have hFS := hid (Kd.C_below hF B2)
  clear X0 X1 X0_c X0_f X1_c X1_f d1 g2 g3 hF b1 b2
  by_cases hR : rightD D1 = true
  · rw [hR]
    have hp := rightD_parts hR
    obtain ⟨p1, p2, p3, p4, p5⟩ := hp
    have hRR := hid hR
    have P4 := hid p4
    have P5 := hid p5
    clear hR p4 p5
    by_cases h190 : 190 < D1.f1.length
    · go_wp2_with fail
      refine (law_alive _).mono ?_
      rintro e w3 ⟨rfl, b3⟩
      go_wp2
      go_ret
      exact ⟨rfl, (by repeat (first | exact Below.refl _ _ | (with_reducible assumption) | refine below_alloc ?_ _ | refine pw_below_drewN ?_ _ | refine below_drew ?_ | refine Below.setCell ?_ (by dsimp only; omega) _ | refine below_step ?_ (by assumption)))⟩
    · have hn : (0 : Int) < D1.f0.length := by omega
      obtain ⟨x1, x2, x3, x4⟩ := mod_place (a := at0) hn
      obtain ⟨y1, y2, y3, y4⟩ := mod_place (a := ot0) hn
      have hnz : ((D1.f0.length : Int) == 0) = false := beq_eq_false_iff_ne.2 (by omega)
      have hnz2 : ¬ D1.f0 = [] := fun h => by rw [h] at p1; simp at p1
      have wr1 : IntKind.i64.wrap (at0.tmod D1.f0.length + D1.f0.length) = at0.tmod D1.f0.length + D1.f0.length := IntWalk.i64_in _ (by omega)
      have wr2 : IntKind.i64.wrap (ot0.tmod D1.f0.length + D1.f0.length) = ot0.tmod D1.f0.length + D1.f0.length := IntWalk.i64_in _ (by omega)
      go_wp2_with fail
      go_quiet (fail)
      clear wr1 wr2 x3 x4 y3 y4 hnz hnz2
      generalize hA1 : (at0.tmod D1.f0.length + D1.f0.length) % D1.f0.length = a1 at *
      generalize hO1 : (ot0.tmod D1.f0.length + D1.f0.length) % D1.f0.length = o1 at *
      clear hA1 hO1 a1lo a1hi o1lo o1hi
      obtain ⟨X, hX⟩ : ∃ X : SD, X = ⟨D1.f0, D1.f1 ++ [⟨a1, sect c⟩]⟩ := ⟨_, rfl⟩
      have hw1 : wellW D1.f0.length [⟨a1, sect c⟩] = true := wellW_mk fun x hx => by
        obtain rfl : x = ⟨a1, sect c⟩ := by simpa using hx
        exact ⟨x1, x2, sect_size c⟩
      have hs := hid (show saveD D1 [⟨a1, sect c⟩] = (X, 0) by rw [hX]; exact saveD_ok hRR.out hw1 (by simp; omega))
      have hXR := hid (show rightD X = true by rw [hX]; exact rightD_save hRR.out hw1 (by simp; omega))
      have hXl : X.f0.length = D1.f0.length := by rw [hX]
      have hL1 := hid (show standsD X a1.toNat = sect c by rw [hX, stands_snoc, if_pos (show a1 = (a1.toNat : Int) by omega)])
      have hL2 := hid (show a1 = o1 ∨ standsD D1 o1.toNat = standsD X o1.toNat by
        by_cases h : a1 = o1
        · exact .inl h
        · right; rw [hX, stands_snoc, if_neg (show ¬ a1 = (o1.toNat : Int) by omega)])
      replace hX := hid hX
      replace hXl := hid hXl
      clear hw1
      have hd2 := hid (hd.out.below (show Below w2.heap.size w2 (w2.drewN nq) from (by repeat (first | exact Below.refl _ _ | (with_reducible assumption) | refine below_alloc ?_ _ | refine pw_below_drewN ?_ _ | refine below_drew ?_ | refine Below.setCell ?_ (by dsimp only; omega) _ | refine below_step ?_ (by assumption)))))
      have hF2 := hid (Kd.C_below hFS.out (show Below w2.heap.size w2 (w2.drewN nq) from (by repeat (first | exact Below.refl _ _ | (with_reducible assumption) | refine below_alloc ?_ _ | refine pw_below_drewN ?_ _ | refine below_drew ?_ | refine Below.setCell ?_ (by dsimp only; omega) _ | refine below_step ?_ (by assumption)))))
      have sz3 : w.heap.size ≤ (w2.drewN nq).heap.size := by rw [size_drewN]; omega
      have B3 : Below w.heap.size w (w2.drewN nq) := (by repeat (first | exact Below.refl _ _ | (with_reducible assumption) | refine below_alloc ?_ _ | refine pw_below_drewN ?_ _ | refine below_drew ?_ | refine Below.setCell ?_ (by dsimp only; omega) _ | refine below_step ?_ (by assumption)))
      have Z0 := Y0.drN (n := nq)
      have Z1 := Y1.drN (n := nq)
      generalize w2.drewN nq = w3 at *
      clear hd hFS Y0 Y1 Y0_c Y0_f Y0_l Y1_c Y1_f Y1_l
      have Z0_c := Z0.cell
      have Z1_c := Z1.cell
      have Z0_l := Z0.lt
      dsimp only at Z0_l
      go_upto_region 6 with (fail)
      go_cut [12, 13] (fun v12 v13 wc => v13 = .int .i64 0 ∧ ∃ g E0 k0 E1 k1, v12 = .pointer (some ⟨g, 0, none⟩) ∧ Cl wc ⟨g, 0, none⟩ (.slice E0 X.f0.length k0) ∧ Cl wc ⟨g, 1, none⟩ (.slice E1 X.f1.length k1) ∧ VDisk wc (.agg #[.slice E0 X.f0.length k0, .slice E1 X.f1.length k1]) X ∧ Cl wc ⟨w.heap.size, 0, none⟩ (.slice B0 D1.f0.length q0) ∧ Cl wc ⟨w.heap.size, 1, none⟩ (.slice B1 D1.f1.length q1) ∧ Below w3.heap.size w3 wc)
      case first =>
        go_region_held3 (fun w' => w'.cell? ⟨w.heap.size, 0, none⟩ = some (.slice B0 D1.f0.length q0) ∧ w'.cell? ⟨w.heap.size, 1, none⟩ = some (.slice B1 D1.f1.length q1))
          (first | exact ⟨Z0.cell, Z1.cell⟩ | exact ⟨((Z0.far (by dsimp only; omega)).far (by dsimp only; omega)).cell, ((Z1.far (by dsimp only; omega)).far (by dsimp only; omega)).cell⟩ | exact ⟨Z0.al.cell, Z1.al.cell⟩ | exact ⟨Z0.al.al.cell, Z1.al.al.cell⟩ | go_keep)
          (first
          | (go_at_call 11; refine (law_sector _ c0 c1 _).mono ?_; rintro e w4 ⟨rfl, b4⟩; have sz4 := b4.size; (try simp only [World.size_alloc, World.size_drew] at sz4); (first | (replace Z0 := Cl.below b4 Z0) | (replace Z0 := Cl.below b4 Z0.al) | (replace Z0 := Cl.below b4 Z0.dr) | (replace Z0 := Cl.below b4 Z0.drN) | (replace Z0 := Cl.below b4 Z0.al.al) | (replace Z0 := Cl.below b4 Z0.al.dr) | (replace Z0 := Cl.below b4 Z0.al.drN) | (replace Z0 := Cl.below b4 Z0.dr.al) | (replace Z0 := Cl.below b4 Z0.dr.dr) | (replace Z0 := Cl.below b4 Z0.dr.drN) | (replace Z0 := Cl.below b4 Z0.drN.al) | (replace Z0 := Cl.below b4 Z0.drN.dr) | (replace Z0 := Cl.below b4 Z0.drN.drN) | (replace Z0 := Cl.below b4 Z0.al.al.al) | (replace Z0 := Cl.below b4 Z0.al.al.dr) | (replace Z0 := Cl.below b4 Z0.al.al.drN) | (replace Z0 := Cl.below b4 Z0.al.dr.al) | (replace Z0 := Cl.below b4 Z0.al.dr.dr) | (replace Z0 := Cl.below b4 Z0.al.dr.drN) | (replace Z0 := Cl.below b4 Z0.al.drN.al) | (replace Z0 := Cl.below b4 Z0.al.drN.dr) | (replace Z0 := Cl.below b4 Z0.al.drN.drN) | (replace Z0 := Cl.below b4 Z0.dr.al.al) | (replace Z0 := Cl.below b4 Z0.dr.al.dr) | (replace Z0 := Cl.below b4 Z0.dr.al.drN) | (replace Z0 := Cl.below b4 Z0.dr.dr.al) | (replace Z0 := Cl.below b4 Z0.dr.dr.dr) | (replace Z0 := Cl.below b4 Z0.dr.dr.drN) | (replace Z0 := Cl.below b4 Z0.dr.drN.al) | (replace Z0 := Cl.below b4 Z0.dr.drN.dr) | (replace Z0 := Cl.below b4 Z0.dr.drN.drN) | (replace Z0 := Cl.below b4 Z0.drN.al.al) | (replace Z0 := Cl.below b4 Z0.drN.al.dr) | (replace Z0 := Cl.below b4 Z0.drN.al.drN) | (replace Z0 := Cl.below b4 Z0.drN.dr.al) | (replace Z0 := Cl.below b4 Z0.drN.dr.dr) | (replace Z0 := Cl.below b4 Z0.drN.dr.drN) | (replace Z0 := Cl.below b4 Z0.drN.drN.al) | (replace Z0 := Cl.below b4 Z0.drN.drN.dr) | (replace Z0 := Cl.below b4 Z0.drN.drN.drN)); (have Z0_c := Z0.cell); (have Z0_f := Z0.free); (have Z0_l := Z0.lt); (dsimp only at Z0_l); (first | (replace Z1 := Cl.below b4 Z1) | (replace Z1 := Cl.below b4 Z1.al) | (replace Z1 := Cl.below b4 Z1.dr) | (replace Z1 := Cl.below b4 Z1.drN) | (replace Z1 := Cl.below b4 Z1.al.al) | (replace Z1 := Cl.below b4 Z1.al.dr) | (replace Z1 := Cl.below b4 Z1.al.drN) | (replace Z1 := Cl.below b4 Z1.dr.al) | (replace Z1 := Cl.below b4 Z1.dr.dr) | (replace Z1 := Cl.below b4 Z1.dr.drN) | (replace Z1 := Cl.below b4 Z1.drN.al) | (replace Z1 := Cl.below b4 Z1.drN.dr) | (replace Z1 := Cl.below b4 Z1.drN.drN) | (replace Z1 := Cl.below b4 Z1.al.al.al) | (replace Z1 := Cl.below b4 Z1.al.al.dr) | (replace Z1 := Cl.below b4 Z1.al.al.drN) | (replace Z1 := Cl.below b4 Z1.al.dr.al) | (replace Z1 := Cl.below b4 Z1.al.dr.dr) | (replace Z1 := Cl.below b4 Z1.al.dr.drN) | (replace Z1 := Cl.below b4 Z1.al.drN.al) | (replace Z1 := Cl.below b4 Z1.al.drN.dr) | (replace Z1 := Cl.below b4 Z1.al.drN.drN) | (replace Z1 := Cl.below b4 Z1.dr.al.al) | (replace Z1 := Cl.below b4 Z1.dr.al.dr) | (replace Z1 := Cl.below b4 Z1.dr.al.drN) | (replace Z1 := Cl.below b4 Z1.dr.dr.al) | (replace Z1 := Cl.below b4 Z1.dr.dr.dr) | (replace Z1 := Cl.below b4 Z1.dr.dr.drN) | (replace Z1 := Cl.below b4 Z1.dr.drN.al) | (replace Z1 := Cl.below b4 Z1.dr.drN.dr) | (replace Z1 := Cl.below b4 Z1.dr.drN.drN) | (replace Z1 := Cl.below b4 Z1.drN.al.al) | (replace Z1 := Cl.below b4 Z1.drN.al.dr) | (replace Z1 := Cl.below b4 Z1.drN.al.drN) | (replace Z1 := Cl.below b4 Z1.drN.dr.al) | (replace Z1 := Cl.below b4 Z1.drN.dr.dr) | (replace Z1 := Cl.below b4 Z1.drN.dr.drN) | (replace Z1 := Cl.below b4 Z1.drN.drN.al) | (replace Z1 := Cl.below b4 Z1.drN.drN.dr) | (replace Z1 := Cl.below b4 Z1.drN.drN.drN)); (have Z1_c := Z1.cell); (have Z1_f := Z1.free); (have Z1_l := Z1.lt); (dsimp only at Z1_l); (try (have V0 := Cl.below b4 (Cl.new (cs := #[.slice none 0 0, .slice none 0 0]) (j := 0) rfl); have V1 := Cl.below b4 (Cl.new (cs := #[.slice none 0 0, .slice none 0 0]) (j := 1) rfl); (try simp only [World.size_drew] at V0 V1); have V0_c := V0.cell; have V0_f := V0.free; have V1_c := V1.cell; have V1_f := V1.free)); (try (have V0 := Cl.below b4 (Cl.dr (Cl.new (cs := #[.slice none 0 0, .slice none 0 0]) (j := 0) rfl)); have V1 := Cl.below b4 (Cl.dr (Cl.new (cs := #[.slice none 0 0, .slice none 0 0]) (j := 1) rfl)); (try simp only [World.size_drew] at V0 V1); have V0_c := V0.cell; have V0_f := V0.free; have V1_c := V1.cell; have V1_f := V1.free)))
          | (go_at_call 10; (with_reducible refine Calls.mono (disk_Save_any w3 _ _ D1 ⟨a1, sect c⟩ _ ?_ hd2.out ?_) ?_); (· (repeat (first | exact Below.refl _ _ | (with_reducible assumption) | refine below_alloc ?_ _ | refine pw_below_drewN ?_ _ | refine below_drew ?_ | refine Below.setCell ?_ (by dsimp only; omega) _ | refine below_step ?_ (by assumption)))); (· first | exact C_one (cs := [.int .i64 a1, .string (sect c)]) (fun w => k36_mk w ⟨a1, sect c⟩) | exact Kd.C_alloc (C_one (cs := [.int .i64 a1, .string (sect c)]) (fun w => k36_mk w ⟨a1, sect c⟩)) _ | (have hq := C_one (W := w4.alloc (.cells #[.slice none 0 0, .slice none 0 0] 25)) (T := 36) (d := kWrite) (x := ⟨a1, sect c⟩) (cs := [.int .i64 a1, .string (sect c)]) (fun w => k36_mk w ⟨a1, sect c⟩); simp only [World.size_alloc] at hq; exact hq)); rintro e w5 ⟨⟨r5, rfl, d5⟩, b5⟩; have sz5 := b5.size; simp only [World.size_alloc] at sz5 d5; rw [hs.out] at d5; rw [hs.out]; obtain ⟨E0, k0, E1, k1, rfl, l5, m5, i5, l6, m6, i6⟩ := VDisk.open d5; (first | (replace Z0 := Cl.below b5 Z0) | (replace Z0 := Cl.below b5 Z0.al) | (replace Z0 := Cl.below b5 Z0.dr) | (replace Z0 := Cl.below b5 Z0.drN) | (replace Z0 := Cl.below b5 Z0.al.al) | (replace Z0 := Cl.below b5 Z0.al.dr) | (replace Z0 := Cl.below b5 Z0.al.drN) | (replace Z0 := Cl.below b5 Z0.dr.al) | (replace Z0 := Cl.below b5 Z0.dr.dr) | (replace Z0 := Cl.below b5 Z0.dr.drN) | (replace Z0 := Cl.below b5 Z0.drN.al) | (replace Z0 := Cl.below b5 Z0.drN.dr) | (replace Z0 := Cl.below b5 Z0.drN.drN) | (replace Z0 := Cl.below b5 Z0.al.al.al) | (replace Z0 := Cl.below b5 Z0.al.al.dr) | (replace Z0 := Cl.below b5 Z0.al.al.drN) | (replace Z0 := Cl.below b5 Z0.al.dr.al) | (replace Z0 := Cl.below b5 Z0.al.dr.dr) | (replace Z0 := Cl.below b5 Z0.al.dr.drN) | (replace Z0 := Cl.below b5 Z0.al.drN.al) | (replace Z0 := Cl.below b5 Z0.al.drN.dr) | (replace Z0 := Cl.below b5 Z0.al.drN.drN) | (replace Z0 := Cl.below b5 Z0.dr.al.al) | (replace Z0 := Cl.below b5 Z0.dr.al.dr) | (replace Z0 := Cl.below b5 Z0.dr.al.drN) | (replace Z0 := Cl.below b5 Z0.dr.dr.al) | (replace Z0 := Cl.below b5 Z0.dr.dr.dr) | (replace Z0 := Cl.below b5 Z0.dr.dr.drN) | (replace Z0 := Cl.below b5 Z0.dr.drN.al) | (replace Z0 := Cl.below b5 Z0.dr.drN.dr) | (replace Z0 := Cl.below b5 Z0.dr.drN.drN) | (replace Z0 := Cl.below b5 Z0.drN.al.al) | (replace Z0 := Cl.below b5 Z0.drN.al.dr) | (replace Z0 := Cl.below b5 Z0.drN.al.drN) | (replace Z0 := Cl.below b5 Z0.drN.dr.al) | (replace Z0 := Cl.below b5 Z0.drN.dr.dr) | (replace Z0 := Cl.below b5 Z0.drN.dr.drN) | (replace Z0 := Cl.below b5 Z0.drN.drN.al) | (replace Z0 := Cl.below b5 Z0.drN.drN.dr) | (replace Z0 := Cl.below b5 Z0.drN.drN.drN)); (have Z0_c := Z0.cell); (have Z0_f := Z0.free); (have Z0_l := Z0.lt); (dsimp only at Z0_l); (first | (replace Z1 := Cl.below b5 Z1) | (replace Z1 := Cl.below b5 Z1.al) | (replace Z1 := Cl.below b5 Z1.dr) | (replace Z1 := Cl.below b5 Z1.drN) | (replace Z1 := Cl.below b5 Z1.al.al) | (replace Z1 := Cl.below b5 Z1.al.dr) | (replace Z1 := Cl.below b5 Z1.al.drN) | (replace Z1 := Cl.below b5 Z1.dr.al) | (replace Z1 := Cl.below b5 Z1.dr.dr) | (replace Z1 := Cl.below b5 Z1.dr.drN) | (replace Z1 := Cl.below b5 Z1.drN.al) | (replace Z1 := Cl.below b5 Z1.drN.dr) | (replace Z1 := Cl.below b5 Z1.drN.drN) | (replace Z1 := Cl.below b5 Z1.al.al.al) | (replace Z1 := Cl.below b5 Z1.al.al.dr) | (replace Z1 := Cl.below b5 Z1.al.al.drN) | (replace Z1 := Cl.below b5 Z1.al.dr.al) | (replace Z1 := Cl.below b5 Z1.al.dr.dr) | (replace Z1 := Cl.below b5 Z1.al.dr.drN) | (replace Z1 := Cl.below b5 Z1.al.drN.al) | (replace Z1 := Cl.below b5 Z1.al.drN.dr) | (replace Z1 := Cl.below b5 Z1.al.drN.drN) | (replace Z1 := Cl.below b5 Z1.dr.al.al) | (replace Z1 := Cl.below b5 Z1.dr.al.dr) | (replace Z1 := Cl.below b5 Z1.dr.al.drN) | (replace Z1 := Cl.below b5 Z1.dr.dr.al) | (replace Z1 := Cl.below b5 Z1.dr.dr.dr) | (replace Z1 := Cl.below b5 Z1.dr.dr.drN) | (replace Z1 := Cl.below b5 Z1.dr.drN.al) | (replace Z1 := Cl.below b5 Z1.dr.drN.dr) | (replace Z1 := Cl.below b5 Z1.dr.drN.drN) | (replace Z1 := Cl.below b5 Z1.drN.al.al) | (replace Z1 := Cl.below b5 Z1.drN.al.dr) | (replace Z1 := Cl.below b5 Z1.drN.al.drN) | (replace Z1 := Cl.below b5 Z1.drN.dr.al) | (replace Z1 := Cl.below b5 Z1.drN.dr.dr) | (replace Z1 := Cl.below b5 Z1.drN.dr.drN) | (replace Z1 := Cl.below b5 Z1.drN.drN.al) | (replace Z1 := Cl.below b5 Z1.drN.drN.dr) | (replace Z1 := Cl.below b5 Z1.drN.drN.drN)); (have Z1_c := Z1.cell); (have Z1_f := Z1.free); (have Z1_l := Z1.lt); (dsimp only at Z1_l); (try ((first | (replace V0 := Cl.below b5 V0) | (replace V0 := Cl.below b5 V0.al) | (replace V0 := Cl.below b5 V0.dr) | (replace V0 := Cl.below b5 V0.drN) | (replace V0 := Cl.below b5 V0.al.al) | (replace V0 := Cl.below b5 V0.al.dr) | (replace V0 := Cl.below b5 V0.al.drN) | (replace V0 := Cl.below b5 V0.dr.al) | (replace V0 := Cl.below b5 V0.dr.dr) | (replace V0 := Cl.below b5 V0.dr.drN) | (replace V0 := Cl.below b5 V0.drN.al) | (replace V0 := Cl.below b5 V0.drN.dr) | (replace V0 := Cl.below b5 V0.drN.drN) | (replace V0 := Cl.below b5 V0.al.al.al) | (replace V0 := Cl.below b5 V0.al.al.dr) | (replace V0 := Cl.below b5 V0.al.al.drN) | (replace V0 := Cl.below b5 V0.al.dr.al) | (replace V0 := Cl.below b5 V0.al.dr.dr) | (replace V0 := Cl.below b5 V0.al.dr.drN) | (replace V0 := Cl.below b5 V0.al.drN.al) | (replace V0 := Cl.below b5 V0.al.drN.dr) | (replace V0 := Cl.below b5 V0.al.drN.drN) | (replace V0 := Cl.below b5 V0.dr.al.al) | (replace V0 := Cl.below b5 V0.dr.al.dr) | (replace V0 := Cl.below b5 V0.dr.al.drN) | (replace V0 := Cl.below b5 V0.dr.dr.al) | (replace V0 := Cl.below b5 V0.dr.dr.dr) | (replace V0 := Cl.below b5 V0.dr.dr.drN) | (replace V0 := Cl.below b5 V0.dr.drN.al) | (replace V0 := Cl.below b5 V0.dr.drN.dr) | (replace V0 := Cl.below b5 V0.dr.drN.drN) | (replace V0 := Cl.below b5 V0.drN.al.al) | (replace V0 := Cl.below b5 V0.drN.al.dr) | (replace V0 := Cl.below b5 V0.drN.al.drN) | (replace V0 := Cl.below b5 V0.drN.dr.al) | (replace V0 := Cl.below b5 V0.drN.dr.dr) | (replace V0 := Cl.below b5 V0.drN.dr.drN) | (replace V0 := Cl.below b5 V0.drN.drN.al) | (replace V0 := Cl.below b5 V0.drN.drN.dr) | (replace V0 := Cl.below b5 V0.drN.drN.drN)); (have V0_c := V0.cell); (have V0_f := V0.free); (have V0_l := V0.lt); (dsimp only at V0_l); (first | (replace V1 := Cl.below b5 V1) | (replace V1 := Cl.below b5 V1.al) | (replace V1 := Cl.below b5 V1.dr) | (replace V1 := Cl.below b5 V1.drN) | (replace V1 := Cl.below b5 V1.al.al) | (replace V1 := Cl.below b5 V1.al.dr) | (replace V1 := Cl.below b5 V1.al.drN) | (replace V1 := Cl.below b5 V1.dr.al) | (replace V1 := Cl.below b5 V1.dr.dr) | (replace V1 := Cl.below b5 V1.dr.drN) | (replace V1 := Cl.below b5 V1.drN.al) | (replace V1 := Cl.below b5 V1.drN.dr) | (replace V1 := Cl.below b5 V1.drN.drN) | (replace V1 := Cl.below b5 V1.al.al.al) | (replace V1 := Cl.below b5 V1.al.al.dr) | (replace V1 := Cl.below b5 V1.al.al.drN) | (replace V1 := Cl.below b5 V1.al.dr.al) | (replace V1 := Cl.below b5 V1.al.dr.dr) | (replace V1 := Cl.below b5 V1.al.dr.drN) | (replace V1 := Cl.below b5 V1.al.drN.al) | (replace V1 := Cl.below b5 V1.al.drN.dr) | (replace V1 := Cl.below b5 V1.al.drN.drN) | (replace V1 := Cl.below b5 V1.dr.al.al) | (replace V1 := Cl.below b5 V1.dr.al.dr) | (replace V1 := Cl.below b5 V1.dr.al.drN) | (replace V1 := Cl.below b5 V1.dr.dr.al) | (replace V1 := Cl.below b5 V1.dr.dr.dr) | (replace V1 := Cl.below b5 V1.dr.dr.drN) | (replace V1 := Cl.below b5 V1.dr.drN.al) | (replace V1 := Cl.below b5 V1.dr.drN.dr) | (replace V1 := Cl.below b5 V1.dr.drN.drN) | (replace V1 := Cl.below b5 V1.drN.al.al) | (replace V1 := Cl.below b5 V1.drN.al.dr) | (replace V1 := Cl.below b5 V1.drN.al.drN) | (replace V1 := Cl.below b5 V1.drN.dr.al) | (replace V1 := Cl.below b5 V1.drN.dr.dr) | (replace V1 := Cl.below b5 V1.drN.dr.drN) | (replace V1 := Cl.below b5 V1.drN.drN.al) | (replace V1 := Cl.below b5 V1.drN.drN.dr) | (replace V1 := Cl.below b5 V1.drN.drN.drN)); (have V1_c := V1.cell); (have V1_f := V1.free); (have V1_l := V1.lt); (dsimp only at V1_l))); (try (have U0 := Cl.below b5 (Cl.new (cs := #[.slice none 0 0, .slice none 0 0]) (j := 0) rfl); have U1 := Cl.below b5 (Cl.new (cs := #[.slice none 0 0, .slice none 0 0]) (j := 1) rfl); (try simp only [World.size_alloc] at U0 U1); have U0_c := U0.cell; have U0_f := U0.free; have U1_c := U1.cell; have U1_f := U1.free)); (try (have U0 := Cl.below b5 (Cl.al (Cl.new (cs := #[.slice none 0 0, .slice none 0 0]) (j := 0) rfl)); have U1 := Cl.below b5 (Cl.al (Cl.new (cs := #[.slice none 0 0, .slice none 0 0]) (j := 1) rfl)); (try simp only [World.size_alloc] at U0 U1); have U0_c := U0.cell; have U0_f := U0.free; have U1_c := U1.cell; have U1_f := U1.free)))
          | fail)
        all_goals
          go_wp2_with fail
          go_meet
          first
          | exact ⟨rfl, _, E0, k0, E1, k1, rfl, Cl.new rfl, Cl.new rfl, d5.at_ (Keep.alloc (Keep.refl _ _) _), Z0.al, Z1.al, (by repeat (first | exact Below.refl _ _ | (with_reducible assumption) | refine below_alloc ?_ _ | refine pw_below_drewN ?_ _ | refine below_drew ?_ | refine Below.setCell ?_ (by dsimp only; omega) _ | refine below_step ?_ (by assumption)))⟩
          | exact ⟨rfl, _, E0, k0, E1, k1, rfl, (Cl.pair U0 U1 _ _).1, (Cl.pair U0 U1 _ _).2, d5.at_ (Keep.set (Keep.set (Keep.refl _ _) (.inl (by refine ⟨?_, ?_, ?_⟩ <;> dsimp only <;> omega)) _) (.inl (by refine ⟨?_, ?_, ?_⟩ <;> dsimp only <;> omega)) _), ((Z0.far (by dsimp only; omega)).far (by dsimp only; omega)), ((Z1.far (by dsimp only; omega)).far (by dsimp only; omega)), (by repeat (first | exact Below.refl _ _ | (with_reducible assumption) | refine below_alloc ?_ _ | refine pw_below_drewN ?_ _ | refine below_drew ?_ | refine Below.setCell ?_ (by dsimp only; omega) _ | refine below_step ?_ (by assumption)))⟩
          | exact ⟨rfl, _, E0, k0, E1, k1, rfl, (Cl.pair V0 V1 _ _).1, (Cl.pair V0 V1 _ _).2, d5.at_ (Keep.set (Keep.set (Keep.refl _ _) (.inl (by refine ⟨?_, ?_, ?_⟩ <;> dsimp only <;> omega)) _) (.inl (by refine ⟨?_, ?_, ?_⟩ <;> dsimp only <;> omega)) _), ((Z0.far (by dsimp only; omega)).far (by dsimp only; omega)), ((Z1.far (by dsimp only; omega)).far (by dsimp only; omega)), (by repeat (first | exact Below.refl _ _ | (with_reducible assumption) | refine below_alloc ?_ _ | refine pw_below_drewN ?_ _ | refine below_drew ?_ | refine Below.setCell ?_ (by dsimp only; omega) _ | refine below_step ?_ (by assumption)))⟩
          | trace_state
      case rest =>
        obtain ⟨rfl, g, E0, k0, E1, k1, rfl, U0, U1, dX, V0, V1, Bc⟩ := hcut
        have szc := Bc.size
        have Bw : Below w.heap.size w wc := below_step B3 Bc
        have hdc := hid (hd2.out.below Bc)
        have hFc := hid (Kd.C_below hF2.out Bc)
        clear Z0 Z1 Z0_c Z1_c Z0_l hd2 hF2 Bc B3
        have U0_c := U0.cell
        have U1_c := U1.cell
        have V0_c := V0.cell
        have V1_c := V1.cell
        have x2' : a1 < X.f0.length := by rw [hXl.out]; exact x2
        have y2' : o1 < X.f0.length := by rw [hXl.out]; exact y2
        have hdX := hid dX
        clear dX
        go_wp2_with fail
        refine (disk_LoadI _ X a1 _ hdX.out hXR.out x1 x2').mono ?_
        rintro e w5 ⟨rfl, b5⟩
        rw [hL1.out]
        have sz5 := b5.size
        first
          | (replace U0 := Cl.below b5 U0)
          | (replace U0 := Cl.below b5 U0.al)
          | (replace U0 := Cl.below b5 U0.dr)
          | (replace U0 := Cl.below b5 U0.drN)
          | (replace U0 := Cl.below b5 U0.al.al)
          | (replace U0 := Cl.below b5 U0.al.dr)
          | (replace U0 := Cl.below b5 U0.al.drN)
          | (replace U0 := Cl.below b5 U0.dr.al)
          | (replace U0 := Cl.below b5 U0.dr.dr)
          | (replace U0 := Cl.below b5 U0.dr.drN)
          | (replace U0 := Cl.below b5 U0.drN.al)
          | (replace U0 := Cl.below b5 U0.drN.dr)
          | (replace U0 := Cl.below b5 U0.drN.drN)
          | (replace U0 := Cl.below b5 U0.al.al.al)
          | (replace U0 := Cl.below b5 U0.al.al.dr)
          | (replace U0 := Cl.below b5 U0.al.al.drN)
          | (replace U0 := Cl.below b5 U0.al.dr.al)
          | (replace U0 := Cl.below b5 U0.al.dr.dr)
          | (replace U0 := Cl.below b5 U0.al.dr.drN)
          | (replace U0 := Cl.below b5 U0.al.drN.al)
          | (replace U0 := Cl.below b5 U0.al.drN.dr)
          | (replace U0 := Cl.below b5 U0.al.drN.drN)
          | (replace U0 := Cl.below b5 U0.dr.al.al)
          | (replace U0 := Cl.below b5 U0.dr.al.dr)
          | (replace U0 := Cl.below b5 U0.dr.al.drN)
          | (replace U0 := Cl.below b5 U0.dr.dr.al)
          | (replace U0 := Cl.below b5 U0.dr.dr.dr)
          | (replace U0 := Cl.below b5 U0.dr.dr.drN)
          | (replace U0 := Cl.below b5 U0.dr.drN.al)
          | (replace U0 := Cl.below b5 U0.dr.drN.dr)
          | (replace U0 := Cl.below b5 U0.dr.drN.drN)
          | (replace U0 := Cl.below b5 U0.drN.al.al)
          | (replace U0 := Cl.below b5 U0.drN.al.dr)
          | (replace U0 := Cl.below b5 U0.drN.al.drN)
          | (replace U0 := Cl.below b5 U0.drN.dr.al)
          | (replace U0 := Cl.below b5 U0.drN.dr.dr)
          | (replace U0 := Cl.below b5 U0.drN.dr.drN)
          | (replace U0 := Cl.below b5 U0.drN.drN.al)
          | (replace U0 := Cl.below b5 U0.drN.drN.dr)
          | (replace U0 := Cl.below b5 U0.drN.drN.drN)
        have U0_c := U0.cell
        have U0_f := U0.free
        have U0_l := U0.lt
        dsimp only at U0_l
        first
          | (replace U1 := Cl.below b5 U1)
          | (replace U1 := Cl.below b5 U1.al)
          | (replace U1 := Cl.below b5 U1.dr)
          | (replace U1 := Cl.below b5 U1.drN)
          | (replace U1 := Cl.below b5 U1.al.al)
          | (replace U1 := Cl.below b5 U1.al.dr)
          | (replace U1 := Cl.below b5 U1.al.drN)
          | (replace U1 := Cl.below b5 U1.dr.al)
          | (replace U1 := Cl.below b5 U1.dr.dr)
          | (replace U1 := Cl.below b5 U1.dr.drN)
          | (replace U1 := Cl.below b5 U1.drN.al)
          | (replace U1 := Cl.below b5 U1.drN.dr)
          | (replace U1 := Cl.below b5 U1.drN.drN)
          | (replace U1 := Cl.below b5 U1.al.al.al)
          | (replace U1 := Cl.below b5 U1.al.al.dr)
          | (replace U1 := Cl.below b5 U1.al.al.drN)
          | (replace U1 := Cl.below b5 U1.al.dr.al)
          | (replace U1 := Cl.below b5 U1.al.dr.dr)
          | (replace U1 := Cl.below b5 U1.al.dr.drN)
          | (replace U1 := Cl.below b5 U1.al.drN.al)
          | (replace U1 := Cl.below b5 U1.al.drN.dr)
          | (replace U1 := Cl.below b5 U1.al.drN.drN)
          | (replace U1 := Cl.below b5 U1.dr.al.al)
          | (replace U1 := Cl.below b5 U1.dr.al.dr)
          | (replace U1 := Cl.below b5 U1.dr.al.drN)
          | (replace U1 := Cl.below b5 U1.dr.dr.al)
          | (replace U1 := Cl.below b5 U1.dr.dr.dr)
          | (replace U1 := Cl.below b5 U1.dr.dr.drN)
          | (replace U1 := Cl.below b5 U1.dr.drN.al)
          | (replace U1 := Cl.below b5 U1.dr.drN.dr)
          | (replace U1 := Cl.below b5 U1.dr.drN.drN)
          | (replace U1 := Cl.below b5 U1.drN.al.al)
          | (replace U1 := Cl.below b5 U1.drN.al.dr)
          | (replace U1 := Cl.below b5 U1.drN.al.drN)
          | (replace U1 := Cl.below b5 U1.drN.dr.al)
          | (replace U1 := Cl.below b5 U1.drN.dr.dr)
          | (replace U1 := Cl.below b5 U1.drN.dr.drN)
          | (replace U1 := Cl.below b5 U1.drN.drN.al)
          | (replace U1 := Cl.below b5 U1.drN.drN.dr)
          | (replace U1 := Cl.below b5 U1.drN.drN.drN)
        have U1_c := U1.cell
        have U1_f := U1.free
        have U1_l := U1.lt
        dsimp only at U1_l
        first
          | (replace V0 := Cl.below b5 V0)
          | (replace V0 := Cl.below b5 V0.al)
          | (replace V0 := Cl.below b5 V0.dr)
          | (replace V0 := Cl.below b5 V0.drN)
          | (replace V0 := Cl.below b5 V0.al.al)
          | (replace V0 := Cl.below b5 V0.al.dr)
          | (replace V0 := Cl.below b5 V0.al.drN)
          | (replace V0 := Cl.below b5 V0.dr.al)
          | (replace V0 := Cl.below b5 V0.dr.dr)
          | (replace V0 := Cl.below b5 V0.dr.drN)
          | (replace V0 := Cl.below b5 V0.drN.al)
          | (replace V0 := Cl.below b5 V0.drN.dr)
          | (replace V0 := Cl.below b5 V0.drN.drN)
          | (replace V0 := Cl.below b5 V0.al.al.al)
          | (replace V0 := Cl.below b5 V0.al.al.dr)
          | (replace V0 := Cl.below b5 V0.al.al.drN)
          | (replace V0 := Cl.below b5 V0.al.dr.al)
          | (replace V0 := Cl.below b5 V0.al.dr.dr)
          | (replace V0 := Cl.below b5 V0.al.dr.drN)
          | (replace V0 := Cl.below b5 V0.al.drN.al)
          | (replace V0 := Cl.below b5 V0.al.drN.dr)
          | (replace V0 := Cl.below b5 V0.al.drN.drN)
          | (replace V0 := Cl.below b5 V0.dr.al.al)
          | (replace V0 := Cl.below b5 V0.dr.al.dr)
          | (replace V0 := Cl.below b5 V0.dr.al.drN)
          | (replace V0 := Cl.below b5 V0.dr.dr.al)
          | (replace V0 := Cl.below b5 V0.dr.dr.dr)
          | (replace V0 := Cl.below b5 V0.dr.dr.drN)
          | (replace V0 := Cl.below b5 V0.dr.drN.al)
          | (replace V0 := Cl.below b5 V0.dr.drN.dr)
          | (replace V0 := Cl.below b5 V0.dr.drN.drN)
          | (replace V0 := Cl.below b5 V0.drN.al.al)
          | (replace V0 := Cl.below b5 V0.drN.al.dr)
          | (replace V0 := Cl.below b5 V0.drN.al.drN)
          | (replace V0 := Cl.below b5 V0.drN.dr.al)
          | (replace V0 := Cl.below b5 V0.drN.dr.dr)
          | (replace V0 := Cl.below b5 V0.drN.dr.drN)
          | (replace V0 := Cl.below b5 V0.drN.drN.al)
          | (replace V0 := Cl.below b5 V0.drN.drN.dr)
          | (replace V0 := Cl.below b5 V0.drN.drN.drN)
        have V0_c := V0.cell
        have V0_f := V0.free
        have V0_l := V0.lt
        dsimp only at V0_l
        first
          | (replace V1 := Cl.below b5 V1)
          | (replace V1 := Cl.below b5 V1.al)
          | (replace V1 := Cl.below b5 V1.dr)
          | (replace V1 := Cl.below b5 V1.drN)
          | (replace V1 := Cl.below b5 V1.al.al)
          | (replace V1 := Cl.below b5 V1.al.dr)
          | (replace V1 := Cl.below b5 V1.al.drN)
          | (replace V1 := Cl.below b5 V1.dr.al)
          | (replace V1 := Cl.below b5 V1.dr.dr)
          | (replace V1 := Cl.below b5 V1.dr.drN)
          | (replace V1 := Cl.below b5 V1.drN.al)
          | (replace V1 := Cl.below b5 V1.drN.dr)
          | (replace V1 := Cl.below b5 V1.drN.drN)
          | (replace V1 := Cl.below b5 V1.al.al.al)
          | (replace V1 := Cl.below b5 V1.al.al.dr)
          | (replace V1 := Cl.below b5 V1.al.al.drN)
          | (replace V1 := Cl.below b5 V1.al.dr.al)
          | (replace V1 := Cl.below b5 V1.al.dr.dr)
          | (replace V1 := Cl.below b5 V1.al.dr.drN)
          | (replace V1 := Cl.below b5 V1.al.drN.al)
          | (replace V1 := Cl.below b5 V1.al.drN.dr)
          | (replace V1 := Cl.below b5 V1.al.drN.drN)
          | (replace V1 := Cl.below b5 V1.dr.al.al)
          | (replace V1 := Cl.below b5 V1.dr.al.dr)
          | (replace V1 := Cl.below b5 V1.dr.al.drN)
          | (replace V1 := Cl.below b5 V1.dr.dr.al)
          | (replace V1 := Cl.below b5 V1.dr.dr.dr)
          | (replace V1 := Cl.below b5 V1.dr.dr.drN)
          | (replace V1 := Cl.below b5 V1.dr.drN.al)
          | (replace V1 := Cl.below b5 V1.dr.drN.dr)
          | (replace V1 := Cl.below b5 V1.dr.drN.drN)
          | (replace V1 := Cl.below b5 V1.drN.al.al)
          | (replace V1 := Cl.below b5 V1.drN.al.dr)
          | (replace V1 := Cl.below b5 V1.drN.al.drN)
          | (replace V1 := Cl.below b5 V1.drN.dr.al)
          | (replace V1 := Cl.below b5 V1.drN.dr.dr)
          | (replace V1 := Cl.below b5 V1.drN.dr.drN)
          | (replace V1 := Cl.below b5 V1.drN.drN.al)
          | (replace V1 := Cl.below b5 V1.drN.drN.dr)
          | (replace V1 := Cl.below b5 V1.drN.drN.drN)
        have V1_c := V1.cell
        have V1_f := V1.free
        have V1_l := V1.lt
        dsimp only at V1_l
        go_wp2_with fail
        refine (disk_LoadI _ D1 o1 _ (hdc.out.below (by repeat (first | exact Below.refl _ _ | (with_reducible assumption) | refine below_alloc ?_ _ | refine pw_below_drewN ?_ _ | refine below_drew ?_ | refine Below.setCell ?_ (by dsimp only; omega) _ | refine below_step ?_ (by assumption)))) hRR.out y1 y2).mono ?_
        rintro e w6 ⟨rfl, b6⟩
        have sz6 := b6.size
        first
          | (replace U0 := Cl.below b6 U0)
          | (replace U0 := Cl.below b6 U0.al)
          | (replace U0 := Cl.below b6 U0.dr)
          | (replace U0 := Cl.below b6 U0.drN)
          | (replace U0 := Cl.below b6 U0.al.al)
          | (replace U0 := Cl.below b6 U0.al.dr)
          | (replace U0 := Cl.below b6 U0.al.drN)
          | (replace U0 := Cl.below b6 U0.dr.al)
          | (replace U0 := Cl.below b6 U0.dr.dr)
          | (replace U0 := Cl.below b6 U0.dr.drN)
          | (replace U0 := Cl.below b6 U0.drN.al)
          | (replace U0 := Cl.below b6 U0.drN.dr)
          | (replace U0 := Cl.below b6 U0.drN.drN)
          | (replace U0 := Cl.below b6 U0.al.al.al)
          | (replace U0 := Cl.below b6 U0.al.al.dr)
          | (replace U0 := Cl.below b6 U0.al.al.drN)
          | (replace U0 := Cl.below b6 U0.al.dr.al)
          | (replace U0 := Cl.below b6 U0.al.dr.dr)
          | (replace U0 := Cl.below b6 U0.al.dr.drN)
          | (replace U0 := Cl.below b6 U0.al.drN.al)
          | (replace U0 := Cl.below b6 U0.al.drN.dr)
          | (replace U0 := Cl.below b6 U0.al.drN.drN)
          | (replace U0 := Cl.below b6 U0.dr.al.al)
          | (replace U0 := Cl.below b6 U0.dr.al.dr)
          | (replace U0 := Cl.below b6 U0.dr.al.drN)
          | (replace U0 := Cl.below b6 U0.dr.dr.al)
          | (replace U0 := Cl.below b6 U0.dr.dr.dr)
          | (replace U0 := Cl.below b6 U0.dr.dr.drN)
          | (replace U0 := Cl.below b6 U0.dr.drN.al)
          | (replace U0 := Cl.below b6 U0.dr.drN.dr)
          | (replace U0 := Cl.below b6 U0.dr.drN.drN)
          | (replace U0 := Cl.below b6 U0.drN.al.al)
          | (replace U0 := Cl.below b6 U0.drN.al.dr)
          | (replace U0 := Cl.below b6 U0.drN.al.drN)
          | (replace U0 := Cl.below b6 U0.drN.dr.al)
          | (replace U0 := Cl.below b6 U0.drN.dr.dr)
          | (replace U0 := Cl.below b6 U0.drN.dr.drN)
          | (replace U0 := Cl.below b6 U0.drN.drN.al)
          | (replace U0 := Cl.below b6 U0.drN.drN.dr)
          | (replace U0 := Cl.below b6 U0.drN.drN.drN)
        have U0_c := U0.cell
        have U0_f := U0.free
        have U0_l := U0.lt
        dsimp only at U0_l
        first
          | (replace U1 := Cl.below b6 U1)
          | (replace U1 := Cl.below b6 U1.al)
          | (replace U1 := Cl.below b6 U1.dr)
          | (replace U1 := Cl.below b6 U1.drN)
          | (replace U1 := Cl.below b6 U1.al.al)
          | (replace U1 := Cl.below b6 U1.al.dr)
          | (replace U1 := Cl.below b6 U1.al.drN)
          | (replace U1 := Cl.below b6 U1.dr.al)
          | (replace U1 := Cl.below b6 U1.dr.dr)
          | (replace U1 := Cl.below b6 U1.dr.drN)
          | (replace U1 := Cl.below b6 U1.drN.al)
          | (replace U1 := Cl.below b6 U1.drN.dr)
          | (replace U1 := Cl.below b6 U1.drN.drN)
          | (replace U1 := Cl.below b6 U1.al.al.al)
          | (replace U1 := Cl.below b6 U1.al.al.dr)
          | (replace U1 := Cl.below b6 U1.al.al.drN)
          | (replace U1 := Cl.below b6 U1.al.dr.al)
          | (replace U1 := Cl.below b6 U1.al.dr.dr)
          | (replace U1 := Cl.below b6 U1.al.dr.drN)
          | (replace U1 := Cl.below b6 U1.al.drN.al)
          | (replace U1 := Cl.below b6 U1.al.drN.dr)
          | (replace U1 := Cl.below b6 U1.al.drN.drN)
          | (replace U1 := Cl.below b6 U1.dr.al.al)
          | (replace U1 := Cl.below b6 U1.dr.al.dr)
          | (replace U1 := Cl.below b6 U1.dr.al.drN)
          | (replace U1 := Cl.below b6 U1.dr.dr.al)
          | (replace U1 := Cl.below b6 U1.dr.dr.dr)
          | (replace U1 := Cl.below b6 U1.dr.dr.drN)
          | (replace U1 := Cl.below b6 U1.dr.drN.al)
          | (replace U1 := Cl.below b6 U1.dr.drN.dr)
          | (replace U1 := Cl.below b6 U1.dr.drN.drN)
          | (replace U1 := Cl.below b6 U1.drN.al.al)
          | (replace U1 := Cl.below b6 U1.drN.al.dr)
          | (replace U1 := Cl.below b6 U1.drN.al.drN)
          | (replace U1 := Cl.below b6 U1.drN.dr.al)
          | (replace U1 := Cl.below b6 U1.drN.dr.dr)
          | (replace U1 := Cl.below b6 U1.drN.dr.drN)
          | (replace U1 := Cl.below b6 U1.drN.drN.al)
          | (replace U1 := Cl.below b6 U1.drN.drN.dr)
          | (replace U1 := Cl.below b6 U1.drN.drN.drN)
        have U1_c := U1.cell
        have U1_f := U1.free
        have U1_l := U1.lt
        dsimp only at U1_l
        first
          | (replace V0 := Cl.below b6 V0)
          | (replace V0 := Cl.below b6 V0.al)
          | (replace V0 := Cl.below b6 V0.dr)
          | (replace V0 := Cl.below b6 V0.drN)
          | (replace V0 := Cl.below b6 V0.al.al)
          | (replace V0 := Cl.below b6 V0.al.dr)
          | (replace V0 := Cl.below b6 V0.al.drN)
          | (replace V0 := Cl.below b6 V0.dr.al)
          | (replace V0 := Cl.below b6 V0.dr.dr)
          | (replace V0 := Cl.below b6 V0.dr.drN)
          | (replace V0 := Cl.below b6 V0.drN.al)
          | (replace V0 := Cl.below b6 V0.drN.dr)
          | (replace V0 := Cl.below b6 V0.drN.drN)
          | (replace V0 := Cl.below b6 V0.al.al.al)
          | (replace V0 := Cl.below b6 V0.al.al.dr)
          | (replace V0 := Cl.below b6 V0.al.al.drN)
          | (replace V0 := Cl.below b6 V0.al.dr.al)
          | (replace V0 := Cl.below b6 V0.al.dr.dr)
          | (replace V0 := Cl.below b6 V0.al.dr.drN)
          | (replace V0 := Cl.below b6 V0.al.drN.al)
          | (replace V0 := Cl.below b6 V0.al.drN.dr)
          | (replace V0 := Cl.below b6 V0.al.drN.drN)
          | (replace V0 := Cl.below b6 V0.dr.al.al)
          | (replace V0 := Cl.below b6 V0.dr.al.dr)
          | (replace V0 := Cl.below b6 V0.dr.al.drN)
          | (replace V0 := Cl.below b6 V0.dr.dr.al)
          | (replace V0 := Cl.below b6 V0.dr.dr.dr)
          | (replace V0 := Cl.below b6 V0.dr.dr.drN)
          | (replace V0 := Cl.below b6 V0.dr.drN.al)
          | (replace V0 := Cl.below b6 V0.dr.drN.dr)
          | (replace V0 := Cl.below b6 V0.dr.drN.drN)
          | (replace V0 := Cl.below b6 V0.drN.al.al)
          | (replace V0 := Cl.below b6 V0.drN.al.dr)
          | (replace V0 := Cl.below b6 V0.drN.al.drN)
          | (replace V0 := Cl.below b6 V0.drN.dr.al)
          | (replace V0 := Cl.below b6 V0.drN.dr.dr)
          | (replace V0 := Cl.below b6 V0.drN.dr.drN)
          | (replace V0 := Cl.below b6 V0.drN.drN.al)
          | (replace V0 := Cl.below b6 V0.drN.drN.dr)
          | (replace V0 := Cl.below b6 V0.drN.drN.drN)
        have V0_c := V0.cell
        have V0_f := V0.free
        have V0_l := V0.lt
        dsimp only at V0_l
        first
          | (replace V1 := Cl.below b6 V1)
          | (replace V1 := Cl.below b6 V1.al)
          | (replace V1 := Cl.below b6 V1.dr)
          | (replace V1 := Cl.below b6 V1.drN)
          | (replace V1 := Cl.below b6 V1.al.al)
          | (replace V1 := Cl.below b6 V1.al.dr)
          | (replace V1 := Cl.below b6 V1.al.drN)
          | (replace V1 := Cl.below b6 V1.dr.al)
          | (replace V1 := Cl.below b6 V1.dr.dr)
          | (replace V1 := Cl.below b6 V1.dr.drN)
          | (replace V1 := Cl.below b6 V1.drN.al)
          | (replace V1 := Cl.below b6 V1.drN.dr)
          | (replace V1 := Cl.below b6 V1.drN.drN)
          | (replace V1 := Cl.below b6 V1.al.al.al)
          | (replace V1 := Cl.below b6 V1.al.al.dr)
          | (replace V1 := Cl.below b6 V1.al.al.drN)
          | (replace V1 := Cl.below b6 V1.al.dr.al)
          | (replace V1 := Cl.below b6 V1.al.dr.dr)
          | (replace V1 := Cl.below b6 V1.al.dr.drN)
          | (replace V1 := Cl.below b6 V1.al.drN.al)
          | (replace V1 := Cl.below b6 V1.al.drN.dr)
          | (replace V1 := Cl.below b6 V1.al.drN.drN)
          | (replace V1 := Cl.below b6 V1.dr.al.al)
          | (replace V1 := Cl.below b6 V1.dr.al.dr)
          | (replace V1 := Cl.below b6 V1.dr.al.drN)
          | (replace V1 := Cl.below b6 V1.dr.dr.al)
          | (replace V1 := Cl.below b6 V1.dr.dr.dr)
          | (replace V1 := Cl.below b6 V1.dr.dr.drN)
          | (replace V1 := Cl.below b6 V1.dr.drN.al)
          | (replace V1 := Cl.below b6 V1.dr.drN.dr)
          | (replace V1 := Cl.below b6 V1.dr.drN.drN)
          | (replace V1 := Cl.below b6 V1.drN.al.al)
          | (replace V1 := Cl.below b6 V1.drN.al.dr)
          | (replace V1 := Cl.below b6 V1.drN.al.drN)
          | (replace V1 := Cl.below b6 V1.drN.dr.al)
          | (replace V1 := Cl.below b6 V1.drN.dr.dr)
          | (replace V1 := Cl.below b6 V1.drN.dr.drN)
          | (replace V1 := Cl.below b6 V1.drN.drN.al)
          | (replace V1 := Cl.below b6 V1.drN.drN.dr)
          | (replace V1 := Cl.below b6 V1.drN.drN.drN)
        have V1_c := V1.cell
        have V1_f := V1.free
        have V1_l := V1.lt
        dsimp only at V1_l
        go_wp2_with fail
        refine (disk_LoadI _ X o1 _ (hdX.out.below (by repeat (first | exact Below.refl _ _ | (with_reducible assumption) | refine below_alloc ?_ _ | refine pw_below_drewN ?_ _ | refine below_drew ?_ | refine Below.setCell ?_ (by dsimp only; omega) _ | refine below_step ?_ (by assumption)))) hXR.out y1 y2').mono ?_
        rintro e w7 ⟨rfl, b7⟩
        have sz7 := b7.size
        first
          | (replace U0 := Cl.below b7 U0)
          | (replace U0 := Cl.below b7 U0.al)
          | (replace U0 := Cl.below b7 U0.dr)
          | (replace U0 := Cl.below b7 U0.drN)
          | (replace U0 := Cl.below b7 U0.al.al)
          | (replace U0 := Cl.below b7 U0.al.dr)
          | (replace U0 := Cl.below b7 U0.al.drN)
          | (replace U0 := Cl.below b7 U0.dr.al)
          | (replace U0 := Cl.below b7 U0.dr.dr)
          | (replace U0 := Cl.below b7 U0.dr.drN)
          | (replace U0 := Cl.below b7 U0.drN.al)
          | (replace U0 := Cl.below b7 U0.drN.dr)
          | (replace U0 := Cl.below b7 U0.drN.drN)
          | (replace U0 := Cl.below b7 U0.al.al.al)
          | (replace U0 := Cl.below b7 U0.al.al.dr)
          | (replace U0 := Cl.below b7 U0.al.al.drN)
          | (replace U0 := Cl.below b7 U0.al.dr.al)
          | (replace U0 := Cl.below b7 U0.al.dr.dr)
          | (replace U0 := Cl.below b7 U0.al.dr.drN)
          | (replace U0 := Cl.below b7 U0.al.drN.al)
          | (replace U0 := Cl.below b7 U0.al.drN.dr)
          | (replace U0 := Cl.below b7 U0.al.drN.drN)
          | (replace U0 := Cl.below b7 U0.dr.al.al)
          | (replace U0 := Cl.below b7 U0.dr.al.dr)
          | (replace U0 := Cl.below b7 U0.dr.al.drN)
          | (replace U0 := Cl.below b7 U0.dr.dr.al)
          | (replace U0 := Cl.below b7 U0.dr.dr.dr)
          | (replace U0 := Cl.below b7 U0.dr.dr.drN)
          | (replace U0 := Cl.below b7 U0.dr.drN.al)
          | (replace U0 := Cl.below b7 U0.dr.drN.dr)
          | (replace U0 := Cl.below b7 U0.dr.drN.drN)
          | (replace U0 := Cl.below b7 U0.drN.al.al)
          | (replace U0 := Cl.below b7 U0.drN.al.dr)
          | (replace U0 := Cl.below b7 U0.drN.al.drN)
          | (replace U0 := Cl.below b7 U0.drN.dr.al)
          | (replace U0 := Cl.below b7 U0.drN.dr.dr)
          | (replace U0 := Cl.below b7 U0.drN.dr.drN)
          | (replace U0 := Cl.below b7 U0.drN.drN.al)
          | (replace U0 := Cl.below b7 U0.drN.drN.dr)
          | (replace U0 := Cl.below b7 U0.drN.drN.drN)
        have U0_c := U0.cell
        have U0_f := U0.free
        have U0_l := U0.lt
        dsimp only at U0_l
        first
          | (replace U1 := Cl.below b7 U1)
          | (replace U1 := Cl.below b7 U1.al)
          | (replace U1 := Cl.below b7 U1.dr)
          | (replace U1 := Cl.below b7 U1.drN)
          | (replace U1 := Cl.below b7 U1.al.al)
          | (replace U1 := Cl.below b7 U1.al.dr)
          | (replace U1 := Cl.below b7 U1.al.drN)
          | (replace U1 := Cl.below b7 U1.dr.al)
          | (replace U1 := Cl.below b7 U1.dr.dr)
          | (replace U1 := Cl.below b7 U1.dr.drN)
          | (replace U1 := Cl.below b7 U1.drN.al)
          | (replace U1 := Cl.below b7 U1.drN.dr)
          | (replace U1 := Cl.below b7 U1.drN.drN)
          | (replace U1 := Cl.below b7 U1.al.al.al)
          | (replace U1 := Cl.below b7 U1.al.al.dr)
          | (replace U1 := Cl.below b7 U1.al.al.drN)
          | (replace U1 := Cl.below b7 U1.al.dr.al)
          | (replace U1 := Cl.below b7 U1.al.dr.dr)
          | (replace U1 := Cl.below b7 U1.al.dr.drN)
          | (replace U1 := Cl.below b7 U1.al.drN.al)
          | (replace U1 := Cl.below b7 U1.al.drN.dr)
          | (replace U1 := Cl.below b7 U1.al.drN.drN)
          | (replace U1 := Cl.below b7 U1.dr.al.al)
          | (replace U1 := Cl.below b7 U1.dr.al.dr)
          | (replace U1 := Cl.below b7 U1.dr.al.drN)
          | (replace U1 := Cl.below b7 U1.dr.dr.al)
          | (replace U1 := Cl.below b7 U1.dr.dr.dr)
          | (replace U1 := Cl.below b7 U1.dr.dr.drN)
          | (replace U1 := Cl.below b7 U1.dr.drN.al)
          | (replace U1 := Cl.below b7 U1.dr.drN.dr)
          | (replace U1 := Cl.below b7 U1.dr.drN.drN)
          | (replace U1 := Cl.below b7 U1.drN.al.al)
          | (replace U1 := Cl.below b7 U1.drN.al.dr)
          | (replace U1 := Cl.below b7 U1.drN.al.drN)
          | (replace U1 := Cl.below b7 U1.drN.dr.al)
          | (replace U1 := Cl.below b7 U1.drN.dr.dr)
          | (replace U1 := Cl.below b7 U1.drN.dr.drN)
          | (replace U1 := Cl.below b7 U1.drN.drN.al)
          | (replace U1 := Cl.below b7 U1.drN.drN.dr)
          | (replace U1 := Cl.below b7 U1.drN.drN.drN)
        have U1_c := U1.cell
        have U1_f := U1.free
        have U1_l := U1.lt
        dsimp only at U1_l
        first
          | (replace V0 := Cl.below b7 V0)
          | (replace V0 := Cl.below b7 V0.al)
          | (replace V0 := Cl.below b7 V0.dr)
          | (replace V0 := Cl.below b7 V0.drN)
          | (replace V0 := Cl.below b7 V0.al.al)
          | (replace V0 := Cl.below b7 V0.al.dr)
          | (replace V0 := Cl.below b7 V0.al.drN)
          | (replace V0 := Cl.below b7 V0.dr.al)
          | (replace V0 := Cl.below b7 V0.dr.dr)
          | (replace V0 := Cl.below b7 V0.dr.drN)
          | (replace V0 := Cl.below b7 V0.drN.al)
          | (replace V0 := Cl.below b7 V0.drN.dr)
          | (replace V0 := Cl.below b7 V0.drN.drN)
          | (replace V0 := Cl.below b7 V0.al.al.al)
          | (replace V0 := Cl.below b7 V0.al.al.dr)
          | (replace V0 := Cl.below b7 V0.al.al.drN)
          | (replace V0 := Cl.below b7 V0.al.dr.al)
          | (replace V0 := Cl.below b7 V0.al.dr.dr)
          | (replace V0 := Cl.below b7 V0.al.dr.drN)
          | (replace V0 := Cl.below b7 V0.al.drN.al)
          | (replace V0 := Cl.below b7 V0.al.drN.dr)
          | (replace V0 := Cl.below b7 V0.al.drN.drN)
          | (replace V0 := Cl.below b7 V0.dr.al.al)
          | (replace V0 := Cl.below b7 V0.dr.al.dr)
          | (replace V0 := Cl.below b7 V0.dr.al.drN)
          | (replace V0 := Cl.below b7 V0.dr.dr.al)
          | (replace V0 := Cl.below b7 V0.dr.dr.dr)
          | (replace V0 := Cl.below b7 V0.dr.dr.drN)
          | (replace V0 := Cl.below b7 V0.dr.drN.al)
          | (replace V0 := Cl.below b7 V0.dr.drN.dr)
          | (replace V0 := Cl.below b7 V0.dr.drN.drN)
          | (replace V0 := Cl.below b7 V0.drN.al.al)
          | (replace V0 := Cl.below b7 V0.drN.al.dr)
          | (replace V0 := Cl.below b7 V0.drN.al.drN)
          | (replace V0 := Cl.below b7 V0.drN.dr.al)
          | (replace V0 := Cl.below b7 V0.drN.dr.dr)
          | (replace V0 := Cl.below b7 V0.drN.dr.drN)
          | (replace V0 := Cl.below b7 V0.drN.drN.al)
          | (replace V0 := Cl.below b7 V0.drN.drN.dr)
          | (replace V0 := Cl.below b7 V0.drN.drN.drN)
        have V0_c := V0.cell
        have V0_f := V0.free
        have V0_l := V0.lt
        dsimp only at V0_l
        first
          | (replace V1 := Cl.below b7 V1)
          | (replace V1 := Cl.below b7 V1.al)
          | (replace V1 := Cl.below b7 V1.dr)
          | (replace V1 := Cl.below b7 V1.drN)
          | (replace V1 := Cl.below b7 V1.al.al)
          | (replace V1 := Cl.below b7 V1.al.dr)
          | (replace V1 := Cl.below b7 V1.al.drN)
          | (replace V1 := Cl.below b7 V1.dr.al)
          | (replace V1 := Cl.below b7 V1.dr.dr)
          | (replace V1 := Cl.below b7 V1.dr.drN)
          | (replace V1 := Cl.below b7 V1.drN.al)
          | (replace V1 := Cl.below b7 V1.drN.dr)
          | (replace V1 := Cl.below b7 V1.drN.drN)
          | (replace V1 := Cl.below b7 V1.al.al.al)
          | (replace V1 := Cl.below b7 V1.al.al.dr)
          | (replace V1 := Cl.below b7 V1.al.al.drN)
          | (replace V1 := Cl.below b7 V1.al.dr.al)
          | (replace V1 := Cl.below b7 V1.al.dr.dr)
          | (replace V1 := Cl.below b7 V1.al.dr.drN)
          | (replace V1 := Cl.below b7 V1.al.drN.al)
          | (replace V1 := Cl.below b7 V1.al.drN.dr)
          | (replace V1 := Cl.below b7 V1.al.drN.drN)
          | (replace V1 := Cl.below b7 V1.dr.al.al)
          | (replace V1 := Cl.below b7 V1.dr.al.dr)
          | (replace V1 := Cl.below b7 V1.dr.al.drN)
          | (replace V1 := Cl.below b7 V1.dr.dr.al)
          | (replace V1 := Cl.below b7 V1.dr.dr.dr)
          | (replace V1 := Cl.below b7 V1.dr.dr.drN)
          | (replace V1 := Cl.below b7 V1.dr.drN.al)
          | (replace V1 := Cl.below b7 V1.dr.drN.dr)
          | (replace V1 := Cl.below b7 V1.dr.drN.drN)
          | (replace V1 := Cl.below b7 V1.drN.al.al)
          | (replace V1 := Cl.below b7 V1.drN.al.dr)
          | (replace V1 := Cl.below b7 V1.drN.al.drN)
          | (replace V1 := Cl.below b7 V1.drN.dr.al)
          | (replace V1 := Cl.below b7 V1.drN.dr.dr)
          | (replace V1 := Cl.below b7 V1.drN.dr.drN)
          | (replace V1 := Cl.below b7 V1.drN.drN.al)
          | (replace V1 := Cl.below b7 V1.drN.drN.dr)
          | (replace V1 := Cl.below b7 V1.drN.drN.drN)
        have V1_c := V1.cell
        have V1_f := V1.free
        have V1_l := V1.lt
        dsimp only at V1_l
        obtain ⟨Y, hY⟩ : ∃ Y : SD, Y = ⟨endsTo (fun _ => 1) X.f0 X.f1 X.f1.length, []⟩ := ⟨_, rfl⟩
        have hYR := hid (show rightD Y = true by rw [hY]; exact rightD_ends _ hXR.out)
        have hsY := hid (show flushD X = (Y, 0) by rw [hY]; exact flushD_ok hXR.out)
        have hsY2 := hid (show flushD Y = (Y, 0) by rw [flushD_ok hYR.out, hY]; rfl)
        have hsY3 := hid (show crashD Y fs = (Y, 0) by rw [crashD_ok _ hYR.out, hY]; rfl)
        clear hY
        go_wp2_with fail
        refine Calls.mono (disk_Flush (fun _ => False) _ X _ (fun _ h => h.elim) (St.start fun w9 hb9 => (hdX.out.below (by repeat (first | exact Below.refl _ _ | (with_reducible assumption) | refine below_alloc ?_ _ | refine pw_below_drewN ?_ _ | refine below_drew ?_ | refine Below.setCell ?_ (by dsimp only; omega) _ | refine below_step ?_ (by assumption)))).below hb9)) ?_
        rintro e w8 ⟨⟨r8, rfl, d8⟩, b8⟩
        rw [hsY.out] at d8
        rw [hsY.out]
        have sz8 := b8.size
        obtain ⟨G0, j0, G1, j1, rfl, n0, _, _, n1, _, _⟩ := VDisk.open d8
        replace d8 := hid d8.now
        go_wp2_with fail
        refine Calls.mono (disk_Flush (fun _ => False) _ Y _ (fun _ h => h.elim) (St.start fun w9 hb9 => (d8.out.below (show Below w8.heap.size w8 _ from (by repeat (first | exact Below.refl _ _ | (with_reducible assumption) | refine below_alloc ?_ _ | refine pw_below_drewN ?_ _ | refine below_drew ?_ | refine Below.setCell ?_ (by dsimp only; omega) _ | refine below_step ?_ (by assumption))))).below hb9)) ?_
        rintro e w9 ⟨⟨r9, rfl, d9⟩, b9⟩
        rw [hsY2.out] at d9
        rw [hsY2.out]
        have sz9 := b9.size
        simp only [World.size_alloc] at sz9
        have P0 := Cl.below b9 (Cl.new (j := 0) rfl)
        have P1 := Cl.below b9 (Cl.new (j := 1) rfl)
        have P0_c := P0.cell
        have P1_c := P1.cell
        have P0_l := P0.lt
        dsimp only at P0_l
        obtain ⟨H0, p0', H1, p1', rfl, _, _, _, _, _, _⟩ := VDisk.open d9
        replace d9 := hid d9.now
        go_wp2_with fail
        refine Calls.mono (disk_Crash (fun _ => False) _ Y F ef fs _ (fun _ h => h.elim) (St.start fun w9 hb9 => (d8.out.below (show Below w8.heap.size w8 _ from (by repeat (first | exact Below.refl _ _ | (with_reducible assumption) | refine below_alloc ?_ _ | refine pw_below_drewN ?_ _ | refine below_drew ?_ | refine Below.setCell ?_ (by dsimp only; omega) _ | refine below_step ?_ (by assumption))))).below hb9) (Kd.C_below hFc.out (show Below wc.heap.size wc _ from (by repeat (first | exact Below.refl _ _ | (with_reducible assumption) | refine below_alloc ?_ _ | refine pw_below_drewN ?_ _ | refine below_drew ?_ | refine Below.setCell ?_ (by dsimp only; omega) _ | refine below_step ?_ (by assumption))))) lf) ?_
        rintro e w10 ⟨⟨r10, rfl, d10⟩, b10⟩
        rw [hsY3.out] at d10
        rw [hsY3.out]
        have sz10 := b10.size
        simp only [World.size_alloc] at sz10
        first
          | (replace P0 := Cl.below b10 P0)
          | (replace P0 := Cl.below b10 P0.al)
          | (replace P0 := Cl.below b10 P0.dr)
          | (replace P0 := Cl.below b10 P0.drN)
          | (replace P0 := Cl.below b10 P0.al.al)
          | (replace P0 := Cl.below b10 P0.al.dr)
          | (replace P0 := Cl.below b10 P0.al.drN)
          | (replace P0 := Cl.below b10 P0.dr.al)
          | (replace P0 := Cl.below b10 P0.dr.dr)
          | (replace P0 := Cl.below b10 P0.dr.drN)
          | (replace P0 := Cl.below b10 P0.drN.al)
          | (replace P0 := Cl.below b10 P0.drN.dr)
          | (replace P0 := Cl.below b10 P0.drN.drN)
          | (replace P0 := Cl.below b10 P0.al.al.al)
          | (replace P0 := Cl.below b10 P0.al.al.dr)
          | (replace P0 := Cl.below b10 P0.al.al.drN)
          | (replace P0 := Cl.below b10 P0.al.dr.al)
          | (replace P0 := Cl.below b10 P0.al.dr.dr)
          | (replace P0 := Cl.below b10 P0.al.dr.drN)
          | (replace P0 := Cl.below b10 P0.al.drN.al)
          | (replace P0 := Cl.below b10 P0.al.drN.dr)
          | (replace P0 := Cl.below b10 P0.al.drN.drN)
          | (replace P0 := Cl.below b10 P0.dr.al.al)
          | (replace P0 := Cl.below b10 P0.dr.al.dr)
          | (replace P0 := Cl.below b10 P0.dr.al.drN)
          | (replace P0 := Cl.below b10 P0.dr.dr.al)
          | (replace P0 := Cl.below b10 P0.dr.dr.dr)
          | (replace P0 := Cl.below b10 P0.dr.dr.drN)
          | (replace P0 := Cl.below b10 P0.dr.drN.al)
          | (replace P0 := Cl.below b10 P0.dr.drN.dr)
          | (replace P0 := Cl.below b10 P0.dr.drN.drN)
          | (replace P0 := Cl.below b10 P0.drN.al.al)
          | (replace P0 := Cl.below b10 P0.drN.al.dr)
          | (replace P0 := Cl.below b10 P0.drN.al.drN)
          | (replace P0 := Cl.below b10 P0.drN.dr.al)
          | (replace P0 := Cl.below b10 P0.drN.dr.dr)
          | (replace P0 := Cl.below b10 P0.drN.dr.drN)
          | (replace P0 := Cl.below b10 P0.drN.drN.al)
          | (replace P0 := Cl.below b10 P0.drN.drN.dr)
          | (replace P0 := Cl.below b10 P0.drN.drN.drN)
        have P0_c := P0.cell
        have P0_f := P0.free
        have P0_l := P0.lt
        dsimp only at P0_l
        first
          | (replace P1 := Cl.below b10 P1)
          | (replace P1 := Cl.below b10 P1.al)
          | (replace P1 := Cl.below b10 P1.dr)
          | (replace P1 := Cl.below b10 P1.drN)
          | (replace P1 := Cl.below b10 P1.al.al)
          | (replace P1 := Cl.below b10 P1.al.dr)
          | (replace P1 := Cl.below b10 P1.al.drN)
          | (replace P1 := Cl.below b10 P1.dr.al)
          | (replace P1 := Cl.below b10 P1.dr.dr)
          | (replace P1 := Cl.below b10 P1.dr.drN)
          | (replace P1 := Cl.below b10 P1.drN.al)
          | (replace P1 := Cl.below b10 P1.drN.dr)
          | (replace P1 := Cl.below b10 P1.drN.drN)
          | (replace P1 := Cl.below b10 P1.al.al.al)
          | (replace P1 := Cl.below b10 P1.al.al.dr)
          | (replace P1 := Cl.below b10 P1.al.al.drN)
          | (replace P1 := Cl.below b10 P1.al.dr.al)
          | (replace P1 := Cl.below b10 P1.al.dr.dr)
          | (replace P1 := Cl.below b10 P1.al.dr.drN)
          | (replace P1 := Cl.below b10 P1.al.drN.al)
          | (replace P1 := Cl.below b10 P1.al.drN.dr)
          | (replace P1 := Cl.below b10 P1.al.drN.drN)
          | (replace P1 := Cl.below b10 P1.dr.al.al)
          | (replace P1 := Cl.below b10 P1.dr.al.dr)
          | (replace P1 := Cl.below b10 P1.dr.al.drN)
          | (replace P1 := Cl.below b10 P1.dr.dr.al)
          | (replace P1 := Cl.below b10 P1.dr.dr.dr)
          | (replace P1 := Cl.below b10 P1.dr.dr.drN)
          | (replace P1 := Cl.below b10 P1.dr.drN.al)
          | (replace P1 := Cl.below b10 P1.dr.drN.dr)
          | (replace P1 := Cl.below b10 P1.dr.drN.drN)
          | (replace P1 := Cl.below b10 P1.drN.al.al)
          | (replace P1 := Cl.below b10 P1.drN.al.dr)
          | (replace P1 := Cl.below b10 P1.drN.al.drN)
          | (replace P1 := Cl.below b10 P1.drN.dr.al)
          | (replace P1 := Cl.below b10 P1.drN.dr.dr)
          | (replace P1 := Cl.below b10 P1.drN.dr.drN)
          | (replace P1 := Cl.below b10 P1.drN.drN.al)
          | (replace P1 := Cl.below b10 P1.drN.drN.dr)
          | (replace P1 := Cl.below b10 P1.drN.drN.drN)
        have P1_c := P1.cell
        have P1_f := P1.free
        have P1_l := P1.lt
        dsimp only at P1_l
        have Q0 := Cl.below b10 (Cl.new (j := 0) rfl)
        have Q1 := Cl.below b10 (Cl.new (j := 1) rfl)
        obtain ⟨I0, s0', I1, s1', rfl, _, _, _, _, _, _⟩ := VDisk.open d10
        replace d10 := hid d10.now
        go_wp2_with fail
        refine (law_alive _).mono ?_
        rintro e w11 ⟨rfl, b11⟩
        have sz11 := b11.size
        simp only [World.size_alloc] at sz11
        first
          | (replace P0 := Cl.below b11 P0)
          | (replace P0 := Cl.below b11 P0.al)
          | (replace P0 := Cl.below b11 P0.dr)
          | (replace P0 := Cl.below b11 P0.drN)
          | (replace P0 := Cl.below b11 P0.al.al)
          | (replace P0 := Cl.below b11 P0.al.dr)
          | (replace P0 := Cl.below b11 P0.al.drN)
          | (replace P0 := Cl.below b11 P0.dr.al)
          | (replace P0 := Cl.below b11 P0.dr.dr)
          | (replace P0 := Cl.below b11 P0.dr.drN)
          | (replace P0 := Cl.below b11 P0.drN.al)
          | (replace P0 := Cl.below b11 P0.drN.dr)
          | (replace P0 := Cl.below b11 P0.drN.drN)
          | (replace P0 := Cl.below b11 P0.al.al.al)
          | (replace P0 := Cl.below b11 P0.al.al.dr)
          | (replace P0 := Cl.below b11 P0.al.al.drN)
          | (replace P0 := Cl.below b11 P0.al.dr.al)
          | (replace P0 := Cl.below b11 P0.al.dr.dr)
          | (replace P0 := Cl.below b11 P0.al.dr.drN)
          | (replace P0 := Cl.below b11 P0.al.drN.al)
          | (replace P0 := Cl.below b11 P0.al.drN.dr)
          | (replace P0 := Cl.below b11 P0.al.drN.drN)
          | (replace P0 := Cl.below b11 P0.dr.al.al)
          | (replace P0 := Cl.below b11 P0.dr.al.dr)
          | (replace P0 := Cl.below b11 P0.dr.al.drN)
          | (replace P0 := Cl.below b11 P0.dr.dr.al)
          | (replace P0 := Cl.below b11 P0.dr.dr.dr)
          | (replace P0 := Cl.below b11 P0.dr.dr.drN)
          | (replace P0 := Cl.below b11 P0.dr.drN.al)
          | (replace P0 := Cl.below b11 P0.dr.drN.dr)
          | (replace P0 := Cl.below b11 P0.dr.drN.drN)
          | (replace P0 := Cl.below b11 P0.drN.al.al)
          | (replace P0 := Cl.below b11 P0.drN.al.dr)
          | (replace P0 := Cl.below b11 P0.drN.al.drN)
          | (replace P0 := Cl.below b11 P0.drN.dr.al)
          | (replace P0 := Cl.below b11 P0.drN.dr.dr)
          | (replace P0 := Cl.below b11 P0.drN.dr.drN)
          | (replace P0 := Cl.below b11 P0.drN.drN.al)
          | (replace P0 := Cl.below b11 P0.drN.drN.dr)
          | (replace P0 := Cl.below b11 P0.drN.drN.drN)
        have P0_c := P0.cell
        have P0_f := P0.free
        have P0_l := P0.lt
        dsimp only at P0_l
        first
          | (replace P1 := Cl.below b11 P1)
          | (replace P1 := Cl.below b11 P1.al)
          | (replace P1 := Cl.below b11 P1.dr)
          | (replace P1 := Cl.below b11 P1.drN)
          | (replace P1 := Cl.below b11 P1.al.al)
          | (replace P1 := Cl.below b11 P1.al.dr)
          | (replace P1 := Cl.below b11 P1.al.drN)
          | (replace P1 := Cl.below b11 P1.dr.al)
          | (replace P1 := Cl.below b11 P1.dr.dr)
          | (replace P1 := Cl.below b11 P1.dr.drN)
          | (replace P1 := Cl.below b11 P1.drN.al)
          | (replace P1 := Cl.below b11 P1.drN.dr)
          | (replace P1 := Cl.below b11 P1.drN.drN)
          | (replace P1 := Cl.below b11 P1.al.al.al)
          | (replace P1 := Cl.below b11 P1.al.al.dr)
          | (replace P1 := Cl.below b11 P1.al.al.drN)
          | (replace P1 := Cl.below b11 P1.al.dr.al)
          | (replace P1 := Cl.below b11 P1.al.dr.dr)
          | (replace P1 := Cl.below b11 P1.al.dr.drN)
          | (replace P1 := Cl.below b11 P1.al.drN.al)
          | (replace P1 := Cl.below b11 P1.al.drN.dr)
          | (replace P1 := Cl.below b11 P1.al.drN.drN)
          | (replace P1 := Cl.below b11 P1.dr.al.al)
          | (replace P1 := Cl.below b11 P1.dr.al.dr)
          | (replace P1 := Cl.below b11 P1.dr.al.drN)
          | (replace P1 := Cl.below b11 P1.dr.dr.al)
          | (replace P1 := Cl.below b11 P1.dr.dr.dr)
          | (replace P1 := Cl.below b11 P1.dr.dr.drN)
          | (replace P1 := Cl.below b11 P1.dr.drN.al)
          | (replace P1 := Cl.below b11 P1.dr.drN.dr)
          | (replace P1 := Cl.below b11 P1.dr.drN.drN)
          | (replace P1 := Cl.below b11 P1.drN.al.al)
          | (replace P1 := Cl.below b11 P1.drN.al.dr)
          | (replace P1 := Cl.below b11 P1.drN.al.drN)
          | (replace P1 := Cl.below b11 P1.drN.dr.al)
          | (replace P1 := Cl.below b11 P1.drN.dr.dr)
          | (replace P1 := Cl.below b11 P1.drN.dr.drN)
          | (replace P1 := Cl.below b11 P1.drN.drN.al)
          | (replace P1 := Cl.below b11 P1.drN.drN.dr)
          | (replace P1 := Cl.below b11 P1.drN.drN.drN)
        have P1_c := P1.cell
        have P1_f := P1.free
        have P1_l := P1.lt
        dsimp only at P1_l
        first
          | (replace Q0 := Cl.below b11 Q0)
          | (replace Q0 := Cl.below b11 Q0.al)
          | (replace Q0 := Cl.below b11 Q0.dr)
          | (replace Q0 := Cl.below b11 Q0.drN)
          | (replace Q0 := Cl.below b11 Q0.al.al)
          | (replace Q0 := Cl.below b11 Q0.al.dr)
          | (replace Q0 := Cl.below b11 Q0.al.drN)
          | (replace Q0 := Cl.below b11 Q0.dr.al)
          | (replace Q0 := Cl.below b11 Q0.dr.dr)
          | (replace Q0 := Cl.below b11 Q0.dr.drN)
          | (replace Q0 := Cl.below b11 Q0.drN.al)
          | (replace Q0 := Cl.below b11 Q0.drN.dr)
          | (replace Q0 := Cl.below b11 Q0.drN.drN)
          | (replace Q0 := Cl.below b11 Q0.al.al.al)
          | (replace Q0 := Cl.below b11 Q0.al.al.dr)
          | (replace Q0 := Cl.below b11 Q0.al.al.drN)
          | (replace Q0 := Cl.below b11 Q0.al.dr.al)
          | (replace Q0 := Cl.below b11 Q0.al.dr.dr)
          | (replace Q0 := Cl.below b11 Q0.al.dr.drN)
          | (replace Q0 := Cl.below b11 Q0.al.drN.al)
          | (replace Q0 := Cl.below b11 Q0.al.drN.dr)
          | (replace Q0 := Cl.below b11 Q0.al.drN.drN)
          | (replace Q0 := Cl.below b11 Q0.dr.al.al)
          | (replace Q0 := Cl.below b11 Q0.dr.al.dr)
          | (replace Q0 := Cl.below b11 Q0.dr.al.drN)
          | (replace Q0 := Cl.below b11 Q0.dr.dr.al)
          | (replace Q0 := Cl.below b11 Q0.dr.dr.dr)
          | (replace Q0 := Cl.below b11 Q0.dr.dr.drN)
          | (replace Q0 := Cl.below b11 Q0.dr.drN.al)
          | (replace Q0 := Cl.below b11 Q0.dr.drN.dr)
          | (replace Q0 := Cl.below b11 Q0.dr.drN.drN)
          | (replace Q0 := Cl.below b11 Q0.drN.al.al)
          | (replace Q0 := Cl.below b11 Q0.drN.al.dr)
          | (replace Q0 := Cl.below b11 Q0.drN.al.drN)
          | (replace Q0 := Cl.below b11 Q0.drN.dr.al)
          | (replace Q0 := Cl.below b11 Q0.drN.dr.dr)
          | (replace Q0 := Cl.below b11 Q0.drN.dr.drN)
          | (replace Q0 := Cl.below b11 Q0.drN.drN.al)
          | (replace Q0 := Cl.below b11 Q0.drN.drN.dr)
          | (replace Q0 := Cl.below b11 Q0.drN.drN.drN)
        have Q0_c := Q0.cell
        have Q0_f := Q0.free
        have Q0_l := Q0.lt
        dsimp only at Q0_l
        first
          | (replace Q1 := Cl.below b11 Q1)
          | (replace Q1 := Cl.below b11 Q1.al)
          | (replace Q1 := Cl.below b11 Q1.dr)
          | (replace Q1 := Cl.below b11 Q1.drN)
          | (replace Q1 := Cl.below b11 Q1.al.al)
          | (replace Q1 := Cl.below b11 Q1.al.dr)
          | (replace Q1 := Cl.below b11 Q1.al.drN)
          | (replace Q1 := Cl.below b11 Q1.dr.al)
          | (replace Q1 := Cl.below b11 Q1.dr.dr)
          | (replace Q1 := Cl.below b11 Q1.dr.drN)
          | (replace Q1 := Cl.below b11 Q1.drN.al)
          | (replace Q1 := Cl.below b11 Q1.drN.dr)
          | (replace Q1 := Cl.below b11 Q1.drN.drN)
          | (replace Q1 := Cl.below b11 Q1.al.al.al)
          | (replace Q1 := Cl.below b11 Q1.al.al.dr)
          | (replace Q1 := Cl.below b11 Q1.al.al.drN)
          | (replace Q1 := Cl.below b11 Q1.al.dr.al)
          | (replace Q1 := Cl.below b11 Q1.al.dr.dr)
          | (replace Q1 := Cl.below b11 Q1.al.dr.drN)
          | (replace Q1 := Cl.below b11 Q1.al.drN.al)
          | (replace Q1 := Cl.below b11 Q1.al.drN.dr)
          | (replace Q1 := Cl.below b11 Q1.al.drN.drN)
          | (replace Q1 := Cl.below b11 Q1.dr.al.al)
          | (replace Q1 := Cl.below b11 Q1.dr.al.dr)
          | (replace Q1 := Cl.below b11 Q1.dr.al.drN)
          | (replace Q1 := Cl.below b11 Q1.dr.dr.al)
          | (replace Q1 := Cl.below b11 Q1.dr.dr.dr)
          | (replace Q1 := Cl.below b11 Q1.dr.dr.drN)
          | (replace Q1 := Cl.below b11 Q1.dr.drN.al)
          | (replace Q1 := Cl.below b11 Q1.dr.drN.dr)
          | (replace Q1 := Cl.below b11 Q1.dr.drN.drN)
          | (replace Q1 := Cl.below b11 Q1.drN.al.al)
          | (replace Q1 := Cl.below b11 Q1.drN.al.dr)
          | (replace Q1 := Cl.below b11 Q1.drN.al.drN)
          | (replace Q1 := Cl.below b11 Q1.drN.dr.al)
          | (replace Q1 := Cl.below b11 Q1.drN.dr.dr)
          | (replace Q1 := Cl.below b11 Q1.drN.dr.drN)
          | (replace Q1 := Cl.below b11 Q1.drN.drN.al)
          | (replace Q1 := Cl.below b11 Q1.drN.drN.dr)
          | (replace Q1 := Cl.below b11 Q1.drN.drN.drN)
        have Q1_c := Q1.cell
        have Q1_f := Q1.free
        have Q1_l := Q1.lt
        dsimp only at Q1_l
        have R0 := Cl.below b11 (Cl.new (j := 0) rfl)
        have R1 := Cl.below b11 (Cl.new (j := 1) rfl)
        go_wp2_with fail
        refine (law_sector c c0 c1 _).mono ?_
        rintro e w12 ⟨rfl, b12⟩
        have sz12 := b12.size
        first
          | (replace P0 := Cl.below b12 P0)
          | (replace P0 := Cl.below b12 P0.al)
          | (replace P0 := Cl.below b12 P0.dr)
          | (replace P0 := Cl.below b12 P0.drN)
          | (replace P0 := Cl.below b12 P0.al.al)
          | (replace P0 := Cl.below b12 P0.al.dr)
          | (replace P0 := Cl.below b12 P0.al.drN)
          | (replace P0 := Cl.below b12 P0.dr.al)
          | (replace P0 := Cl.below b12 P0.dr.dr)
          | (replace P0 := Cl.below b12 P0.dr.drN)
          | (replace P0 := Cl.below b12 P0.drN.al)
          | (replace P0 := Cl.below b12 P0.drN.dr)
          | (replace P0 := Cl.below b12 P0.drN.drN)
          | (replace P0 := Cl.below b12 P0.al.al.al)
          | (replace P0 := Cl.below b12 P0.al.al.dr)
          | (replace P0 := Cl.below b12 P0.al.al.drN)
          | (replace P0 := Cl.below b12 P0.al.dr.al)
          | (replace P0 := Cl.below b12 P0.al.dr.dr)
          | (replace P0 := Cl.below b12 P0.al.dr.drN)
          | (replace P0 := Cl.below b12 P0.al.drN.al)
          | (replace P0 := Cl.below b12 P0.al.drN.dr)
          | (replace P0 := Cl.below b12 P0.al.drN.drN)
          | (replace P0 := Cl.below b12 P0.dr.al.al)
          | (replace P0 := Cl.below b12 P0.dr.al.dr)
          | (replace P0 := Cl.below b12 P0.dr.al.drN)
          | (replace P0 := Cl.below b12 P0.dr.dr.al)
          | (replace P0 := Cl.below b12 P0.dr.dr.dr)
          | (replace P0 := Cl.below b12 P0.dr.dr.drN)
          | (replace P0 := Cl.below b12 P0.dr.drN.al)
          | (replace P0 := Cl.below b12 P0.dr.drN.dr)
          | (replace P0 := Cl.below b12 P0.dr.drN.drN)
          | (replace P0 := Cl.below b12 P0.drN.al.al)
          | (replace P0 := Cl.below b12 P0.drN.al.dr)
          | (replace P0 := Cl.below b12 P0.drN.al.drN)
          | (replace P0 := Cl.below b12 P0.drN.dr.al)
          | (replace P0 := Cl.below b12 P0.drN.dr.dr)
          | (replace P0 := Cl.below b12 P0.drN.dr.drN)
          | (replace P0 := Cl.below b12 P0.drN.drN.al)
          | (replace P0 := Cl.below b12 P0.drN.drN.dr)
          | (replace P0 := Cl.below b12 P0.drN.drN.drN)
        have P0_c := P0.cell
        have P0_f := P0.free
        have P0_l := P0.lt
        dsimp only at P0_l
        first
          | (replace P1 := Cl.below b12 P1)
          | (replace P1 := Cl.below b12 P1.al)
          | (replace P1 := Cl.below b12 P1.dr)
          | (replace P1 := Cl.below b12 P1.drN)
          | (replace P1 := Cl.below b12 P1.al.al)
          | (replace P1 := Cl.below b12 P1.al.dr)
          | (replace P1 := Cl.below b12 P1.al.drN)
          | (replace P1 := Cl.below b12 P1.dr.al)
          | (replace P1 := Cl.below b12 P1.dr.dr)
          | (replace P1 := Cl.below b12 P1.dr.drN)
          | (replace P1 := Cl.below b12 P1.drN.al)
          | (replace P1 := Cl.below b12 P1.drN.dr)
          | (replace P1 := Cl.below b12 P1.drN.drN)
          | (replace P1 := Cl.below b12 P1.al.al.al)
          | (replace P1 := Cl.below b12 P1.al.al.dr)
          | (replace P1 := Cl.below b12 P1.al.al.drN)
          | (replace P1 := Cl.below b12 P1.al.dr.al)
          | (replace P1 := Cl.below b12 P1.al.dr.dr)
          | (replace P1 := Cl.below b12 P1.al.dr.drN)
          | (replace P1 := Cl.below b12 P1.al.drN.al)
          | (replace P1 := Cl.below b12 P1.al.drN.dr)
          | (replace P1 := Cl.below b12 P1.al.drN.drN)
          | (replace P1 := Cl.below b12 P1.dr.al.al)
          | (replace P1 := Cl.below b12 P1.dr.al.dr)
          | (replace P1 := Cl.below b12 P1.dr.al.drN)
          | (replace P1 := Cl.below b12 P1.dr.dr.al)
          | (replace P1 := Cl.below b12 P1.dr.dr.dr)
          | (replace P1 := Cl.below b12 P1.dr.dr.drN)
          | (replace P1 := Cl.below b12 P1.dr.drN.al)
          | (replace P1 := Cl.below b12 P1.dr.drN.dr)
          | (replace P1 := Cl.below b12 P1.dr.drN.drN)
          | (replace P1 := Cl.below b12 P1.drN.al.al)
          | (replace P1 := Cl.below b12 P1.drN.al.dr)
          | (replace P1 := Cl.below b12 P1.drN.al.drN)
          | (replace P1 := Cl.below b12 P1.drN.dr.al)
          | (replace P1 := Cl.below b12 P1.drN.dr.dr)
          | (replace P1 := Cl.below b12 P1.drN.dr.drN)
          | (replace P1 := Cl.below b12 P1.drN.drN.al)
          | (replace P1 := Cl.below b12 P1.drN.drN.dr)
          | (replace P1 := Cl.below b12 P1.drN.drN.drN)
        have P1_c := P1.cell
        have P1_f := P1.free
        have P1_l := P1.lt
        dsimp only at P1_l
        first
          | (replace Q0 := Cl.below b12 Q0)
          | (replace Q0 := Cl.below b12 Q0.al)
          | (replace Q0 := Cl.below b12 Q0.dr)
          | (replace Q0 := Cl.below b12 Q0.drN)
          | (replace Q0 := Cl.below b12 Q0.al.al)
          | (replace Q0 := Cl.below b12 Q0.al.dr)
          | (replace Q0 := Cl.below b12 Q0.al.drN)
          | (replace Q0 := Cl.below b12 Q0.dr.al)
          | (replace Q0 := Cl.below b12 Q0.dr.dr)
          | (replace Q0 := Cl.below b12 Q0.dr.drN)
          | (replace Q0 := Cl.below b12 Q0.drN.al)
          | (replace Q0 := Cl.below b12 Q0.drN.dr)
          | (replace Q0 := Cl.below b12 Q0.drN.drN)
          | (replace Q0 := Cl.below b12 Q0.al.al.al)
          | (replace Q0 := Cl.below b12 Q0.al.al.dr)
          | (replace Q0 := Cl.below b12 Q0.al.al.drN)
          | (replace Q0 := Cl.below b12 Q0.al.dr.al)
          | (replace Q0 := Cl.below b12 Q0.al.dr.dr)
          | (replace Q0 := Cl.below b12 Q0.al.dr.drN)
          | (replace Q0 := Cl.below b12 Q0.al.drN.al)
          | (replace Q0 := Cl.below b12 Q0.al.drN.dr)
          | (replace Q0 := Cl.below b12 Q0.al.drN.drN)
          | (replace Q0 := Cl.below b12 Q0.dr.al.al)
          | (replace Q0 := Cl.below b12 Q0.dr.al.dr)
          | (replace Q0 := Cl.below b12 Q0.dr.al.drN)
          | (replace Q0 := Cl.below b12 Q0.dr.dr.al)
          | (replace Q0 := Cl.below b12 Q0.dr.dr.dr)
          | (replace Q0 := Cl.below b12 Q0.dr.dr.drN)
          | (replace Q0 := Cl.below b12 Q0.dr.drN.al)
          | (replace Q0 := Cl.below b12 Q0.dr.drN.dr)
          | (replace Q0 := Cl.below b12 Q0.dr.drN.drN)
          | (replace Q0 := Cl.below b12 Q0.drN.al.al)
          | (replace Q0 := Cl.below b12 Q0.drN.al.dr)
          | (replace Q0 := Cl.below b12 Q0.drN.al.drN)
          | (replace Q0 := Cl.below b12 Q0.drN.dr.al)
          | (replace Q0 := Cl.below b12 Q0.drN.dr.dr)
          | (replace Q0 := Cl.below b12 Q0.drN.dr.drN)
          | (replace Q0 := Cl.below b12 Q0.drN.drN.al)
          | (replace Q0 := Cl.below b12 Q0.drN.drN.dr)
          | (replace Q0 := Cl.below b12 Q0.drN.drN.drN)
        have Q0_c := Q0.cell
        have Q0_f := Q0.free
        have Q0_l := Q0.lt
        dsimp only at Q0_l
        first
          | (replace Q1 := Cl.below b12 Q1)
          | (replace Q1 := Cl.below b12 Q1.al)
          | (replace Q1 := Cl.below b12 Q1.dr)
          | (replace Q1 := Cl.below b12 Q1.drN)
          | (replace Q1 := Cl.below b12 Q1.al.al)
          | (replace Q1 := Cl.below b12 Q1.al.dr)
          | (replace Q1 := Cl.below b12 Q1.al.drN)
          | (replace Q1 := Cl.below b12 Q1.dr.al)
          | (replace Q1 := Cl.below b12 Q1.dr.dr)
          | (replace Q1 := Cl.below b12 Q1.dr.drN)
          | (replace Q1 := Cl.below b12 Q1.drN.al)
          | (replace Q1 := Cl.below b12 Q1.drN.dr)
          | (replace Q1 := Cl.below b12 Q1.drN.drN)
          | (replace Q1 := Cl.below b12 Q1.al.al.al)
          | (replace Q1 := Cl.below b12 Q1.al.al.dr)
          | (replace Q1 := Cl.below b12 Q1.al.al.drN)
          | (replace Q1 := Cl.below b12 Q1.al.dr.al)
          | (replace Q1 := Cl.below b12 Q1.al.dr.dr)
          | (replace Q1 := Cl.below b12 Q1.al.dr.drN)
          | (replace Q1 := Cl.below b12 Q1.al.drN.al)
          | (replace Q1 := Cl.below b12 Q1.al.drN.dr)
          | (replace Q1 := Cl.below b12 Q1.al.drN.drN)
          | (replace Q1 := Cl.below b12 Q1.dr.al.al)
          | (replace Q1 := Cl.below b12 Q1.dr.al.dr)
          | (replace Q1 := Cl.below b12 Q1.dr.al.drN)
          | (replace Q1 := Cl.below b12 Q1.dr.dr.al)
          | (replace Q1 := Cl.below b12 Q1.dr.dr.dr)
          | (replace Q1 := Cl.below b12 Q1.dr.dr.drN)
          | (replace Q1 := Cl.below b12 Q1.dr.drN.al)
          | (replace Q1 := Cl.below b12 Q1.dr.drN.dr)
          | (replace Q1 := Cl.below b12 Q1.dr.drN.drN)
          | (replace Q1 := Cl.below b12 Q1.drN.al.al)
          | (replace Q1 := Cl.below b12 Q1.drN.al.dr)
          | (replace Q1 := Cl.below b12 Q1.drN.al.drN)
          | (replace Q1 := Cl.below b12 Q1.drN.dr.al)
          | (replace Q1 := Cl.below b12 Q1.drN.dr.dr)
          | (replace Q1 := Cl.below b12 Q1.drN.dr.drN)
          | (replace Q1 := Cl.below b12 Q1.drN.drN.al)
          | (replace Q1 := Cl.below b12 Q1.drN.drN.dr)
          | (replace Q1 := Cl.below b12 Q1.drN.drN.drN)
        have Q1_c := Q1.cell
        have Q1_f := Q1.free
        have Q1_l := Q1.lt
        dsimp only at Q1_l
        first
          | (replace R0 := Cl.below b12 R0)
          | (replace R0 := Cl.below b12 R0.al)
          | (replace R0 := Cl.below b12 R0.dr)
          | (replace R0 := Cl.below b12 R0.drN)
          | (replace R0 := Cl.below b12 R0.al.al)
          | (replace R0 := Cl.below b12 R0.al.dr)
          | (replace R0 := Cl.below b12 R0.al.drN)
          | (replace R0 := Cl.below b12 R0.dr.al)
          | (replace R0 := Cl.below b12 R0.dr.dr)
          | (replace R0 := Cl.below b12 R0.dr.drN)
          | (replace R0 := Cl.below b12 R0.drN.al)
          | (replace R0 := Cl.below b12 R0.drN.dr)
          | (replace R0 := Cl.below b12 R0.drN.drN)
          | (replace R0 := Cl.below b12 R0.al.al.al)
          | (replace R0 := Cl.below b12 R0.al.al.dr)
          | (replace R0 := Cl.below b12 R0.al.al.drN)
          | (replace R0 := Cl.below b12 R0.al.dr.al)
          | (replace R0 := Cl.below b12 R0.al.dr.dr)
          | (replace R0 := Cl.below b12 R0.al.dr.drN)
          | (replace R0 := Cl.below b12 R0.al.drN.al)
          | (replace R0 := Cl.below b12 R0.al.drN.dr)
          | (replace R0 := Cl.below b12 R0.al.drN.drN)
          | (replace R0 := Cl.below b12 R0.dr.al.al)
          | (replace R0 := Cl.below b12 R0.dr.al.dr)
          | (replace R0 := Cl.below b12 R0.dr.al.drN)
          | (replace R0 := Cl.below b12 R0.dr.dr.al)
          | (replace R0 := Cl.below b12 R0.dr.dr.dr)
          | (replace R0 := Cl.below b12 R0.dr.dr.drN)
          | (replace R0 := Cl.below b12 R0.dr.drN.al)
          | (replace R0 := Cl.below b12 R0.dr.drN.dr)
          | (replace R0 := Cl.below b12 R0.dr.drN.drN)
          | (replace R0 := Cl.below b12 R0.drN.al.al)
          | (replace R0 := Cl.below b12 R0.drN.al.dr)
          | (replace R0 := Cl.below b12 R0.drN.al.drN)
          | (replace R0 := Cl.below b12 R0.drN.dr.al)
          | (replace R0 := Cl.below b12 R0.drN.dr.dr)
          | (replace R0 := Cl.below b12 R0.drN.dr.drN)
          | (replace R0 := Cl.below b12 R0.drN.drN.al)
          | (replace R0 := Cl.below b12 R0.drN.drN.dr)
          | (replace R0 := Cl.below b12 R0.drN.drN.drN)
        have R0_c := R0.cell
        have R0_f := R0.free
        have R0_l := R0.lt
        dsimp only at R0_l
        first
          | (replace R1 := Cl.below b12 R1)
          | (replace R1 := Cl.below b12 R1.al)
          | (replace R1 := Cl.below b12 R1.dr)
          | (replace R1 := Cl.below b12 R1.drN)
          | (replace R1 := Cl.below b12 R1.al.al)
          | (replace R1 := Cl.below b12 R1.al.dr)
          | (replace R1 := Cl.below b12 R1.al.drN)
          | (replace R1 := Cl.below b12 R1.dr.al)
          | (replace R1 := Cl.below b12 R1.dr.dr)
          | (replace R1 := Cl.below b12 R1.dr.drN)
          | (replace R1 := Cl.below b12 R1.drN.al)
          | (replace R1 := Cl.below b12 R1.drN.dr)
          | (replace R1 := Cl.below b12 R1.drN.drN)
          | (replace R1 := Cl.below b12 R1.al.al.al)
          | (replace R1 := Cl.below b12 R1.al.al.dr)
          | (replace R1 := Cl.below b12 R1.al.al.drN)
          | (replace R1 := Cl.below b12 R1.al.dr.al)
          | (replace R1 := Cl.below b12 R1.al.dr.dr)
          | (replace R1 := Cl.below b12 R1.al.dr.drN)
          | (replace R1 := Cl.below b12 R1.al.drN.al)
          | (replace R1 := Cl.below b12 R1.al.drN.dr)
          | (replace R1 := Cl.below b12 R1.al.drN.drN)
          | (replace R1 := Cl.below b12 R1.dr.al.al)
          | (replace R1 := Cl.below b12 R1.dr.al.dr)
          | (replace R1 := Cl.below b12 R1.dr.al.drN)
          | (replace R1 := Cl.below b12 R1.dr.dr.al)
          | (replace R1 := Cl.below b12 R1.dr.dr.dr)
          | (replace R1 := Cl.below b12 R1.dr.dr.drN)
          | (replace R1 := Cl.below b12 R1.dr.drN.al)
          | (replace R1 := Cl.below b12 R1.dr.drN.dr)
          | (replace R1 := Cl.below b12 R1.dr.drN.drN)
          | (replace R1 := Cl.below b12 R1.drN.al.al)
          | (replace R1 := Cl.below b12 R1.drN.al.dr)
          | (replace R1 := Cl.below b12 R1.drN.al.drN)
          | (replace R1 := Cl.below b12 R1.drN.dr.al)
          | (replace R1 := Cl.below b12 R1.drN.dr.dr)
          | (replace R1 := Cl.below b12 R1.drN.dr.drN)
          | (replace R1 := Cl.below b12 R1.drN.drN.al)
          | (replace R1 := Cl.below b12 R1.drN.drN.dr)
          | (replace R1 := Cl.below b12 R1.drN.drN.drN)
        have R1_c := R1.cell
        have R1_f := R1.free
        have R1_l := R1.lt
        dsimp only at R1_l
        have E2 := hL2.out
        generalize standsD D1 o1.toNat = sa at *
        generalize standsD X o1.toNat = sb at *
        have hT : ((a1 == o1) = true) ∨ ((a1 == o1) = false ∧ sa = sb) := by
          by_cases h : a1 = o1
          · exact .inl (beq_iff_eq.2 h)
          · exact .inr ⟨beq_eq_false_iff_ne.2 h, E2.resolve_left h⟩
        clear E2 hL1 hL2
        rcases hT with hT | ⟨hT, rfl⟩
        all_goals
          go_wp2_with fail
          refine (ref_Like _ _ Y _ (d8.out.below (show Below w8.heap.size w8 _ from (by repeat (first | exact Below.refl _ _ | (with_reducible assumption) | refine below_alloc ?_ _ | refine pw_below_drewN ?_ _ | refine below_drew ?_ | refine Below.setCell ?_ (by dsimp only; omega) _ | refine below_step ?_ (by assumption))))) (d9.out.below (show Below w9.heap.size w9 _ from (by repeat (first | exact Below.refl _ _ | (with_reducible assumption) | refine below_alloc ?_ _ | refine pw_below_drewN ?_ _ | refine below_drew ?_ | refine Below.setCell ?_ (by dsimp only; omega) _ | refine below_step ?_ (by assumption)))))).mono ?_
          rintro e w13 ⟨rfl, b13⟩
          have sz13 := b13.size
          first
            | (replace P0 := Cl.below b13 P0)
            | (replace P0 := Cl.below b13 P0.al)
            | (replace P0 := Cl.below b13 P0.dr)
            | (replace P0 := Cl.below b13 P0.drN)
            | (replace P0 := Cl.below b13 P0.al.al)
            | (replace P0 := Cl.below b13 P0.al.dr)
            | (replace P0 := Cl.below b13 P0.al.drN)
            | (replace P0 := Cl.below b13 P0.dr.al)
            | (replace P0 := Cl.below b13 P0.dr.dr)
            | (replace P0 := Cl.below b13 P0.dr.drN)
            | (replace P0 := Cl.below b13 P0.drN.al)
            | (replace P0 := Cl.below b13 P0.drN.dr)
            | (replace P0 := Cl.below b13 P0.drN.drN)
            | (replace P0 := Cl.below b13 P0.al.al.al)
            | (replace P0 := Cl.below b13 P0.al.al.dr)
            | (replace P0 := Cl.below b13 P0.al.al.drN)
            | (replace P0 := Cl.below b13 P0.al.dr.al)
            | (replace P0 := Cl.below b13 P0.al.dr.dr)
            | (replace P0 := Cl.below b13 P0.al.dr.drN)
            | (replace P0 := Cl.below b13 P0.al.drN.al)
            | (replace P0 := Cl.below b13 P0.al.drN.dr)
            | (replace P0 := Cl.below b13 P0.al.drN.drN)
            | (replace P0 := Cl.below b13 P0.dr.al.al)
            | (replace P0 := Cl.below b13 P0.dr.al.dr)
            | (replace P0 := Cl.below b13 P0.dr.al.drN)
            | (replace P0 := Cl.below b13 P0.dr.dr.al)
            | (replace P0 := Cl.below b13 P0.dr.dr.dr)
            | (replace P0 := Cl.below b13 P0.dr.dr.drN)
            | (replace P0 := Cl.below b13 P0.dr.drN.al)
            | (replace P0 := Cl.below b13 P0.dr.drN.dr)
            | (replace P0 := Cl.below b13 P0.dr.drN.drN)
            | (replace P0 := Cl.below b13 P0.drN.al.al)
            | (replace P0 := Cl.below b13 P0.drN.al.dr)
            | (replace P0 := Cl.below b13 P0.drN.al.drN)
            | (replace P0 := Cl.below b13 P0.drN.dr.al)
            | (replace P0 := Cl.below b13 P0.drN.dr.dr)
            | (replace P0 := Cl.below b13 P0.drN.dr.drN)
            | (replace P0 := Cl.below b13 P0.drN.drN.al)
            | (replace P0 := Cl.below b13 P0.drN.drN.dr)
            | (replace P0 := Cl.below b13 P0.drN.drN.drN)
          have P0_c := P0.cell
          have P0_f := P0.free
          have P0_l := P0.lt
          dsimp only at P0_l
          first
            | (replace P1 := Cl.below b13 P1)
            | (replace P1 := Cl.below b13 P1.al)
            | (replace P1 := Cl.below b13 P1.dr)
            | (replace P1 := Cl.below b13 P1.drN)
            | (replace P1 := Cl.below b13 P1.al.al)
            | (replace P1 := Cl.below b13 P1.al.dr)
            | (replace P1 := Cl.below b13 P1.al.drN)
            | (replace P1 := Cl.below b13 P1.dr.al)
            | (replace P1 := Cl.below b13 P1.dr.dr)
            | (replace P1 := Cl.below b13 P1.dr.drN)
            | (replace P1 := Cl.below b13 P1.drN.al)
            | (replace P1 := Cl.below b13 P1.drN.dr)
            | (replace P1 := Cl.below b13 P1.drN.drN)
            | (replace P1 := Cl.below b13 P1.al.al.al)
            | (replace P1 := Cl.below b13 P1.al.al.dr)
            | (replace P1 := Cl.below b13 P1.al.al.drN)
            | (replace P1 := Cl.below b13 P1.al.dr.al)
            | (replace P1 := Cl.below b13 P1.al.dr.dr)
            | (replace P1 := Cl.below b13 P1.al.dr.drN)
            | (replace P1 := Cl.below b13 P1.al.drN.al)
            | (replace P1 := Cl.below b13 P1.al.drN.dr)
            | (replace P1 := Cl.below b13 P1.al.drN.drN)
            | (replace P1 := Cl.below b13 P1.dr.al.al)
            | (replace P1 := Cl.below b13 P1.dr.al.dr)
            | (replace P1 := Cl.below b13 P1.dr.al.drN)
            | (replace P1 := Cl.below b13 P1.dr.dr.al)
            | (replace P1 := Cl.below b13 P1.dr.dr.dr)
            | (replace P1 := Cl.below b13 P1.dr.dr.drN)
            | (replace P1 := Cl.below b13 P1.dr.drN.al)
            | (replace P1 := Cl.below b13 P1.dr.drN.dr)
            | (replace P1 := Cl.below b13 P1.dr.drN.drN)
            | (replace P1 := Cl.below b13 P1.drN.al.al)
            | (replace P1 := Cl.below b13 P1.drN.al.dr)
            | (replace P1 := Cl.below b13 P1.drN.al.drN)
            | (replace P1 := Cl.below b13 P1.drN.dr.al)
            | (replace P1 := Cl.below b13 P1.drN.dr.dr)
            | (replace P1 := Cl.below b13 P1.drN.dr.drN)
            | (replace P1 := Cl.below b13 P1.drN.drN.al)
            | (replace P1 := Cl.below b13 P1.drN.drN.dr)
            | (replace P1 := Cl.below b13 P1.drN.drN.drN)
          have P1_c := P1.cell
          have P1_f := P1.free
          have P1_l := P1.lt
          dsimp only at P1_l
          first
            | (replace R0 := Cl.below b13 R0)
            | (replace R0 := Cl.below b13 R0.al)
            | (replace R0 := Cl.below b13 R0.dr)
            | (replace R0 := Cl.below b13 R0.drN)
            | (replace R0 := Cl.below b13 R0.al.al)
            | (replace R0 := Cl.below b13 R0.al.dr)
            | (replace R0 := Cl.below b13 R0.al.drN)
            | (replace R0 := Cl.below b13 R0.dr.al)
            | (replace R0 := Cl.below b13 R0.dr.dr)
            | (replace R0 := Cl.below b13 R0.dr.drN)
            | (replace R0 := Cl.below b13 R0.drN.al)
            | (replace R0 := Cl.below b13 R0.drN.dr)
            | (replace R0 := Cl.below b13 R0.drN.drN)
            | (replace R0 := Cl.below b13 R0.al.al.al)
            | (replace R0 := Cl.below b13 R0.al.al.dr)
            | (replace R0 := Cl.below b13 R0.al.al.drN)
            | (replace R0 := Cl.below b13 R0.al.dr.al)
            | (replace R0 := Cl.below b13 R0.al.dr.dr)
            | (replace R0 := Cl.below b13 R0.al.dr.drN)
            | (replace R0 := Cl.below b13 R0.al.drN.al)
            | (replace R0 := Cl.below b13 R0.al.drN.dr)
            | (replace R0 := Cl.below b13 R0.al.drN.drN)
            | (replace R0 := Cl.below b13 R0.dr.al.al)
            | (replace R0 := Cl.below b13 R0.dr.al.dr)
            | (replace R0 := Cl.below b13 R0.dr.al.drN)
            | (replace R0 := Cl.below b13 R0.dr.dr.al)
            | (replace R0 := Cl.below b13 R0.dr.dr.dr)
            | (replace R0 := Cl.below b13 R0.dr.dr.drN)
            | (replace R0 := Cl.below b13 R0.dr.drN.al)
            | (replace R0 := Cl.below b13 R0.dr.drN.dr)
            | (replace R0 := Cl.below b13 R0.dr.drN.drN)
            | (replace R0 := Cl.below b13 R0.drN.al.al)
            | (replace R0 := Cl.below b13 R0.drN.al.dr)
            | (replace R0 := Cl.below b13 R0.drN.al.drN)
            | (replace R0 := Cl.below b13 R0.drN.dr.al)
            | (replace R0 := Cl.below b13 R0.drN.dr.dr)
            | (replace R0 := Cl.below b13 R0.drN.dr.drN)
            | (replace R0 := Cl.below b13 R0.drN.drN.al)
            | (replace R0 := Cl.below b13 R0.drN.drN.dr)
            | (replace R0 := Cl.below b13 R0.drN.drN.drN)
          have R0_c := R0.cell
          have R0_f := R0.free
          have R0_l := R0.lt
          dsimp only at R0_l
          first
            | (replace R1 := Cl.below b13 R1)
            | (replace R1 := Cl.below b13 R1.al)
            | (replace R1 := Cl.below b13 R1.dr)
            | (replace R1 := Cl.below b13 R1.drN)
            | (replace R1 := Cl.below b13 R1.al.al)
            | (replace R1 := Cl.below b13 R1.al.dr)
            | (replace R1 := Cl.below b13 R1.al.drN)
            | (replace R1 := Cl.below b13 R1.dr.al)
            | (replace R1 := Cl.below b13 R1.dr.dr)
            | (replace R1 := Cl.below b13 R1.dr.drN)
            | (replace R1 := Cl.below b13 R1.drN.al)
            | (replace R1 := Cl.below b13 R1.drN.dr)
            | (replace R1 := Cl.below b13 R1.drN.drN)
            | (replace R1 := Cl.below b13 R1.al.al.al)
            | (replace R1 := Cl.below b13 R1.al.al.dr)
            | (replace R1 := Cl.below b13 R1.al.al.drN)
            | (replace R1 := Cl.below b13 R1.al.dr.al)
            | (replace R1 := Cl.below b13 R1.al.dr.dr)
            | (replace R1 := Cl.below b13 R1.al.dr.drN)
            | (replace R1 := Cl.below b13 R1.al.drN.al)
            | (replace R1 := Cl.below b13 R1.al.drN.dr)
            | (replace R1 := Cl.below b13 R1.al.drN.drN)
            | (replace R1 := Cl.below b13 R1.dr.al.al)
            | (replace R1 := Cl.below b13 R1.dr.al.dr)
            | (replace R1 := Cl.below b13 R1.dr.al.drN)
            | (replace R1 := Cl.below b13 R1.dr.dr.al)
            | (replace R1 := Cl.below b13 R1.dr.dr.dr)
            | (replace R1 := Cl.below b13 R1.dr.dr.drN)
            | (replace R1 := Cl.below b13 R1.dr.drN.al)
            | (replace R1 := Cl.below b13 R1.dr.drN.dr)
            | (replace R1 := Cl.below b13 R1.dr.drN.drN)
            | (replace R1 := Cl.below b13 R1.drN.al.al)
            | (replace R1 := Cl.below b13 R1.drN.al.dr)
            | (replace R1 := Cl.below b13 R1.drN.al.drN)
            | (replace R1 := Cl.below b13 R1.drN.dr.al)
            | (replace R1 := Cl.below b13 R1.drN.dr.dr)
            | (replace R1 := Cl.below b13 R1.drN.dr.drN)
            | (replace R1 := Cl.below b13 R1.drN.drN.al)
            | (replace R1 := Cl.below b13 R1.drN.drN.dr)
            | (replace R1 := Cl.below b13 R1.drN.drN.drN)
          have R1_c := R1.cell
          have R1_f := R1.free
          have R1_l := R1.lt
          dsimp only at R1_l
          go_wp2_with fail
          refine (ref_Like _ _ Y _ (d8.out.below (show Below w8.heap.size w8 _ from (by repeat (first | exact Below.refl _ _ | (with_reducible assumption) | refine below_alloc ?_ _ | refine pw_below_drewN ?_ _ | refine below_drew ?_ | refine Below.setCell ?_ (by dsimp only; omega) _ | refine below_step ?_ (by assumption))))) (d10.out.below (show Below w10.heap.size w10 _ from (by repeat (first | exact Below.refl _ _ | (with_reducible assumption) | refine below_alloc ?_ _ | refine pw_below_drewN ?_ _ | refine below_drew ?_ | refine Below.setCell ?_ (by dsimp only; omega) _ | refine below_step ?_ (by assumption)))))).mono ?_
          rintro e w14 ⟨rfl, b14⟩
          go_wp2_with fail
          go_ret
          exact ⟨rfl, (by repeat (first | exact Below.refl _ _ | (with_reducible assumption) | refine below_alloc ?_ _ | refine pw_below_drewN ?_ _ | refine below_drew ?_ | refine Below.setCell ?_ (by dsimp only; omega) _ | refine below_step ?_ (by assumption)))⟩
  · rw [Bool.eq_false_iff.mpr hR]
    clear hR
    go_wp2_with fail
    refine (law_alive _).mono ?_
    rintro e w3 ⟨rfl, b3⟩
    go_wp2
    go_ret
    exact ⟨rfl, (by repeat (first | exact Below.refl _ _ | (with_reducible assumption) | refine below_alloc ?_ _ | refine pw_below_drewN ?_ _ | refine below_drew ?_ | refine Below.setCell ?_ (by dsimp only; omega) _ | refine below_step ?_ (by assumption)))⟩
end Go.Proofs.Ytdcokepmblcdmaa
