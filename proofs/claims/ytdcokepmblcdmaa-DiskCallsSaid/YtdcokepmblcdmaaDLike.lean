/- ref09.Like of two that are the same; law09.sector, few. -/
import Derived.Test.YtdcokepmblcdmaaBase
import Derived.Test.YtdcokepmblcdmaaShelf
import Derived.Test.YtdcokepmblcdmaaOct
import Derived.Test.YtdcokepmblcdmaaV
import Derived.Test.YtdcokepmblcdmaaKDisk
import Derived.Test.YtdcokepmblcdmaaAny
import Derived.Test.YtdcokepmblcdmaaCDWell
import Derived.Test.YtdcokepmblcdmaaCDRight
import Derived.Test.YtdcokepmblcdmaaDSave
import Derived.Test.YtdcokepmblcdmaaCDEnds
import Derived.Test.YtdcokepmblcdmaaDNew
import Derived.Below
import Derived.Deep.Draws
import Derived.OwnWalk
import Derived.Laws.BytesArg
import Derived.Laws.MakeOwn
import Derived.Laws.OwnMore
import Derived.Deep.OwnRows
import Derived.Tactics
import Derived.Lib.ConvBytes
import Derived.Laws.Slices
import Derived.WalkKit
import Derived.KernelRfl
import Derived.RowKit3
import Derived.Deep.LoopGhost
import Derived.Deep.QuietTactic
import Derived.BigQuiet
import Derived.WideLaws
import Derived.Deep.DeepCutAuto
import Derived.Deep.CutBlock
import Derived.Deep.RegionHeld3
import Derived.Laws.Rows
import Derived.Lib.AppendStr
import Derived.ArgAppend
import Derived.Laws.BitsLemmas
import Derived.RowKit
namespace Go.Proofs.Ytdcokepmblcdmaa
open Go.RowKit Go.Proofs.YtdcokepmblcdmaaW.PrintWords Go.Proofs.YtdcokepmblcdmaaW.PrintLast Go.Proofs.YtdcokepmblcdmaaW.PrintMore
attribute [local go_sem] max2_int min2_int max_two min_two max_three min_three max_four min_four
set_option linter.unusedVariables false
set_option linter.unusedSimpArgs false
set_option maxHeartbeats 2000000 in
set_option maxRecDepth 100000 in
theorem ref_Like (v u : Value) (d : SD) (w : World) (hv : VDisk w v d) (hu : VDisk w u d) :
    Calls Try.prog 16 #[v, u] w fun e w' => e = .returned (.bool true) ∧ Below w.heap.size w w' := by
  obtain ⟨A0, c0, A1, c1, rfl, l0, m0, h0, l1, m1, h1⟩ := VDisk.open (St.start fun w1 => hv.below)
  obtain ⟨B0, e0, B1, e1, rfl, n0, _, g0, n1, _, g1⟩ := VDisk.open (St.start fun w1 => hu.below)
  clear hv hu
  go_enter Try.func16, Try.ntmps16
  go_wp2_with fail
  obtain ⟨w0, hw0⟩ : ∃ w0, w0 = (w.alloc (.cells #[.slice A0 d.f0.length c0, .slice A1 d.f1.length c1] 25)).alloc (.cells #[.slice B0 d.f0.length e0, .slice B1 d.f1.length e1] 25) := ⟨_, rfl⟩
  have b0 : Below w.heap.size w w0 := by rw [hw0]; exact (by repeat (first | exact Below.refl _ _ | (with_reducible assumption) | refine below_alloc ?_ _ | refine pw_below_drewN ?_ _ | refine below_drew ?_ | refine Below.setCell ?_ (by dsimp only; omega) _ | refine below_step ?_ (by assumption)))
  have x0 : w0.cell? ⟨w.heap.size, 0, none⟩ = some (.slice A0 d.f0.length c0) := by rw [hw0]; simp [go_sem]
  have x1 : w0.cell? ⟨w.heap.size, 1, none⟩ = some (.slice A1 d.f1.length c1) := by rw [hw0]; simp [go_sem]
  have y0 : w0.cell? ⟨w.heap.size + 1, 0, none⟩ = some (.slice B0 d.f0.length e0) := by rw [hw0]; simp [go_sem]
  have y1 : w0.cell? ⟨w.heap.size + 1, 1, none⟩ = some (.slice B1 d.f1.length e1) := by rw [hw0]; simp [go_sem]
  rw [← hw0]
  clear hw0
  go_wp2_with fail
  go_loopw [26] (fun i wr => ∃ k : Nat, k ≤ d.f0.length ∧ i = .int .i64 k ∧ Below w0.heap.size w0 wr) (fun i _ => d.f0.length - (intOf i).toNat)
  case atStart => exact ⟨0, Nat.zero_le _, rfl, Below.refl _ _⟩
  case round =>
    obtain ⟨k, hk, rfl, hb⟩ := hrel
    have p0 := pw_cell_below hb x0
    have q0 := pw_cell_below hb y0
    have p1 := pw_cell_below hb x1
    have q1 := pw_cell_below hb y1
    have b1 := below_step b0 hb
    by_cases hlt : k < d.f0.length
    · obtain ⟨ad, rfl, hx⟩ := Kd.at_string (h0.at_ (Keep.of_below b1)) (k : Int) (by omega) (by omega)
      obtain ⟨bd, rfl, hy⟩ := Kd.at_string (g0.at_ (Keep.of_below b1)) (k : Int) (by omega) (by omega)
      rw [Int.toNat_natCast] at hx hy
      generalize rdOf ByteArray.empty d.f0 (k : Int) = x at *
      go_wp2_with fail
      go_quiet (fail)
      go_wp2
      go_roundw
      case rel => exact ⟨k + 1, by omega, by go_num, pw_below_drewN hb _⟩
      case measure => simp [intOf]; omega
    · obtain rfl : k = d.f0.length := by omega
      clear x0 y0 x1 y1
      go_wp2_with fail
      obtain ⟨w2, hw2⟩ : ∃ w2, w2 = wr := ⟨_, rfl⟩
      rw [← hw2]
      rw [← hw2] at b1 p1 q1
      clear hw2 p0 q0 hb
      go_loopw [44] (fun i wr => ∃ k : Nat, k ≤ d.f1.length ∧ i = .int .i64 k ∧ Below w2.heap.size w2 wr) (fun i _ => d.f1.length - (intOf i).toNat)
      case atStart => exact ⟨0, Nat.zero_le _, rfl, Below.refl _ _⟩
      case round =>
        obtain ⟨k, hk, rfl, hb⟩ := hrel
        have p1 := pw_cell_below hb p1
        have q1 := pw_cell_below hb q1
        have b2 := below_step b1 hb
        by_cases hlt : k < d.f1.length
        · obtain ⟨ad, rfl, y1, y2⟩ := at_T36 (h1.at_ (Keep.of_below b2)) (k : Int) (by omega) (by omega)
          obtain ⟨bd, rfl, z1, z2⟩ := at_T36 (g1.at_ (Keep.of_below b2)) (k : Int) (by omega) (by omega)
          rw [Int.toNat_natCast] at y1 y2 z1 z2
          generalize rd_T36 d.f1 (k : Int) = x at *
          go_wp2_with fail
          go_quiet (fail)
          go_wp2
          go_roundw
          case rel => exact ⟨k + 1, by omega, by go_num, pw_below_drewN hb _⟩
          case measure => simp [intOf]; omega
        · obtain rfl : k = d.f1.length := by omega
          go_wp2
          go_ret
          exact ⟨rfl, b2⟩
set_option maxHeartbeats 1000000 in
theorem law_sector (c : Int) (h0 : 0 ≤ c) (h1 : c ≤ 255) (w : World) :
    Calls Try.prog 11 #[.int .u8 c] w fun e w' => e = .returned (.string (sect c)) ∧ Below w.heap.size w w' := by
  have hcv : (convert 26 9 (.slice (some ⟨w.heap.size, 0, none⟩) 1 1)).run Try.prog (w.alloc (.cells #[.int .u8 c] 5)) = .ok (.string (strOfNums [c])) (w.alloc (.cells #[.int .u8 c] 5)) :=
    string_of_reads (e := 5) (by kernel_rfl) (by kernel_rfl) (by kernel_rfl) ⟨rfl, by simp, fun _ => ⟨_, rfl, fun j hj => by
      obtain rfl : j = 0 := by omega
      rw [add_plain]
      exact World.cell?_alloc_new _ _ _ _⟩⟩
  have hs := hid (show (⟨(Lib.repeatL (strOfNums [c]).data.toList 128).toArray⟩ : ByteArray) = sect c by
    have e1 : (strOfNums [c]).data.toList = [UInt8.ofNat c.toNat] := rfl
    rw [e1, sect_rep]
    congr 1
    simp
    omega)
  have hn : (strOfNums [c]).size = 1 := rfl
  go_enter Try.func11, Try.ntmps11
  go_wp2_with fail
  refine (Try.strings_Repeat (strOfNums [c]) 128 _ (by omega) (by rw [hn]; decide)).mono ?_
  rintro e w1 ⟨rfl, b1⟩
  have sz1 := b1.size
  try simp only [World.size_alloc, World.size_setCell, World.size_drew, size_drewN] at sz1
  rw [hs.out]
  go_wp2
  go_ret
  exact ⟨rfl, (by repeat (first | exact Below.refl _ _ | (with_reducible assumption) | refine below_alloc ?_ _ | refine pw_below_drewN ?_ _ | refine below_drew ?_ | refine Below.setCell ?_ (by dsimp only; omega) _ | refine below_step ?_ (by assumption)))⟩
/-- disk.Load, its place a whole number; a disk's value. -/
theorem disk_LoadI (v : Value) (d : SD) (n : Int) (w : World) (hv : VDisk w v d) (hR : rightD d = true) (h0 : 0 ≤ n) (hn : n < d.f0.length) :
    Calls Try.prog 12 #[v, .int .i64 n] w fun e w' => e = .returned (.tuple #[.string (standsD d n.toNat), .int .i64 0]) ∧ Below w.heap.size w w' := by
  obtain ⟨A0, c0, A1, c1, rfl, l0, m0, g0, l1, m1, g1⟩ := VDisk.open (St.start fun w1 => hv.below)
  obtain ⟨k, rfl⟩ := Int.eq_ofNat_of_zero_le h0
  rw [Int.toNat_natCast]
  exact disk_Load A0 c0 A1 c1 d k w g0.now l0 g1.now l1 hR (by omega)
/-- few: heads of both rows. -/
def fewD (d : SD) : SD := ⟨d.f0.take 66, d.f1.take 202⟩
set_option maxHeartbeats 2000000 in
set_option maxRecDepth 100000 in
theorem law_few (S : Nat → Prop) (v : Value) (d : SD) (w : World) (hS : ∀ k, S k → k < w.heap.size) (hd : St S w (fun w => VDisk w v d)) :
    Calls Try.prog 7 #[v] w fun e w' => (∃ r, e = .returned r ∧ St S w' (fun w => VDisk w r (fewD d))) ∧ Below w.heap.size w w' := by
  obtain ⟨A0, c0, A1, c1, rfl, l0, m0, h0, l1, m1, h1⟩ := VDisk.open hd
  obtain ⟨S1, hP⟩ := priv w hS 2
  have hz : True := trivial
  have hc : True := trivial
  have hf : True := trivial
  replace h0 := h0.wide hP.down
  replace h1 := h1.wide hP.down
  clear hd
  go_enter Try.func7, Try.ntmps7
  go_wp2
  have t0 : St S1 w (fun w => Kd.string.C w A0 (fewD d).f0.length (fewD d).f0) := by
    rcases Nat.lt_or_ge 66 d.f0.length with q0 | q0
    · exact h0.imp fun _ h => Kd.C_take h (Nat.le_of_lt q0)
    · have e : (fewD d).f0 = d.f0 := List.take_of_length_le q0
      rw [e]; exact h0
  have t1 : St S1 w (fun w => kWrite.C w A1 (fewD d).f1.length (fewD d).f1) := by
    rcases Nat.lt_or_ge 202 d.f1.length with q0 | q0
    · exact h1.imp fun _ h => Kd.C_take h (Nat.le_of_lt q0)
    · have e : (fewD d).f1 = d.f1 := List.take_of_length_le q0
      rw [e]; exact h1
  rcases Nat.lt_or_ge 66 d.f0.length with q0 | q0 <;> rcases Nat.lt_or_ge 202 d.f1.length with q1 | q1
  all_goals
    go_region
    go_wp2
  all_goals
    refine bodyPost_ret (by simp [results, Try.results7, go_sem]; rfl) rfl ⟨⟨_, rfl, ?_⟩, (by repeat (first | exact Below.refl _ _ | (with_reducible assumption) | refine below_alloc ?_ _ | refine pw_below_drewN ?_ _ | refine below_drew ?_ | refine Below.setCell ?_ (by dsimp only; omega) _ | refine below_step ?_ (by assumption)))⟩
    exact VDisk.mkn (x := fewD d) (by simp [fewD]; omega) (by omega) ((t0.keep (by repeat (first | exact Keep.refl _ _ | (with_reducible assumption) | refine Keep.alloc ?_ _ | refine Keep.drewN ?_ _ | refine Keep.drew ?_ | refine Keep.set ?_ (by first | exact .inl rfl | exact .inr (by dsimp only; omega) | exact .inl (hP.own _ (by dsimp only; omega) (by dsimp only; omega)) | exact .inl (by assumption)) _ | refine Keep.step ?_ (by assumption)))).sub hP.up) (by simp [fewD]; omega) (by omega) ((t1.keep (by repeat (first | exact Keep.refl _ _ | (with_reducible assumption) | refine Keep.alloc ?_ _ | refine Keep.drewN ?_ _ | refine Keep.drew ?_ | refine Keep.set ?_ (by first | exact .inl rfl | exact .inr (by dsimp only; omega) | exact .inl (hP.own _ (by dsimp only; omega) (by dsimp only; omega)) | exact .inl (by assumption)) _ | refine Keep.step ?_ (by assumption)))).sub hP.up)
end Go.Proofs.Ytdcokepmblcdmaa
