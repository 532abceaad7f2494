/- slices.Repeat of one text; disk.New. -/
import Derived.Laws.CopyOwn
import Derived.Deep.RegionLaw
import Derived.IntWalk
import Derived.Test.YtdcokepmblcdmaaBase
import Derived.Test.YtdcokepmblcdmaaShelf
import Derived.Test.YtdcokepmblcdmaaOct
import Derived.Test.YtdcokepmblcdmaaV
import Derived.Test.YtdcokepmblcdmaaKDisk
import Derived.Test.YtdcokepmblcdmaaTexts
import Derived.Test.YtdcokepmblcdmaaCDRight
import Derived.Test.YtdcokepmblcdmaaDSave
import Derived.Test.YtdcokepmblcdmaaCDEnds
import Derived.Below
import Derived.Deep.Draws
import Derived.OwnWalk
import Derived.Laws.BytesArg
import Derived.Laws.MakeOwn
import Derived.Laws.OwnMore
import Derived.Deep.OwnRows
import Derived.Tactics
import Derived.Lib.ConvBytes
import Derived.Laws.Slices
import Derived.WalkKit
import Derived.KernelRfl
import Derived.RowKit3
import Derived.Deep.LoopGhost
import Derived.Deep.QuietTactic
import Derived.BigQuiet
import Derived.WideLaws
import Derived.Deep.DeepCutAuto
import Derived.Deep.CutBlock
import Derived.Deep.RegionHeld3
import Derived.Laws.Rows
import Derived.Lib.AppendStr
import Derived.ArgAppend
import Derived.Laws.BitsLemmas
import Derived.RowKit
namespace Go.Proofs.Ytdcokepmblcdmaa
open Go.RowKit Go.Proofs.YtdcokepmblcdmaaW.PrintWords Go.Proofs.YtdcokepmblcdmaaW.PrintLast Go.Proofs.YtdcokepmblcdmaaW.PrintMore
attribute [local go_sem] max2_int min2_int max_two min_two max_three min_three max_four min_four
set_option linter.unusedVariables false
set_option linter.unusedSimpArgs false
/-- A row that is filled as far as k. -/
def rp (x : ByteArray) (n k : Nat) : List Value := List.replicate k (.string x) ++ List.replicate (n - k) (.string ⟨#[]⟩)
theorem rp_len (x : ByteArray) {n k : Nat} (h : k ≤ n) : (rp x n k).length = n := by simp [rp]; omega
theorem rp_full (x : ByteArray) (n : Nat) : rp x n n = encs Value.string (List.replicate n x) := by simp [rp, encs]
theorem rp_none (x : ByteArray) (n : Nat) : madeCells #[Value.string ⟨#[]⟩] n = (rp x n 0).toArray := by
  have h1 : (madeCells #[Value.string ⟨#[]⟩] n).toList = rp x n 0 := by
    apply List.ext_getElem
    · simp [rp, madeCells]
    · intro i h1 h2
      simp [rp, madeCells, Nat.mod_one]
  rw [← h1]
def rps (x : ByteArray) (m : Nat) : List Value := List.replicate m (.string x)
theorem rp_splice (x : ByteArray) {n k m : Nat} (h : k + m ≤ n) : splice (rp x n k) k (rps x m) = rp x n (k + m) := by
  unfold splice rp rps
  rw [List.take_left' (by simp), List.length_replicate, List.drop_append, List.drop_of_length_le (by simp), List.nil_append, List.length_replicate, ← List.append_assoc, List.replicate_append_replicate, List.drop_replicate]
  congr 2
  omega
theorem rp_at (x : ByteArray) {n k j : Nat} (h : j < k) : (rp x n k)[j]? = some (.string x) := by
  unfold rp
  rw [List.getElem?_append_left (by simpa using h), List.getElem?_replicate, if_pos h]
theorem rps_at {x : ByteArray} {m j : Nat} {v : Value} (h : (rps x m)[j]? = some v) : j < m ∧ v = .string x := by
  unfold rps at h
  rw [List.getElem?_replicate] at h
  split at h
  · rename_i hj; injection h with h; exact ⟨hj, h.symm⟩
  · cases h
theorem rps_len (x : ByteArray) (m : Nat) : (rps x m).length = m := by simp [rps]
theorem rps_one (x : ByteArray) (m : Nat) : ∀ v ∈ rps x m, v.oneCell' = true := by
  intro v hv
  unfold rps at hv
  obtain ⟨_, rfl⟩ := List.mem_replicate.1 hv
  rfl
set_option maxHeartbeats 2000000 in
set_option maxRecDepth 100000 in
theorem Try.Repeat_s (A : Option Addr) (c : Nat) (x : ByteArray) (n : Nat) (w : World) (hA : Kd.string.C w A 1 [x]) (hn1 : 1 ≤ n) (hn2 : n ≤ 65536) :
    Calls Try.prog 26 #[.slice A 1 c, .int .i64 n] w fun e w' => (∃ g cap, e = .returned (.slice (some ⟨g, 0, none⟩) n cap) ∧ w.heap.size ≤ g ∧ w'.ownsRow w.heap.size 9 1 (.slice (some ⟨g, 0, none⟩) n cap) n (encs Value.string (List.replicate n x))) ∧ Below w.heap.size w w' := by
  have hmk : ∀ W : World, (Instr.makeSlice 22 (.int .i64 (n : Int)) (.int .i64 (n : Int))).run Try.prog W = .ok (.slice (some ⟨W.heap.size, 0, none⟩) n n) (W.alloc (.cells (rp x n 0).toArray 9)) := fun W => by
    rw [← rp_none]
    exact run_make_row' 22 9 (.string ⟨#[]⟩) 16 (by kernel_rfl) (by kernel_rfl) rfl .i64 .i64 n (by omega) (by omega) W
  have hu := hid (show Try.prog.underlying 22 = some (.slice 9) by kernel_rfl)
  have hsz := hid (show (Try.prog.info? 9).map (·.size) = some 1 by kernel_rfl)
  obtain ⟨ad, rfl, hx⟩ := hA.2.2 (by omega)
  obtain ⟨cs0, e0, hr0, hc0⟩ := hx 0 x rfl
  obtain rfl : cs0 = [Value.string x] := hr0
  have hx0 := hc0 0 _ rfl
  have hx0 : w.cell? ad = some (.string x) := by simpa [Addr.add] using hx0
  clear hc0 e0 hx
  go_enter Try.func26, Try.ntmps26
  go_wp2_with fail
  refine (Try.bits_Mul 1 n (by omega) (by omega) _).mono ?_
  rintro e w1 ⟨rfl, rfl⟩
  have q1 : ((1 * n / 18446744073709551616 : Nat) : Int) = 0 := by omega
  have q2 : ((1 * n % 18446744073709551616 : Nat) : Int) = n := by omega
  rw [q1, q2]
  clear q1 q2
  have k0 : Below w1.heap.size w1 (w1.alloc (.cells (rp x n 0).toArray 9)) := below_alloc (Below.refl _ _) _
  have k1 : (w1.alloc (.cells (rp x n 0).toArray 9)).heap[w1.heap.size]? = some (.cells (rp x n 0).toArray 9 (0, 0)) := heap_alloc_new _ _
  have k2 : ∀ j v, (rps x 1)[j]? = some v → (w1.alloc (.cells (rp x n 0).toArray 9)).cell? (ad.add j) = some v := fun j v hj => by
    obtain ⟨h1, rfl⟩ := rps_at hj
    obtain rfl : j = 0 := by omega
    rw [show ad.add 0 = ad from rfl]
    exact pw_cell_below k0 hx0
  have hmin1 : (rps x 1).length = Nat.min 1 n := by rw [rps_len]; exact (Nat.min_eq_left hn1).symm
  go_wp2_with ((with_reducible refine gate_builtin (b := .copy) rfl ?_); go_loud (refine wpList_copy_splice rfl _ _ _ _ rfl 9 hu.out hsz.out _ _ _ _ _ _ rfl rfl w1.heap.size 0 (rp x n 0) 9 k1 (rps x 1) hmin1 (fun _ => ⟨rfl, _, rfl, k2⟩) (by rw [rps_len, rp_len x (Nat.zero_le n)]; omega) (rps_one x 1) w1.heap.size w1 k0 (Nat.le_refl _) ?_; intro w2 g2 b2; rw [rps_len]))
  clear k0 k1 k2
  go_loopw [8] (fun v wr => ∃ k : Nat, 1 ≤ k ∧ k ≤ n ∧ v = .int .i64 k ∧ Hid (wr.heap[w1.heap.size]? = some (.cells (rp x n k).toArray 9 (0, 0))) ∧ Below w1.heap.size w1 wr) (fun v _ => n - (intOf v).toNat)
  case atStart => exact ⟨1, Nat.le_refl _, hn1, rfl, by have := g2.out; rw [rp_splice x (by omega)] at this; exact hid this, b2⟩
  case round =>
    clear b2
    obtain ⟨k, hk0, hk1, rfl, hg, hb⟩ := hrel
    by_cases hlt : k < n
    · obtain ⟨m, hm⟩ : ∃ m, m = min (n - k) k := ⟨_, rfl⟩
      have hm1 : 1 ≤ m := by omega
      have hm2 : k + m ≤ n := by omega
      have hmk2 : m ≤ k := by omega
      have hm3 : m = Nat.min k (n - k) := by rw [hm]; exact Nat.min_comm _ _
      clear hm
      have hmin := hid (show (rps x m).length = Nat.min k (n - k) by rw [rps_len]; exact hm3)
      clear hm3
      have k3 : ∀ j v, (rps x m)[j]? = some v → wr.cell? ((⟨w1.heap.size, 0, none⟩ : Addr).add j) = some v := fun j v hj => by
        obtain ⟨h1, rfl⟩ := rps_at hj
        rw [add_plain, blk_cell hg.out, List.getElem?_toArray]
        exact rp_at x (Nat.lt_of_lt_of_le h1 hmk2)
      go_wp2_with fail
      have hlen : k + (rps x m).length ≤ (rp x n k).length := by rw [rps_len, rp_len x hk1]; omega
      go_region_law ((with_reducible refine gate_step (b := .copy) rfl ?_); refine step_copy_splice rfl (.tmp 41) (.tmp 44) 22 22 rfl 9 hu.out hsz.out (some ⟨w1.heap.size, k, none⟩) (some ⟨w1.heap.size, 0, none⟩) (n - k) (n - k) k n (by simp [Act.eval, Act.put]; omega) (by simp [Act.eval, Act.put]) w1.heap.size k (rp x n k) 9 hg.out (rps x m) hmin.out (fun _ => ⟨rfl, _, rfl, k3⟩) hlen (rps_one x m) w1.heap.size w1 hb.drew (Nat.le_refl _) ?_; intro w3 g3 b3; rw [rps_len])
      go_wp2_with fail
      go_roundw
      case rel => exact ⟨k + m, by omega, hm2, by rw [IntWalk.i64_in _ (by omega)]; omega, by have := g3.out; rw [rp_splice x hm2] at this; exact hid this⟩
      case measure => rw [IntWalk.i64_in _ (by omega)]; simp [intOf]; omega
    · obtain rfl : k = n := by omega
      go_wp2_with fail
      go_ret
      have hb2 := hb.size
      have hl := blk_lt hg.out
      exact ⟨⟨w1.heap.size, k, rfl, Nat.le_refl _, by simp [encs], .inr ⟨w1.heap.size, k, _, rfl, Nat.le_refl _, hg.out, Nat.le_refl _, by unfold maxLen; omega, by simp [rp_len], by rw [rp_full]; simp [encs]⟩⟩, hb⟩
/-- A sector of one byte. -/
def sect (c : Int) : ByteArray := ⟨(List.replicate 128 (UInt8.ofNat c.toNat)).toArray⟩
theorem sect_size (c : Int) : (sect c).size = 128 := by simp [sect, ByteArray.size]
theorem sect_rep (b : UInt8) : (⟨(Lib.repeatL [b] 128).toArray⟩ : ByteArray) = sect b.toNat := by
  have h : ∀ n, Lib.repeatL [b] n = List.replicate n b := by
    intro n
    induction n with
    | zero => rfl
    | succ n ih => rw [Lib.repeatL, ih]; rfl
  rw [h, sect]
  simp
def newD (n : Int) : SD × Int := if 4 ≤ n ∧ n ≤ 64 then (⟨List.replicate n.toNat (sect 0), []⟩, 0) else (noD, 1)
set_option maxHeartbeats 4000000 in
set_option maxRecDepth 100000 in
theorem disk_New (S : Nat → Prop) (n : Int) (w : World) (hS : ∀ k, S k → k < w.heap.size) :
    Calls Try.prog 14 #[.int .i64 n] w fun e w' => (∃ r, e = .returned (.tuple #[r, .int .i64 (newD n).2]) ∧ St S w' (fun w => VDisk w r (newD n).1)) ∧ Below w.heap.size w w' := by
  obtain ⟨S1, hP⟩ := priv w hS 1
  have hz : True := trivial
  have hc : True := trivial
  have hf : True := trivial
  by_cases h4 : n < 4
  · have hs := hid (show newD n = (noD, 1) by unfold newD; rw [if_neg (by omega)])
    go_enter Try.func14, Try.ntmps14
    go_wp2
    exact bodyPost_ret (v := .tuple #[.agg #[.slice none 0 0, .slice none 0 0], .int .i64 1]) (by simp [results, Try.results14, go_sem, *]) rfl ⟨⟨_, by rw [hs.out], by rw [hs.out]; exact VDisk.zero _ _⟩, (by repeat (first | exact Below.refl _ _ | (with_reducible assumption) | refine below_alloc ?_ _ | refine pw_below_drewN ?_ _ | refine below_drew ?_ | refine Below.setCell ?_ (by dsimp only; omega) _ | refine below_step ?_ (by assumption)))⟩
  · by_cases h64 : 64 < n
    · have hs := hid (show newD n = (noD, 1) by unfold newD; rw [if_neg (by omega)])
      go_enter Try.func14, Try.ntmps14
      go_wp2
      exact bodyPost_ret (v := .tuple #[.agg #[.slice none 0 0, .slice none 0 0], .int .i64 1]) (by simp [results, Try.results14, go_sem, *]) rfl ⟨⟨_, by rw [hs.out], by rw [hs.out]; exact VDisk.zero _ _⟩, (by repeat (first | exact Below.refl _ _ | (with_reducible assumption) | refine below_alloc ?_ _ | refine pw_below_drewN ?_ _ | refine below_drew ?_ | refine Below.setCell ?_ (by dsimp only; omega) _ | refine below_step ?_ (by assumption)))⟩
    · obtain ⟨m, rfl⟩ := Int.eq_ofNat_of_zero_le (show 0 ≤ n by omega)
      have hs := hid (show newD m = (⟨List.replicate m (sect 0), []⟩, 0) by unfold newD; rw [if_pos (by omega)]; rfl)
      go_enter Try.func14, Try.ntmps14
      go_wp2_with fail
      refine (Try.strings_Repeat ⟨#[0]⟩ 128 _ (by omega) (by decide)).mono ?_
      rintro e w1 ⟨rfl, b1⟩
      have hc' := fun (b o : Nat) (h : b < w.heap.size + 1) => b1.cell (p := ⟨b, o, none⟩) (show b < _ by first | omega | (simp <;> omega))
      first
        | (replace hc := fun (b o : Nat) (h : b < w.heap.size + 1) => (hc' b o h).trans (hc b o h))
        | (replace hc := fun (b o : Nat) (h : b < w.heap.size + 1) => (hc' b o h).trans ((cell_al (show b < _ by omega)).trans (hc b o h)))
        | (replace hc := fun (b o : Nat) (h : b < w.heap.size + 1) => (hc' b o h).trans ((cell_al (show b < _ by simp <;> omega)).trans ((cell_al (show b < _ by omega)).trans (hc b o h))))
        | (replace hc := fun (b o : Nat) (h : b < w.heap.size + 1) => (hc' b o h).trans ((cell_al (show b < _ by simp <;> omega)).trans ((cell_al (show b < _ by simp <;> omega)).trans ((cell_al (show b < _ by omega)).trans (hc b o h)))))
        | (have hc := hc')
      clear hc'
      have hf' := fun (b o : Nat) (h : b < w.heap.size + 1) => b1.frozen (p := ⟨b, o, none⟩) (show b < _ by first | omega | (simp <;> omega))
      first
        | (replace hf := fun (b o : Nat) (h : b < w.heap.size + 1) => (hf' b o h).trans (hf b o h))
        | (replace hf := fun (b o : Nat) (h : b < w.heap.size + 1) => (hf' b o h).trans ((frozen_al (show b < _ by omega)).trans (hf b o h)))
        | (replace hf := fun (b o : Nat) (h : b < w.heap.size + 1) => (hf' b o h).trans ((frozen_al (show b < _ by simp <;> omega)).trans ((frozen_al (show b < _ by omega)).trans (hf b o h))))
        | (replace hf := fun (b o : Nat) (h : b < w.heap.size + 1) => (hf' b o h).trans ((frozen_al (show b < _ by simp <;> omega)).trans ((frozen_al (show b < _ by simp <;> omega)).trans ((frozen_al (show b < _ by omega)).trans (hf b o h)))))
        | (have hf := hf')
      clear hf'
      have hz' := b1.size
      try simp only [World.size_alloc, World.size_setCell, World.size_drew, size_drewN] at hz'
      replace hz : w.heap.size + 1 ≤ w1.heap.size := by omega
      have hz1 := hz
      clear hz'
      rw [show (⟨(Lib.repeatL (⟨#[0]⟩ : ByteArray).data.toList 128).toArray⟩ : ByteArray) = sect 0 from sect_rep 0]
      go_wp2_with fail
      refine (Try.Repeat_s _ 1 (sect 0) m _ (one_str _ _ _) (by omega) (by omega)).mono ?_
      rintro e w2 ⟨⟨g, cap, rfl, hg, hown⟩, b2⟩
      have hc' := fun (b o : Nat) (h : b < w.heap.size + 1) => b2.cell (p := ⟨b, o, none⟩) (show b < _ by first | omega | (simp <;> omega))
      first
        | (replace hc := fun (b o : Nat) (h : b < w.heap.size + 1) => (hc' b o h).trans (hc b o h))
        | (replace hc := fun (b o : Nat) (h : b < w.heap.size + 1) => (hc' b o h).trans ((cell_al (show b < _ by omega)).trans (hc b o h)))
        | (replace hc := fun (b o : Nat) (h : b < w.heap.size + 1) => (hc' b o h).trans ((cell_al (show b < _ by simp <;> omega)).trans ((cell_al (show b < _ by omega)).trans (hc b o h))))
        | (replace hc := fun (b o : Nat) (h : b < w.heap.size + 1) => (hc' b o h).trans ((cell_al (show b < _ by simp <;> omega)).trans ((cell_al (show b < _ by simp <;> omega)).trans ((cell_al (show b < _ by omega)).trans (hc b o h)))))
        | (have hc := hc')
      clear hc'
      have hf' := fun (b o : Nat) (h : b < w.heap.size + 1) => b2.frozen (p := ⟨b, o, none⟩) (show b < _ by first | omega | (simp <;> omega))
      first
        | (replace hf := fun (b o : Nat) (h : b < w.heap.size + 1) => (hf' b o h).trans (hf b o h))
        | (replace hf := fun (b o : Nat) (h : b < w.heap.size + 1) => (hf' b o h).trans ((frozen_al (show b < _ by omega)).trans (hf b o h)))
        | (replace hf := fun (b o : Nat) (h : b < w.heap.size + 1) => (hf' b o h).trans ((frozen_al (show b < _ by simp <;> omega)).trans ((frozen_al (show b < _ by omega)).trans (hf b o h))))
        | (replace hf := fun (b o : Nat) (h : b < w.heap.size + 1) => (hf' b o h).trans ((frozen_al (show b < _ by simp <;> omega)).trans ((frozen_al (show b < _ by simp <;> omega)).trans ((frozen_al (show b < _ by omega)).trans (hf b o h)))))
        | (have hf := hf')
      clear hf'
      have hz' := b2.size
      try simp only [World.size_alloc, World.size_setCell, World.size_drew, size_drewN] at hz'
      replace hz : w.heap.size + 1 ≤ w2.heap.size := by omega
      have hz2 := hz
      clear hz'
      obtain ⟨hC, hcap⟩ := own_C (by simp) hown (by omega) (by omega)
      have hg2 : w1.heap.size ≤ g := by simp at hg; omega
      have hC2 : St S1 w2 (fun w => Kd.string.C w (some ⟨g, 0, none⟩) _ (List.replicate m (sect 0))) := St.ofC (fun _ _ _ _ h => h) hC (fun ad he _ hs => by cases he; have := hP.lt _ hs; have := hz1; dsimp only at *; omega)
      go_wp2
      exact bodyPost_ret (v := .tuple #[.agg #[.slice (some ⟨g, 0, none⟩) m cap, .slice none 0 0], .int .i64 0]) (by simp [results, Try.results14, go_sem, *]) rfl ⟨⟨_, by rw [hs.out], by rw [hs.out]; exact VDisk.mkn (x := ⟨List.replicate m (sect 0), []⟩) (by simp) hcap ((hC2.keep (by repeat (first | exact Keep.refl _ _ | (with_reducible assumption) | refine Keep.alloc ?_ _ | refine Keep.drewN ?_ _ | refine Keep.drew ?_ | refine Keep.set ?_ (by first | exact .inl rfl | exact .inr (by dsimp only; omega) | exact .inl (hP.own _ (by dsimp only; omega) (by dsimp only; omega)) | exact .inl (by assumption)) _ | refine Keep.step ?_ (by assumption)))).sub hP.up) rfl (Nat.le_refl _) (fun w _ => Kd.C_nil _ w)⟩, (by repeat (first | exact Below.refl _ _ | (with_reducible assumption) | refine below_alloc ?_ _ | refine pw_below_drewN ?_ _ | refine below_drew ?_ | refine Below.setCell ?_ (by dsimp only; omega) _ | refine below_step ?_ (by assumption)))⟩
end Go.Proofs.Ytdcokepmblcdmaa
