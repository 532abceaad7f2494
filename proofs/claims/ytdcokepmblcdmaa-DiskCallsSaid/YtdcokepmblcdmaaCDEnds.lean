/- disk.ends. -/
import Derived.RegionTactic
import Derived.BigRegion
import Derived.Test.YtdcokepmblcdmaaBase
import Derived.Test.YtdcokepmblcdmaaShelf
import Derived.Test.YtdcokepmblcdmaaOct
import Derived.Test.YtdcokepmblcdmaaKDisk
import Derived.Test.YtdcokepmblcdmaaAny
import Derived.Test.YtdcokepmblcdmaaCDWell
import Derived.Test.YtdcokepmblcdmaaCDRight
import Derived.Test.YtdcokepmblcdmaaDSave
import Derived.Test.YtdcokepmblcdmaaCClone
import Derived.Below
import Derived.Deep.Draws
import Derived.OwnWalk
import Derived.Laws.BytesArg
import Derived.Laws.MakeOwn
import Derived.Laws.OwnMore
import Derived.Deep.OwnRows
import Derived.Tactics
import Derived.Lib.ConvBytes
import Derived.Laws.Slices
import Derived.WalkKit
import Derived.KernelRfl
import Derived.RowKit3
import Derived.Deep.LoopGhost
import Derived.Deep.QuietTactic
import Derived.BigQuiet
import Derived.WideLaws
import Derived.Deep.DeepCutAuto
import Derived.Deep.CutBlock
import Derived.Deep.RegionHeld3
import Derived.Laws.Rows
import Derived.Lib.AppendStr
import Derived.ArgAppend
import Derived.Laws.BitsLemmas
import Derived.RowKit
namespace Go.Proofs.Ytdcokepmblcdmaa
open Go.RowKit Go.Proofs.YtdcokepmblcdmaaW.PrintWords Go.Proofs.YtdcokepmblcdmaaW.PrintLast Go.Proofs.YtdcokepmblcdmaaW.PrintMore
attribute [local go_sem] max2_int min2_int max_two min_two max_three min_three max_four min_four
set_option linter.unusedVariables false
set_option linter.unusedSimpArgs false
/-- What one fate makes of the sectors. -/
def stepE (f : Int) (x : SW) (l : List ByteArray) : List ByteArray := if f = 2 then l.set x.f0.toNat (x.f1.extract 0 64 ++ (l.getD x.f0.toNat ByteArray.empty).extract 64 128) else if f = 1 then l.set x.f0.toNat x.f1 else l
def endsTo (ft : Nat → Int) (s : List ByteArray) (t : List SW) : Nat → List ByteArray
  | 0 => s
  | k + 1 => stepE (ft k) (t.getD k z36) (endsTo ft s t k)
def S128 (l : List ByteArray) : Prop := ∀ j (h : j < l.length), (l[j]).size = 128
def W128 (n : Nat) (t : List SW) : Prop := ∀ j, j < t.length → 0 ≤ (t.getD j z36).f0 ∧ (t.getD j z36).f0 < n ∧ (t.getD j z36).f1.size = 128
theorem own_lower {w : World} {b b' : Nat} {e : TypeId} {size n : Nat} {v : Value} {xs : List Value} (h : w.ownsRow b e size v n xs) (hb : b' ≤ b) : w.ownsRow b' e size v n xs := by
  rcases h with ⟨h1, h2 | ⟨g, cap, cur, h3, h4, h5⟩⟩
  · exact ⟨h1, .inl h2⟩
  · exact ⟨h1, .inr ⟨g, cap, cur, h3, Nat.le_trans hb h4, h5⟩⟩
theorem extract_128 {x : ByteArray} (h : x.size = 128) : x.extract 0 128 = x := by rw [← h, ByteArray.extract_zero_size]
theorem app_none (x : ByteArray) : x ++ (⟨#[]⟩ : ByteArray) = x := ByteArray.append_empty
theorem own_lt {w : World} {b g cap n : Nat} {e : TypeId} {xs : List Value} (h : w.ownsRow b e 1 (.slice (some ⟨g, 0, none⟩) n cap) n xs) : g < w.heap.size := by
  rcases h.2 with ⟨h0, _⟩ | ⟨g', cap', cur, h3, h4, h5, _⟩
  · cases h0
  · injection h3 with h3; injection h3 with h3; injection h3 with h3; subst h3; exact blk_lt h5
theorem own_C {w : World} {b g cap n : Nat} {e : TypeId} {xs : List ByteArray} (hl : xs.length = n) (h : w.ownsRow b e 1 (.slice (some ⟨g, 0, none⟩) n cap) n (encs Value.string xs)) (hm : n ≤ 9223372036854775807) (hn : 0 < n) : Kd.string.C w (some ⟨g, 0, none⟩) xs.length xs ∧ n ≤ cap := by
  subst hl
  refine ⟨Kd.C_of_reads (enc := Value.string) (d := ByteArray.empty) (h1 := fun _ => rfl) ⟨rfl, hm, fun _ => ⟨_, rfl, fun j hj => ?_⟩⟩, ?_⟩
  · have := (own_at_of (d := ByteArray.empty) h (j : Int) (by omega) (by omega)).1
    rw [Int.toNat_natCast, rdOf, Int.toNat_natCast] at this
    rw [add_plain]
    simpa using this
  · rcases h.2 with ⟨_, h0⟩ | ⟨g', cap', cur, h3, h4, h5, h6, _⟩
    · omega
    · injection h3 with _ _ h3; omega
theorem stepE_len (f : Int) (x : SW) (l : List ByteArray) : (stepE f x l).length = l.length := by
  unfold stepE; split
  · rw [List.length_set]
  · split
    · rw [List.length_set]
    · rfl
theorem S128_at {l : List ByteArray} (h : S128 l) {j : Nat} (hj : j < l.length) : (l.getD j ByteArray.empty).size = 128 := by
  rw [List.getD_eq_getElem?_getD, List.getElem?_eq_getElem hj]; exact h j hj
theorem S128_set {l : List ByteArray} (h : S128 l) (i : Nat) (b : ByteArray) (hb : b.size = 128) : S128 (l.set i b) := by
  intro j hj
  rw [List.getElem_set]
  split
  · exact hb
  · exact h _ _
theorem stepE_128 {f : Int} {x : SW} {l : List ByteArray} (h : S128 l) (hx : x.f0.toNat < l.length) (hs : x.f1.size = 128) : S128 (stepE f x l) := by
  unfold stepE; split
  · refine S128_set h _ _ ?_
    have := S128_at h hx
    rw [ByteArray.size_append, ByteArray.size_extract, ByteArray.size_extract]; omega
  · split
    · exact S128_set h _ _ hs
    · exact h
theorem endsTo_len (ft : Nat → Int) (s : List ByteArray) (t : List SW) (k : Nat) : (endsTo ft s t k).length = s.length := by
  induction k with
  | zero => rfl
  | succ k ih => rw [endsTo, stepE_len, ih]
theorem endsTo_128 (ft : Nat → Int) {s : List ByteArray} {t : List SW} (hs : S128 s) (ht : W128 s.length t) (k : Nat) (hk : k ≤ t.length) : S128 (endsTo ft s t k) := by
  induction k with
  | zero => exact hs
  | succ k ih =>
    obtain ⟨h1, h2, h3⟩ := ht k (by omega)
    exact stepE_128 (ih (by omega)) (by rw [endsTo_len]; omega) h3
set_option maxHeartbeats 4000000 in
set_option maxRecDepth 100000 in
theorem disk_ends (A0 : Option Addr) (c0 : Nat) (A1 : Option Addr) (c1 : Nat) (s : List ByteArray) (t : List SW) (fn : Nat) (caps : Array Value) (ft : Nat → Int) (w : World) (h0 : Kd.string.C w A0 s.length s) (l0 : s.length ≤ c0) (h1 : Kd.C k36 w A1 t.length t) (l1 : t.length ≤ c1)
    (hs : S128 s) (ht : W128 s.length t) (hn : 0 < s.length) (hn2 : s.length ≤ 64) (hen : ∀ args w1, Sem.run Try.prog (callFunc fn args) w1 = .ok (.enter fn args) w1) (hft : ∀ (i : Nat) w1, i < t.length → Below w.heap.size w w1 → Calls Try.prog fn (#[.int .i64 i] ++ caps) w1 fun e w' => e = .returned (.int .i64 (ft i)) ∧ Below w1.heap.size w1 w') :
    Calls Try.prog 24 #[.agg #[.slice A0 s.length c0, .slice A1 t.length c1], .func (Fn.func fn) #[] caps] w fun e w' => (∃ g cap, e = .returned (.agg #[.slice (some ⟨g, 0, none⟩) s.length cap, .slice none 0 0]) ∧ w.heap.size ≤ g ∧ s.length ≤ cap ∧ Kd.string.C w' (some ⟨g, 0, none⟩) (endsTo ft s t t.length).length (endsTo ft s t t.length)) ∧ Below w.heap.size w w' := by
  have m1 := Kd.C_max h1
  go_enter Try.func24, Try.ntmps24
  go_wp2_with fail
  refine (Try.Clone_s A0 s c0 _ (Kd.C_alloc (Kd.C_alloc h0 _) _) (by omega) hn l0).mono ?_
  rintro e w1 ⟨⟨g, cap, rfl, hg, hown⟩, b1⟩
  have b1' := below_then (below_alloc (below_alloc (Below.refl _ w) _) _) (by simp <;> omega) b1
  obtain ⟨t0, t1⟩ := two_blocks w (.cells #[.slice A0 s.length c0, .slice A1 t.length c1] 25) (.cells #[.slice none 0 0, .slice none 0 0] 25)
  replace t0 := blk_below t0 b1
  replace t1 := blk_below t1 b1
  clear b1
  have x0 := blk_cell t0 0
  have x1 := blk_cell t0 1
  have y0 := blk_cell t1 0
  have y1 := blk_cell t1 1
  have f0 := blk_frozen t0 0
  have f1 := blk_frozen t0 1
  have e0 := blk_frozen t1 0
  have e1 := blk_frozen t1 1
  simp only [List.getElem?_toArray, List.getElem?_cons_zero, List.getElem?_cons_succ] at x0 x1 y0 y1
  have hg2 : w.heap.size + 2 ≤ g := by simpa using hg
  have hown := own_lower (b' := w.heap.size) hown (by simp <;> omega)
  clear hg
  go_wp2_with fail
  go_loopw [15] (fun i wr => ∃ k : Nat, k ≤ t.length ∧ i = .int .i64 k ∧ wr.ownsRow w.heap.size 9 1 (.slice (some ⟨g, 0, none⟩) s.length cap) s.length (encs Value.string (endsTo ft s t k)) ∧ Below w.heap.size w wr ∧ wr.heap[w.heap.size + 1]? = some (.cells #[.slice none 0 0, .slice none 0 0] 25 (0, 0))) (fun i _ => t.length - (intOf i).toNat)
  case atStart => exact ⟨0, Nat.zero_le _, rfl, hown, b1', t1⟩
  case round =>
    clear hown b1' x0 x1 y0 y1 f0 f1 e0 e1 t0 t1
    obtain ⟨k, hk, rfl, hown, b2, t1⟩ := hrel
    by_cases hlt : k < t.length
    · obtain ⟨p1, p2, p3⟩ := ht k hlt
      obtain ⟨ad, rfl, hcells⟩ := at_T36 (Kd.C_below h1 b2) (k : Int) (by omega) (by omega)
      rw [Int.toNat_natCast] at hcells
      have hx : rd_T36 t (k : Int) = t.getD k z36 := by rw [rd_T36, Int.toNat_natCast]
      rw [hx] at hcells
      clear hx
      obtain ⟨h1', h2'⟩ := hcells
      have HS : endsTo ft s t (k + 1) = stepE (ft k) (t.getD k z36) (endsTo ft s t k) := rfl
      have HS := hid HS
      generalize t.getD k z36 = x at *
      have hL := endsTo_len ft s t k
      have h128 := endsTo_128 ft hs ht k hk
      have HS := HS.out
      generalize endsTo ft s t k = l at *
      have HS := hid HS
      go_wp2_with fail
      refine (hft k _ hlt (b2.alloc b2.size _)).mono ?_
      rintro e w3 ⟨rfl, b3⟩
      have b3' := below_step (b2.alloc b2.size _) b3
      have hsz := blk_lt t1
      have hgl : g < wr.heap.size := own_lt hown
      have tb := blk_below (heap_alloc_new wr (.cells #[.int .i64 x.f0, .string x.f1] 36)) b3
      have t1 : w3.heap[w.heap.size + 1]? = some (.cells #[.slice none 0 0, .slice none 0 0] 25 (0, 0)) := (b3.block _ (by simp; omega)).trans ((heap_alloc_old _ _ hsz).trans t1)
      have hown := own_move hown (w1 := w3) (fun j hj => by simp [Value.ownBlock] at hj; subst hj; exact (b3.block _ (by simp; omega)).trans (heap_alloc_old _ _ hgl))
      obtain ⟨z0, z1⟩ := own_at_of (d := ByteArray.empty) hown x.f0 p1 (by omega)
      have hy := S128_at h128 (j := x.f0.toNat) (by omega)
      rw [rdOf] at z0
      have q0 := blk_cell tb 0
      have q1 := blk_cell tb 1
      simp only [List.getElem?_toArray, List.getElem?_cons_zero, List.getElem?_cons_succ] at q0 q1
      generalize hY : l.getD x.f0.toNat ByteArray.empty = y at *
      have hY := hid hY
      by_cases hf2 : ft k = 2
      · have HN : endsTo ft s t (k + 1) = l.set x.f0.toNat (x.f1.extract 0 64 ++ y.extract 64 128) := by rw [HS.out, stepE, if_pos hf2, hY.out]
        have HN := hid HN
        rw [hf2]
        clear hf2 HS
        go_wp2_with fail
        have hr : (y.extract 64 128).size = 64 := by rw [ByteArray.size_extract]; omega
        generalize y.extract 64 128 = r at *
        go_region
        obtain ⟨hown1, hgb⟩ := own_store_of hown x.f0 (x.f1.extract 0 64 ++ r)
        have b5 : Below w.heap.size w (w3.setCell ⟨g, x.f0.toNat, none⟩ (.string (x.f1.extract 0 64 ++ r))) := b3'.setCell (p := ⟨g, x.f0.toNat, none⟩) (by simp; omega) _
        have t2 : (w3.setCell ⟨g, x.f0.toNat, none⟩ (.string (x.f1.extract 0 64 ++ r))).heap[w.heap.size + 1]? = some (.cells #[.slice none 0 0, .slice none 0 0] 25 (0, 0)) := (Below.heap_setCell _ _ _ _ (by simp; omega)).trans t1
        rw [← HN.out] at hown1
        clear hown t1 b3' z0 z1 HN q0 q1 tb
        generalize w3.setCell ⟨g, x.f0.toNat, none⟩ (.string (x.f1.extract 0 64 ++ r)) = w5 at *
        go_wp2_with fail
        exact ⟨⟨k + 1, by omega, by go_num, own_move hown1 (fun _ _ => rfl), b5.drew, t2⟩, by simp [intOf]; omega⟩
      · by_cases hf1 : ft k = 1
        · have HN : endsTo ft s t (k + 1) = l.set x.f0.toNat x.f1 := by rw [HS.out, stepE, if_neg hf2, if_pos hf1]
          have HN := hid HN
          rw [hf1]
          clear hf2 hf1 HS
          have hr := extract_128 p3
          go_wp2_with fail
          go_region
          rw [app_none x.f1]
          obtain ⟨hown1, hgb⟩ := own_store_of hown x.f0 x.f1
          have b5 : Below w.heap.size w (w3.setCell ⟨g, x.f0.toNat, none⟩ (.string x.f1)) := b3'.setCell (p := ⟨g, x.f0.toNat, none⟩) (by simp; omega) _
          have t2 : (w3.setCell ⟨g, x.f0.toNat, none⟩ (.string x.f1)).heap[w.heap.size + 1]? = some (.cells #[.slice none 0 0, .slice none 0 0] 25 (0, 0)) := (Below.heap_setCell _ _ _ _ (by simp; omega)).trans t1
          rw [← HN.out] at hown1
          clear hown t1 b3' z0 z1 HN q0 q1 tb
          generalize w3.setCell ⟨g, x.f0.toNat, none⟩ (.string x.f1) = w5 at *
          go_wp2_with fail
          exact ⟨⟨k + 1, by omega, by go_num, own_move hown1 (fun _ _ => rfl), b5.drew, t2⟩, by simp [intOf]; omega⟩
        · have HN : endsTo ft s t (k + 1) = l := by rw [HS.out, stepE, if_neg hf2, if_neg hf1]
          have HN := hid HN
          clear HS
          go_wp2_with fail
          exact ⟨⟨k + 1, by omega, by go_num, by rw [HN.out]; exact hown, b3', t1⟩, by simp [intOf]; omega⟩
    · obtain rfl : k = t.length := by omega
      have y0 := blk_cell t1 0
      have y1 := blk_cell t1 1
      have e0 := blk_frozen t1 0
      have e1 := blk_frozen t1 1
      simp only [List.getElem?_toArray, List.getElem?_cons_zero, List.getElem?_cons_succ] at y0 y1
      obtain ⟨r1, r2, r3, r4⟩ := ret2_cells t1 (.slice (some ⟨g, 0, none⟩) s.length cap) (.slice none 0 0)
      go_wp2_with fail
      have hsz := blk_lt t1
      have bF : Below w.heap.size w ((wr.setCell ⟨w.heap.size + 1, 0, none⟩ (.slice (some ⟨g, 0, none⟩) s.length cap)).setCell ⟨w.heap.size + 1, 1, none⟩ (.slice none 0 0)) := (b2.setCell (p := ⟨w.heap.size + 1, 0, none⟩) (by simp) _).setCell (p := ⟨w.heap.size + 1, 1, none⟩) (by simp) _
      have ho2 := own_move (own_move hown (w1 := wr.setCell ⟨w.heap.size + 1, 0, none⟩ (.slice (some ⟨g, 0, none⟩) s.length cap)) (fun k hk => by simp [Value.ownBlock] at hk; exact Below.heap_setCell _ _ _ _ (by simp; omega))) (w1 := (wr.setCell ⟨w.heap.size + 1, 0, none⟩ (.slice (some ⟨g, 0, none⟩) s.length cap)).setCell ⟨w.heap.size + 1, 1, none⟩ (.slice none 0 0)) (fun k hk => by simp [Value.ownBlock] at hk; exact Below.heap_setCell _ _ _ _ (by simp; omega))
      obtain ⟨hC, hcap⟩ := own_C (endsTo_len ft s t t.length) ho2 (Nat.le_trans hn2 (by decide)) hn
      exact bodyPost_ret (v := .agg #[.slice (some ⟨g, 0, none⟩) s.length cap, .slice none 0 0]) (by simp [results, Try.results24, go_sem, r3, r4]) rfl ⟨⟨g, cap, rfl, by omega, hcap, hC⟩, bF⟩
end Go.Proofs.Ytdcokepmblcdmaa
