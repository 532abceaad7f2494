/- The row of the law DiskCrashes: for every input that the row speaks of the law returns true; each argument reads behind the call as it read before. -/
import Derived.RegionTactic
import Derived.BigRegion
import Derived.Test.YtjpomfbkfgkifaaQDiskCrashesC
import Derived.Below
import Derived.Deep.Draws
import Derived.OwnWalk
import Derived.Laws.BytesArg
import Derived.Laws.MakeOwn
import Derived.Laws.OwnMore
import Derived.Deep.OwnRows
import Derived.Tactics
import Derived.Lib.ConvBytes
import Derived.Laws.Slices
import Derived.WalkKit
import Derived.KernelRfl
import Derived.RowKit3
import Derived.Deep.LoopGhost
import Derived.Deep.QuietTactic
import Derived.BigQuiet
import Derived.WideLaws
import Derived.Deep.DeepCutAuto
import Derived.Deep.CutBlock
import Derived.Deep.RegionHeld3
import Derived.Laws.Rows
import Derived.Lib.AppendStr
import Derived.ArgAppend
import Derived.Laws.BitsLemmas
import Derived.RowKit
import Derived.SizedLaws
import Derived.SliceStrings
import Derived.Test.YtjpomfbkfgkifaaWSized
import Derived.Laws.CopyOwn
import Derived.Deep.RegionLaw
import Derived.IntWalk
import Derived.RegionCalls
import Derived.Test.YtjpomfbkfgkifaaProg
import Derived.Test.YtjpomfbkfgkifaaQDiskCrashesB
import Derived.Test.YtjpomfbkfgkifaaRows
import Derived.ProofKit
import Derived.OpenShut
import Derived.ShutString
import Derived.ChangeOld
import Derived.Carry
section
/- disk.ends. -/
namespace Go.Proofs.Ytjpomfbkfgkifaa
open Go.RowKit Go.Proofs.YtjpomfbkfgkifaaW.PrintWords Go.Proofs.YtjpomfbkfgkifaaW.PrintLast Go.Proofs.YtjpomfbkfgkifaaW.PrintMore
attribute [local go_sem] max2_int min2_int max_two min_two max_three min_three max_four min_four
set_option linter.unusedVariables false
set_option linter.unusedSimpArgs false
/-- What one fate makes of the sectors. -/
def stepE (f : Int) (x : SW) (l : List ByteArray) : List ByteArray := if f = 2 then l.set x.f0.toNat (x.f1.extract 0 64 ++ (l.getD x.f0.toNat ByteArray.empty).extract 64 128) else if f = 1 then l.set x.f0.toNat x.f1 else l
def endsTo (ft : Nat → Int) (s : List ByteArray) (t : List SW) : Nat → List ByteArray
  | 0 => s
  | k + 1 => stepE (ft k) (t.getD k z36) (endsTo ft s t k)
def S128 (l : List ByteArray) : Prop := ∀ j (h : j < l.length), (l[j]).size = 128
def W128 (n : Nat) (t : List SW) : Prop := ∀ j, j < t.length → 0 ≤ (t.getD j z36).f0 ∧ (t.getD j z36).f0 < n ∧ (t.getD j z36).f1.size = 128
theorem own_lower {w : World} {b b' : Nat} {e : TypeId} {size n : Nat} {v : Value} {xs : List Value} (h : w.ownsRow b e size v n xs) (hb : b' ≤ b) : w.ownsRow b' e size v n xs := by
  rcases h with ⟨h1, h2 | ⟨g, cap, cur, h3, h4, h5⟩⟩
  · exact ⟨h1, .inl h2⟩
  · exact ⟨h1, .inr ⟨g, cap, cur, h3, Nat.le_trans hb h4, h5⟩⟩
theorem extract_128 {x : ByteArray} (h : x.size = 128) : x.extract 0 128 = x := by rw [← h, ByteArray.extract_zero_size]
theorem app_none (x : ByteArray) : x ++ (⟨#[]⟩ : ByteArray) = x := ByteArray.append_empty
theorem own_lt {w : World} {b g cap n : Nat} {e : TypeId} {xs : List Value} (h : w.ownsRow b e 1 (.slice (some ⟨g, 0, none⟩) n cap) n xs) : g < w.heap.size := by
  rcases h.2 with ⟨h0, _⟩ | ⟨g', cap', cur, h3, h4, h5, _⟩
  · cases h0
  · injection h3 with h3; injection h3 with h3; injection h3 with h3; subst h3; exact blk_lt h5
theorem own_C {w : World} {b g cap n : Nat} {e : TypeId} {xs : List ByteArray} (hl : xs.length = n) (h : w.ownsRow b e 1 (.slice (some ⟨g, 0, none⟩) n cap) n (encs Value.string xs)) (hm : n ≤ 9223372036854775807) (hn : 0 < n) : Kd.string.C w (some ⟨g, 0, none⟩) xs.length xs ∧ n ≤ cap := by
  subst hl
  refine ⟨Kd.C_of_reads (enc := Value.string) (d := ByteArray.empty) (h1 := fun _ => rfl) ⟨rfl, hm, fun _ => ⟨_, rfl, fun j hj => ?_⟩⟩, ?_⟩
  · have := (own_at_of (d := ByteArray.empty) h (j : Int) (by omega) (by omega)).1
    rw [Int.toNat_natCast, rdOf, Int.toNat_natCast] at this
    rw [add_plain]
    simpa using this
  · rcases h.2 with ⟨_, h0⟩ | ⟨g', cap', cur, h3, h4, h5, h6, _⟩
    · omega
    · injection h3 with _ _ h3; omega
theorem stepE_len (f : Int) (x : SW) (l : List ByteArray) : (stepE f x l).length = l.length := by
  unfold stepE; split
  · rw [List.length_set]
  · split
    · rw [List.length_set]
    · rfl
theorem S128_at {l : List ByteArray} (h : S128 l) {j : Nat} (hj : j < l.length) : (l.getD j ByteArray.empty).size = 128 := by
  rw [List.getD_eq_getElem?_getD, List.getElem?_eq_getElem hj]; exact h j hj
theorem S128_set {l : List ByteArray} (h : S128 l) (i : Nat) (b : ByteArray) (hb : b.size = 128) : S128 (l.set i b) := by
  intro j hj
  rw [List.getElem_set]
  split
  · exact hb
  · exact h _ _
theorem stepE_128 {f : Int} {x : SW} {l : List ByteArray} (h : S128 l) (hx : x.f0.toNat < l.length) (hs : x.f1.size = 128) : S128 (stepE f x l) := by
  unfold stepE; split
  · refine S128_set h _ _ ?_
    have := S128_at h hx
    rw [ByteArray.size_append, ByteArray.size_extract, ByteArray.size_extract]; omega
  · split
    · exact S128_set h _ _ hs
    · exact h
theorem endsTo_len (ft : Nat → Int) (s : List ByteArray) (t : List SW) (k : Nat) : (endsTo ft s t k).length = s.length := by
  induction k with
  | zero => rfl
  | succ k ih => rw [endsTo, stepE_len, ih]
theorem endsTo_128 (ft : Nat → Int) {s : List ByteArray} {t : List SW} (hs : S128 s) (ht : W128 s.length t) (k : Nat) (hk : k ≤ t.length) : S128 (endsTo ft s t k) := by
  induction k with
  | zero => exact hs
  | succ k ih =>
    obtain ⟨h1, h2, h3⟩ := ht k (by omega)
    exact stepE_128 (ih (by omega)) (by rw [endsTo_len]; omega) h3
set_option maxHeartbeats 4000000 in
set_option maxRecDepth 100000 in
theorem disk_ends (A0 : Option Addr) (c0 : Nat) (A1 : Option Addr) (c1 : Nat) (s : List ByteArray) (t : List SW) (fn : Nat) (caps : Array Value) (ft : Nat → Int) (w : World) (h0 : Kd.string.C w A0 s.length s) (l0 : s.length ≤ c0) (h1 : Kd.C k36 w A1 t.length t) (l1 : t.length ≤ c1)
    (hs : S128 s) (ht : W128 s.length t) (hn : 0 < s.length) (hn2 : s.length ≤ 64) (hen : ∀ args w1, Sem.run Try.prog (callFunc fn args) w1 = .ok (.enter fn args) w1) (hft : ∀ (i : Nat) w1, i < t.length → Below w.heap.size w w1 → Calls Try.prog fn (#[.int .i64 i] ++ caps) w1 fun e w' => e = .returned (.int .i64 (ft i)) ∧ Below w1.heap.size w1 w') :
    Calls Try.prog 24 #[.agg #[.slice A0 s.length c0, .slice A1 t.length c1], .func (Fn.func fn) #[] caps] w fun e w' => (∃ g cap, e = .returned (.agg #[.slice (some ⟨g, 0, none⟩) s.length cap, .slice none 0 0]) ∧ w.heap.size ≤ g ∧ s.length ≤ cap ∧ Kd.string.C w' (some ⟨g, 0, none⟩) (endsTo ft s t t.length).length (endsTo ft s t t.length)) ∧ Below w.heap.size w w' := by
  have m1 := Kd.C_max h1
  go_enter Try.func24, Try.ntmps24
  go_wp2_with fail
  refine (Try.Clone_s A0 s c0 _ (Kd.C_alloc (Kd.C_alloc h0 _) _) (by omega) hn l0).mono ?_
  rintro e w1 ⟨⟨g, cap, rfl, hg, hown⟩, b1⟩
  have b1' := below_then (below_alloc (below_alloc (Below.refl _ w) _) _) (by simp <;> omega) b1
  obtain ⟨t0, t1⟩ := two_blocks w (.cells #[.slice A0 s.length c0, .slice A1 t.length c1] 25) (.cells #[.slice none 0 0, .slice none 0 0] 25)
  replace t0 := blk_below t0 b1
  replace t1 := blk_below t1 b1
  clear b1
  have x0 := blk_cell t0 0
  have x1 := blk_cell t0 1
  have y0 := blk_cell t1 0
  have y1 := blk_cell t1 1
  have f0 := blk_frozen t0 0
  have f1 := blk_frozen t0 1
  have e0 := blk_frozen t1 0
  have e1 := blk_frozen t1 1
  simp only [List.getElem?_toArray, List.getElem?_cons_zero, List.getElem?_cons_succ] at x0 x1 y0 y1
  have hg2 : w.heap.size + 2 ≤ g := by simpa using hg
  have hown := own_lower (b' := w.heap.size) hown (by simp <;> omega)
  clear hg
  go_wp2_with fail
  go_loopw [15] (fun i wr => ∃ k : Nat, k ≤ t.length ∧ i = .int .i64 k ∧ wr.ownsRow w.heap.size 9 1 (.slice (some ⟨g, 0, none⟩) s.length cap) s.length (encs Value.string (endsTo ft s t k)) ∧ Below w.heap.size w wr ∧ wr.heap[w.heap.size + 1]? = some (.cells #[.slice none 0 0, .slice none 0 0] 25 (0, 0))) (fun i _ => t.length - (intOf i).toNat)
  case atStart => exact ⟨0, Nat.zero_le _, rfl, hown, b1', t1⟩
  case round =>
    clear hown b1' x0 x1 y0 y1 f0 f1 e0 e1 t0 t1
    obtain ⟨k, hk, rfl, hown, b2, t1⟩ := hrel
    by_cases hlt : k < t.length
    · obtain ⟨p1, p2, p3⟩ := ht k hlt
      obtain ⟨ad, rfl, hcells⟩ := at_T36 (Kd.C_below h1 b2) (k : Int) (by omega) (by omega)
      rw [Int.toNat_natCast] at hcells
      have hx : rd_T36 t (k : Int) = t.getD k z36 := by rw [rd_T36, Int.toNat_natCast]
      rw [hx] at hcells
      clear hx
      obtain ⟨h1', h2'⟩ := hcells
      have HS : endsTo ft s t (k + 1) = stepE (ft k) (t.getD k z36) (endsTo ft s t k) := rfl
      have HS := hid HS
      generalize t.getD k z36 = x at *
      have hL := endsTo_len ft s t k
      have h128 := endsTo_128 ft hs ht k hk
      have HS := HS.out
      generalize endsTo ft s t k = l at *
      have HS := hid HS
      go_wp2_with fail
      refine (hft k _ hlt (b2.alloc b2.size _)).mono ?_
      rintro e w3 ⟨rfl, b3⟩
      have b3' := below_step (b2.alloc b2.size _) b3
      have hsz := blk_lt t1
      have hgl : g < wr.heap.size := own_lt hown
      have tb := blk_below (heap_alloc_new wr (.cells #[.int .i64 x.f0, .string x.f1] 36)) b3
      have t1 : w3.heap[w.heap.size + 1]? = some (.cells #[.slice none 0 0, .slice none 0 0] 25 (0, 0)) := (b3.block _ (by simp; omega)).trans ((heap_alloc_old _ _ hsz).trans t1)
      have hown := own_move hown (w1 := w3) (fun j hj => by simp [Value.ownBlock] at hj; subst hj; exact (b3.block _ (by simp; omega)).trans (heap_alloc_old _ _ hgl))
      obtain ⟨z0, z1⟩ := own_at_of (d := ByteArray.empty) hown x.f0 p1 (by omega)
      have hy := S128_at h128 (j := x.f0.toNat) (by omega)
      rw [rdOf] at z0
      have q0 := blk_cell tb 0
      have q1 := blk_cell tb 1
      simp only [List.getElem?_toArray, List.getElem?_cons_zero, List.getElem?_cons_succ] at q0 q1
      generalize hY : l.getD x.f0.toNat ByteArray.empty = y at *
      have hY := hid hY
      by_cases hf2 : ft k = 2
      · have HN : endsTo ft s t (k + 1) = l.set x.f0.toNat (x.f1.extract 0 64 ++ y.extract 64 128) := by rw [HS.out, stepE, if_pos hf2, hY.out]
        have HN := hid HN
        rw [hf2]
        clear hf2 HS
        go_wp2_with fail
        have hr : (y.extract 64 128).size = 64 := by rw [ByteArray.size_extract]; omega
        generalize y.extract 64 128 = r at *
        go_region
        obtain ⟨hown1, hgb⟩ := own_store_of hown x.f0 (x.f1.extract 0 64 ++ r)
        have b5 : Below w.heap.size w (w3.setCell ⟨g, x.f0.toNat, none⟩ (.string (x.f1.extract 0 64 ++ r))) := b3'.setCell (p := ⟨g, x.f0.toNat, none⟩) (by simp; omega) _
        have t2 : (w3.setCell ⟨g, x.f0.toNat, none⟩ (.string (x.f1.extract 0 64 ++ r))).heap[w.heap.size + 1]? = some (.cells #[.slice none 0 0, .slice none 0 0] 25 (0, 0)) := (Below.heap_setCell _ _ _ _ (by simp; omega)).trans t1
        rw [← HN.out] at hown1
        clear hown t1 b3' z0 z1 HN q0 q1 tb
        generalize w3.setCell ⟨g, x.f0.toNat, none⟩ (.string (x.f1.extract 0 64 ++ r)) = w5 at *
        go_wp2_with fail
        exact ⟨⟨k + 1, by omega, by go_num, own_move hown1 (fun _ _ => rfl), b5.drew, t2⟩, by simp [intOf]; omega⟩
      · by_cases hf1 : ft k = 1
        · have HN : endsTo ft s t (k + 1) = l.set x.f0.toNat x.f1 := by rw [HS.out, stepE, if_neg hf2, if_pos hf1]
          have HN := hid HN
          rw [hf1]
          clear hf2 hf1 HS
          have hr := extract_128 p3
          go_wp2_with fail
          go_region
          rw [app_none x.f1]
          obtain ⟨hown1, hgb⟩ := own_store_of hown x.f0 x.f1
          have b5 : Below w.heap.size w (w3.setCell ⟨g, x.f0.toNat, none⟩ (.string x.f1)) := b3'.setCell (p := ⟨g, x.f0.toNat, none⟩) (by simp; omega) _
          have t2 : (w3.setCell ⟨g, x.f0.toNat, none⟩ (.string x.f1)).heap[w.heap.size + 1]? = some (.cells #[.slice none 0 0, .slice none 0 0] 25 (0, 0)) := (Below.heap_setCell _ _ _ _ (by simp; omega)).trans t1
          rw [← HN.out] at hown1
          clear hown t1 b3' z0 z1 HN q0 q1 tb
          generalize w3.setCell ⟨g, x.f0.toNat, none⟩ (.string x.f1) = w5 at *
          go_wp2_with fail
          exact ⟨⟨k + 1, by omega, by go_num, own_move hown1 (fun _ _ => rfl), b5.drew, t2⟩, by simp [intOf]; omega⟩
        · have HN : endsTo ft s t (k + 1) = l := by rw [HS.out, stepE, if_neg hf2, if_neg hf1]
          have HN := hid HN
          clear HS
          go_wp2_with fail
          exact ⟨⟨k + 1, by omega, by go_num, by rw [HN.out]; exact hown, b3', t1⟩, by simp [intOf]; omega⟩
    · obtain rfl : k = t.length := by omega
      have y0 := blk_cell t1 0
      have y1 := blk_cell t1 1
      have e0 := blk_frozen t1 0
      have e1 := blk_frozen t1 1
      simp only [List.getElem?_toArray, List.getElem?_cons_zero, List.getElem?_cons_succ] at y0 y1
      obtain ⟨r1, r2, r3, r4⟩ := ret2_cells t1 (.slice (some ⟨g, 0, none⟩) s.length cap) (.slice none 0 0)
      go_wp2_with fail
      have hsz := blk_lt t1
      have bF : Below w.heap.size w ((wr.setCell ⟨w.heap.size + 1, 0, none⟩ (.slice (some ⟨g, 0, none⟩) s.length cap)).setCell ⟨w.heap.size + 1, 1, none⟩ (.slice none 0 0)) := (b2.setCell (p := ⟨w.heap.size + 1, 0, none⟩) (by simp) _).setCell (p := ⟨w.heap.size + 1, 1, none⟩) (by simp) _
      have ho2 := own_move (own_move hown (w1 := wr.setCell ⟨w.heap.size + 1, 0, none⟩ (.slice (some ⟨g, 0, none⟩) s.length cap)) (fun k hk => by simp [Value.ownBlock] at hk; exact Below.heap_setCell _ _ _ _ (by simp; omega))) (w1 := (wr.setCell ⟨w.heap.size + 1, 0, none⟩ (.slice (some ⟨g, 0, none⟩) s.length cap)).setCell ⟨w.heap.size + 1, 1, none⟩ (.slice none 0 0)) (fun k hk => by simp [Value.ownBlock] at hk; exact Below.heap_setCell _ _ _ _ (by simp; omega))
      obtain ⟨hC, hcap⟩ := own_C (endsTo_len ft s t t.length) ho2 (Nat.le_trans hn2 (by decide)) hn
      exact bodyPost_ret (v := .agg #[.slice (some ⟨g, 0, none⟩) s.length cap, .slice none 0 0]) (by simp [results, Try.results24, go_sem, r3, r4]) rfl ⟨⟨g, cap, rfl, by omega, hcap, hC⟩, bF⟩
end Go.Proofs.Ytjpomfbkfgkifaa
end

section
/- Rows of texts: made of one text; a parameter that is one. -/
namespace Go.Proofs.Ytjpomfbkfgkifaa
open Go.RowKit Go.Proofs.YtjpomfbkfgkifaaW.PrintWords Go.Proofs.YtjpomfbkfgkifaaW.PrintLast Go.Proofs.YtjpomfbkfgkifaaW.PrintMore
attribute [local go_sem] max2_int min2_int max_two min_two max_three min_three max_four min_four
set_option linter.unusedVariables false
set_option linter.unusedSimpArgs false
/-- '[]string{x}', read. -/
theorem one_str (W : World) (T : Nat) (x : ByteArray) : Kd.string.C (W.alloc (.cells #[.string x] T)) (some ⟨W.heap.size, 0, none⟩) [x].length [x] :=
  Kd.C_of_reads (enc := Value.string) (d := ByteArray.empty) (h1 := fun _ => rfl) ⟨rfl, by simp, fun _ => ⟨_, rfl, fun j hj => by
    obtain rfl : j = 0 := by simp at hj; omega
    rw [add_plain]
    exact (World.cell?_alloc_new _ _ _ _).trans rfl⟩⟩
open Go.ChangeShapes Go.WideShapes in
/-- A parameter that is a row of texts. -/
theorem strs_open {H : Type} {enc : TypeId × Value → H} {P : Program} {W : World} {b0 base : Nat} {held : Bool} {t e : TypeId} {v : Value} {d : DataW H} {ps : List MemPlace} {ts : List TypeId} {ds : List (DataW H)} {j : Nat}
    (hsz : (DataW.weightsEach P ts ds).all (· ≤ reachBytes) = true) (ht : ts[j]? = some t) (hd : ds[j]? = some d) (hu : P.underlying t = some (.slice e)) (he : P.underlying e = some .string) (hc : P.cellsOf e = 1) (hB : P.bytesOf e = 16)
    (hok : Value.okWide P W .any b0 t v) (h : DataW.Trod enc P W base (fun _ => true) held t v d ps) : ∃ (A : Option Addr) (c : Nat) (l : List ByteArray), v = .slice A l.length c ∧ Kd.string.C W A l.length l ∧ l.length ≤ c ∧ c * 16 ≤ 140737488351232 := by
  obtain ⟨a, len, cap, rfl⟩ := okWide_slice hu hok
  obtain ⟨fuel, hf⟩ := h
  rcases open_strings hu he hc hf with ⟨hcs, _⟩ | ⟨x, len', cap', ss, hcs, _, hl, hm, hz, hx, hcell, _⟩
  · simp [Value.cells] at hcs
    obtain ⟨rfl, rfl, rfl⟩ := hcs
    exact ⟨none, 0, [], rfl, Kd.C_nil _ _, Nat.le_refl _, by decide⟩
  · simp [Value.cells] at hcs
    obtain ⟨rfl, rfl, rfl⟩ := hcs
    simp only [if_true] at hz
    simp only [Prod.mk.injEq] at hx
    obtain ⟨rfl, _⟩ := hx
    have hs := sized_slice hsz ht hd hu
    rw [hB] at hs
    simp only [strs, List.length_map, List.length_take, List.length_drop, reachBytes] at hs
    have hlen : (ss.take len).length = len := by rw [List.length_take]; omega
    refine ⟨some x, cap, ss.take len, by rw [hlen], ?_, by rw [hlen]; exact hl, by omega⟩
    rw [hlen]
    refine Kd.C_of_reads (enc := Value.string) (d := ByteArray.empty) (h1 := fun _ => rfl) ⟨hlen, by unfold maxLen at hm; omega, fun _ => ⟨x, rfl, fun j hj => ?_⟩⟩
    rw [hcell j (by omega), List.getD_eq_getElem?_getD, List.getD_eq_getElem?_getD, List.getElem?_take_of_lt hj]
end Go.Proofs.Ytjpomfbkfgkifaa
end

section
/- slices.Repeat of one text; disk.New. -/
namespace Go.Proofs.Ytjpomfbkfgkifaa
open Go.RowKit Go.Proofs.YtjpomfbkfgkifaaW.PrintWords Go.Proofs.YtjpomfbkfgkifaaW.PrintLast Go.Proofs.YtjpomfbkfgkifaaW.PrintMore
attribute [local go_sem] max2_int min2_int max_two min_two max_three min_three max_four min_four
set_option linter.unusedVariables false
set_option linter.unusedSimpArgs false
/-- A row that is filled as far as k. -/
def rp (x : ByteArray) (n k : Nat) : List Value := List.replicate k (.string x) ++ List.replicate (n - k) (.string ⟨#[]⟩)
theorem rp_len (x : ByteArray) {n k : Nat} (h : k ≤ n) : (rp x n k).length = n := by simp [rp]; omega
theorem rp_full (x : ByteArray) (n : Nat) : rp x n n = encs Value.string (List.replicate n x) := by simp [rp, encs]
theorem rp_none (x : ByteArray) (n : Nat) : madeCells #[Value.string ⟨#[]⟩] n = (rp x n 0).toArray := by
  have h1 : (madeCells #[Value.string ⟨#[]⟩] n).toList = rp x n 0 := by
    apply List.ext_getElem
    · simp [rp, madeCells]
    · intro i h1 h2
      simp [rp, madeCells, Nat.mod_one]
  rw [← h1]
def rps (x : ByteArray) (m : Nat) : List Value := List.replicate m (.string x)
theorem rp_splice (x : ByteArray) {n k m : Nat} (h : k + m ≤ n) : splice (rp x n k) k (rps x m) = rp x n (k + m) := by
  unfold splice rp rps
  rw [List.take_left' (by simp), List.length_replicate, List.drop_append, List.drop_of_length_le (by simp), List.nil_append, List.length_replicate, ← List.append_assoc, List.replicate_append_replicate, List.drop_replicate]
  congr 2
  omega
theorem rp_at (x : ByteArray) {n k j : Nat} (h : j < k) : (rp x n k)[j]? = some (.string x) := by
  unfold rp
  rw [List.getElem?_append_left (by simpa using h), List.getElem?_replicate, if_pos h]
theorem rps_at {x : ByteArray} {m j : Nat} {v : Value} (h : (rps x m)[j]? = some v) : j < m ∧ v = .string x := by
  unfold rps at h
  rw [List.getElem?_replicate] at h
  split at h
  · rename_i hj; injection h with h; exact ⟨hj, h.symm⟩
  · cases h
theorem rps_len (x : ByteArray) (m : Nat) : (rps x m).length = m := by simp [rps]
theorem rps_one (x : ByteArray) (m : Nat) : ∀ v ∈ rps x m, v.oneCell' = true := by
  intro v hv
  unfold rps at hv
  obtain ⟨_, rfl⟩ := List.mem_replicate.1 hv
  rfl
set_option maxHeartbeats 2000000 in
set_option maxRecDepth 100000 in
theorem Try.Repeat_s (A : Option Addr) (c : Nat) (x : ByteArray) (n : Nat) (w : World) (hA : Kd.string.C w A 1 [x]) (hn1 : 1 ≤ n) (hn2 : n ≤ 65536) :
    Calls Try.prog 26 #[.slice A 1 c, .int .i64 n] w fun e w' => (∃ g cap, e = .returned (.slice (some ⟨g, 0, none⟩) n cap) ∧ w.heap.size ≤ g ∧ w'.ownsRow w.heap.size 9 1 (.slice (some ⟨g, 0, none⟩) n cap) n (encs Value.string (List.replicate n x))) ∧ Below w.heap.size w w' := by
  have hmk : ∀ W : World, (Instr.makeSlice 22 (.int .i64 (n : Int)) (.int .i64 (n : Int))).run Try.prog W = .ok (.slice (some ⟨W.heap.size, 0, none⟩) n n) (W.alloc (.cells (rp x n 0).toArray 9)) := fun W => by
    rw [← rp_none]
    exact run_make_row' 22 9 (.string ⟨#[]⟩) 16 (by kernel_rfl) (by kernel_rfl) rfl .i64 .i64 n (by omega) (by omega) W
  have hu := hid (show Try.prog.underlying 22 = some (.slice 9) by kernel_rfl)
  have hsz := hid (show (Try.prog.info? 9).map (·.size) = some 1 by kernel_rfl)
  obtain ⟨ad, rfl, hx⟩ := hA.2.2 (by omega)
  obtain ⟨cs0, e0, hr0, hc0⟩ := hx 0 x rfl
  obtain rfl : cs0 = [Value.string x] := hr0
  have hx0 := hc0 0 _ rfl
  have hx0 : w.cell? ad = some (.string x) := by simpa [Addr.add] using hx0
  clear hc0 e0 hx
  go_enter Try.func26, Try.ntmps26
  go_wp2_with fail
  refine (Try.bits_Mul 1 n (by omega) (by omega) _).mono ?_
  rintro e w1 ⟨rfl, rfl⟩
  have q1 : ((1 * n / 18446744073709551616 : Nat) : Int) = 0 := by omega
  have q2 : ((1 * n % 18446744073709551616 : Nat) : Int) = n := by omega
  rw [q1, q2]
  clear q1 q2
  have k0 : Below w1.heap.size w1 (w1.alloc (.cells (rp x n 0).toArray 9)) := below_alloc (Below.refl _ _) _
  have k1 : (w1.alloc (.cells (rp x n 0).toArray 9)).heap[w1.heap.size]? = some (.cells (rp x n 0).toArray 9 (0, 0)) := heap_alloc_new _ _
  have k2 : ∀ j v, (rps x 1)[j]? = some v → (w1.alloc (.cells (rp x n 0).toArray 9)).cell? (ad.add j) = some v := fun j v hj => by
    obtain ⟨h1, rfl⟩ := rps_at hj
    obtain rfl : j = 0 := by omega
    rw [show ad.add 0 = ad from rfl]
    exact pw_cell_below k0 hx0
  have hmin1 : (rps x 1).length = Nat.min 1 n := by rw [rps_len]; exact (Nat.min_eq_left hn1).symm
  go_wp2_with ((with_reducible refine gate_builtin (b := .copy) rfl ?_); go_loud (refine wpList_copy_splice rfl _ _ _ _ rfl 9 hu.out hsz.out _ _ _ _ _ _ rfl rfl w1.heap.size 0 (rp x n 0) 9 k1 (rps x 1) hmin1 (fun _ => ⟨rfl, _, rfl, k2⟩) (by rw [rps_len, rp_len x (Nat.zero_le n)]; omega) (rps_one x 1) w1.heap.size w1 k0 (Nat.le_refl _) ?_; intro w2 g2 b2; rw [rps_len]))
  clear k0 k1 k2
  go_loopw [8] (fun v wr => ∃ k : Nat, 1 ≤ k ∧ k ≤ n ∧ v = .int .i64 k ∧ Hid (wr.heap[w1.heap.size]? = some (.cells (rp x n k).toArray 9 (0, 0))) ∧ Below w1.heap.size w1 wr) (fun v _ => n - (intOf v).toNat)
  case atStart => exact ⟨1, Nat.le_refl _, hn1, rfl, by have := g2.out; rw [rp_splice x (by omega)] at this; exact hid this, b2⟩
  case round =>
    clear b2
    obtain ⟨k, hk0, hk1, rfl, hg, hb⟩ := hrel
    by_cases hlt : k < n
    · obtain ⟨m, hm⟩ : ∃ m, m = min (n - k) k := ⟨_, rfl⟩
      have hm1 : 1 ≤ m := by omega
      have hm2 : k + m ≤ n := by omega
      have hmk2 : m ≤ k := by omega
      have hm3 : m = Nat.min k (n - k) := by rw [hm]; exact Nat.min_comm _ _
      clear hm
      have hmin := hid (show (rps x m).length = Nat.min k (n - k) by rw [rps_len]; exact hm3)
      clear hm3
      have k3 : ∀ j v, (rps x m)[j]? = some v → wr.cell? ((⟨w1.heap.size, 0, none⟩ : Addr).add j) = some v := fun j v hj => by
        obtain ⟨h1, rfl⟩ := rps_at hj
        rw [add_plain, blk_cell hg.out, List.getElem?_toArray]
        exact rp_at x (Nat.lt_of_lt_of_le h1 hmk2)
      go_wp2_with fail
      have hlen : k + (rps x m).length ≤ (rp x n k).length := by rw [rps_len, rp_len x hk1]; omega
      go_region_law ((with_reducible refine gate_step (b := .copy) rfl ?_); refine step_copy_splice rfl (.tmp 41) (.tmp 44) 22 22 rfl 9 hu.out hsz.out (some ⟨w1.heap.size, k, none⟩) (some ⟨w1.heap.size, 0, none⟩) (n - k) (n - k) k n (by simp [Act.eval, Act.put]; omega) (by simp [Act.eval, Act.put]) w1.heap.size k (rp x n k) 9 hg.out (rps x m) hmin.out (fun _ => ⟨rfl, _, rfl, k3⟩) hlen (rps_one x m) w1.heap.size w1 hb.drew (Nat.le_refl _) ?_; intro w3 g3 b3; rw [rps_len])
      go_wp2_with fail
      go_roundw
      case rel => exact ⟨k + m, by omega, hm2, by rw [IntWalk.i64_in _ (by omega)]; omega, by have := g3.out; rw [rp_splice x hm2] at this; exact hid this⟩
      case measure => rw [IntWalk.i64_in _ (by omega)]; simp [intOf]; omega
    · obtain rfl : k = n := by omega
      go_wp2_with fail
      go_ret
      have hb2 := hb.size
      have hl := blk_lt hg.out
      exact ⟨⟨w1.heap.size, k, rfl, Nat.le_refl _, by simp [encs], .inr ⟨w1.heap.size, k, _, rfl, Nat.le_refl _, hg.out, Nat.le_refl _, by unfold maxLen; omega, by simp [rp_len], by rw [rp_full]; simp [encs]⟩⟩, hb⟩
/-- A sector of one byte. -/
def sect (c : Int) : ByteArray := ⟨(List.replicate 128 (UInt8.ofNat c.toNat)).toArray⟩
theorem sect_size (c : Int) : (sect c).size = 128 := by simp [sect, ByteArray.size]
theorem sect_rep (b : UInt8) : (⟨(Lib.repeatL [b] 128).toArray⟩ : ByteArray) = sect b.toNat := by
  have h : ∀ n, Lib.repeatL [b] n = List.replicate n b := by
    intro n
    induction n with
    | zero => rfl
    | succ n ih => rw [Lib.repeatL, ih]; rfl
  rw [h, sect]
  simp
def newD (n : Int) : SD × Int := if 4 ≤ n ∧ n ≤ 64 then (⟨List.replicate n.toNat (sect 0), []⟩, 0) else (noD, 1)
set_option maxHeartbeats 4000000 in
set_option maxRecDepth 100000 in
theorem disk_New (S : Nat → Prop) (n : Int) (w : World) (hS : ∀ k, S k → k < w.heap.size) :
    Calls Try.prog 14 #[.int .i64 n] w fun e w' => (∃ r, e = .returned (.tuple #[r, .int .i64 (newD n).2]) ∧ St S w' (fun w => VDisk w r (newD n).1)) ∧ Below w.heap.size w w' := by
  obtain ⟨S1, hP⟩ := priv w hS 1
  have hz : True := trivial
  have hc : True := trivial
  have hf : True := trivial
  by_cases h4 : n < 4
  · have hs := hid (show newD n = (noD, 1) by unfold newD; rw [if_neg (by omega)])
    go_enter Try.func14, Try.ntmps14
    go_wp2
    exact bodyPost_ret (v := .tuple #[.agg #[.slice none 0 0, .slice none 0 0], .int .i64 1]) (by simp [results, Try.results14, go_sem, *]) rfl ⟨⟨_, by rw [hs.out], by rw [hs.out]; exact VDisk.zero _ _⟩, (by repeat (first | exact Below.refl _ _ | (with_reducible assumption) | refine below_alloc ?_ _ | refine pw_below_drewN ?_ _ | refine below_drew ?_ | refine Below.setCell ?_ (by dsimp only; omega) _ | refine below_step ?_ (by assumption)))⟩
  · by_cases h64 : 64 < n
    · have hs := hid (show newD n = (noD, 1) by unfold newD; rw [if_neg (by omega)])
      go_enter Try.func14, Try.ntmps14
      go_wp2
      exact bodyPost_ret (v := .tuple #[.agg #[.slice none 0 0, .slice none 0 0], .int .i64 1]) (by simp [results, Try.results14, go_sem, *]) rfl ⟨⟨_, by rw [hs.out], by rw [hs.out]; exact VDisk.zero _ _⟩, (by repeat (first | exact Below.refl _ _ | (with_reducible assumption) | refine below_alloc ?_ _ | refine pw_below_drewN ?_ _ | refine below_drew ?_ | refine Below.setCell ?_ (by dsimp only; omega) _ | refine below_step ?_ (by assumption)))⟩
    · obtain ⟨m, rfl⟩ := Int.eq_ofNat_of_zero_le (show 0 ≤ n by omega)
      have hs := hid (show newD m = (⟨List.replicate m (sect 0), []⟩, 0) by unfold newD; rw [if_pos (by omega)]; rfl)
      go_enter Try.func14, Try.ntmps14
      go_wp2_with fail
      refine (Try.strings_Repeat ⟨#[0]⟩ 128 _ (by omega) (by decide)).mono ?_
      rintro e w1 ⟨rfl, b1⟩
      have hc' := fun (b o : Nat) (h : b < w.heap.size + 1) => b1.cell (p := ⟨b, o, none⟩) (show b < _ by first | omega | (simp <;> omega))
      first
        | (replace hc := fun (b o : Nat) (h : b < w.heap.size + 1) => (hc' b o h).trans (hc b o h))
        | (replace hc := fun (b o : Nat) (h : b < w.heap.size + 1) => (hc' b o h).trans ((cell_al (show b < _ by omega)).trans (hc b o h)))
        | (replace hc := fun (b o : Nat) (h : b < w.heap.size + 1) => (hc' b o h).trans ((cell_al (show b < _ by simp <;> omega)).trans ((cell_al (show b < _ by omega)).trans (hc b o h))))
        | (replace hc := fun (b o : Nat) (h : b < w.heap.size + 1) => (hc' b o h).trans ((cell_al (show b < _ by simp <;> omega)).trans ((cell_al (show b < _ by simp <;> omega)).trans ((cell_al (show b < _ by omega)).trans (hc b o h)))))
        | (have hc := hc')
      clear hc'
      have hf' := fun (b o : Nat) (h : b < w.heap.size + 1) => b1.frozen (p := ⟨b, o, none⟩) (show b < _ by first | omega | (simp <;> omega))
      first
        | (replace hf := fun (b o : Nat) (h : b < w.heap.size + 1) => (hf' b o h).trans (hf b o h))
        | (replace hf := fun (b o : Nat) (h : b < w.heap.size + 1) => (hf' b o h).trans ((frozen_al (show b < _ by omega)).trans (hf b o h)))
        | (replace hf := fun (b o : Nat) (h : b < w.heap.size + 1) => (hf' b o h).trans ((frozen_al (show b < _ by simp <;> omega)).trans ((frozen_al (show b < _ by omega)).trans (hf b o h))))
        | (replace hf := fun (b o : Nat) (h : b < w.heap.size + 1) => (hf' b o h).trans ((frozen_al (show b < _ by simp <;> omega)).trans ((frozen_al (show b < _ by simp <;> omega)).trans ((frozen_al (show b < _ by omega)).trans (hf b o h)))))
        | (have hf := hf')
      clear hf'
      have hz' := b1.size
      try simp only [World.size_alloc, World.size_setCell, World.size_drew, size_drewN] at hz'
      replace hz : w.heap.size + 1 ≤ w1.heap.size := by omega
      have hz1 := hz
      clear hz'
      rw [show (⟨(Lib.repeatL (⟨#[0]⟩ : ByteArray).data.toList 128).toArray⟩ : ByteArray) = sect 0 from sect_rep 0]
      go_wp2_with fail
      refine (Try.Repeat_s _ 1 (sect 0) m _ (one_str _ _ _) (by omega) (by omega)).mono ?_
      rintro e w2 ⟨⟨g, cap, rfl, hg, hown⟩, b2⟩
      have hc' := fun (b o : Nat) (h : b < w.heap.size + 1) => b2.cell (p := ⟨b, o, none⟩) (show b < _ by first | omega | (simp <;> omega))
      first
        | (replace hc := fun (b o : Nat) (h : b < w.heap.size + 1) => (hc' b o h).trans (hc b o h))
        | (replace hc := fun (b o : Nat) (h : b < w.heap.size + 1) => (hc' b o h).trans ((cell_al (show b < _ by omega)).trans (hc b o h)))
        | (replace hc := fun (b o : Nat) (h : b < w.heap.size + 1) => (hc' b o h).trans ((cell_al (show b < _ by simp <;> omega)).trans ((cell_al (show b < _ by omega)).trans (hc b o h))))
        | (replace hc := fun (b o : Nat) (h : b < w.heap.size + 1) => (hc' b o h).trans ((cell_al (show b < _ by simp <;> omega)).trans ((cell_al (show b < _ by simp <;> omega)).trans ((cell_al (show b < _ by omega)).trans (hc b o h)))))
        | (have hc := hc')
      clear hc'
      have hf' := fun (b o : Nat) (h : b < w.heap.size + 1) => b2.frozen (p := ⟨b, o, none⟩) (show b < _ by first | omega | (simp <;> omega))
      first
        | (replace hf := fun (b o : Nat) (h : b < w.heap.size + 1) => (hf' b o h).trans (hf b o h))
        | (replace hf := fun (b o : Nat) (h : b < w.heap.size + 1) => (hf' b o h).trans ((frozen_al (show b < _ by omega)).trans (hf b o h)))
        | (replace hf := fun (b o : Nat) (h : b < w.heap.size + 1) => (hf' b o h).trans ((frozen_al (show b < _ by simp <;> omega)).trans ((frozen_al (show b < _ by omega)).trans (hf b o h))))
        | (replace hf := fun (b o : Nat) (h : b < w.heap.size + 1) => (hf' b o h).trans ((frozen_al (show b < _ by simp <;> omega)).trans ((frozen_al (show b < _ by simp <;> omega)).trans ((frozen_al (show b < _ by omega)).trans (hf b o h)))))
        | (have hf := hf')
      clear hf'
      have hz' := b2.size
      try simp only [World.size_alloc, World.size_setCell, World.size_drew, size_drewN] at hz'
      replace hz : w.heap.size + 1 ≤ w2.heap.size := by omega
      have hz2 := hz
      clear hz'
      obtain ⟨hC, hcap⟩ := own_C (by simp) hown (by omega) (by omega)
      have hg2 : w1.heap.size ≤ g := by simp at hg; omega
      have hC2 : St S1 w2 (fun w => Kd.string.C w (some ⟨g, 0, none⟩) _ (List.replicate m (sect 0))) := St.ofC (fun _ _ _ _ h => h) hC (fun ad he _ hs => by cases he; have := hP.lt _ hs; have := hz1; dsimp only at *; omega)
      go_wp2
      exact bodyPost_ret (v := .tuple #[.agg #[.slice (some ⟨g, 0, none⟩) m cap, .slice none 0 0], .int .i64 0]) (by simp [results, Try.results14, go_sem, *]) rfl ⟨⟨_, by rw [hs.out], by rw [hs.out]; exact VDisk.mkn (x := ⟨List.replicate m (sect 0), []⟩) (by simp) hcap ((hC2.keep (by repeat (first | exact Keep.refl _ _ | (with_reducible assumption) | refine Keep.alloc ?_ _ | refine Keep.drewN ?_ _ | refine Keep.drew ?_ | refine Keep.set ?_ (by first | exact .inl rfl | exact .inr (by dsimp only; omega) | exact .inl (hP.own _ (by dsimp only; omega) (by dsimp only; omega)) | exact .inl (by assumption)) _ | refine Keep.step ?_ (by assumption)))).sub hP.up) rfl (Nat.le_refl _) (fun w _ => Kd.C_nil _ w)⟩, (by repeat (first | exact Below.refl _ _ | (with_reducible assumption) | refine below_alloc ?_ _ | refine pw_below_drewN ?_ _ | refine below_drew ?_ | refine Below.setCell ?_ (by dsimp only; omega) _ | refine below_step ?_ (by assumption)))⟩
end Go.Proofs.Ytjpomfbkfgkifaa
end

section
/- ref09.Like of two that are the same; law09.sector, few. -/
namespace Go.Proofs.Ytjpomfbkfgkifaa
open Go.RowKit Go.Proofs.YtjpomfbkfgkifaaW.PrintWords Go.Proofs.YtjpomfbkfgkifaaW.PrintLast Go.Proofs.YtjpomfbkfgkifaaW.PrintMore
attribute [local go_sem] max2_int min2_int max_two min_two max_three min_three max_four min_four
set_option linter.unusedVariables false
set_option linter.unusedSimpArgs false
set_option maxHeartbeats 2000000 in
set_option maxRecDepth 100000 in
theorem ref_Like (v u : Value) (d : SD) (w : World) (hv : VDisk w v d) (hu : VDisk w u d) :
    Calls Try.prog 16 #[v, u] w fun e w' => e = .returned (.bool true) ∧ Below w.heap.size w w' := by
  obtain ⟨A0, c0, A1, c1, rfl, l0, m0, h0, l1, m1, h1⟩ := VDisk.open (St.start fun w1 => hv.below)
  obtain ⟨B0, e0, B1, e1, rfl, n0, _, g0, n1, _, g1⟩ := VDisk.open (St.start fun w1 => hu.below)
  clear hv hu
  go_enter Try.func16, Try.ntmps16
  go_wp2_with fail
  obtain ⟨w0, hw0⟩ : ∃ w0, w0 = (w.alloc (.cells #[.slice A0 d.f0.length c0, .slice A1 d.f1.length c1] 25)).alloc (.cells #[.slice B0 d.f0.length e0, .slice B1 d.f1.length e1] 25) := ⟨_, rfl⟩
  have b0 : Below w.heap.size w w0 := by rw [hw0]; exact (by repeat (first | exact Below.refl _ _ | (with_reducible assumption) | refine below_alloc ?_ _ | refine pw_below_drewN ?_ _ | refine below_drew ?_ | refine Below.setCell ?_ (by dsimp only; omega) _ | refine below_step ?_ (by assumption)))
  have x0 : w0.cell? ⟨w.heap.size, 0, none⟩ = some (.slice A0 d.f0.length c0) := by rw [hw0]; simp [go_sem]
  have x1 : w0.cell? ⟨w.heap.size, 1, none⟩ = some (.slice A1 d.f1.length c1) := by rw [hw0]; simp [go_sem]
  have y0 : w0.cell? ⟨w.heap.size + 1, 0, none⟩ = some (.slice B0 d.f0.length e0) := by rw [hw0]; simp [go_sem]
  have y1 : w0.cell? ⟨w.heap.size + 1, 1, none⟩ = some (.slice B1 d.f1.length e1) := by rw [hw0]; simp [go_sem]
  rw [← hw0]
  clear hw0
  go_wp2_with fail
  go_loopw [26] (fun i wr => ∃ k : Nat, k ≤ d.f0.length ∧ i = .int .i64 k ∧ Below w0.heap.size w0 wr) (fun i _ => d.f0.length - (intOf i).toNat)
  case atStart => exact ⟨0, Nat.zero_le _, rfl, Below.refl _ _⟩
  case round =>
    obtain ⟨k, hk, rfl, hb⟩ := hrel
    have p0 := pw_cell_below hb x0
    have q0 := pw_cell_below hb y0
    have p1 := pw_cell_below hb x1
    have q1 := pw_cell_below hb y1
    have b1 := below_step b0 hb
    by_cases hlt : k < d.f0.length
    · obtain ⟨ad, rfl, hx⟩ := Kd.at_string (h0.at_ (Keep.of_below b1)) (k : Int) (by omega) (by omega)
      obtain ⟨bd, rfl, hy⟩ := Kd.at_string (g0.at_ (Keep.of_below b1)) (k : Int) (by omega) (by omega)
      rw [Int.toNat_natCast] at hx hy
      generalize rdOf ByteArray.empty d.f0 (k : Int) = x at *
      go_wp2_with fail
      go_quiet (fail)
      go_wp2
      go_roundw
      case rel => exact ⟨k + 1, by omega, by go_num, pw_below_drewN hb _⟩
      case measure => simp [intOf]; omega
    · obtain rfl : k = d.f0.length := by omega
      clear x0 y0 x1 y1
      go_wp2_with fail
      obtain ⟨w2, hw2⟩ : ∃ w2, w2 = wr := ⟨_, rfl⟩
      rw [← hw2]
      rw [← hw2] at b1 p1 q1
      clear hw2 p0 q0 hb
      go_loopw [44] (fun i wr => ∃ k : Nat, k ≤ d.f1.length ∧ i = .int .i64 k ∧ Below w2.heap.size w2 wr) (fun i _ => d.f1.length - (intOf i).toNat)
      case atStart => exact ⟨0, Nat.zero_le _, rfl, Below.refl _ _⟩
      case round =>
        obtain ⟨k, hk, rfl, hb⟩ := hrel
        have p1 := pw_cell_below hb p1
        have q1 := pw_cell_below hb q1
        have b2 := below_step b1 hb
        by_cases hlt : k < d.f1.length
        · obtain ⟨ad, rfl, y1, y2⟩ := at_T36 (h1.at_ (Keep.of_below b2)) (k : Int) (by omega) (by omega)
          obtain ⟨bd, rfl, z1, z2⟩ := at_T36 (g1.at_ (Keep.of_below b2)) (k : Int) (by omega) (by omega)
          rw [Int.toNat_natCast] at y1 y2 z1 z2
          generalize rd_T36 d.f1 (k : Int) = x at *
          go_wp2_with fail
          go_quiet (fail)
          go_wp2
          go_roundw
          case rel => exact ⟨k + 1, by omega, by go_num, pw_below_drewN hb _⟩
          case measure => simp [intOf]; omega
        · obtain rfl : k = d.f1.length := by omega
          go_wp2
          go_ret
          exact ⟨rfl, b2⟩
set_option maxHeartbeats 1000000 in
theorem law_sector (c : Int) (h0 : 0 ≤ c) (h1 : c ≤ 255) (w : World) :
    Calls Try.prog 11 #[.int .u8 c] w fun e w' => e = .returned (.string (sect c)) ∧ Below w.heap.size w w' := by
  have hcv : (convert 26 9 (.slice (some ⟨w.heap.size, 0, none⟩) 1 1)).run Try.prog (w.alloc (.cells #[.int .u8 c] 5)) = .ok (.string (strOfNums [c])) (w.alloc (.cells #[.int .u8 c] 5)) :=
    string_of_reads (e := 5) (by kernel_rfl) (by kernel_rfl) (by kernel_rfl) ⟨rfl, by simp, fun _ => ⟨_, rfl, fun j hj => by
      obtain rfl : j = 0 := by omega
      rw [add_plain]
      exact World.cell?_alloc_new _ _ _ _⟩⟩
  have hs := hid (show (⟨(Lib.repeatL (strOfNums [c]).data.toList 128).toArray⟩ : ByteArray) = sect c by
    have e1 : (strOfNums [c]).data.toList = [UInt8.ofNat c.toNat] := rfl
    rw [e1, sect_rep]
    congr 1
    simp
    omega)
  have hn : (strOfNums [c]).size = 1 := rfl
  go_enter Try.func11, Try.ntmps11
  go_wp2_with fail
  refine (Try.strings_Repeat (strOfNums [c]) 128 _ (by omega) (by rw [hn]; decide)).mono ?_
  rintro e w1 ⟨rfl, b1⟩
  have sz1 := b1.size
  try simp only [World.size_alloc, World.size_setCell, World.size_drew, size_drewN] at sz1
  rw [hs.out]
  go_wp2
  go_ret
  exact ⟨rfl, (by repeat (first | exact Below.refl _ _ | (with_reducible assumption) | refine below_alloc ?_ _ | refine pw_below_drewN ?_ _ | refine below_drew ?_ | refine Below.setCell ?_ (by dsimp only; omega) _ | refine below_step ?_ (by assumption)))⟩
/-- disk.Load, its place a whole number; a disk's value. -/
theorem disk_LoadI (v : Value) (d : SD) (n : Int) (w : World) (hv : VDisk w v d) (hR : rightD d = true) (h0 : 0 ≤ n) (hn : n < d.f0.length) :
    Calls Try.prog 12 #[v, .int .i64 n] w fun e w' => e = .returned (.tuple #[.string (standsD d n.toNat), .int .i64 0]) ∧ Below w.heap.size w w' := by
  obtain ⟨A0, c0, A1, c1, rfl, l0, m0, g0, l1, m1, g1⟩ := VDisk.open (St.start fun w1 => hv.below)
  obtain ⟨k, rfl⟩ := Int.eq_ofNat_of_zero_le h0
  rw [Int.toNat_natCast]
  exact disk_Load A0 c0 A1 c1 d k w g0.now l0 g1.now l1 hR (by omega)
/-- few: heads of both rows. -/
def fewD (d : SD) : SD := ⟨d.f0.take 66, d.f1.take 202⟩
set_option maxHeartbeats 2000000 in
set_option maxRecDepth 100000 in
theorem law_few (S : Nat → Prop) (v : Value) (d : SD) (w : World) (hS : ∀ k, S k → k < w.heap.size) (hd : St S w (fun w => VDisk w v d)) :
    Calls Try.prog 7 #[v] w fun e w' => (∃ r, e = .returned r ∧ St S w' (fun w => VDisk w r (fewD d))) ∧ Below w.heap.size w w' := by
  obtain ⟨A0, c0, A1, c1, rfl, l0, m0, h0, l1, m1, h1⟩ := VDisk.open hd
  obtain ⟨S1, hP⟩ := priv w hS 2
  have hz : True := trivial
  have hc : True := trivial
  have hf : True := trivial
  replace h0 := h0.wide hP.down
  replace h1 := h1.wide hP.down
  clear hd
  go_enter Try.func7, Try.ntmps7
  go_wp2
  have t0 : St S1 w (fun w => Kd.string.C w A0 (fewD d).f0.length (fewD d).f0) := by
    rcases Nat.lt_or_ge 66 d.f0.length with q0 | q0
    · exact h0.imp fun _ h => Kd.C_take h (Nat.le_of_lt q0)
    · have e : (fewD d).f0 = d.f0 := List.take_of_length_le q0
      rw [e]; exact h0
  have t1 : St S1 w (fun w => kWrite.C w A1 (fewD d).f1.length (fewD d).f1) := by
    rcases Nat.lt_or_ge 202 d.f1.length with q0 | q0
    · exact h1.imp fun _ h => Kd.C_take h (Nat.le_of_lt q0)
    · have e : (fewD d).f1 = d.f1 := List.take_of_length_le q0
      rw [e]; exact h1
  rcases Nat.lt_or_ge 66 d.f0.length with q0 | q0 <;> rcases Nat.lt_or_ge 202 d.f1.length with q1 | q1
  all_goals
    go_region
    go_wp2
  all_goals
    refine bodyPost_ret (by simp [results, Try.results7, go_sem]; rfl) rfl ⟨⟨_, rfl, ?_⟩, (by repeat (first | exact Below.refl _ _ | (with_reducible assumption) | refine below_alloc ?_ _ | refine pw_below_drewN ?_ _ | refine below_drew ?_ | refine Below.setCell ?_ (by dsimp only; omega) _ | refine below_step ?_ (by assumption)))⟩
    exact VDisk.mkn (x := fewD d) (by simp [fewD]; omega) (by omega) ((t0.keep (by repeat (first | exact Keep.refl _ _ | (with_reducible assumption) | refine Keep.alloc ?_ _ | refine Keep.drewN ?_ _ | refine Keep.drew ?_ | refine Keep.set ?_ (by first | exact .inl rfl | exact .inr (by dsimp only; omega) | exact .inl (hP.own _ (by dsimp only; omega) (by dsimp only; omega)) | exact .inl (by assumption)) _ | refine Keep.step ?_ (by assumption)))).sub hP.up) (by simp [fewD]; omega) (by omega) ((t1.keep (by repeat (first | exact Keep.refl _ _ | (with_reducible assumption) | refine Keep.alloc ?_ _ | refine Keep.drewN ?_ _ | refine Keep.drew ?_ | refine Keep.set ?_ (by first | exact .inl rfl | exact .inr (by dsimp only; omega) | exact .inl (hP.own _ (by dsimp only; omega) (by dsimp only; omega)) | exact .inl (by assumption)) _ | refine Keep.step ?_ (by assumption)))).sub hP.up)
end Go.Proofs.Ytjpomfbkfgkifaa
end

section
/- disk.Flush, disk.Crash. -/
namespace Go.Proofs.Ytjpomfbkfgkifaa
open Go.RowKit Go.Proofs.YtjpomfbkfgkifaaW.PrintWords Go.Proofs.YtjpomfbkfgkifaaW.PrintLast Go.Proofs.YtjpomfbkfgkifaaW.PrintMore
attribute [local go_sem] max2_int min2_int max_two min_two max_three min_three max_four min_four
set_option linter.unusedVariables false
set_option linter.unusedSimpArgs false
theorem rightD_open {d : SD} (h : rightD d = true) : S128 d.f0 ∧ W128 d.f0.length d.f1 ∧ 4 ≤ d.f0.length ∧ d.f0.length ≤ 64 ∧ d.f1.length ≤ 200 := by
  simp only [rightD, Bool.and_eq_true, decide_eq_true_eq, Bool.not_eq_true', List.any_eq_false, wellW] at h
  obtain ⟨h1, h2, h3, h4, h5⟩ := h
  refine ⟨fun j hj => ?_, fun j hj => ?_, h1, h2, h3⟩
  · have := h4 _ (List.getElem_mem hj)
    simp [badS] at this
    omega
  · rw [List.getD_eq_getElem?_getD, List.getElem?_eq_getElem hj, Option.getD_some]
    have := h5 _ (List.getElem_mem hj)
    simp [badW] at this
    omega
def flushD (d : SD) : SD × Int := if rightD d = true then (⟨endsTo (fun _ => 1) d.f0 d.f1 d.f1.length, []⟩, 0) else (noD, 1)
def crashD (d : SD) (l : List Int) : SD × Int := if rightD d = true then (⟨endsTo (fun i => l.getD i 0) d.f0 d.f1 d.f1.length, []⟩, 0) else (noD, 1)
theorem disk_Flush1 (i : Int) (w : World) : Calls Try.prog 27 (#[.int .i64 i] ++ #[]) w fun e w' => e = .returned (.int .i64 1) ∧ Below w.heap.size w w' := by
  go_enter Try.func27, Try.ntmps27
  go_wp2
  go_ret
  exact ⟨rfl, Below.refl _ _⟩
set_option maxHeartbeats 4000000 in
set_option maxRecDepth 100000 in
theorem disk_Flush (S : Nat → Prop) (v : Value) (d : SD) (w : World) (hS : ∀ k, S k → k < w.heap.size) (hd : St S w (fun w => VDisk w v d)) :
    Calls Try.prog 15 #[v] w fun e w' => (∃ r, e = .returned (.tuple #[r, .int .i64 (flushD d).2]) ∧ St S w' (fun w => VDisk w r (flushD d).1)) ∧ Below w.heap.size w w' := by
  obtain ⟨A0, c0, A1, c1, rfl, l0, m0, h0, l1, m1, h1⟩ := VDisk.open hd
  obtain ⟨S1, hP⟩ := priv w hS 2
  have hz : True := trivial
  have hc : True := trivial
  have hf : True := trivial
  replace h0 := h0.wide hP.down
  replace h1 := h1.wide hP.down
  clear hd
  go_enter Try.func15, Try.ntmps15
  go_wp2_with fail
  refine (disk_Right A0 c0 A1 c1 d _ (h0.at_ (by repeat (first | exact Keep.refl _ _ | (with_reducible assumption) | refine Keep.alloc ?_ _ | refine Keep.drewN ?_ _ | refine Keep.drew ?_ | refine Keep.set ?_ (by first | exact .inl rfl | exact .inr (by dsimp only; omega) | exact .inl (hP.own _ (by dsimp only; omega) (by dsimp only; omega)) | exact .inl (by assumption)) _ | refine Keep.step ?_ (by assumption)))) l0 (h1.at_ (by repeat (first | exact Keep.refl _ _ | (with_reducible assumption) | refine Keep.alloc ?_ _ | refine Keep.drewN ?_ _ | refine Keep.drew ?_ | refine Keep.set ?_ (by first | exact .inl rfl | exact .inr (by dsimp only; omega) | exact .inl (hP.own _ (by dsimp only; omega) (by dsimp only; omega)) | exact .inl (by assumption)) _ | refine Keep.step ?_ (by assumption)))) l1).mono ?_
  rintro e w1 ⟨rfl, b1⟩
  have hc' := fun (b o : Nat) (h : b < w.heap.size + 2) => b1.cell (p := ⟨b, o, none⟩) (show b < _ by first | omega | (simp <;> omega))
  first
    | (replace hc := fun (b o : Nat) (h : b < w.heap.size + 2) => (hc' b o h).trans (hc b o h))
    | (replace hc := fun (b o : Nat) (h : b < w.heap.size + 2) => (hc' b o h).trans ((cell_al (show b < _ by omega)).trans (hc b o h)))
    | (replace hc := fun (b o : Nat) (h : b < w.heap.size + 2) => (hc' b o h).trans ((cell_al (show b < _ by simp <;> omega)).trans ((cell_al (show b < _ by omega)).trans (hc b o h))))
    | (replace hc := fun (b o : Nat) (h : b < w.heap.size + 2) => (hc' b o h).trans ((cell_al (show b < _ by simp <;> omega)).trans ((cell_al (show b < _ by simp <;> omega)).trans ((cell_al (show b < _ by omega)).trans (hc b o h)))))
    | (have hc := hc')
  clear hc'
  have hf' := fun (b o : Nat) (h : b < w.heap.size + 2) => b1.frozen (p := ⟨b, o, none⟩) (show b < _ by first | omega | (simp <;> omega))
  first
    | (replace hf := fun (b o : Nat) (h : b < w.heap.size + 2) => (hf' b o h).trans (hf b o h))
    | (replace hf := fun (b o : Nat) (h : b < w.heap.size + 2) => (hf' b o h).trans ((frozen_al (show b < _ by omega)).trans (hf b o h)))
    | (replace hf := fun (b o : Nat) (h : b < w.heap.size + 2) => (hf' b o h).trans ((frozen_al (show b < _ by simp <;> omega)).trans ((frozen_al (show b < _ by omega)).trans (hf b o h))))
    | (replace hf := fun (b o : Nat) (h : b < w.heap.size + 2) => (hf' b o h).trans ((frozen_al (show b < _ by simp <;> omega)).trans ((frozen_al (show b < _ by simp <;> omega)).trans ((frozen_al (show b < _ by omega)).trans (hf b o h)))))
    | (have hf := hf')
  clear hf'
  have hz' := b1.size
  try simp only [World.size_alloc, World.size_setCell, World.size_drew, size_drewN] at hz'
  replace hz : w.heap.size + 2 ≤ w1.heap.size := by omega
  have hz1 := hz
  clear hz'
  by_cases hR : rightD d = true
  · obtain ⟨r1, r2, r3, r4, r5⟩ := rightD_open hR
    have hs := hid (show flushD d = (⟨endsTo (fun _ => 1) d.f0 d.f1 d.f1.length, []⟩, 0) by unfold flushD; rw [if_pos hR])
    rw [hR]
    clear hR
    go_wp2_with fail
    refine (disk_ends A0 c0 A1 c1 d.f0 d.f1 27 #[] (fun _ => 1) _ (h0.at_ (by repeat (first | exact Keep.refl _ _ | (with_reducible assumption) | refine Keep.alloc ?_ _ | refine Keep.drewN ?_ _ | refine Keep.drew ?_ | refine Keep.set ?_ (by first | exact .inl rfl | exact .inr (by dsimp only; omega) | exact .inl (hP.own _ (by dsimp only; omega) (by dsimp only; omega)) | exact .inl (by assumption)) _ | refine Keep.step ?_ (by assumption)))) l0 (h1.at_ (by repeat (first | exact Keep.refl _ _ | (with_reducible assumption) | refine Keep.alloc ?_ _ | refine Keep.drewN ?_ _ | refine Keep.drew ?_ | refine Keep.set ?_ (by first | exact .inl rfl | exact .inr (by dsimp only; omega) | exact .inl (hP.own _ (by dsimp only; omega) (by dsimp only; omega)) | exact .inl (by assumption)) _ | refine Keep.step ?_ (by assumption)))) l1 r1 r2 (by omega) r4 (fun _ _ => rfl) (fun i w1 _ _ => disk_Flush1 i w1)).mono ?_
    rintro e w2 ⟨⟨g, cap, rfl, hg, hcap, hC⟩, b2⟩
    have hc' := fun (b o : Nat) (h : b < w.heap.size + 2) => b2.cell (p := ⟨b, o, none⟩) (show b < _ by first | omega | (simp <;> omega))
    first
      | (replace hc := fun (b o : Nat) (h : b < w.heap.size + 2) => (hc' b o h).trans (hc b o h))
      | (replace hc := fun (b o : Nat) (h : b < w.heap.size + 2) => (hc' b o h).trans ((cell_al (show b < _ by omega)).trans (hc b o h)))
      | (replace hc := fun (b o : Nat) (h : b < w.heap.size + 2) => (hc' b o h).trans ((cell_al (show b < _ by simp <;> omega)).trans ((cell_al (show b < _ by omega)).trans (hc b o h))))
      | (replace hc := fun (b o : Nat) (h : b < w.heap.size + 2) => (hc' b o h).trans ((cell_al (show b < _ by simp <;> omega)).trans ((cell_al (show b < _ by simp <;> omega)).trans ((cell_al (show b < _ by omega)).trans (hc b o h)))))
      | (have hc := hc')
    clear hc'
    have hf' := fun (b o : Nat) (h : b < w.heap.size + 2) => b2.frozen (p := ⟨b, o, none⟩) (show b < _ by first | omega | (simp <;> omega))
    first
      | (replace hf := fun (b o : Nat) (h : b < w.heap.size + 2) => (hf' b o h).trans (hf b o h))
      | (replace hf := fun (b o : Nat) (h : b < w.heap.size + 2) => (hf' b o h).trans ((frozen_al (show b < _ by omega)).trans (hf b o h)))
      | (replace hf := fun (b o : Nat) (h : b < w.heap.size + 2) => (hf' b o h).trans ((frozen_al (show b < _ by simp <;> omega)).trans ((frozen_al (show b < _ by omega)).trans (hf b o h))))
      | (replace hf := fun (b o : Nat) (h : b < w.heap.size + 2) => (hf' b o h).trans ((frozen_al (show b < _ by simp <;> omega)).trans ((frozen_al (show b < _ by simp <;> omega)).trans ((frozen_al (show b < _ by omega)).trans (hf b o h)))))
      | (have hf := hf')
    clear hf'
    have hz' := b2.size
    try simp only [World.size_alloc, World.size_setCell, World.size_drew, size_drewN] at hz'
    replace hz : w.heap.size + 2 ≤ w2.heap.size := by omega
    have hz2 := hz
    clear hz'
    have hC2 : St S1 w2 (fun w => Kd.string.C w (some ⟨g, 0, none⟩) _ (endsTo (fun _ => 1) d.f0 d.f1 d.f1.length)) := St.ofC (fun _ _ _ _ h => h) hC (fun ad he _ hs => by cases he; have := hP.lt _ hs; have := hz1; dsimp only at *; omega)
    go_wp2
    exact bodyPost_ret (v := .tuple #[.agg #[.slice (some ⟨g, 0, none⟩) d.f0.length cap, .slice none 0 0], .int .i64 0]) (by simp [results, Try.results15, go_sem, *]) rfl ⟨⟨_, by rw [hs.out], by rw [hs.out]; exact VDisk.mkn (x := ⟨endsTo (fun _ => 1) d.f0 d.f1 d.f1.length, []⟩) (endsTo_len _ _ _ _).symm hcap ((hC2.keep (by repeat (first | exact Keep.refl _ _ | (with_reducible assumption) | refine Keep.alloc ?_ _ | refine Keep.drewN ?_ _ | refine Keep.drew ?_ | refine Keep.set ?_ (by first | exact .inl rfl | exact .inr (by dsimp only; omega) | exact .inl (hP.own _ (by dsimp only; omega) (by dsimp only; omega)) | exact .inl (by assumption)) _ | refine Keep.step ?_ (by assumption)))).sub hP.up) rfl (Nat.le_refl _) (fun w _ => Kd.C_nil _ w)⟩, (by repeat (first | exact Below.refl _ _ | (with_reducible assumption) | refine below_alloc ?_ _ | refine pw_below_drewN ?_ _ | refine below_drew ?_ | refine Below.setCell ?_ (by dsimp only; omega) _ | refine below_step ?_ (by assumption)))⟩
  · have hs := hid (show flushD d = (noD, 1) by unfold flushD; rw [if_neg hR])
    rw [Bool.eq_false_iff.mpr hR]
    clear hR
    go_wp2
    exact bodyPost_ret (v := .tuple #[.agg #[.slice none 0 0, .slice none 0 0], .int .i64 1]) (by simp [results, Try.results15, go_sem, *]) rfl ⟨⟨_, by rw [hs.out], by rw [hs.out]; exact VDisk.zero _ _⟩, (by repeat (first | exact Below.refl _ _ | (with_reducible assumption) | refine below_alloc ?_ _ | refine pw_below_drewN ?_ _ | refine below_drew ?_ | refine Below.setCell ?_ (by dsimp only; omega) _ | refine below_step ?_ (by assumption)))⟩
set_option maxHeartbeats 1000000 in
theorem disk_Crash1 (i : Nat) (l : List Int) (A : Option Addr) (c : Nat) (p : Addr) (w : World) (hi : i ≤ 1099511627776) (hp : w.cell? p = some (.slice A l.length c)) (hA : (Kd.int .i64).C w A l.length l) (hc : l.length ≤ c) :
    Calls Try.prog 25 (#[.int .i64 i] ++ #[.pointer (some p)]) w fun e w' => e = .returned (.int .i64 (l.getD i 0)) ∧ Below w.heap.size w w' := by
  have m := Kd.C_max hA
  by_cases hlt : i < l.length
  · obtain ⟨ad, rfl, hcell⟩ := Kd.at_int hA (i : Int) (by omega) (by omega)
    rw [Int.toNat_natCast, rd, Int.toNat_natCast] at hcell
    generalize l.getD i 0 = x at *
    go_enter Try.func25, Try.ntmps25
    go_wp2
    go_ret
    exact ⟨rfl, Below.refl _ _⟩
  · have hx : l.getD i 0 = 0 := by rw [List.getD_eq_getElem?_getD, List.getElem?_eq_none (by omega)]; rfl
    rw [hx]
    clear hx
    go_enter Try.func25, Try.ntmps25
    go_wp2
    go_ret
    exact ⟨rfl, Below.refl _ _⟩
set_option maxHeartbeats 4000000 in
set_option maxRecDepth 100000 in
theorem disk_Crash (S : Nat → Prop) (v : Value) (d : SD) (A : Option Addr) (c : Nat) (l : List Int) (w : World) (hS : ∀ k, S k → k < w.heap.size) (hd : St S w (fun w => VDisk w v d)) (hA : (Kd.int .i64).C w A l.length l) (hcl : l.length ≤ c) :
    Calls Try.prog 13 #[v, .slice A l.length c] w fun e w' => (∃ r, e = .returned (.tuple #[r, .int .i64 (crashD d l).2]) ∧ St S w' (fun w => VDisk w r (crashD d l).1)) ∧ Below w.heap.size w w' := by
  obtain ⟨A0, c0, A1, c1, rfl, l0, m0, h0, l1, m1, h1⟩ := VDisk.open hd
  obtain ⟨S1, hP⟩ := priv w hS 3
  have hz : True := trivial
  have hc : True := trivial
  have hf : True := trivial
  replace h0 := h0.wide hP.down
  replace h1 := h1.wide hP.down
  clear hd
  go_enter Try.func13, Try.ntmps13
  go_wp2_with fail
  refine (disk_Right A0 c0 A1 c1 d _ (h0.at_ (by repeat (first | exact Keep.refl _ _ | (with_reducible assumption) | refine Keep.alloc ?_ _ | refine Keep.drewN ?_ _ | refine Keep.drew ?_ | refine Keep.set ?_ (by first | exact .inl rfl | exact .inr (by dsimp only; omega) | exact .inl (hP.own _ (by dsimp only; omega) (by dsimp only; omega)) | exact .inl (by assumption)) _ | refine Keep.step ?_ (by assumption)))) l0 (h1.at_ (by repeat (first | exact Keep.refl _ _ | (with_reducible assumption) | refine Keep.alloc ?_ _ | refine Keep.drewN ?_ _ | refine Keep.drew ?_ | refine Keep.set ?_ (by first | exact .inl rfl | exact .inr (by dsimp only; omega) | exact .inl (hP.own _ (by dsimp only; omega) (by dsimp only; omega)) | exact .inl (by assumption)) _ | refine Keep.step ?_ (by assumption)))) l1).mono ?_
  rintro e w1 ⟨rfl, b1⟩
  have hc' := fun (b o : Nat) (h : b < w.heap.size + 3) => b1.cell (p := ⟨b, o, none⟩) (show b < _ by first | omega | (simp <;> omega))
  first
    | (replace hc := fun (b o : Nat) (h : b < w.heap.size + 3) => (hc' b o h).trans (hc b o h))
    | (replace hc := fun (b o : Nat) (h : b < w.heap.size + 3) => (hc' b o h).trans ((cell_al (show b < _ by omega)).trans (hc b o h)))
    | (replace hc := fun (b o : Nat) (h : b < w.heap.size + 3) => (hc' b o h).trans ((cell_al (show b < _ by simp <;> omega)).trans ((cell_al (show b < _ by omega)).trans (hc b o h))))
    | (replace hc := fun (b o : Nat) (h : b < w.heap.size + 3) => (hc' b o h).trans ((cell_al (show b < _ by simp <;> omega)).trans ((cell_al (show b < _ by simp <;> omega)).trans ((cell_al (show b < _ by omega)).trans (hc b o h)))))
    | (have hc := hc')
  clear hc'
  have hf' := fun (b o : Nat) (h : b < w.heap.size + 3) => b1.frozen (p := ⟨b, o, none⟩) (show b < _ by first | omega | (simp <;> omega))
  first
    | (replace hf := fun (b o : Nat) (h : b < w.heap.size + 3) => (hf' b o h).trans (hf b o h))
    | (replace hf := fun (b o : Nat) (h : b < w.heap.size + 3) => (hf' b o h).trans ((frozen_al (show b < _ by omega)).trans (hf b o h)))
    | (replace hf := fun (b o : Nat) (h : b < w.heap.size + 3) => (hf' b o h).trans ((frozen_al (show b < _ by simp <;> omega)).trans ((frozen_al (show b < _ by omega)).trans (hf b o h))))
    | (replace hf := fun (b o : Nat) (h : b < w.heap.size + 3) => (hf' b o h).trans ((frozen_al (show b < _ by simp <;> omega)).trans ((frozen_al (show b < _ by simp <;> omega)).trans ((frozen_al (show b < _ by omega)).trans (hf b o h)))))
    | (have hf := hf')
  clear hf'
  have hz' := b1.size
  try simp only [World.size_alloc, World.size_setCell, World.size_drew, size_drewN] at hz'
  replace hz : w.heap.size + 3 ≤ w1.heap.size := by omega
  have hz1 := hz
  clear hz'
  by_cases hR : rightD d = true
  · obtain ⟨r1, r2, r3, r4, r5⟩ := rightD_open hR
    have hs := hid (show crashD d l = (⟨endsTo (fun i => l.getD i 0) d.f0 d.f1 d.f1.length, []⟩, 0) by unfold crashD; rw [if_pos hR])
    rw [hR]
    clear hR
    have q0 : w1.cell? ⟨w.heap.size + 1, 0, none⟩ = some (.slice A l.length c) := by rw [hc _ _ (by omega)]; simp [go_sem]
    go_wp2_with fail
    refine (disk_ends A0 c0 A1 c1 d.f0 d.f1 25 #[.pointer (some ⟨w.heap.size + 1, 0, none⟩)] (fun i => l.getD i 0) _ (h0.at_ (by repeat (first | exact Keep.refl _ _ | (with_reducible assumption) | refine Keep.alloc ?_ _ | refine Keep.drewN ?_ _ | refine Keep.drew ?_ | refine Keep.set ?_ (by first | exact .inl rfl | exact .inr (by dsimp only; omega) | exact .inl (hP.own _ (by dsimp only; omega) (by dsimp only; omega)) | exact .inl (by assumption)) _ | refine Keep.step ?_ (by assumption)))) l0 (h1.at_ (by repeat (first | exact Keep.refl _ _ | (with_reducible assumption) | refine Keep.alloc ?_ _ | refine Keep.drewN ?_ _ | refine Keep.drew ?_ | refine Keep.set ?_ (by first | exact .inl rfl | exact .inr (by dsimp only; omega) | exact .inl (hP.own _ (by dsimp only; omega) (by dsimp only; omega)) | exact .inl (by assumption)) _ | refine Keep.step ?_ (by assumption)))) l1 r1 r2 (by omega) r4 (fun _ _ => rfl) (fun i w2 hi hb2 => disk_Crash1 i l A c _ w2 (by omega) (pw_cell_below hb2 q0) (Kd.C_below (Kd.C_below hA (by repeat (first | exact Below.refl _ _ | (with_reducible assumption) | refine below_alloc ?_ _ | refine pw_below_drewN ?_ _ | refine below_drew ?_ | refine Below.setCell ?_ (by dsimp only; omega) _ | refine below_step ?_ (by assumption)))) hb2) hcl)).mono ?_
    rintro e w2 ⟨⟨g, cap, rfl, hg, hcap, hC⟩, b2⟩
    have hc' := fun (b o : Nat) (h : b < w.heap.size + 3) => b2.cell (p := ⟨b, o, none⟩) (show b < _ by first | omega | (simp <;> omega))
    first
      | (replace hc := fun (b o : Nat) (h : b < w.heap.size + 3) => (hc' b o h).trans (hc b o h))
      | (replace hc := fun (b o : Nat) (h : b < w.heap.size + 3) => (hc' b o h).trans ((cell_al (show b < _ by omega)).trans (hc b o h)))
      | (replace hc := fun (b o : Nat) (h : b < w.heap.size + 3) => (hc' b o h).trans ((cell_al (show b < _ by simp <;> omega)).trans ((cell_al (show b < _ by omega)).trans (hc b o h))))
      | (replace hc := fun (b o : Nat) (h : b < w.heap.size + 3) => (hc' b o h).trans ((cell_al (show b < _ by simp <;> omega)).trans ((cell_al (show b < _ by simp <;> omega)).trans ((cell_al (show b < _ by omega)).trans (hc b o h)))))
      | (have hc := hc')
    clear hc'
    have hf' := fun (b o : Nat) (h : b < w.heap.size + 3) => b2.frozen (p := ⟨b, o, none⟩) (show b < _ by first | omega | (simp <;> omega))
    first
      | (replace hf := fun (b o : Nat) (h : b < w.heap.size + 3) => (hf' b o h).trans (hf b o h))
      | (replace hf := fun (b o : Nat) (h : b < w.heap.size + 3) => (hf' b o h).trans ((frozen_al (show b < _ by omega)).trans (hf b o h)))
      | (replace hf := fun (b o : Nat) (h : b < w.heap.size + 3) => (hf' b o h).trans ((frozen_al (show b < _ by simp <;> omega)).trans ((frozen_al (show b < _ by omega)).trans (hf b o h))))
      | (replace hf := fun (b o : Nat) (h : b < w.heap.size + 3) => (hf' b o h).trans ((frozen_al (show b < _ by simp <;> omega)).trans ((frozen_al (show b < _ by simp <;> omega)).trans ((frozen_al (show b < _ by omega)).trans (hf b o h)))))
      | (have hf := hf')
    clear hf'
    have hz' := b2.size
    try simp only [World.size_alloc, World.size_setCell, World.size_drew, size_drewN] at hz'
    replace hz : w.heap.size + 3 ≤ w2.heap.size := by omega
    have hz2 := hz
    clear hz'
    have hC2 : St S1 w2 (fun w => Kd.string.C w (some ⟨g, 0, none⟩) _ (endsTo (fun i => l.getD i 0) d.f0 d.f1 d.f1.length)) := St.ofC (fun _ _ _ _ h => h) hC (fun ad he _ hs => by cases he; have := hP.lt _ hs; have := hz1; dsimp only at *; omega)
    go_wp2
    exact bodyPost_ret (v := .tuple #[.agg #[.slice (some ⟨g, 0, none⟩) d.f0.length cap, .slice none 0 0], .int .i64 0]) (by simp [results, Try.results13, go_sem, *]) rfl ⟨⟨_, by rw [hs.out], by rw [hs.out]; exact VDisk.mkn (x := ⟨endsTo (fun i => l.getD i 0) d.f0 d.f1 d.f1.length, []⟩) (endsTo_len _ _ _ _).symm hcap ((hC2.keep (by repeat (first | exact Keep.refl _ _ | (with_reducible assumption) | refine Keep.alloc ?_ _ | refine Keep.drewN ?_ _ | refine Keep.drew ?_ | refine Keep.set ?_ (by first | exact .inl rfl | exact .inr (by dsimp only; omega) | exact .inl (hP.own _ (by dsimp only; omega) (by dsimp only; omega)) | exact .inl (by assumption)) _ | refine Keep.step ?_ (by assumption)))).sub hP.up) rfl (Nat.le_refl _) (fun w _ => Kd.C_nil _ w)⟩, (by repeat (first | exact Below.refl _ _ | (with_reducible assumption) | refine below_alloc ?_ _ | refine pw_below_drewN ?_ _ | refine below_drew ?_ | refine Below.setCell ?_ (by dsimp only; omega) _ | refine below_step ?_ (by assumption)))⟩
  · have hs := hid (show crashD d l = (noD, 1) by unfold crashD; rw [if_neg hR])
    rw [Bool.eq_false_iff.mpr hR]
    clear hR
    go_wp2
    exact bodyPost_ret (v := .tuple #[.agg #[.slice none 0 0, .slice none 0 0], .int .i64 1]) (by simp [results, Try.results13, go_sem, *]) rfl ⟨⟨_, by rw [hs.out], by rw [hs.out]; exact VDisk.zero _ _⟩, (by repeat (first | exact Below.refl _ _ | (with_reducible assumption) | refine below_alloc ?_ _ | refine pw_below_drewN ?_ _ | refine below_drew ?_ | refine Below.setCell ?_ (by dsimp only; omega) _ | refine below_step ?_ (by assumption)))⟩
end Go.Proofs.Ytjpomfbkfgkifaa
end

section
/- Plain laws of disks. -/
namespace Go.Proofs.Ytjpomfbkfgkifaa
open Go.RowKit Go.Proofs.YtjpomfbkfgkifaaW.PrintWords Go.Proofs.YtjpomfbkfgkifaaW.PrintLast Go.Proofs.YtjpomfbkfgkifaaW.PrintMore
attribute [local go_sem] max2_int min2_int max_two min_two max_three min_three max_four min_four
set_option linter.unusedVariables false
set_option linter.unusedSimpArgs false
theorem rightD_mk {d : SD} (h1 : 4 ≤ d.f0.length) (h2 : d.f0.length ≤ 64) (h3 : d.f1.length ≤ 200) (h4 : ∀ s ∈ d.f0, s.size = 128) (h5 : wellW d.f0.length d.f1 = true) : rightD d = true := by
  simp only [rightD, Bool.and_eq_true, decide_eq_true_eq, Bool.not_eq_true', List.any_eq_false]
  refine ⟨h1, h2, h3, fun s hs => ?_, h5⟩
  have := h4 s hs
  simp [badS, this]
theorem wellW_mk {n : Int} {l : List SW} (h : ∀ x ∈ l, 0 ≤ x.f0 ∧ x.f0 < n ∧ x.f1.size = 128) : wellW n l = true := by
  simp only [wellW, Bool.not_eq_true', List.any_eq_false]
  intro x hx
  obtain ⟨h1, h2, h3⟩ := h x hx
  simp [badW]
  omega
theorem wellW_at {n : Int} {l : List SW} (h : wellW n l = true) {x : SW} (hx : x ∈ l) : 0 ≤ x.f0 ∧ x.f0 < n ∧ x.f1.size = 128 := by
  simp only [wellW, Bool.not_eq_true', List.any_eq_false] at h
  have := h x hx
  simp [badW] at this
  omega
theorem wellW_append {n : Int} {l m : List SW} (h1 : wellW n l = true) (h2 : wellW n m = true) : wellW n (l ++ m) = true :=
  wellW_mk fun x hx => by
    rcases List.mem_append.1 hx with h | h
    · exact wellW_at h1 h
    · exact wellW_at h2 h
theorem rightD_parts {d : SD} (h : rightD d = true) : 4 ≤ d.f0.length ∧ d.f0.length ≤ 64 ∧ d.f1.length ≤ 200 ∧ (∀ s ∈ d.f0, s.size = 128) ∧ wellW d.f0.length d.f1 = true := by
  simp only [rightD, Bool.and_eq_true, decide_eq_true_eq, Bool.not_eq_true', List.any_eq_false] at h
  obtain ⟨h1, h2, h3, h4, h5⟩ := h
  refine ⟨h1, h2, h3, fun s hs => ?_, h5⟩
  have := h4 s hs
  simp [badS] at this
  omega
theorem saveD_ok {d : SD} {l : List SW} (h : rightD d = true) (hw : wellW d.f0.length l = true) (hn : d.f1.length + l.length ≤ 200) : saveD d l = (⟨d.f0, d.f1 ++ l⟩, 0) := by
  unfold saveD; rw [if_pos ⟨h, hw⟩, if_pos hn]
theorem rightD_save {d : SD} {l : List SW} (h : rightD d = true) (hw : wellW d.f0.length l = true) (hn : d.f1.length + l.length ≤ 200) : rightD ⟨d.f0, d.f1 ++ l⟩ = true := by
  obtain ⟨h1, h2, h3, h4, h5⟩ := rightD_parts h
  exact rightD_mk h1 h2 (by simpa using hn) h4 (wellW_append h5 hw)
theorem flushD_ok {d : SD} (h : rightD d = true) : flushD d = (⟨endsTo (fun _ => 1) d.f0 d.f1 d.f1.length, []⟩, 0) := by unfold flushD; rw [if_pos h]
theorem crashD_ok {d : SD} (l : List Int) (h : rightD d = true) : crashD d l = (⟨endsTo (fun i => l.getD i 0) d.f0 d.f1 d.f1.length, []⟩, 0) := by unfold crashD; rw [if_pos h]
theorem rightD_ends {d : SD} (ft : Nat → Int) (h : rightD d = true) : rightD ⟨endsTo ft d.f0 d.f1 d.f1.length, []⟩ = true := by
  obtain ⟨r1, r2, r3, r4, r5⟩ := rightD_open h
  have hl := endsTo_len ft d.f0 d.f1 d.f1.length
  have hs := endsTo_128 ft r1 r2 d.f1.length (Nat.le_refl _)
  refine rightD_mk (by simp only [hl]; exact r3) (by simp only [hl]; exact r4) (by simp) (fun s hs' => ?_) (wellW_mk (by simp))
  obtain ⟨j, hj, rfl⟩ := List.mem_iff_getElem.1 hs'
  exact hs j hj
theorem endsTo_nil (ft : Nat → Int) (s : List ByteArray) : endsTo ft s [] ([] : List SW).length = s := rfl
/-- What becomes of one sector. -/
def secTo (ft : Nat → Int) (t : List SW) (j : Nat) (b : ByteArray) : Nat → ByteArray
  | 0 => b
  | k + 1 => let s := secTo ft t j b k; let x := t.getD k z36
    if x.f0 = (j : Int) then (if ft k = 2 then x.f1.extract 0 64 ++ s.extract 64 128 else if ft k = 1 then x.f1 else s) else s
theorem endsTo_at (ft : Nat → Int) {s : List ByteArray} {t : List SW} (ht : W128 s.length t) {j : Nat} (hj : j < s.length) (k : Nat) (hk : k ≤ t.length) : (endsTo ft s t k).getD j ByteArray.empty = secTo ft t j (s.getD j ByteArray.empty) k := by
  induction k with
  | zero => rfl
  | succ k ih =>
    have ih := ih (by omega)
    obtain ⟨p1, p2, p3⟩ := ht k (by omega)
    have hl := endsTo_len ft s t k
    rw [endsTo, secTo]
    rw [← ih]
    generalize endsTo ft s t k = l at *
    generalize t.getD k z36 = x at *
    obtain ⟨q, hq⟩ := Int.eq_ofNat_of_zero_le p1
    unfold stepE
    rw [hq, Int.toNat_natCast]
    by_cases he : (q : Int) = (j : Int)
    · obtain rfl : q = j := by omega
      rw [if_pos rfl]
      split
      · simp [List.getD_eq_getElem?_getD, hl, hj]
      · split
        · simp [List.getD_eq_getElem?_getD, hl, hj]
        · rfl
    · have hne : q ≠ j := by omega
      rw [if_neg he]
      split
      · simp [List.getD_eq_getElem?_getD, hne]
      · split
        · simp [List.getD_eq_getElem?_getD, hne]
        · rfl
def D4 : SD := ⟨List.replicate 4 (sect 0), []⟩
theorem rightD_D4 : rightD D4 = true := rightD_mk (by simp [D4]) (by simp [D4]) (by simp [D4]) (fun s hs => by
  rw [(List.mem_replicate.1 (show s ∈ List.replicate 4 (sect 0) from hs)).2]; exact sect_size 0) (wellW_mk (by simp [D4]))
def x120 : SW := ⟨1, sect 120⟩
theorem well_x120 : wellW D4.f0.length [x120] = true := wellW_mk fun x hx => by
  obtain rfl : x = x120 := by simpa using hx
  exact ⟨by decide, by decide, sect_size 120⟩
theorem save_D4 : saveD D4 [x120] = (⟨D4.f0, [x120]⟩, 0) := saveD_ok rightD_D4 well_x120 (by decide)
theorem rightD_D4x : rightD ⟨D4.f0, [x120]⟩ = true := rightD_save (l := [x120]) rightD_D4 well_x120 (by decide)
theorem crash_D4 : crashD ⟨D4.f0, [x120]⟩ [2] = (⟨D4.f0.set 1 ((sect 120).extract 0 64 ++ (sect 0).extract 64 128), []⟩, 0) := by
  rw [crashD_ok _ rightD_D4x]
  rfl
theorem right_crash_D4 : rightD ⟨D4.f0.set 1 ((sect 120).extract 0 64 ++ (sect 0).extract 64 128), []⟩ = true := by
  have h1 := rightD_ends (fun i => [2].getD i 0) rightD_D4x
  have h2 := crash_D4
  rw [crashD_ok _ rightD_D4x] at h2
  rw [(Prod.mk.inj h2).1] at h1
  exact h1
end Go.Proofs.Ytjpomfbkfgkifaa
end

section
/- law09.alive. -/
namespace Go.Proofs.Ytjpomfbkfgkifaa
open Go.RowKit Go.Proofs.YtjpomfbkfgkifaaW.PrintWords Go.Proofs.YtjpomfbkfgkifaaW.PrintLast Go.Proofs.YtjpomfbkfgkifaaW.PrintMore
attribute [local go_sem] max2_int min2_int max_two min_two max_three min_three max_four min_four
set_option linter.unusedVariables false
set_option linter.unusedSimpArgs false
set_option maxHeartbeats 4000000 in
set_option maxRecDepth 100000 in
theorem law_alive (w : World) : Calls Try.prog 9 #[] w fun e w' => e = .returned (.bool true) ∧ Below w.heap.size w w' := by
  go_enter Try.func9, Try.ntmps9
  go_wp2_with fail
  refine (disk_New (fun _ => False) 4 _ (fun _ h => h.elim)).mono ?_
  rintro e w1 ⟨⟨r1, rfl, d1⟩, b1⟩
  have sz1 := b1.size
  try simp only [World.size_alloc, World.size_setCell, World.size_drew, size_drewN] at sz1
  have e4 : newD 4 = (D4, 0) := rfl
  rw [e4] at d1
  rw [e4]
  clear e4
  obtain ⟨D0, hD0⟩ : ∃ D0 : SD, D0 = D4 := ⟨_, rfl⟩
  rw [← hD0] at d1
  have HD0 := hid hD0
  clear hD0
  have d1' : St (fun k => k = w1.heap.size) w1 (fun w => VDisk w r1 D0) := d1.wide (fun k hk h => by omega)
  obtain ⟨A0, c0, A1, c1, rfl, l0, m0, h0, l1, m1, h1⟩ := VDisk.open d1'
  obtain ⟨X0, X1⟩ : Cl (w1.alloc (.cells #[.slice A0 D0.f0.length c0, .slice A1 D0.f1.length c1] 25)) ⟨w1.heap.size, 0, none⟩ (.slice A0 D0.f0.length c0) ∧ Cl (w1.alloc (.cells #[.slice A0 D0.f0.length c0, .slice A1 D0.f1.length c1] 25)) ⟨w1.heap.size, 1, none⟩ (.slice A1 D0.f1.length c1) := ⟨Cl.new rfl, Cl.new rfl⟩
  have hs := hid (show saveD D0 [⟨1, sect 120⟩] = (⟨D0.f0, [⟨1, sect 120⟩]⟩, 0) by rw [HD0.out]; exact save_D4)
  go_upto_region 2 with (fail)
  go_cut [3] (fun v3 wc => v3 = .int .i64 0 ∧ ∃ A2 c2 A3 c3, Cl wc ⟨w1.heap.size, 0, none⟩ (.slice A2 D0.f0.length c2) ∧ Cl wc ⟨w1.heap.size, 1, none⟩ (.slice A3 1 c3) ∧ St (fun k => k = w1.heap.size) wc (fun w => VDisk w (.agg #[.slice A2 D0.f0.length c2, .slice A3 1 c3]) ⟨D0.f0, [⟨1, sect 120⟩]⟩) ∧ Below w.heap.size w wc)
  case first =>
    go_region_with (first
      | (go_at_call 11; refine (law_sector 120 (by omega) (by omega) _).mono ?_; rintro e w2 ⟨rfl, b2⟩; have sz2 := b2.size; (first | (replace X0 := Cl.below b2 X0) | (replace X0 := Cl.below b2 X0.al) | (replace X0 := Cl.below b2 X0.dr) | (replace X0 := Cl.below b2 X0.drN) | (replace X0 := Cl.below b2 X0.al.al) | (replace X0 := Cl.below b2 X0.al.dr) | (replace X0 := Cl.below b2 X0.al.drN) | (replace X0 := Cl.below b2 X0.dr.al) | (replace X0 := Cl.below b2 X0.dr.dr) | (replace X0 := Cl.below b2 X0.dr.drN) | (replace X0 := Cl.below b2 X0.drN.al) | (replace X0 := Cl.below b2 X0.drN.dr) | (replace X0 := Cl.below b2 X0.drN.drN) | (replace X0 := Cl.below b2 X0.al.al.al) | (replace X0 := Cl.below b2 X0.al.al.dr) | (replace X0 := Cl.below b2 X0.al.al.drN) | (replace X0 := Cl.below b2 X0.al.dr.al) | (replace X0 := Cl.below b2 X0.al.dr.dr) | (replace X0 := Cl.below b2 X0.al.dr.drN) | (replace X0 := Cl.below b2 X0.al.drN.al) | (replace X0 := Cl.below b2 X0.al.drN.dr) | (replace X0 := Cl.below b2 X0.al.drN.drN) | (replace X0 := Cl.below b2 X0.dr.al.al) | (replace X0 := Cl.below b2 X0.dr.al.dr) | (replace X0 := Cl.below b2 X0.dr.al.drN) | (replace X0 := Cl.below b2 X0.dr.dr.al) | (replace X0 := Cl.below b2 X0.dr.dr.dr) | (replace X0 := Cl.below b2 X0.dr.dr.drN) | (replace X0 := Cl.below b2 X0.dr.drN.al) | (replace X0 := Cl.below b2 X0.dr.drN.dr) | (replace X0 := Cl.below b2 X0.dr.drN.drN) | (replace X0 := Cl.below b2 X0.drN.al.al) | (replace X0 := Cl.below b2 X0.drN.al.dr) | (replace X0 := Cl.below b2 X0.drN.al.drN) | (replace X0 := Cl.below b2 X0.drN.dr.al) | (replace X0 := Cl.below b2 X0.drN.dr.dr) | (replace X0 := Cl.below b2 X0.drN.dr.drN) | (replace X0 := Cl.below b2 X0.drN.drN.al) | (replace X0 := Cl.below b2 X0.drN.drN.dr) | (replace X0 := Cl.below b2 X0.drN.drN.drN)); (have X0_c := X0.cell); (have X0_f := X0.free); (have X0_l := X0.lt); (dsimp only at X0_l); (first | (replace X1 := Cl.below b2 X1) | (replace X1 := Cl.below b2 X1.al) | (replace X1 := Cl.below b2 X1.dr) | (replace X1 := Cl.below b2 X1.drN) | (replace X1 := Cl.below b2 X1.al.al) | (replace X1 := Cl.below b2 X1.al.dr) | (replace X1 := Cl.below b2 X1.al.drN) | (replace X1 := Cl.below b2 X1.dr.al) | (replace X1 := Cl.below b2 X1.dr.dr) | (replace X1 := Cl.below b2 X1.dr.drN) | (replace X1 := Cl.below b2 X1.drN.al) | (replace X1 := Cl.below b2 X1.drN.dr) | (replace X1 := Cl.below b2 X1.drN.drN) | (replace X1 := Cl.below b2 X1.al.al.al) | (replace X1 := Cl.below b2 X1.al.al.dr) | (replace X1 := Cl.below b2 X1.al.al.drN) | (replace X1 := Cl.below b2 X1.al.dr.al) | (replace X1 := Cl.below b2 X1.al.dr.dr) | (replace X1 := Cl.below b2 X1.al.dr.drN) | (replace X1 := Cl.below b2 X1.al.drN.al) | (replace X1 := Cl.below b2 X1.al.drN.dr) | (replace X1 := Cl.below b2 X1.al.drN.drN) | (replace X1 := Cl.below b2 X1.dr.al.al) | (replace X1 := Cl.below b2 X1.dr.al.dr) | (replace X1 := Cl.below b2 X1.dr.al.drN) | (replace X1 := Cl.below b2 X1.dr.dr.al) | (replace X1 := Cl.below b2 X1.dr.dr.dr) | (replace X1 := Cl.below b2 X1.dr.dr.drN) | (replace X1 := Cl.below b2 X1.dr.drN.al) | (replace X1 := Cl.below b2 X1.dr.drN.dr) | (replace X1 := Cl.below b2 X1.dr.drN.drN) | (replace X1 := Cl.below b2 X1.drN.al.al) | (replace X1 := Cl.below b2 X1.drN.al.dr) | (replace X1 := Cl.below b2 X1.drN.al.drN) | (replace X1 := Cl.below b2 X1.drN.dr.al) | (replace X1 := Cl.below b2 X1.drN.dr.dr) | (replace X1 := Cl.below b2 X1.drN.dr.drN) | (replace X1 := Cl.below b2 X1.drN.drN.al) | (replace X1 := Cl.below b2 X1.drN.drN.dr) | (replace X1 := Cl.below b2 X1.drN.drN.drN)); (have X1_c := X1.cell); (have X1_f := X1.free); (have X1_l := X1.lt); (dsimp only at X1_l))
      | (go_at_call 10; refine (disk_Save (fun k => k = w1.heap.size) _ _ D0 [⟨1, sect 120⟩] _ (fun k hk => by subst hk; have := b2.size; simp at this ⊢; omega) (d1'.keep (by repeat (first | exact Keep.refl _ _ | (with_reducible assumption) | refine Keep.alloc ?_ _ | refine Keep.drewN ?_ _ | refine Keep.drew ?_ | refine Keep.set ?_ (by first | exact .inl rfl | exact .inr (by dsimp only; omega) | exact .inl (hP.own _ (by dsimp only; omega) (by dsimp only; omega)) | exact .inl (by assumption)) _ | refine Keep.step ?_ (by assumption)))) (SlV.one kWrite_flat (fun w => k36_mk w _) (fun hk => by have := b2.size; simp at this; omega)) (by simp)).mono ?_; rintro e w3 ⟨⟨r3, rfl, d3⟩, b3⟩; rw [hs.out] at d3; rw [hs.out]; obtain ⟨A2, c2, A3, c3, rfl, l2, m2, h2, l3, m3, h3⟩ := VDisk.open d3; (first | (replace X0 := Cl.below b3 X0) | (replace X0 := Cl.below b3 X0.al) | (replace X0 := Cl.below b3 X0.dr) | (replace X0 := Cl.below b3 X0.drN) | (replace X0 := Cl.below b3 X0.al.al) | (replace X0 := Cl.below b3 X0.al.dr) | (replace X0 := Cl.below b3 X0.al.drN) | (replace X0 := Cl.below b3 X0.dr.al) | (replace X0 := Cl.below b3 X0.dr.dr) | (replace X0 := Cl.below b3 X0.dr.drN) | (replace X0 := Cl.below b3 X0.drN.al) | (replace X0 := Cl.below b3 X0.drN.dr) | (replace X0 := Cl.below b3 X0.drN.drN) | (replace X0 := Cl.below b3 X0.al.al.al) | (replace X0 := Cl.below b3 X0.al.al.dr) | (replace X0 := Cl.below b3 X0.al.al.drN) | (replace X0 := Cl.below b3 X0.al.dr.al) | (replace X0 := Cl.below b3 X0.al.dr.dr) | (replace X0 := Cl.below b3 X0.al.dr.drN) | (replace X0 := Cl.below b3 X0.al.drN.al) | (replace X0 := Cl.below b3 X0.al.drN.dr) | (replace X0 := Cl.below b3 X0.al.drN.drN) | (replace X0 := Cl.below b3 X0.dr.al.al) | (replace X0 := Cl.below b3 X0.dr.al.dr) | (replace X0 := Cl.below b3 X0.dr.al.drN) | (replace X0 := Cl.below b3 X0.dr.dr.al) | (replace X0 := Cl.below b3 X0.dr.dr.dr) | (replace X0 := Cl.below b3 X0.dr.dr.drN) | (replace X0 := Cl.below b3 X0.dr.drN.al) | (replace X0 := Cl.below b3 X0.dr.drN.dr) | (replace X0 := Cl.below b3 X0.dr.drN.drN) | (replace X0 := Cl.below b3 X0.drN.al.al) | (replace X0 := Cl.below b3 X0.drN.al.dr) | (replace X0 := Cl.below b3 X0.drN.al.drN) | (replace X0 := Cl.below b3 X0.drN.dr.al) | (replace X0 := Cl.below b3 X0.drN.dr.dr) | (replace X0 := Cl.below b3 X0.drN.dr.drN) | (replace X0 := Cl.below b3 X0.drN.drN.al) | (replace X0 := Cl.below b3 X0.drN.drN.dr) | (replace X0 := Cl.below b3 X0.drN.drN.drN)); (have X0_c := X0.cell); (have X0_f := X0.free); (have X0_l := X0.lt); (dsimp only at X0_l); (first | (replace X1 := Cl.below b3 X1) | (replace X1 := Cl.below b3 X1.al) | (replace X1 := Cl.below b3 X1.dr) | (replace X1 := Cl.below b3 X1.drN) | (replace X1 := Cl.below b3 X1.al.al) | (replace X1 := Cl.below b3 X1.al.dr) | (replace X1 := Cl.below b3 X1.al.drN) | (replace X1 := Cl.below b3 X1.dr.al) | (replace X1 := Cl.below b3 X1.dr.dr) | (replace X1 := Cl.below b3 X1.dr.drN) | (replace X1 := Cl.below b3 X1.drN.al) | (replace X1 := Cl.below b3 X1.drN.dr) | (replace X1 := Cl.below b3 X1.drN.drN) | (replace X1 := Cl.below b3 X1.al.al.al) | (replace X1 := Cl.below b3 X1.al.al.dr) | (replace X1 := Cl.below b3 X1.al.al.drN) | (replace X1 := Cl.below b3 X1.al.dr.al) | (replace X1 := Cl.below b3 X1.al.dr.dr) | (replace X1 := Cl.below b3 X1.al.dr.drN) | (replace X1 := Cl.below b3 X1.al.drN.al) | (replace X1 := Cl.below b3 X1.al.drN.dr) | (replace X1 := Cl.below b3 X1.al.drN.drN) | (replace X1 := Cl.below b3 X1.dr.al.al) | (replace X1 := Cl.below b3 X1.dr.al.dr) | (replace X1 := Cl.below b3 X1.dr.al.drN) | (replace X1 := Cl.below b3 X1.dr.dr.al) | (replace X1 := Cl.below b3 X1.dr.dr.dr) | (replace X1 := Cl.below b3 X1.dr.dr.drN) | (replace X1 := Cl.below b3 X1.dr.drN.al) | (replace X1 := Cl.below b3 X1.dr.drN.dr) | (replace X1 := Cl.below b3 X1.dr.drN.drN) | (replace X1 := Cl.below b3 X1.drN.al.al) | (replace X1 := Cl.below b3 X1.drN.al.dr) | (replace X1 := Cl.below b3 X1.drN.al.drN) | (replace X1 := Cl.below b3 X1.drN.dr.al) | (replace X1 := Cl.below b3 X1.drN.dr.dr) | (replace X1 := Cl.below b3 X1.drN.dr.drN) | (replace X1 := Cl.below b3 X1.drN.drN.al) | (replace X1 := Cl.below b3 X1.drN.drN.dr) | (replace X1 := Cl.below b3 X1.drN.drN.drN)); (have X1_c := X1.cell); (have X1_f := X1.free); (have X1_l := X1.lt); (dsimp only at X1_l)))
    all_goals
      go_wp2_with fail
      go_meet
      exact ⟨rfl, A2, c2, A3, c3, X0.same.beside (by decide), (X1.beside (by decide)).same, d3.keep (by repeat (first | exact Keep.refl _ _ | (with_reducible assumption) | refine Keep.alloc ?_ _ | refine Keep.drewN ?_ _ | refine Keep.drew ?_ | refine Keep.set ?_ (by first | exact .inl rfl | exact .inr (by dsimp only; omega) | exact .inl (hP.own _ (by dsimp only; omega) (by dsimp only; omega)) | exact .inl (by assumption)) _ | refine Keep.step ?_ (by assumption))), (by repeat (first | exact Below.refl _ _ | (with_reducible assumption) | refine below_alloc ?_ _ | refine pw_below_drewN ?_ _ | refine below_drew ?_ | refine Below.setCell ?_ (by dsimp only; omega) _ | refine below_step ?_ (by assumption)))⟩
  case rest =>
    obtain ⟨rfl, A2, c2, A3, c3, Y0, Y1, d3, b3⟩ := hcut
    clear X0 X1 d1 d1' h0 h1 l0 m0 l1 m1
    obtain ⟨L1, hL1⟩ : ∃ L1, L1 = D0.f0.set 1 ((sect 120).extract 0 64 ++ (sect 0).extract 64 128) := ⟨_, rfl⟩
    replace hL1 := hid hL1
    have hs2 := hid (show crashD ⟨D0.f0, [⟨1, sect 120⟩]⟩ [2] = (⟨L1, []⟩, 0) by rw [hL1.out, HD0.out]; exact crash_D4)
    have hw : ∀ k, k = w1.heap.size → k < wc.heap.size := fun k hk => by subst hk; exact Y0.lt
    have Y0_c := Y0.cell
    have Y1_c := Y1.cell
    have Y0_l := Y0.lt
    dsimp only at Y0_l
    go_wp2_with fail
    refine (disk_Crash (fun k => k = w1.heap.size) _ ⟨D0.f0, [⟨1, sect 120⟩]⟩ _ 1 [2] _ (fun k hk => by have := hw k hk; simp; omega) (d3.keep (by repeat (first | exact Keep.refl _ _ | (with_reducible assumption) | refine Keep.alloc ?_ _ | refine Keep.drewN ?_ _ | refine Keep.drew ?_ | refine Keep.set ?_ (by first | exact .inl rfl | exact .inr (by dsimp only; omega) | exact .inl (hP.own _ (by dsimp only; omega) (by dsimp only; omega)) | exact .inl (by assumption)) _ | refine Keep.step ?_ (by assumption)))) (C_one (d := Kd.int .i64) (cs := [.int .i64 2]) (fun _ => rfl)) (Nat.le_refl _)).mono ?_
    rintro e w4 ⟨⟨r4, rfl, d4⟩, b4⟩
    have sz4 := b4.size
    simp only [World.size_alloc] at sz4
    rw [hs2.out] at d4
    rw [hs2.out]
    first
      | (replace Y0 := Cl.below b4 Y0)
      | (replace Y0 := Cl.below b4 Y0.al)
      | (replace Y0 := Cl.below b4 Y0.dr)
      | (replace Y0 := Cl.below b4 Y0.drN)
      | (replace Y0 := Cl.below b4 Y0.al.al)
      | (replace Y0 := Cl.below b4 Y0.al.dr)
      | (replace Y0 := Cl.below b4 Y0.al.drN)
      | (replace Y0 := Cl.below b4 Y0.dr.al)
      | (replace Y0 := Cl.below b4 Y0.dr.dr)
      | (replace Y0 := Cl.below b4 Y0.dr.drN)
      | (replace Y0 := Cl.below b4 Y0.drN.al)
      | (replace Y0 := Cl.below b4 Y0.drN.dr)
      | (replace Y0 := Cl.below b4 Y0.drN.drN)
      | (replace Y0 := Cl.below b4 Y0.al.al.al)
      | (replace Y0 := Cl.below b4 Y0.al.al.dr)
      | (replace Y0 := Cl.below b4 Y0.al.al.drN)
      | (replace Y0 := Cl.below b4 Y0.al.dr.al)
      | (replace Y0 := Cl.below b4 Y0.al.dr.dr)
      | (replace Y0 := Cl.below b4 Y0.al.dr.drN)
      | (replace Y0 := Cl.below b4 Y0.al.drN.al)
      | (replace Y0 := Cl.below b4 Y0.al.drN.dr)
      | (replace Y0 := Cl.below b4 Y0.al.drN.drN)
      | (replace Y0 := Cl.below b4 Y0.dr.al.al)
      | (replace Y0 := Cl.below b4 Y0.dr.al.dr)
      | (replace Y0 := Cl.below b4 Y0.dr.al.drN)
      | (replace Y0 := Cl.below b4 Y0.dr.dr.al)
      | (replace Y0 := Cl.below b4 Y0.dr.dr.dr)
      | (replace Y0 := Cl.below b4 Y0.dr.dr.drN)
      | (replace Y0 := Cl.below b4 Y0.dr.drN.al)
      | (replace Y0 := Cl.below b4 Y0.dr.drN.dr)
      | (replace Y0 := Cl.below b4 Y0.dr.drN.drN)
      | (replace Y0 := Cl.below b4 Y0.drN.al.al)
      | (replace Y0 := Cl.below b4 Y0.drN.al.dr)
      | (replace Y0 := Cl.below b4 Y0.drN.al.drN)
      | (replace Y0 := Cl.below b4 Y0.drN.dr.al)
      | (replace Y0 := Cl.below b4 Y0.drN.dr.dr)
      | (replace Y0 := Cl.below b4 Y0.drN.dr.drN)
      | (replace Y0 := Cl.below b4 Y0.drN.drN.al)
      | (replace Y0 := Cl.below b4 Y0.drN.drN.dr)
      | (replace Y0 := Cl.below b4 Y0.drN.drN.drN)
    have Y0_c := Y0.cell
    have Y0_f := Y0.free
    have Y0_l := Y0.lt
    dsimp only at Y0_l
    first
      | (replace Y1 := Cl.below b4 Y1)
      | (replace Y1 := Cl.below b4 Y1.al)
      | (replace Y1 := Cl.below b4 Y1.dr)
      | (replace Y1 := Cl.below b4 Y1.drN)
      | (replace Y1 := Cl.below b4 Y1.al.al)
      | (replace Y1 := Cl.below b4 Y1.al.dr)
      | (replace Y1 := Cl.below b4 Y1.al.drN)
      | (replace Y1 := Cl.below b4 Y1.dr.al)
      | (replace Y1 := Cl.below b4 Y1.dr.dr)
      | (replace Y1 := Cl.below b4 Y1.dr.drN)
      | (replace Y1 := Cl.below b4 Y1.drN.al)
      | (replace Y1 := Cl.below b4 Y1.drN.dr)
      | (replace Y1 := Cl.below b4 Y1.drN.drN)
      | (replace Y1 := Cl.below b4 Y1.al.al.al)
      | (replace Y1 := Cl.below b4 Y1.al.al.dr)
      | (replace Y1 := Cl.below b4 Y1.al.al.drN)
      | (replace Y1 := Cl.below b4 Y1.al.dr.al)
      | (replace Y1 := Cl.below b4 Y1.al.dr.dr)
      | (replace Y1 := Cl.below b4 Y1.al.dr.drN)
      | (replace Y1 := Cl.below b4 Y1.al.drN.al)
      | (replace Y1 := Cl.below b4 Y1.al.drN.dr)
      | (replace Y1 := Cl.below b4 Y1.al.drN.drN)
      | (replace Y1 := Cl.below b4 Y1.dr.al.al)
      | (replace Y1 := Cl.below b4 Y1.dr.al.dr)
      | (replace Y1 := Cl.below b4 Y1.dr.al.drN)
      | (replace Y1 := Cl.below b4 Y1.dr.dr.al)
      | (replace Y1 := Cl.below b4 Y1.dr.dr.dr)
      | (replace Y1 := Cl.below b4 Y1.dr.dr.drN)
      | (replace Y1 := Cl.below b4 Y1.dr.drN.al)
      | (replace Y1 := Cl.below b4 Y1.dr.drN.dr)
      | (replace Y1 := Cl.below b4 Y1.dr.drN.drN)
      | (replace Y1 := Cl.below b4 Y1.drN.al.al)
      | (replace Y1 := Cl.below b4 Y1.drN.al.dr)
      | (replace Y1 := Cl.below b4 Y1.drN.al.drN)
      | (replace Y1 := Cl.below b4 Y1.drN.dr.al)
      | (replace Y1 := Cl.below b4 Y1.drN.dr.dr)
      | (replace Y1 := Cl.below b4 Y1.drN.dr.drN)
      | (replace Y1 := Cl.below b4 Y1.drN.drN.al)
      | (replace Y1 := Cl.below b4 Y1.drN.drN.dr)
      | (replace Y1 := Cl.below b4 Y1.drN.drN.drN)
    have Y1_c := Y1.cell
    have Y1_f := Y1.free
    have Y1_l := Y1.lt
    dsimp only at Y1_l
    obtain ⟨A4, c4, A5, c5, rfl, l4, m4, h4, l5, m5, h5⟩ := VDisk.open d4
    have hs3 := hid (show rightD ⟨L1, []⟩ = true by rw [hL1.out, HD0.out]; exact right_crash_D4)
    go_wp2_with fail
    refine (disk_LoadI _ ⟨L1, []⟩ 1 _ (d4.at_ (by repeat (first | exact Keep.refl _ _ | (with_reducible assumption) | refine Keep.alloc ?_ _ | refine Keep.drewN ?_ _ | refine Keep.drew ?_ | refine Keep.set ?_ (by first | exact .inl rfl | exact .inr (by dsimp only; omega) | exact .inl (hP.own _ (by dsimp only; omega) (by dsimp only; omega)) | exact .inl (by assumption)) _ | refine Keep.step ?_ (by assumption)))) hs3.out (by omega) (by rw [hL1.out, List.length_set, HD0.out]; decide)).mono ?_
    rintro e w5 ⟨rfl, b5⟩
    have sz5 := b5.size
    simp only [World.size_setCell] at sz5
    have hs4 := hid (show standsD ⟨L1, []⟩ (1 : Int).toNat = (sect 120).extract 0 64 ++ (sect 0).extract 64 128 by rw [hL1.out, HD0.out]; rfl)
    rw [hs4.out]
    have q1 : (sect 0).size = 128 := sect_size 0
    have q2 : (sect 120).size = 128 := sect_size 120
    have q3 : ((sect 120).extract 0 64 ++ (sect 0).extract 64 128).size = 128 := by rw [ByteArray.size_append, ByteArray.size_extract, ByteArray.size_extract]; omega
    have q4 := hid (show (sect 0).extract 64 (sect 0).size = (sect 0).extract 64 128 by rw [q1])
    go_wp2_with fail
    generalize hZ : (sect 120).extract 0 64 ++ (sect 0).extract 64 128 = Z at *
    replace hZ := hid hZ
    go_region_held3 (fun _ => True) (first | trivial) (first | (go_at_call 11; refine (law_sector _ (by omega) (by omega) _).mono ?_; rintro e w6 ⟨rfl, b6⟩; have sz6 := b6.size))
    all_goals
      go_wp2_with fail
      go_ret
      exact ⟨by rw [hZ.out]; simp, (by repeat (first | exact Below.refl _ _ | (with_reducible assumption) | refine below_alloc ?_ _ | refine pw_below_drewN ?_ _ | refine below_drew ?_ | refine Below.setCell ?_ (by dsimp only; omega) _ | refine below_step ?_ (by assumption)))⟩
end Go.Proofs.Ytjpomfbkfgkifaa
end

section
/- The law's own functions of layer 9, and two disks that are alike. -/
namespace Go.Proofs.Ytjpomfbkfgkifaa.V
open Go Go.RowKit
set_option linter.unusedVariables false
set_option linter.unusedSimpArgs false
def c7r0 : List Opn := [
  ⟨(some 1), none, .box 2 (.t 0)⟩, 
  ⟨(some 2), none, .new [.nils, .nils]⟩]
def c7r1 : List Opn := [
  ⟨(some 3), none, .fadr 0 (.t 1)⟩, 
  ⟨(some 4), none, .load false 1 (.t 3)⟩, 
  ⟨(some 5), none, .fadr 0 (.t 1)⟩, 
  ⟨(some 6), none, .load false 1 (.t 5)⟩, 
  ⟨(some 7), none, .len (.sl 0) (.t 6)⟩, 
  ⟨(some 8), none, .mm false (.t 7) (.c (.s (.d (.int .i64 66))))⟩, 
  ⟨(some 9), none, .slc (.sl 1) (.t 4) none (some (.t 8)) none⟩, 
  ⟨(some 10), none, .fadr 1 (.t 1)⟩, 
  ⟨(some 11), none, .load false 1 (.t 10)⟩, 
  ⟨(some 12), none, .fadr 1 (.t 1)⟩, 
  ⟨(some 13), none, .load false 1 (.t 12)⟩, 
  ⟨(some 14), none, .len (.sl 0) (.t 13)⟩, 
  ⟨(some 15), none, .mm false (.t 14) (.c (.s (.d (.int .i64 202))))⟩, 
  ⟨(some 16), none, .slc (.sl 2) (.t 11) none (some (.t 15)) none⟩, 
  ⟨(some 17), none, .fadr 0 (.t 1)⟩, 
  ⟨none, none, .store 1 (.t 17) (.t 9)⟩, 
  ⟨(some 18), none, .fadr 1 (.t 1)⟩, 
  ⟨none, none, .store 1 (.t 18) (.t 16)⟩]
def c7r2 : List Opn := [
  ⟨(some 19), none, .load true 2 (.t 1)⟩, 
  ⟨none, none, .store 2 (.t 2) (.t 19)⟩]
def c7 : C := .seq (.reg c7r0 none [1, 2]) (.seq (.reg c7r1 (some [0, 1, 0, 4, 12, 28, 63, 0, 128, 0, 512, 1536, 3584, 8064, 2047, 18431, 65535, 131071]) [1, 2]) (.seq (.reg c7r2 none [2]) (.ret)))
def k7 : List (Nat × List Nat) := [(2, [2]), (1, [1, 2]), (0, [1, 2])]
theorem cc7 : (Try.f7.body).bind (cC Try.prog 20 k7) = some c7 := by kernel_rfl
def rv7 : List RV := [.c 2 true 2]
theorem cr7 : cRVs Try.prog Try.f7.results.toList = some rv7 := by kernel_rfl
def c16r0 : List Opn := [
  ⟨(some 2), none, .box 2 (.t 0)⟩, 
  ⟨(some 3), none, .box 2 (.t 1)⟩, 
  ⟨(some 4), none, .mv (.c (.s (.d (.bool false))))⟩]
def c16r1 : List Opn := [
  ⟨(some 7), none, .fadr 0 (.t 2)⟩, 
  ⟨(some 8), none, .load false 1 (.t 7)⟩, 
  ⟨(some 9), none, .len (.sl 0) (.t 8)⟩, 
  ⟨(some 10), none, .fadr 0 (.t 3)⟩, 
  ⟨(some 11), none, .load false 1 (.t 10)⟩, 
  ⟨(some 12), none, .len (.sl 0) (.t 11)⟩, 
  ⟨(some 13), none, .bin .neq (.t 9) (.t 12)⟩, 
  ⟨(some 14), none, .mv (.t 13)⟩, 
  ⟨(some 15), some (14, false), .fadr 1 (.t 2)⟩, 
  ⟨(some 16), some (14, false), .load false 1 (.t 15)⟩, 
  ⟨(some 17), some (14, false), .len (.sl 0) (.t 16)⟩, 
  ⟨(some 18), some (14, false), .fadr 1 (.t 3)⟩, 
  ⟨(some 19), some (14, false), .load false 1 (.t 18)⟩, 
  ⟨(some 20), some (14, false), .len (.sl 0) (.t 19)⟩, 
  ⟨(some 21), some (14, false), .bin .neq (.t 17) (.t 20)⟩, 
  ⟨(some 22), none, .pick (.t 14) (.c (.s (.d (.bool true)))) (.t 21)⟩]
def c16r2 : List Opn := [
  ⟨(some 4), none, .mv (.c (.s (.d (.bool false))))⟩]
def c16r3 : List Opn := [
  ⟨(some 23), none, .fadr 0 (.t 2)⟩, 
  ⟨(some 24), none, .load false 1 (.t 23)⟩, 
  ⟨(some 25), none, .len (.sl 0) (.t 24)⟩, 
  ⟨(some 26), none, .mv (.c (.s (.d (.int .i64 0))))⟩]
def c16r4 : List Opn := [
  ⟨(some 27), none, .bin .lss (.t 26) (.t 25)⟩]
def c16r5 : List Opn := [
  ⟨(some 28), none, .mv (.t 26)⟩, 
  ⟨(some 5), none, .mv (.t 28)⟩]
def c16r6 : List Opn := [
  ⟨(some 29), none, .fadr 0 (.t 2)⟩, 
  ⟨(some 30), none, .load false 1 (.t 29)⟩, 
  ⟨(some 31), none, .mv (.t 5)⟩, 
  ⟨(some 32), none, .iadr (.sl 1) (.t 30) (.t 31)⟩, 
  ⟨(some 33), none, .load false 1 (.t 32)⟩, 
  ⟨(some 34), none, .fadr 0 (.t 3)⟩, 
  ⟨(some 35), none, .load false 1 (.t 34)⟩, 
  ⟨(some 36), none, .mv (.t 5)⟩, 
  ⟨(some 37), none, .iadr (.sl 1) (.t 35) (.t 36)⟩, 
  ⟨(some 38), none, .load false 1 (.t 37)⟩, 
  ⟨(some 39), none, .bin .neq (.t 33) (.t 38)⟩]
def c16r7 : List Opn := [
  ⟨(some 4), none, .mv (.c (.s (.d (.bool false))))⟩]
def c16r8 : List Opn := [
  ⟨(some 40), none, .bin .add (.t 26) (.c (.s (.d (.int .i64 1))))⟩, 
  ⟨(some 26), none, .mv (.t 40)⟩]
def c16l9 : C := .seq (.reg c16r4 none [2, 3, 25, 26, 27]) (.seq (.cond (.t 27) (.skip) (.exit 0)) (.seq (.blk 1 (.seq (.reg c16r5 none [2, 3, 5, 25, 26]) (.seq (.reg c16r6 (some [0, 1, 0, 7, 15, 0, 32, 0, 224, 480, 1023]) [2, 3, 25, 26, 39]) (.cond (.t 39) (.seq (.reg c16r7 none [4]) (.ret)) (.skip))))) (.reg c16r8 none [2, 3, 25, 26])))
def c16r9 : List Opn := [
  ⟨(some 41), none, .fadr 1 (.t 2)⟩, 
  ⟨(some 42), none, .load false 1 (.t 41)⟩, 
  ⟨(some 43), none, .len (.sl 0) (.t 42)⟩, 
  ⟨(some 44), none, .mv (.c (.s (.d (.int .i64 0))))⟩]
def c16r10 : List Opn := [
  ⟨(some 45), none, .bin .lss (.t 44) (.t 43)⟩]
def c16r11 : List Opn := [
  ⟨(some 46), none, .mv (.t 44)⟩, 
  ⟨(some 6), none, .mv (.t 46)⟩]
def c16r12 : List Opn := [
  ⟨(some 47), none, .fadr 1 (.t 2)⟩, 
  ⟨(some 48), none, .load false 1 (.t 47)⟩, 
  ⟨(some 49), none, .mv (.t 6)⟩, 
  ⟨(some 50), none, .iadr (.sl 2) (.t 48) (.t 49)⟩, 
  ⟨(some 51), none, .load true 2 (.t 50)⟩, 
  ⟨(some 52), none, .fadr 1 (.t 3)⟩, 
  ⟨(some 53), none, .load false 1 (.t 52)⟩, 
  ⟨(some 54), none, .mv (.t 6)⟩, 
  ⟨(some 55), none, .iadr (.sl 2) (.t 53) (.t 54)⟩, 
  ⟨(some 56), none, .load true 2 (.t 55)⟩, 
  ⟨(some 57), none, .bagg .neq [.int, .str] (.t 51) (.t 56)⟩]
def c16r13 : List Opn := [
  ⟨(some 4), none, .mv (.c (.s (.d (.bool false))))⟩]
def c16r14 : List Opn := [
  ⟨(some 58), none, .bin .add (.t 44) (.c (.s (.d (.int .i64 1))))⟩, 
  ⟨(some 44), none, .mv (.t 58)⟩]
def c16l16 : C := .seq (.reg c16r10 none [2, 3, 43, 44, 45]) (.seq (.cond (.t 45) (.skip) (.exit 2)) (.seq (.blk 3 (.seq (.reg c16r11 none [2, 3, 6, 43, 44]) (.seq (.reg c16r12 (some [0, 1, 0, 7, 15, 0, 32, 0, 224, 480, 1023]) [2, 3, 43, 44, 57]) (.cond (.t 57) (.seq (.reg c16r13 none [4]) (.ret)) (.skip))))) (.reg c16r14 none [2, 3, 43, 44])))
def c16r15 : List Opn := [
  ⟨(some 4), none, .mv (.c (.s (.d (.bool true))))⟩]
def c16 : C := .seq (.reg c16r0 none [2, 3]) (.seq (.seq (.reg c16r1 none [2, 3, 22]) (.cond (.t 22) (.seq (.reg c16r2 none [4]) (.ret)) (.skip))) (.seq (.seq (.reg c16r3 none [2, 3, 25, 26]) (.blk 0 (.loop c16l9))) (.seq (.seq (.reg c16r9 none [2, 3, 43, 44]) (.blk 2 (.loop c16l16))) (.seq (.reg c16r15 none [4]) (.ret)))))
def k16 : List (Nat × List Nat) := [(15, [4]), (14, [2, 3, 43, 44]), (13, [4]), (12, [2, 3, 43, 44, 57]), (11, [2, 3, 6, 43, 44]), (10, [2, 3, 43, 44, 45]), (9, [2, 3, 43, 44]), (8, [2, 3, 25, 26]), (7, [4]), (6, [2, 3, 25, 26, 39]), (5, [2, 3, 5, 25, 26]), (4, [2, 3, 25, 26, 27]), (3, [2, 3, 25, 26]), (2, [4]), (1, [2, 3, 22]), (0, [2, 3])]
theorem cc16 : (Try.f16.body).bind (cC Try.prog 59 k16) = some c16 := by kernel_rfl
def rv16 : List RV := [.t 4]
theorem cr16 : cRVs Try.prog Try.f16.results.toList = some rv16 := by kernel_rfl
theorem lawAlive : Fun Try.prog gl0 9 [] (.bo true) :=
  Fun.flat (by kernel_rfl) (of_bool true) (fun w S vs hA => by
    obtain rfl := args0 hA
    exact law_alive w)
def sectL (c : Int) : List UInt8 := List.replicate 128 (UInt8.ofNat c.toNat)
theorem lawSector (c : Int) (h0 : 0 ≤ c) (h1 : c ≤ 255) : Fun Try.prog gl0 11 [.i .u8 c] (.st (sectL c)) :=
  Fun.flat (by kernel_rfl) (of_str _) (fun w S vs hA => by
    obtain ⟨v, rfl, hv⟩ := args1 hA
    obtain rfl := repv_int hv
    exact law_sector c h0 h1 w)
theorem take_min {α : Type} (f : α → List Sc) (l : List α) (k : Nat) : List.take (if (k : Int) < l.length then (k : Int) else l.length).toNat (l.map f) = (l.take k).map f := by
  rw [← List.map_take]
  split
  · rfl
  · rw [List.take_of_length_le (by omega), List.take_of_length_le (by omega)]
theorem neq_len (a b : Nat) : ((a : Int) != b) = !decide (a = b) := by
  rw [Bool.eq_iff_iff]; simp; omega
theorem law_few (s : List (List UInt8)) (t : List SWr) (hs : s.length ≤ 9223372036854775807) (ht : t.length ≤ 9223372036854775807) : Fun Try.prog gl0 7 [.b (aD s t)] (.b (aD (s.take 66) (t.take 202))) := by
  refine fun_walk [] Try.func7 Try.ntmps7 cc7 cr7 (by kernel_rfl) (by simp only [List.length_cons, List.length_nil]; decide) ?_
  simp only [wk0, wk1, wk2, wk3, wk4, wk5, wk6, wk7, wk8, wk9, wk10, Rw_op, Rw_opg, RwD_op, RwD_opg, Bool.cond_true, Bool.cond_false, if_true, if_false, implies_true, forall_const, eq_self, ne_eq, forall_eq, forall_eq', forall_eq_or_imp, exists_eq', bne_self_eq_false, dchk, meets, touchS, touchI, quietI, allocI, isCall, idsV, ch0, Nat.testBit, semI, binS, unS, nilS, aggS, eqLs, eqL, evT, evS, stripV, gOk, gAll, opsOf, boolV, apG, numd, prL, cellsV, isB, out1, fail, fillOb, fillL, replaceAt, rowsV, newV, boundV, intV, lcOf, lcA, scA, Va.bo, Va.i, Va.st, Ret, allOb, rvOut, convB, convBs, convC, convR, conv, unD, Nat.reduceAdd, Nat.reduceSub, Nat.reduceMul, Nat.reduceLeDiff, Nat.reduceEqDiff, Nat.reduceLT, Nat.reduceBEq, reduceIte, reduceCtorEq, Int.reduceToNat, fnV, argsV, touchO, evO, bareI, Nat.reduceShiftRight, Nat.reduceAnd, Nat.reduceBneDiff, Nat.reduceBNe, aD, encD]
  unfold c7
  refine .seq (Rw.walk ?_)
  simp only [wk0, wk1, wk2, wk3, wk4, wk5, wk6, wk7, wk8, wk9, wk10, Rw_op, Rw_opg, RwD_op, RwD_opg, Bool.cond_true, Bool.cond_false, if_true, if_false, implies_true, forall_const, eq_self, ne_eq, forall_eq, forall_eq', forall_eq_or_imp, exists_eq', bne_self_eq_false, dchk, meets, touchS, touchI, quietI, allocI, isCall, idsV, ch0, Nat.testBit, semI, binS, unS, nilS, aggS, eqLs, eqL, evT, evS, stripV, gOk, gAll, opsOf, boolV, apG, numd, prL, cellsV, isB, out1, fail, fillOb, fillL, replaceAt, rowsV, newV, boundV, intV, lcOf, lcA, scA, Va.bo, Va.i, Va.st, Ret, allOb, rvOut, convB, convBs, convC, convR, conv, unD, Nat.reduceAdd, Nat.reduceSub, Nat.reduceMul, Nat.reduceLeDiff, Nat.reduceEqDiff, Nat.reduceLT, Nat.reduceBEq, reduceIte, reduceCtorEq, Int.reduceToNat, fnV, argsV, touchO, evO, bareI, Nat.reduceShiftRight, Nat.reduceAnd, Nat.reduceBneDiff, Nat.reduceBNe, c7r0]
  refine .seq (RwD.walk ?_)
  simp only [wk0, wk1, wk2, wk3, wk4, wk5, wk6, wk7, wk8, wk9, wk10, Rw_op, Rw_opg, RwD_op, RwD_opg, Bool.cond_true, Bool.cond_false, if_true, if_false, implies_true, forall_const, eq_self, ne_eq, forall_eq, forall_eq', forall_eq_or_imp, exists_eq', bne_self_eq_false, dchk, meets, touchS, touchI, quietI, allocI, isCall, idsV, ch0, Nat.testBit, semI, binS, unS, nilS, aggS, eqLs, eqL, evT, evS, stripV, gOk, gAll, opsOf, boolV, apG, numd, prL, cellsV, isB, out1, fail, fillOb, fillL, replaceAt, rowsV, newV, boundV, intV, lcOf, lcA, scA, Va.bo, Va.i, Va.st, Ret, allOb, rvOut, convB, convBs, convC, convR, conv, unD, Nat.reduceAdd, Nat.reduceSub, Nat.reduceMul, Nat.reduceLeDiff, Nat.reduceEqDiff, Nat.reduceLT, Nat.reduceBEq, reduceIte, reduceCtorEq, Int.reduceToNat, fnV, argsV, touchO, evO, bareI, Nat.reduceShiftRight, Nat.reduceAnd, Nat.reduceBneDiff, Nat.reduceBNe, c7r1]
  refine ⟨⟨by omega, by split <;> omega, by split <;> omega, encS_len s⟩, ⟨by omega, by split <;> omega, by split <;> omega, encW_len t⟩, ?_⟩
  refine .seq (Rw.walk ?_)
  simp only [wk0, wk1, wk2, wk3, wk4, wk5, wk6, wk7, wk8, wk9, wk10, Rw_op, Rw_opg, RwD_op, RwD_opg, Bool.cond_true, Bool.cond_false, if_true, if_false, implies_true, forall_const, eq_self, ne_eq, forall_eq, forall_eq', forall_eq_or_imp, exists_eq', bne_self_eq_false, dchk, meets, touchS, touchI, quietI, allocI, isCall, idsV, ch0, Nat.testBit, semI, binS, unS, nilS, aggS, eqLs, eqL, evT, evS, stripV, gOk, gAll, opsOf, boolV, apG, numd, prL, cellsV, isB, out1, fail, fillOb, fillL, replaceAt, rowsV, newV, boundV, intV, lcOf, lcA, scA, Va.bo, Va.i, Va.st, Ret, allOb, rvOut, convB, convBs, convC, convR, conv, unD, Nat.reduceAdd, Nat.reduceSub, Nat.reduceMul, Nat.reduceLeDiff, Nat.reduceEqDiff, Nat.reduceLT, Nat.reduceBEq, reduceIte, reduceCtorEq, Int.reduceToNat, fnV, argsV, touchO, evO, bareI, Nat.reduceShiftRight, Nat.reduceAnd, Nat.reduceBneDiff, Nat.reduceBNe, c7r2]
  refine .ret ?_
  simp only [wk0, wk1, wk2, wk3, wk4, wk5, wk6, wk7, wk8, wk9, wk10, Rw_op, Rw_opg, RwD_op, RwD_opg, Bool.cond_true, Bool.cond_false, if_true, if_false, implies_true, forall_const, eq_self, ne_eq, forall_eq, forall_eq', forall_eq_or_imp, exists_eq', bne_self_eq_false, dchk, meets, touchS, touchI, quietI, allocI, isCall, idsV, ch0, Nat.testBit, semI, binS, unS, nilS, aggS, eqLs, eqL, evT, evS, stripV, gOk, gAll, opsOf, boolV, apG, numd, prL, cellsV, isB, out1, fail, fillOb, fillL, replaceAt, rowsV, newV, boundV, intV, lcOf, lcA, scA, Va.bo, Va.i, Va.st, Ret, allOb, rvOut, convB, convBs, convC, convR, conv, unD, Nat.reduceAdd, Nat.reduceSub, Nat.reduceMul, Nat.reduceLeDiff, Nat.reduceEqDiff, Nat.reduceLT, Nat.reduceBEq, reduceIte, reduceCtorEq, Int.reduceToNat, fnV, argsV, touchO, evO, bareI, Nat.reduceShiftRight, Nat.reduceAnd, Nat.reduceBneDiff, Nat.reduceBNe, rv7]
  rw [show (66 : Int) = ((66 : Nat) : Int) from rfl, show (202 : Int) = ((202 : Nat) : Int) from rfl, take_min encS s 66, take_min encW t 202]
def likeL (s s' : List (List UInt8)) (t t' : List SWr) : Bool := decide (s = s') && decide (t = t')
theorem ref_Like (s s' : List (List UInt8)) (t t' : List SWr) (hs : s.length ≤ 9223372036854775807) (ht : t.length ≤ 9223372036854775807) : Fun Try.prog gl0 16 [.b (aD s t), .b (aD s' t')] (.bo (likeL s s' t t')) := by
  refine fun_walk [] Try.func16 Try.ntmps16 cc16 cr16 (by kernel_rfl) (by simp only [List.length_cons, List.length_nil]; decide) ?_
  simp only [wk0, wk1, wk2, wk3, wk4, wk5, wk6, wk7, wk8, wk9, wk10, Rw_op, Rw_opg, RwD_op, RwD_opg, Bool.cond_true, Bool.cond_false, if_true, if_false, implies_true, forall_const, eq_self, ne_eq, forall_eq, forall_eq', forall_eq_or_imp, exists_eq', bne_self_eq_false, dchk, meets, touchS, touchI, quietI, allocI, isCall, idsV, ch0, Nat.testBit, semI, binS, unS, nilS, aggS, eqLs, eqL, evT, evS, stripV, gOk, gAll, opsOf, boolV, apG, numd, prL, cellsV, isB, out1, fail, fillOb, fillL, replaceAt, rowsV, newV, boundV, intV, lcOf, lcA, scA, Va.bo, Va.i, Va.st, Ret, allOb, rvOut, convB, convBs, convC, convR, conv, unD, Nat.reduceAdd, Nat.reduceSub, Nat.reduceMul, Nat.reduceLeDiff, Nat.reduceEqDiff, Nat.reduceLT, Nat.reduceBEq, reduceIte, reduceCtorEq, Int.reduceToNat, fnV, argsV, touchO, evO, bareI, Nat.reduceShiftRight, Nat.reduceAnd, Nat.reduceBneDiff, Nat.reduceBNe, aD, encD]
  unfold c16
  refine .seq (Rw.walk ?_)
  simp only [wk0, wk1, wk2, wk3, wk4, wk5, wk6, wk7, wk8, wk9, wk10, Rw_op, Rw_opg, RwD_op, RwD_opg, Bool.cond_true, Bool.cond_false, if_true, if_false, implies_true, forall_const, eq_self, ne_eq, forall_eq, forall_eq', forall_eq_or_imp, exists_eq', bne_self_eq_false, dchk, meets, touchS, touchI, quietI, allocI, isCall, idsV, ch0, Nat.testBit, semI, binS, unS, nilS, aggS, eqLs, eqL, evT, evS, stripV, gOk, gAll, opsOf, boolV, apG, numd, prL, cellsV, isB, out1, fail, fillOb, fillL, replaceAt, rowsV, newV, boundV, intV, lcOf, lcA, scA, Va.bo, Va.i, Va.st, Ret, allOb, rvOut, convB, convBs, convC, convR, conv, unD, Nat.reduceAdd, Nat.reduceSub, Nat.reduceMul, Nat.reduceLeDiff, Nat.reduceEqDiff, Nat.reduceLT, Nat.reduceBEq, reduceIte, reduceCtorEq, Int.reduceToNat, fnV, argsV, touchO, evO, bareI, Nat.reduceShiftRight, Nat.reduceAnd, Nat.reduceBneDiff, Nat.reduceBNe, c16r0]
  refine .seq (.seq (Rw.walk ?_))
  simp only [wk0, wk1, wk2, wk3, wk4, wk5, wk6, wk7, wk8, wk9, wk10, Rw_op, Rw_opg, RwD_op, RwD_opg, Bool.cond_true, Bool.cond_false, if_true, if_false, implies_true, forall_const, eq_self, ne_eq, forall_eq, forall_eq', forall_eq_or_imp, exists_eq', bne_self_eq_false, dchk, meets, touchS, touchI, quietI, allocI, isCall, idsV, ch0, Nat.testBit, semI, binS, unS, nilS, aggS, eqLs, eqL, evT, evS, stripV, gOk, gAll, opsOf, boolV, apG, numd, prL, cellsV, isB, out1, fail, fillOb, fillL, replaceAt, rowsV, newV, boundV, intV, lcOf, lcA, scA, Va.bo, Va.i, Va.st, Ret, allOb, rvOut, convB, convBs, convC, convR, conv, unD, Nat.reduceAdd, Nat.reduceSub, Nat.reduceMul, Nat.reduceLeDiff, Nat.reduceEqDiff, Nat.reduceLT, Nat.reduceBEq, reduceIte, reduceCtorEq, Int.reduceToNat, fnV, argsV, touchO, evO, bareI, Nat.reduceShiftRight, Nat.reduceAnd, Nat.reduceBneDiff, Nat.reduceBNe, c16r1, neq_len]
  refine .cond rfl (fun h => ?_) (fun h => ?_)
  · refine .seq (Rw.walk ?_)
    simp only [wk0, wk1, wk2, wk3, wk4, wk5, wk6, wk7, wk8, wk9, wk10, Rw_op, Rw_opg, RwD_op, RwD_opg, Bool.cond_true, Bool.cond_false, if_true, if_false, implies_true, forall_const, eq_self, ne_eq, forall_eq, forall_eq', forall_eq_or_imp, exists_eq', bne_self_eq_false, dchk, meets, touchS, touchI, quietI, allocI, isCall, idsV, ch0, Nat.testBit, semI, binS, unS, nilS, aggS, eqLs, eqL, evT, evS, stripV, gOk, gAll, opsOf, boolV, apG, numd, prL, cellsV, isB, out1, fail, fillOb, fillL, replaceAt, rowsV, newV, boundV, intV, lcOf, lcA, scA, Va.bo, Va.i, Va.st, Ret, allOb, rvOut, convB, convBs, convC, convR, conv, unD, Nat.reduceAdd, Nat.reduceSub, Nat.reduceMul, Nat.reduceLeDiff, Nat.reduceEqDiff, Nat.reduceLT, Nat.reduceBEq, reduceIte, reduceCtorEq, Int.reduceToNat, fnV, argsV, touchO, evO, bareI, Nat.reduceShiftRight, Nat.reduceAnd, Nat.reduceBneDiff, Nat.reduceBNe, c16r2]
    refine .ret ?_
    have : likeL s s' t t' = false := by
      cases hq : likeL s s' t t' with
      | false => rfl
      | true =>
        simp only [likeL, Bool.and_eq_true, decide_eq_true_eq] at hq
        rw [hq.1, hq.2] at h
        simp at h
    simp only [wk0, wk1, wk2, wk3, wk4, wk5, wk6, wk7, wk8, wk9, wk10, Rw_op, Rw_opg, RwD_op, RwD_opg, Bool.cond_true, Bool.cond_false, if_true, if_false, implies_true, forall_const, eq_self, ne_eq, forall_eq, forall_eq', forall_eq_or_imp, exists_eq', bne_self_eq_false, dchk, meets, touchS, touchI, quietI, allocI, isCall, idsV, ch0, Nat.testBit, semI, binS, unS, nilS, aggS, eqLs, eqL, evT, evS, stripV, gOk, gAll, opsOf, boolV, apG, numd, prL, cellsV, isB, out1, fail, fillOb, fillL, replaceAt, rowsV, newV, boundV, intV, lcOf, lcA, scA, Va.bo, Va.i, Va.st, Ret, allOb, rvOut, convB, convBs, convC, convR, conv, unD, Nat.reduceAdd, Nat.reduceSub, Nat.reduceMul, Nat.reduceLeDiff, Nat.reduceEqDiff, Nat.reduceLT, Nat.reduceBEq, reduceIte, reduceCtorEq, Int.reduceToNat, fnV, argsV, touchO, evO, bareI, Nat.reduceShiftRight, Nat.reduceAnd, Nat.reduceBneDiff, Nat.reduceBNe, rv16, this]
  · refine .skip ?_
    have hl : s.length = s'.length := by simp at h; exact h.1
    have hl2 : t.length = t'.length := by simp at h; exact h.2
    refine .seq (.seq (Rw.walk ?_))
    simp only [wk0, wk1, wk2, wk3, wk4, wk5, wk6, wk7, wk8, wk9, wk10, Rw_op, Rw_opg, RwD_op, RwD_opg, Bool.cond_true, Bool.cond_false, if_true, if_false, implies_true, forall_const, eq_self, ne_eq, forall_eq, forall_eq', forall_eq_or_imp, exists_eq', bne_self_eq_false, dchk, meets, touchS, touchI, quietI, allocI, isCall, idsV, ch0, Nat.testBit, semI, binS, unS, nilS, aggS, eqLs, eqL, evT, evS, stripV, gOk, gAll, opsOf, boolV, apG, numd, prL, cellsV, isB, out1, fail, fillOb, fillL, replaceAt, rowsV, newV, boundV, intV, lcOf, lcA, scA, Va.bo, Va.i, Va.st, Ret, allOb, rvOut, convB, convBs, convC, convR, conv, unD, Nat.reduceAdd, Nat.reduceSub, Nat.reduceMul, Nat.reduceLeDiff, Nat.reduceEqDiff, Nat.reduceLT, Nat.reduceBEq, reduceIte, reduceCtorEq, Int.reduceToNat, fnV, argsV, touchO, evO, bareI, Nat.reduceShiftRight, Nat.reduceAnd, Nat.reduceBneDiff, Nat.reduceBNe, c16r3]
    refine .blk ?_
    refine W.loops (ι := { i : Nat // i ≤ s.length ∧ decide (s = s') = decide (s.drop i = s'.drop i) }) (fun i => ⟨lkT [(2, .b (.s (.ptr 2 1 0 0))), (3, .b (.s (.ptr 3 1 0 0))), (25, .i .i64 s.length), (26, .i .i64 i.val)], lkG [(2, ⟨2, [[.d (.sl (s.map encS)), .d (.sl (t.map encW))]], false⟩), (3, ⟨2, [[.d (.sl (s'.map encS)), .d (.sl (t'.map encW))]], false⟩)]⟩) (fun i => s.length - i.val) ⟨0, by omega, rfl⟩ ?_ ?_
    · refine Imp.lk _ _ ?_ ?_ ?_ ?_
      all_goals
        simp only [wk0, wk1, wk2, wk3, wk4, wk5, wk6, wk7, wk8, wk9, wk10, Rw_op, Rw_opg, RwD_op, RwD_opg, Bool.cond_true, Bool.cond_false, if_true, if_false, implies_true, forall_const, eq_self, ne_eq, forall_eq, forall_eq', forall_eq_or_imp, exists_eq', bne_self_eq_false, dchk, meets, touchS, touchI, quietI, allocI, isCall, idsV, ch0, Nat.testBit, semI, binS, unS, nilS, aggS, eqLs, eqL, evT, evS, stripV, gOk, gAll, opsOf, boolV, apG, numd, prL, cellsV, isB, out1, fail, fillOb, fillL, replaceAt, rowsV, newV, boundV, intV, lcOf, lcA, scA, Va.bo, Va.i, Va.st, Ret, allOb, rvOut, convB, convBs, convC, convR, conv, unD, Nat.reduceAdd, Nat.reduceSub, Nat.reduceMul, Nat.reduceLeDiff, Nat.reduceEqDiff, Nat.reduceLT, Nat.reduceBEq, reduceIte, reduceCtorEq, Int.reduceToNat, fnV, argsV, touchO, evO, bareI, Nat.reduceShiftRight, Nat.reduceAnd, Nat.reduceBneDiff, Nat.reduceBNe, allT, allE, refsV, refsIn, refsC, Int.ofNat_zero, Int.natCast_zero]
    · intro ⟨i, hi, hinv⟩ ih
      unfold c16l9
      refine .seq (Rw.walk ?_)
      simp only [wk0, wk1, wk2, wk3, wk4, wk5, wk6, wk7, wk8, wk9, wk10, Rw_op, Rw_opg, RwD_op, RwD_opg, Bool.cond_true, Bool.cond_false, if_true, if_false, implies_true, forall_const, eq_self, ne_eq, forall_eq, forall_eq', forall_eq_or_imp, exists_eq', bne_self_eq_false, dchk, meets, touchS, touchI, quietI, allocI, isCall, idsV, ch0, Nat.testBit, semI, binS, unS, nilS, aggS, eqLs, eqL, evT, evS, stripV, gOk, gAll, opsOf, boolV, apG, numd, prL, cellsV, isB, out1, fail, fillOb, fillL, replaceAt, rowsV, newV, boundV, intV, lcOf, lcA, scA, Va.bo, Va.i, Va.st, Ret, allOb, rvOut, convB, convBs, convC, convR, conv, unD, Nat.reduceAdd, Nat.reduceSub, Nat.reduceMul, Nat.reduceLeDiff, Nat.reduceEqDiff, Nat.reduceLT, Nat.reduceBEq, reduceIte, reduceCtorEq, Int.reduceToNat, fnV, argsV, touchO, evO, bareI, Nat.reduceShiftRight, Nat.reduceAnd, Nat.reduceBneDiff, Nat.reduceBNe, c16r4]
      by_cases hlt : i < s.length
      · refine .seq (.cond rfl (fun h => ?_) (fun h => absurd h (by simp; omega)))
        refine .skip ?_
        refine .seq (.blk ?_)
        refine .seq (Rw.walk ?_)
        simp only [wk0, wk1, wk2, wk3, wk4, wk5, wk6, wk7, wk8, wk9, wk10, Rw_op, Rw_opg, RwD_op, RwD_opg, Bool.cond_true, Bool.cond_false, if_true, if_false, implies_true, forall_const, eq_self, ne_eq, forall_eq, forall_eq', forall_eq_or_imp, exists_eq', bne_self_eq_false, dchk, meets, touchS, touchI, quietI, allocI, isCall, idsV, ch0, Nat.testBit, semI, binS, unS, nilS, aggS, eqLs, eqL, evT, evS, stripV, gOk, gAll, opsOf, boolV, apG, numd, prL, cellsV, isB, out1, fail, fillOb, fillL, replaceAt, rowsV, newV, boundV, intV, lcOf, lcA, scA, Va.bo, Va.i, Va.st, Ret, allOb, rvOut, convB, convBs, convC, convR, conv, unD, Nat.reduceAdd, Nat.reduceSub, Nat.reduceMul, Nat.reduceLeDiff, Nat.reduceEqDiff, Nat.reduceLT, Nat.reduceBEq, reduceIte, reduceCtorEq, Int.reduceToNat, fnV, argsV, touchO, evO, bareI, Nat.reduceShiftRight, Nat.reduceAnd, Nat.reduceBneDiff, Nat.reduceBNe, c16r5]
        have hd := drop_get s i [] hlt
        have hd' := drop_get s' i [] (by omega)
        rw [hd, hd'] at hinv
        refine .seq (RwD.walk ?_)
        simp only [wk0, wk1, wk2, wk3, wk4, wk5, wk6, wk7, wk8, wk9, wk10, Rw_op, Rw_opg, RwD_op, RwD_opg, Bool.cond_true, Bool.cond_false, if_true, if_false, implies_true, forall_const, eq_self, ne_eq, forall_eq, forall_eq', forall_eq_or_imp, exists_eq', bne_self_eq_false, dchk, meets, touchS, touchI, quietI, allocI, isCall, idsV, ch0, Nat.testBit, semI, binS, unS, nilS, aggS, eqLs, eqL, evT, evS, stripV, gOk, gAll, opsOf, boolV, apG, numd, prL, cellsV, isB, out1, fail, fillOb, fillL, replaceAt, rowsV, newV, boundV, intV, lcOf, lcA, scA, Va.bo, Va.i, Va.st, Ret, allOb, rvOut, convB, convBs, convC, convR, conv, unD, Nat.reduceAdd, Nat.reduceSub, Nat.reduceMul, Nat.reduceLeDiff, Nat.reduceEqDiff, Nat.reduceLT, Nat.reduceBEq, reduceIte, reduceCtorEq, Int.reduceToNat, fnV, argsV, touchO, evO, bareI, Nat.reduceShiftRight, Nat.reduceAnd, Nat.reduceBneDiff, Nat.reduceBNe, c16r6, getD_map encS s i [] [] hlt, getD_map encS s' i [] [] (show i < s'.length by omega), encS]
        refine ⟨⟨by omega, by omega, encS_len s⟩, ⟨by omega, by omega, encS_len s'⟩, ?_⟩
        refine .cond rfl (fun h => ?_) (fun h => ?_)
        · refine .seq (Rw.walk ?_)
          simp only [wk0, wk1, wk2, wk3, wk4, wk5, wk6, wk7, wk8, wk9, wk10, Rw_op, Rw_opg, RwD_op, RwD_opg, Bool.cond_true, Bool.cond_false, if_true, if_false, implies_true, forall_const, eq_self, ne_eq, forall_eq, forall_eq', forall_eq_or_imp, exists_eq', bne_self_eq_false, dchk, meets, touchS, touchI, quietI, allocI, isCall, idsV, ch0, Nat.testBit, semI, binS, unS, nilS, aggS, eqLs, eqL, evT, evS, stripV, gOk, gAll, opsOf, boolV, apG, numd, prL, cellsV, isB, out1, fail, fillOb, fillL, replaceAt, rowsV, newV, boundV, intV, lcOf, lcA, scA, Va.bo, Va.i, Va.st, Ret, allOb, rvOut, convB, convBs, convC, convR, conv, unD, Nat.reduceAdd, Nat.reduceSub, Nat.reduceMul, Nat.reduceLeDiff, Nat.reduceEqDiff, Nat.reduceLT, Nat.reduceBEq, reduceIte, reduceCtorEq, Int.reduceToNat, fnV, argsV, touchO, evO, bareI, Nat.reduceShiftRight, Nat.reduceAnd, Nat.reduceBneDiff, Nat.reduceBNe, c16r7]
          refine .ret ?_
          have : likeL s s' t t' = false := by
            rw [likeL, hinv]
            have h' : ¬ s.getD i [] = s'.getD i [] := by simpa using h
            simp only [List.cons.injEq, h', false_and, decide_false, Bool.false_and]
          simp only [wk0, wk1, wk2, wk3, wk4, wk5, wk6, wk7, wk8, wk9, wk10, Rw_op, Rw_opg, RwD_op, RwD_opg, Bool.cond_true, Bool.cond_false, if_true, if_false, implies_true, forall_const, eq_self, ne_eq, forall_eq, forall_eq', forall_eq_or_imp, exists_eq', bne_self_eq_false, dchk, meets, touchS, touchI, quietI, allocI, isCall, idsV, ch0, Nat.testBit, semI, binS, unS, nilS, aggS, eqLs, eqL, evT, evS, stripV, gOk, gAll, opsOf, boolV, apG, numd, prL, cellsV, isB, out1, fail, fillOb, fillL, replaceAt, rowsV, newV, boundV, intV, lcOf, lcA, scA, Va.bo, Va.i, Va.st, Ret, allOb, rvOut, convB, convBs, convC, convR, conv, unD, Nat.reduceAdd, Nat.reduceSub, Nat.reduceMul, Nat.reduceLeDiff, Nat.reduceEqDiff, Nat.reduceLT, Nat.reduceBEq, reduceIte, reduceCtorEq, Int.reduceToNat, fnV, argsV, touchO, evO, bareI, Nat.reduceShiftRight, Nat.reduceAnd, Nat.reduceBneDiff, Nat.reduceBNe, rv16, this]
        · refine .skip ?_
          refine .eblk ?_
          refine Rw.walk ?_
          simp only [wk0, wk1, wk2, wk3, wk4, wk5, wk6, wk7, wk8, wk9, wk10, Rw_op, Rw_opg, RwD_op, RwD_opg, Bool.cond_true, Bool.cond_false, if_true, if_false, implies_true, forall_const, eq_self, ne_eq, forall_eq, forall_eq', forall_eq_or_imp, exists_eq', bne_self_eq_false, dchk, meets, touchS, touchI, quietI, allocI, isCall, idsV, ch0, Nat.testBit, semI, binS, unS, nilS, aggS, eqLs, eqL, evT, evS, stripV, gOk, gAll, opsOf, boolV, apG, numd, prL, cellsV, isB, out1, fail, fillOb, fillL, replaceAt, rowsV, newV, boundV, intV, lcOf, lcA, scA, Va.bo, Va.i, Va.st, Ret, allOb, rvOut, convB, convBs, convC, convR, conv, unD, Nat.reduceAdd, Nat.reduceSub, Nat.reduceMul, Nat.reduceLeDiff, Nat.reduceEqDiff, Nat.reduceLT, Nat.reduceBEq, reduceIte, reduceCtorEq, Int.reduceToNat, fnV, argsV, touchO, evO, bareI, Nat.reduceShiftRight, Nat.reduceAnd, Nat.reduceBneDiff, Nat.reduceBNe, c16r8]
          have h' : s.getD i [] = s'.getD i [] := by simpa using h
          simp only [List.cons.injEq, h', true_and] at hinv
          refine .weak ?_ (ih ⟨i + 1, by omega, hinv⟩ (by simp; omega))
          refine Imp.lk _ _ ?_ ?_ ?_ ?_
          all_goals
            simp only [wk0, wk1, wk2, wk3, wk4, wk5, wk6, wk7, wk8, wk9, wk10, Rw_op, Rw_opg, RwD_op, RwD_opg, Bool.cond_true, Bool.cond_false, if_true, if_false, implies_true, forall_const, eq_self, ne_eq, forall_eq, forall_eq', forall_eq_or_imp, exists_eq', bne_self_eq_false, dchk, meets, touchS, touchI, quietI, allocI, isCall, idsV, ch0, Nat.testBit, semI, binS, unS, nilS, aggS, eqLs, eqL, evT, evS, stripV, gOk, gAll, opsOf, boolV, apG, numd, prL, cellsV, isB, out1, fail, fillOb, fillL, replaceAt, rowsV, newV, boundV, intV, lcOf, lcA, scA, Va.bo, Va.i, Va.st, Ret, allOb, rvOut, convB, convBs, convC, convR, conv, unD, Nat.reduceAdd, Nat.reduceSub, Nat.reduceMul, Nat.reduceLeDiff, Nat.reduceEqDiff, Nat.reduceLT, Nat.reduceBEq, reduceIte, reduceCtorEq, Int.reduceToNat, fnV, argsV, touchO, evO, bareI, Nat.reduceShiftRight, Nat.reduceAnd, Nat.reduceBneDiff, Nat.reduceBNe, allT, allE, refsV, refsIn, refsC]
          rw [i64_in (by omega) (by omega)]
          rfl
      · have hss : decide (s = s') = true := by
          rw [hinv, List.drop_of_length_le (by omega), List.drop_of_length_le (by omega)]
          rfl
        refine .seq (.cond rfl (fun h => absurd h (by simp; omega)) (fun h => ?_))
        refine .exit rfl ?_
        refine .seq (.seq (Rw.walk ?_))
        simp only [wk0, wk1, wk2, wk3, wk4, wk5, wk6, wk7, wk8, wk9, wk10, Rw_op, Rw_opg, RwD_op, RwD_opg, Bool.cond_true, Bool.cond_false, if_true, if_false, implies_true, forall_const, eq_self, ne_eq, forall_eq, forall_eq', forall_eq_or_imp, exists_eq', bne_self_eq_false, dchk, meets, touchS, touchI, quietI, allocI, isCall, idsV, ch0, Nat.testBit, semI, binS, unS, nilS, aggS, eqLs, eqL, evT, evS, stripV, gOk, gAll, opsOf, boolV, apG, numd, prL, cellsV, isB, out1, fail, fillOb, fillL, replaceAt, rowsV, newV, boundV, intV, lcOf, lcA, scA, Va.bo, Va.i, Va.st, Ret, allOb, rvOut, convB, convBs, convC, convR, conv, unD, Nat.reduceAdd, Nat.reduceSub, Nat.reduceMul, Nat.reduceLeDiff, Nat.reduceEqDiff, Nat.reduceLT, Nat.reduceBEq, reduceIte, reduceCtorEq, Int.reduceToNat, fnV, argsV, touchO, evO, bareI, Nat.reduceShiftRight, Nat.reduceAnd, Nat.reduceBneDiff, Nat.reduceBNe, c16r9]
        refine .blk ?_
        refine W.loops (ι := { i : Nat // i ≤ t.length ∧ decide (t = t') = decide (t.drop i = t'.drop i) }) (fun i => ⟨lkT [(2, .b (.s (.ptr 2 1 0 0))), (3, .b (.s (.ptr 3 1 0 0))), (43, .i .i64 t.length), (44, .i .i64 i.val)], lkG [(2, ⟨2, [[.d (.sl (s.map encS)), .d (.sl (t.map encW))]], false⟩), (3, ⟨2, [[.d (.sl (s'.map encS)), .d (.sl (t'.map encW))]], false⟩)]⟩) (fun i => t.length - i.val) ⟨0, by omega, rfl⟩ ?_ ?_
        · refine Imp.lk _ _ ?_ ?_ ?_ ?_
          all_goals
            simp only [wk0, wk1, wk2, wk3, wk4, wk5, wk6, wk7, wk8, wk9, wk10, Rw_op, Rw_opg, RwD_op, RwD_opg, Bool.cond_true, Bool.cond_false, if_true, if_false, implies_true, forall_const, eq_self, ne_eq, forall_eq, forall_eq', forall_eq_or_imp, exists_eq', bne_self_eq_false, dchk, meets, touchS, touchI, quietI, allocI, isCall, idsV, ch0, Nat.testBit, semI, binS, unS, nilS, aggS, eqLs, eqL, evT, evS, stripV, gOk, gAll, opsOf, boolV, apG, numd, prL, cellsV, isB, out1, fail, fillOb, fillL, replaceAt, rowsV, newV, boundV, intV, lcOf, lcA, scA, Va.bo, Va.i, Va.st, Ret, allOb, rvOut, convB, convBs, convC, convR, conv, unD, Nat.reduceAdd, Nat.reduceSub, Nat.reduceMul, Nat.reduceLeDiff, Nat.reduceEqDiff, Nat.reduceLT, Nat.reduceBEq, reduceIte, reduceCtorEq, Int.reduceToNat, fnV, argsV, touchO, evO, bareI, Nat.reduceShiftRight, Nat.reduceAnd, Nat.reduceBneDiff, Nat.reduceBNe, allT, allE, refsV, refsIn, refsC, Int.ofNat_zero, Int.natCast_zero]
        · intro ⟨j, hj, hinv⟩ ih
          unfold c16l16
          refine .seq (Rw.walk ?_)
          simp only [wk0, wk1, wk2, wk3, wk4, wk5, wk6, wk7, wk8, wk9, wk10, Rw_op, Rw_opg, RwD_op, RwD_opg, Bool.cond_true, Bool.cond_false, if_true, if_false, implies_true, forall_const, eq_self, ne_eq, forall_eq, forall_eq', forall_eq_or_imp, exists_eq', bne_self_eq_false, dchk, meets, touchS, touchI, quietI, allocI, isCall, idsV, ch0, Nat.testBit, semI, binS, unS, nilS, aggS, eqLs, eqL, evT, evS, stripV, gOk, gAll, opsOf, boolV, apG, numd, prL, cellsV, isB, out1, fail, fillOb, fillL, replaceAt, rowsV, newV, boundV, intV, lcOf, lcA, scA, Va.bo, Va.i, Va.st, Ret, allOb, rvOut, convB, convBs, convC, convR, conv, unD, Nat.reduceAdd, Nat.reduceSub, Nat.reduceMul, Nat.reduceLeDiff, Nat.reduceEqDiff, Nat.reduceLT, Nat.reduceBEq, reduceIte, reduceCtorEq, Int.reduceToNat, fnV, argsV, touchO, evO, bareI, Nat.reduceShiftRight, Nat.reduceAnd, Nat.reduceBneDiff, Nat.reduceBNe, c16r10]
          by_cases hlt : j < t.length
          · refine .seq (.cond rfl (fun h => ?_) (fun h => absurd h (by simp; omega)))
            refine .skip ?_
            refine .seq (.blk ?_)
            refine .seq (Rw.walk ?_)
            simp only [wk0, wk1, wk2, wk3, wk4, wk5, wk6, wk7, wk8, wk9, wk10, Rw_op, Rw_opg, RwD_op, RwD_opg, Bool.cond_true, Bool.cond_false, if_true, if_false, implies_true, forall_const, eq_self, ne_eq, forall_eq, forall_eq', forall_eq_or_imp, exists_eq', bne_self_eq_false, dchk, meets, touchS, touchI, quietI, allocI, isCall, idsV, ch0, Nat.testBit, semI, binS, unS, nilS, aggS, eqLs, eqL, evT, evS, stripV, gOk, gAll, opsOf, boolV, apG, numd, prL, cellsV, isB, out1, fail, fillOb, fillL, replaceAt, rowsV, newV, boundV, intV, lcOf, lcA, scA, Va.bo, Va.i, Va.st, Ret, allOb, rvOut, convB, convBs, convC, convR, conv, unD, Nat.reduceAdd, Nat.reduceSub, Nat.reduceMul, Nat.reduceLeDiff, Nat.reduceEqDiff, Nat.reduceLT, Nat.reduceBEq, reduceIte, reduceCtorEq, Int.reduceToNat, fnV, argsV, touchO, evO, bareI, Nat.reduceShiftRight, Nat.reduceAnd, Nat.reduceBneDiff, Nat.reduceBNe, c16r11]
            have hd := drop_get t j (0, []) hlt
            have hd' := drop_get t' j (0, []) (by omega)
            rw [hd, hd'] at hinv
            have hr := getD_map encW t j (0, []) [] hlt
            have hr' := getD_map encW t' j (0, []) [] (show j < t'.length by omega)
            clear hd hd'
            revert hinv hr hr'
            generalize t.getD j (0, []) = x
            generalize t'.getD j (0, []) = y
            obtain ⟨xa, xd⟩ := x
            obtain ⟨ya, yd⟩ := y
            intro hinv hr hr'
            refine .seq (RwD.walk ?_)
            simp only [wk0, wk1, wk2, wk3, wk4, wk5, wk6, wk7, wk8, wk9, wk10, Rw_op, Rw_opg, RwD_op, RwD_opg, Bool.cond_true, Bool.cond_false, if_true, if_false, implies_true, forall_const, eq_self, ne_eq, forall_eq, forall_eq', forall_eq_or_imp, exists_eq', bne_self_eq_false, dchk, meets, touchS, touchI, quietI, allocI, isCall, idsV, ch0, Nat.testBit, semI, binS, unS, nilS, aggS, eqLs, eqL, evT, evS, stripV, gOk, gAll, opsOf, boolV, apG, numd, prL, cellsV, isB, out1, fail, fillOb, fillL, replaceAt, rowsV, newV, boundV, intV, lcOf, lcA, scA, Va.bo, Va.i, Va.st, Ret, allOb, rvOut, convB, convBs, convC, convR, conv, unD, Nat.reduceAdd, Nat.reduceSub, Nat.reduceMul, Nat.reduceLeDiff, Nat.reduceEqDiff, Nat.reduceLT, Nat.reduceBEq, reduceIte, reduceCtorEq, Int.reduceToNat, fnV, argsV, touchO, evO, bareI, Nat.reduceShiftRight, Nat.reduceAnd, Nat.reduceBneDiff, Nat.reduceBNe, c16r12, hr, hr', encW]
            refine ⟨⟨by omega, by omega, encW_len t⟩, ⟨by omega, by omega, encW_len t'⟩, ?_⟩
            refine .cond rfl (fun h => ?_) (fun h => ?_)
            · refine .seq (Rw.walk ?_)
              simp only [wk0, wk1, wk2, wk3, wk4, wk5, wk6, wk7, wk8, wk9, wk10, Rw_op, Rw_opg, RwD_op, RwD_opg, Bool.cond_true, Bool.cond_false, if_true, if_false, implies_true, forall_const, eq_self, ne_eq, forall_eq, forall_eq', forall_eq_or_imp, exists_eq', bne_self_eq_false, dchk, meets, touchS, touchI, quietI, allocI, isCall, idsV, ch0, Nat.testBit, semI, binS, unS, nilS, aggS, eqLs, eqL, evT, evS, stripV, gOk, gAll, opsOf, boolV, apG, numd, prL, cellsV, isB, out1, fail, fillOb, fillL, replaceAt, rowsV, newV, boundV, intV, lcOf, lcA, scA, Va.bo, Va.i, Va.st, Ret, allOb, rvOut, convB, convBs, convC, convR, conv, unD, Nat.reduceAdd, Nat.reduceSub, Nat.reduceMul, Nat.reduceLeDiff, Nat.reduceEqDiff, Nat.reduceLT, Nat.reduceBEq, reduceIte, reduceCtorEq, Int.reduceToNat, fnV, argsV, touchO, evO, bareI, Nat.reduceShiftRight, Nat.reduceAnd, Nat.reduceBneDiff, Nat.reduceBNe, c16r13]
              refine .ret ?_
              have : likeL s s' t t' = false := by
                rw [likeL, hinv]
                have h' : ¬ (xa = ya ∧ xd = yd) := fun hh => by rw [hh.1, hh.2] at h; simp at h
                simp only [List.cons.injEq, Prod.mk.injEq, h', false_and, decide_false, Bool.and_false]
              simp only [wk0, wk1, wk2, wk3, wk4, wk5, wk6, wk7, wk8, wk9, wk10, Rw_op, Rw_opg, RwD_op, RwD_opg, Bool.cond_true, Bool.cond_false, if_true, if_false, implies_true, forall_const, eq_self, ne_eq, forall_eq, forall_eq', forall_eq_or_imp, exists_eq', bne_self_eq_false, dchk, meets, touchS, touchI, quietI, allocI, isCall, idsV, ch0, Nat.testBit, semI, binS, unS, nilS, aggS, eqLs, eqL, evT, evS, stripV, gOk, gAll, opsOf, boolV, apG, numd, prL, cellsV, isB, out1, fail, fillOb, fillL, replaceAt, rowsV, newV, boundV, intV, lcOf, lcA, scA, Va.bo, Va.i, Va.st, Ret, allOb, rvOut, convB, convBs, convC, convR, conv, unD, Nat.reduceAdd, Nat.reduceSub, Nat.reduceMul, Nat.reduceLeDiff, Nat.reduceEqDiff, Nat.reduceLT, Nat.reduceBEq, reduceIte, reduceCtorEq, Int.reduceToNat, fnV, argsV, touchO, evO, bareI, Nat.reduceShiftRight, Nat.reduceAnd, Nat.reduceBneDiff, Nat.reduceBNe, rv16, this]
            · refine .skip ?_
              refine .eblk ?_
              refine Rw.walk ?_
              simp only [wk0, wk1, wk2, wk3, wk4, wk5, wk6, wk7, wk8, wk9, wk10, Rw_op, Rw_opg, RwD_op, RwD_opg, Bool.cond_true, Bool.cond_false, if_true, if_false, implies_true, forall_const, eq_self, ne_eq, forall_eq, forall_eq', forall_eq_or_imp, exists_eq', bne_self_eq_false, dchk, meets, touchS, touchI, quietI, allocI, isCall, idsV, ch0, Nat.testBit, semI, binS, unS, nilS, aggS, eqLs, eqL, evT, evS, stripV, gOk, gAll, opsOf, boolV, apG, numd, prL, cellsV, isB, out1, fail, fillOb, fillL, replaceAt, rowsV, newV, boundV, intV, lcOf, lcA, scA, Va.bo, Va.i, Va.st, Ret, allOb, rvOut, convB, convBs, convC, convR, conv, unD, Nat.reduceAdd, Nat.reduceSub, Nat.reduceMul, Nat.reduceLeDiff, Nat.reduceEqDiff, Nat.reduceLT, Nat.reduceBEq, reduceIte, reduceCtorEq, Int.reduceToNat, fnV, argsV, touchO, evO, bareI, Nat.reduceShiftRight, Nat.reduceAnd, Nat.reduceBneDiff, Nat.reduceBNe, c16r14]
              have h' : xa = ya ∧ xd = yd := by simpa using h
              simp only [List.cons.injEq, Prod.mk.injEq, h', true_and] at hinv
              refine .weak ?_ (ih ⟨j + 1, by omega, hinv⟩ (by simp; omega))
              refine Imp.lk _ _ ?_ ?_ ?_ ?_
              all_goals
                simp only [wk0, wk1, wk2, wk3, wk4, wk5, wk6, wk7, wk8, wk9, wk10, Rw_op, Rw_opg, RwD_op, RwD_opg, Bool.cond_true, Bool.cond_false, if_true, if_false, implies_true, forall_const, eq_self, ne_eq, forall_eq, forall_eq', forall_eq_or_imp, exists_eq', bne_self_eq_false, dchk, meets, touchS, touchI, quietI, allocI, isCall, idsV, ch0, Nat.testBit, semI, binS, unS, nilS, aggS, eqLs, eqL, evT, evS, stripV, gOk, gAll, opsOf, boolV, apG, numd, prL, cellsV, isB, out1, fail, fillOb, fillL, replaceAt, rowsV, newV, boundV, intV, lcOf, lcA, scA, Va.bo, Va.i, Va.st, Ret, allOb, rvOut, convB, convBs, convC, convR, conv, unD, Nat.reduceAdd, Nat.reduceSub, Nat.reduceMul, Nat.reduceLeDiff, Nat.reduceEqDiff, Nat.reduceLT, Nat.reduceBEq, reduceIte, reduceCtorEq, Int.reduceToNat, fnV, argsV, touchO, evO, bareI, Nat.reduceShiftRight, Nat.reduceAnd, Nat.reduceBneDiff, Nat.reduceBNe, allT, allE, refsV, refsIn, refsC]
              rw [i64_in (by omega) (by omega)]
              rfl
          · refine .seq (.cond rfl (fun h => absurd h (by simp; omega)) (fun h => ?_))
            refine .exit rfl ?_
            refine .seq (Rw.walk ?_)
            simp only [wk0, wk1, wk2, wk3, wk4, wk5, wk6, wk7, wk8, wk9, wk10, Rw_op, Rw_opg, RwD_op, RwD_opg, Bool.cond_true, Bool.cond_false, if_true, if_false, implies_true, forall_const, eq_self, ne_eq, forall_eq, forall_eq', forall_eq_or_imp, exists_eq', bne_self_eq_false, dchk, meets, touchS, touchI, quietI, allocI, isCall, idsV, ch0, Nat.testBit, semI, binS, unS, nilS, aggS, eqLs, eqL, evT, evS, stripV, gOk, gAll, opsOf, boolV, apG, numd, prL, cellsV, isB, out1, fail, fillOb, fillL, replaceAt, rowsV, newV, boundV, intV, lcOf, lcA, scA, Va.bo, Va.i, Va.st, Ret, allOb, rvOut, convB, convBs, convC, convR, conv, unD, Nat.reduceAdd, Nat.reduceSub, Nat.reduceMul, Nat.reduceLeDiff, Nat.reduceEqDiff, Nat.reduceLT, Nat.reduceBEq, reduceIte, reduceCtorEq, Int.reduceToNat, fnV, argsV, touchO, evO, bareI, Nat.reduceShiftRight, Nat.reduceAnd, Nat.reduceBneDiff, Nat.reduceBNe, c16r15]
            refine .ret ?_
            rw [likeL, hss, hinv, List.drop_of_length_le (by omega), List.drop_of_length_le (by omega)]
            simp only [wk0, wk1, wk2, wk3, wk4, wk5, wk6, wk7, wk8, wk9, wk10, Rw_op, Rw_opg, RwD_op, RwD_opg, Bool.cond_true, Bool.cond_false, if_true, if_false, implies_true, forall_const, eq_self, ne_eq, forall_eq, forall_eq', forall_eq_or_imp, exists_eq', bne_self_eq_false, dchk, meets, touchS, touchI, quietI, allocI, isCall, idsV, ch0, Nat.testBit, semI, binS, unS, nilS, aggS, eqLs, eqL, evT, evS, stripV, gOk, gAll, opsOf, boolV, apG, numd, prL, cellsV, isB, out1, fail, fillOb, fillL, replaceAt, rowsV, newV, boundV, intV, lcOf, lcA, scA, Va.bo, Va.i, Va.st, Ret, allOb, rvOut, convB, convBs, convC, convR, conv, unD, Nat.reduceAdd, Nat.reduceSub, Nat.reduceMul, Nat.reduceLeDiff, Nat.reduceEqDiff, Nat.reduceLT, Nat.reduceBEq, reduceIte, reduceCtorEq, Int.reduceToNat, fnV, argsV, touchO, evO, bareI, Nat.reduceShiftRight, Nat.reduceAnd, Nat.reduceBneDiff, Nat.reduceBNe, rv16]
            rfl
end Go.Proofs.Ytjpomfbkfgkifaa.V
end

section
/- Plain laws of a disk behind a crash. -/
namespace Go.Proofs.Ytjpomfbkfgkifaa.V
open Go Go.RowKit
set_option linter.unusedVariables false
set_option linter.unusedSimpArgs false
theorem endsL_len (f : Int → Int) : ∀ (t : List SWr) (l : List (List UInt8)) (i : Int), (endsL f l t i).length = l.length
  | [], l, i => rfl
  | w :: t, l, i => by rw [endsL, endsL_len f t, putL_len]
theorem endsL_congr (f g : Int → Int) : ∀ (t : List SWr) (l : List (List UInt8)) (i : Int), (∀ j : Int, i ≤ j → j < i + t.length → f j = g j) → endsL f l t i = endsL g l t i
  | [], l, i, h => rfl
  | w :: t, l, i, h => by
    simp only [List.length_cons] at h
    rw [endsL, endsL, h i (by omega) (by omega)]
    exact endsL_congr f g t _ _ (fun j h1 h2 => h j (by omega) (by omega))
theorem endsL_none (f : Int → Int) (hf : ∀ j, f j = 0) : ∀ (t : List SWr) (l : List (List UInt8)) (i : Int), endsL f l t i = l
  | [], l, i => rfl
  | w :: t, l, i => by
    rw [endsL, hf, show putL l w 0 = l by rw [putL, if_neg (by decide), if_neg (by decide)]]
    exact endsL_none f hf t l _
theorem putL_all (l : List (List UInt8)) (w : SWr) (k : Int) (hl : ∀ x, x ∈ l → x.length = 128) (h0 : 0 ≤ w.1) (h1 : w.1 < l.length) (hw : w.2.length = 128) : ∀ x, x ∈ putL l w k → x.length = 128 := by
  unfold putL
  split
  · refine set_all (p := fun x : List UInt8 => x.length = 128) _ _ hl ?_
    have := hl _ (getD_mem (l := l) (i := w.1.toNat) (d := []) (by omega))
    rw [List.length_append, List.length_take, List.length_drop]
    omega
  · split
    · exact set_all (p := fun x : List UInt8 => x.length = 128) _ _ hl hw
    · exact hl
theorem endsL_all (f : Int → Int) : ∀ (t : List SWr) (l : List (List UInt8)) (i : Int), (∀ x, x ∈ l → x.length = 128) → (∀ w, w ∈ t → 0 ≤ w.1 ∧ w.1 < l.length ∧ w.2.length = 128) → ∀ x, x ∈ endsL f l t i → x.length = 128
  | [], l, i, hl, ht => hl
  | w :: t, l, i, hl, ht => by
    obtain ⟨h0, h1, h2⟩ := ht w (List.mem_cons_self ..)
    rw [endsL]
    exact endsL_all f t _ _ (putL_all l w _ hl h0 h1 h2) (fun v hv => by rw [putL_len]; exact ht v (List.mem_cons_of_mem _ hv))
def hitF (i : Nat) (x : List UInt8) (w : SWr) : Bool := (w.1 == (i : Int)) && (w.2.take 64 == x.take 64)
def hitL (i : Nat) (x : List UInt8) (w : SWr) : Bool := (w.1 == (i : Int)) && (w.2.drop 64 == x.drop 64)
theorem getD_set {α : Type} (l : List α) (k i : Nat) (x d : α) (hi : i < l.length) : (l.set k x).getD i d = if k = i then x else l.getD i d := by
  simp only [List.getD, List.getElem?_set]
  split
  · subst_vars; simp [hi]
  · rfl
theorem put_half (l : List (List UInt8)) (w : SWr) (k : Int) (i : Nat) (hi : i < l.length) (hl : ∀ x, x ∈ l → x.length = 128) (h0 : 0 ≤ w.1) (hw : w.2.length = 128) :
    ((putL l w k).getD i []).take 64 = (l.getD i []).take 64 ∧ ((putL l w k).getD i []).drop 64 = (l.getD i []).drop 64 ∨ w.1 = i ∧ ((putL l w k).getD i []).take 64 = w.2.take 64 ∧ (((putL l w k).getD i []).drop 64 = w.2.drop 64 ∨ ((putL l w k).getD i []).drop 64 = (l.getD i []).drop 64) := by
  have hx := hl _ (getD_mem (d := []) hi)
  unfold putL
  split
  · rw [getD_set _ _ _ _ _ hi]
    split
    · rename_i h
      refine .inr ⟨by omega, ?_, .inr ?_⟩
      · rw [List.take_left' (by rw [List.length_take]; omega)]
      · rw [List.drop_left' (by rw [List.length_take]; omega), h]
    · exact .inl ⟨rfl, rfl⟩
  · split
    · rw [getD_set _ _ _ _ _ hi]
      split
      · exact .inr ⟨by omega, rfl, .inl rfl⟩
      · exact .inl ⟨rfl, rfl⟩
    · exact .inl ⟨rfl, rfl⟩
theorem halves (f : Int → Int) (i : Nat) : ∀ (t : List SWr) (l : List (List UInt8)) (n : Int), i < l.length → (∀ x, x ∈ l → x.length = 128) → (∀ w, w ∈ t → 0 ≤ w.1 ∧ w.1 < l.length ∧ w.2.length = 128) → (((endsL f l t n).getD i []).take 64 = (l.getD i []).take 64 ∨ t.any (hitF i ((endsL f l t n).getD i [])) = true) ∧ (((endsL f l t n).getD i []).drop 64 = (l.getD i []).drop 64 ∨ t.any (hitL i ((endsL f l t n).getD i [])) = true)
  | [], l, n, hi, hl, ht => ⟨.inl rfl, .inl rfl⟩
  | w :: t, l, n, hi, hl, ht => by
    obtain ⟨h0, h1, h2⟩ := ht w (List.mem_cons_self ..)
    rw [endsL]
    obtain ⟨h3, h4⟩ := halves f i t (putL l w (f n)) (n + 1) (by rw [putL_len]; exact hi) (putL_all l w _ hl h0 h1 h2) (fun v hv => by rw [putL_len]; exact ht v (List.mem_cons_of_mem _ hv))
    have h5 := put_half l w (f n) i hi hl h0 h2
    rw [List.any_cons, List.any_cons]
    refine ⟨?_, ?_⟩
    · rcases h3 with h3 | h3
      · rcases h5 with ⟨h5, _⟩ | ⟨h5, h6, _⟩
        · exact .inl (h3.trans h5)
        · refine .inr ?_
          rw [hitF, h3, h6, h5]
          simp
      · exact .inr (by rw [h3, Bool.or_true])
    · rcases h4 with h4 | h4
      · rcases h5 with ⟨_, h5⟩ | ⟨h5, _, h6 | h6⟩
        · exact .inl (h4.trans h5)
        · refine .inr ?_
          rw [hitL, h4, h6, h5]
          simp
        · exact .inl (h4.trans h6)
      · exact .inr (by rw [h4, Bool.or_true])
theorem any_take {p : SWr → Bool} (t : List SWr) (j : Nat) (h : j < t.length) : (t.take (j + 1)).any p = ((t.take j).any p || p (t.getD j (0, []))) := by
  rw [List.take_succ_eq_append_getElem h, List.any_append]
  simp [List.getD, List.getElem?_eq_getElem h]
theorem right_snoc {s : List (List UInt8)} {t : List SWr} (w : SWr) (h : rightL s t = true) (ht : t.length < 200) (h0 : 0 ≤ w.1) (h1 : w.1 < s.length) (h2 : w.2.length = 128) : rightL s (t ++ [w]) = true ∧ saveL s t [w] = (s, t ++ [w], 0) := by
  have hb : badWr s.length w = false := by
    simp only [badWr, Bool.or_eq_false_iff, decide_eq_false_iff_not, Bool.not_eq_false', decide_eq_true_eq]
    omega
  have hw : wellL s.length [w] = true := by simp [wellL, hb]
  refine ⟨?_, ?_⟩
  · simp only [rightL, wellL, Bool.and_eq_true, decide_eq_true_eq, Bool.not_eq_true'] at h ⊢
    refine ⟨⟨⟨h.1.1.1, by rw [List.length_append]; simp; omega⟩, h.1.2⟩, ?_⟩
    rw [List.any_append, h.2]
    simp [hb]
  · simp only [saveL, h, hw, Bool.not_true, Bool.or_self, Bool.false_eq_true, if_false]
    rw [if_neg (by simp; omega)]
end Go.Proofs.Ytjpomfbkfgkifaa.V
end

section
/- What an argument says that is a disk, or a write. -/
namespace Go.Proofs.Ytjpomfbkfgkifaa.V
open Go Go.RowKit
set_option linter.unusedVariables false
set_option linter.unusedSimpArgs false
theorem ops_Write : OpS Try.prog 36 2 encW (fun w => (Lit.int .i64 w.1).wf = true ∧ w.2.length ≤ 9223372036854775807) :=
  ops_struct (fun a => a) Try.underlying36 (by kernel_rfl) (OpSF.cons rfl rfl (by kernel_rfl) (ops_int (by kernel_rfl)) (OpSF.one rfl rfl (by kernel_rfl) rfl (ops_str (by kernel_rfl)))) (fun _ => rfl) (fun _ h => h)
abbrev SDk := List (List UInt8) × List SWr
def WDk (d : SDk) : Prop := d.1.length ≤ 9223372036854775807 ∧ d.2.length ≤ 9223372036854775807 ∧ ∀ w ∈ d.2, (Lit.int .i64 w.1).wf = true
theorem ops_Disk : OpS Try.prog 25 2 (fun d : SDk => encD d.1 d.2) WDk :=
  ops_struct (fun a => a) Try.underlying25 (by kernel_rfl) (OpSF.cons rfl rfl (by kernel_rfl) (ops_slice (e := 9) (by kernel_rfl) (by kernel_rfl) (by decide) (ops_str (by kernel_rfl))) (OpSF.one rfl rfl (by kernel_rfl) rfl (ops_slice (e := 36) (by kernel_rfl) (by kernel_rfl) (by decide) ops_Write))) (fun _ => rfl) (fun _ h => ⟨h.1.1, h.2.1, fun w hw => (h.2.2 w hw).1⟩)
end Go.Proofs.Ytjpomfbkfgkifaa.V
end

section
/- The law DiskCrashes, as a function of its arguments. -/
namespace Go.Proofs.Ytjpomfbkfgkifaa.V
open Go Go.RowKit
set_option linter.unusedVariables false
set_option linter.unusedSimpArgs false
def c5r0 : List Opn := [
  ⟨(some 3), none, .box 2 (.t 0)⟩, 
  ⟨(some 6), none, .mv (.c (.s (.d (.bool false))))⟩]
def c5r1 : List Opn := [
  ⟨(some 27), none, .load true 2 (.t 3)⟩, 
  ⟨(some 28), none, .call (.fn 7) [(.t 27)]⟩, 
  ⟨none, none, .store 2 (.t 3) (.t 28)⟩]
def c5r2 : List Opn := [
  ⟨(some 29), none, .fadr 1 (.t 3)⟩, 
  ⟨none, none, .store 1 (.t 29) (.c (.s .nils))⟩]
def c5r3 : List Opn := [
  ⟨(some 30), none, .load true 2 (.t 3)⟩, 
  ⟨(some 31), none, .call (.fn 8) [(.t 30)]⟩, 
  ⟨(some 32), none, .un .not (.t 31)⟩]
def c5r4 : List Opn := [
  ⟨(some 33), none, .call (.fn 9) []⟩, 
  ⟨(some 6), none, .mv (.t 33)⟩]
def c5r5 : List Opn := [
  ⟨(some 34), none, .load true 2 (.t 3)⟩, 
  ⟨(some 35), none, .bsl 1 []⟩, 
  ⟨(some 7), none, .new [.nils, .nils]⟩, 
  ⟨none, none, .store 2 (.t 7) (.t 34)⟩, 
  ⟨(some 8), none, .mv (.t 35)⟩]
def c5r6 : List Opn := [
  ⟨(some 36), none, .mv (.t 1)⟩, 
  ⟨(some 37), none, .len (.sl 0) (.t 36)⟩, 
  ⟨(some 38), none, .mv (.c (.s (.d (.int .i64 0))))⟩]
def c5r7 : List Opn := [
  ⟨(some 39), none, .bin .lss (.t 38) (.t 37)⟩]
def c5r8 : List Opn := [
  ⟨(some 40), none, .mv (.t 38)⟩, 
  ⟨(some 41), none, .iadr (.sl 2) (.t 36) (.t 38)⟩, 
  ⟨(some 42), none, .load true 2 (.t 41)⟩, 
  ⟨(some 10), none, .new [(.d (.int .i64 0)), (.d (.str []))]⟩, 
  ⟨(some 9), none, .mv (.t 40)⟩, 
  ⟨none, none, .store 2 (.t 10) (.t 42)⟩]
def c5r9 : List Opn := [
  ⟨(some 43), none, .mv (.t 9)⟩, 
  ⟨(some 44), none, .bin .geq (.t 43) (.c (.s (.d (.int .i64 30))))⟩]
def c5r10 : List Opn := [
  ⟨(some 46), none, .load true 2 (.t 7)⟩, 
  ⟨(some 47), none, .fadr 0 (.t 10)⟩, 
  ⟨(some 48), none, .load false 1 (.t 47)⟩, 
  ⟨(some 49), none, .fadr 0 (.t 3)⟩, 
  ⟨(some 50), none, .load false 1 (.t 49)⟩, 
  ⟨(some 51), none, .len (.sl 0) (.t 50)⟩, 
  ⟨(some 52), none, .bin .rem (.t 48) (.t 51)⟩, 
  ⟨(some 53), none, .fadr 0 (.t 3)⟩, 
  ⟨(some 54), none, .load false 1 (.t 53)⟩, 
  ⟨(some 55), none, .len (.sl 0) (.t 54)⟩, 
  ⟨(some 56), none, .bin .add (.t 52) (.t 55)⟩, 
  ⟨(some 57), none, .fadr 0 (.t 3)⟩, 
  ⟨(some 58), none, .load false 1 (.t 57)⟩, 
  ⟨(some 59), none, .len (.sl 0) (.t 58)⟩, 
  ⟨(some 60), none, .bin .rem (.t 56) (.t 59)⟩, 
  ⟨(some 61), none, .mv (.t 9)⟩, 
  ⟨(some 62), none, .cv (.toInt .u8) (.t 61)⟩, 
  ⟨(some 63), none, .call (.fn 11) [(.t 62)]⟩, 
  ⟨(some 64), none, .build [(.d (.int .i64 0)), (.d (.str []))] [(0, 1, (.t 60)), (1, 1, (.t 63))]⟩, 
  ⟨(some 65), none, .bsl 2 [(.t 64)]⟩, 
  ⟨(some 66), none, .call (.fn 10) [(.t 46), (.t 65)]⟩, 
  ⟨(some 45), none, .mv (.t 66)⟩, 
  ⟨(some 67), none, .ext (.t 45) 0⟩, 
  ⟨(some 68), none, .ext (.t 45) 1⟩, 
  ⟨(some 11), none, .new [.nils, .nils]⟩, 
  ⟨none, none, .store 2 (.t 11) (.t 67)⟩, 
  ⟨(some 12), none, .mv (.t 68)⟩]
def c5r11 : List Opn := [
  ⟨(some 69), none, .mv (.t 12)⟩, 
  ⟨(some 70), none, .bin .neq (.t 69) (.c (.s (.d (.int .i64 0))))⟩]
def c5r12 : List Opn := [
  ⟨(some 6), none, .mv (.c (.s (.d (.bool false))))⟩]
def c5r13 : List Opn := [
  ⟨(some 71), none, .load true 2 (.t 11)⟩, 
  ⟨(some 72), none, .mv (.t 8)⟩, 
  ⟨(some 73), none, .bsl 1 [(.c (.s (.d (.int .i64 1))))]⟩, 
  ⟨(some 74), none, .app 1 8 false (.t 72) (.t 73)⟩, 
  ⟨none, none, .store 2 (.t 7) (.t 71)⟩, 
  ⟨(some 8), none, .mv (.t 74)⟩]
def c5r14 : List Opn := [
  ⟨(some 75), none, .bin .add (.t 38) (.c (.s (.d (.int .i64 1))))⟩, 
  ⟨(some 38), none, .mv (.t 75)⟩]
def c5l15 : C := .seq (.reg c5r7 none [2, 3, 7, 8, 36, 37, 38, 39]) (.seq (.cond (.t 39) (.skip) (.exit 0)) (.seq (.blk 1 (.seq (.reg c5r8 none [2, 3, 7, 8, 9, 10, 36, 37, 38]) (.seq (.seq (.reg c5r9 none [2, 3, 7, 8, 9, 10, 36, 37, 38, 44]) (.cond (.t 44) (.exit 0) (.skip))) (.seq (.reg c5r10 (some [0, 0, 2, 0, 8, 24, 62, 0, 128, 384, 1022, 0, 2048, 6144, 16382, 0, 32768, 98304, 262142, 524286, 1048575, 2097151, 4194303, 4194303, 0, 25165823, 67108863]) [2, 3, 7, 8, 11, 12, 36, 37, 38]) (.seq (.seq (.reg c5r11 none [2, 3, 7, 8, 11, 36, 37, 38, 70]) (.cond (.t 70) (.seq (.reg c5r12 none [6]) (.ret)) (.skip))) (.reg c5r13 (some [0, 0, 0, 6, 15, 31]) [2, 3, 7, 8, 36, 37, 38])))))) (.reg c5r14 none [2, 3, 7, 8, 36, 37, 38])))
def c5r15 : List Opn := [
  ⟨(some 77), none, .load true 2 (.t 7)⟩, 
  ⟨(some 78), none, .mv (.t 8)⟩, 
  ⟨(some 79), none, .call (.fn 13) [(.t 77), (.t 78)]⟩, 
  ⟨(some 76), none, .mv (.t 79)⟩, 
  ⟨(some 80), none, .ext (.t 76) 0⟩, 
  ⟨(some 81), none, .ext (.t 76) 1⟩, 
  ⟨(some 13), none, .new [.nils, .nils]⟩, 
  ⟨none, none, .store 2 (.t 13) (.t 80)⟩, 
  ⟨(some 14), none, .mv (.t 81)⟩]
def c5r16 : List Opn := [
  ⟨(some 83), none, .load true 2 (.t 7)⟩, 
  ⟨(some 84), none, .call (.fn 15) [(.t 83)]⟩, 
  ⟨(some 82), none, .mv (.t 84)⟩, 
  ⟨(some 85), none, .ext (.t 82) 0⟩, 
  ⟨(some 86), none, .ext (.t 82) 1⟩, 
  ⟨(some 15), none, .new [.nils, .nils]⟩, 
  ⟨none, none, .store 2 (.t 15) (.t 85)⟩, 
  ⟨(some 16), none, .mv (.t 86)⟩]
def c5r17 : List Opn := [
  ⟨(some 88), none, .load true 2 (.t 7)⟩, 
  ⟨(some 89), none, .call (.fn 13) [(.t 88), (.c (.s .nils))]⟩, 
  ⟨(some 87), none, .mv (.t 89)⟩, 
  ⟨(some 90), none, .ext (.t 87) 0⟩, 
  ⟨(some 91), none, .ext (.t 87) 1⟩, 
  ⟨(some 17), none, .new [.nils, .nils]⟩, 
  ⟨none, none, .store 2 (.t 17) (.t 90)⟩, 
  ⟨(some 18), none, .mv (.t 91)⟩]
def c5r18 : List Opn := [
  ⟨(some 93), none, .load true 2 (.t 7)⟩, 
  ⟨(some 94), none, .mv (.t 2)⟩, 
  ⟨(some 95), none, .call (.fn 13) [(.t 93), (.t 94)]⟩, 
  ⟨(some 92), none, .mv (.t 95)⟩, 
  ⟨(some 96), none, .ext (.t 92) 0⟩, 
  ⟨(some 97), none, .ext (.t 92) 1⟩, 
  ⟨(some 19), none, .new [.nils, .nils]⟩, 
  ⟨none, none, .store 2 (.t 19) (.t 96)⟩, 
  ⟨(some 20), none, .mv (.t 97)⟩]
def c5r19 : List Opn := [
  ⟨(some 98), none, .mv (.t 14)⟩, 
  ⟨(some 99), none, .bin .neq (.t 98) (.c (.s (.d (.int .i64 0))))⟩, 
  ⟨(some 100), none, .mv (.t 99)⟩, 
  ⟨(some 101), some (100, false), .mv (.t 16)⟩, 
  ⟨(some 102), some (100, false), .bin .neq (.t 101) (.c (.s (.d (.int .i64 0))))⟩, 
  ⟨(some 103), none, .pick (.t 100) (.c (.s (.d (.bool true)))) (.t 102)⟩, 
  ⟨(some 104), none, .mv (.t 103)⟩, 
  ⟨(some 105), some (104, false), .mv (.t 18)⟩, 
  ⟨(some 106), some (104, false), .bin .neq (.t 105) (.c (.s (.d (.int .i64 0))))⟩, 
  ⟨(some 107), none, .pick (.t 104) (.c (.s (.d (.bool true)))) (.t 106)⟩, 
  ⟨(some 108), none, .mv (.t 107)⟩, 
  ⟨(some 109), some (108, false), .mv (.t 20)⟩, 
  ⟨(some 110), some (108, false), .bin .neq (.t 109) (.c (.s (.d (.int .i64 0))))⟩, 
  ⟨(some 111), none, .pick (.t 108) (.c (.s (.d (.bool true)))) (.t 110)⟩, 
  ⟨(some 112), none, .mv (.t 111)⟩, 
  ⟨(some 113), some (112, false), .load true 2 (.t 13)⟩, 
  ⟨(some 114), some (112, false), .load true 2 (.t 15)⟩, 
  ⟨(some 115), some (112, false), .call (.fn 16) [(.t 113), (.t 114)]⟩, 
  ⟨(some 116), some (112, false), .un .not (.t 115)⟩, 
  ⟨(some 117), none, .pick (.t 112) (.c (.s (.d (.bool true)))) (.t 116)⟩, 
  ⟨(some 118), none, .mv (.t 117)⟩, 
  ⟨(some 119), some (118, false), .load true 2 (.t 17)⟩, 
  ⟨(some 120), some (118, false), .load true 2 (.t 3)⟩, 
  ⟨(some 121), some (118, false), .call (.fn 16) [(.t 119), (.t 120)]⟩, 
  ⟨(some 122), some (118, false), .un .not (.t 121)⟩, 
  ⟨(some 123), none, .pick (.t 118) (.c (.s (.d (.bool true)))) (.t 122)⟩, 
  ⟨(some 124), none, .mv (.t 123)⟩, 
  ⟨(some 125), some (124, false), .fadr 0 (.t 19)⟩, 
  ⟨(some 126), some (124, false), .load false 1 (.t 125)⟩, 
  ⟨(some 127), some (124, false), .len (.sl 0) (.t 126)⟩, 
  ⟨(some 128), some (124, false), .fadr 0 (.t 3)⟩, 
  ⟨(some 129), some (124, false), .load false 1 (.t 128)⟩, 
  ⟨(some 130), some (124, false), .len (.sl 0) (.t 129)⟩, 
  ⟨(some 131), some (124, false), .bin .neq (.t 127) (.t 130)⟩, 
  ⟨(some 132), none, .pick (.t 124) (.c (.s (.d (.bool true)))) (.t 131)⟩, 
  ⟨(some 133), none, .mv (.t 132)⟩, 
  ⟨(some 134), some (133, false), .call (.fn 9) []⟩, 
  ⟨(some 135), some (133, false), .un .not (.t 134)⟩, 
  ⟨(some 136), none, .pick (.t 133) (.c (.s (.d (.bool true)))) (.t 135)⟩]
def c5r20 : List Opn := [
  ⟨(some 6), none, .mv (.c (.s (.d (.bool false))))⟩]
def c5r21 : List Opn := [
  ⟨(some 137), none, .fadr 0 (.t 19)⟩, 
  ⟨(some 138), none, .load false 1 (.t 137)⟩, 
  ⟨(some 139), none, .len (.sl 0) (.t 138)⟩, 
  ⟨(some 140), none, .mv (.c (.s (.d (.int .i64 0))))⟩]
def c5r22 : List Opn := [
  ⟨(some 141), none, .bin .lss (.t 140) (.t 139)⟩]
def c5r23 : List Opn := [
  ⟨(some 142), none, .mv (.t 140)⟩, 
  ⟨(some 143), none, .iadr (.sl 1) (.t 138) (.t 140)⟩, 
  ⟨(some 144), none, .load false 1 (.t 143)⟩, 
  ⟨(some 21), none, .mv (.t 142)⟩, 
  ⟨(some 22), none, .mv (.t 144)⟩]
def c5r24 : List Opn := [
  ⟨(some 145), none, .mv (.t 22)⟩, 
  ⟨(some 146), none, .len .str (.t 145)⟩, 
  ⟨(some 147), none, .bin .eql (.t 146) (.c (.s (.d (.int .i64 128))))⟩, 
  ⟨(some 148), none, .mv (.t 147)⟩, 
  ⟨(some 149), some (148, true), .mv (.t 22)⟩, 
  ⟨(some 150), some (148, true), .slc .str (.t 149) none (some (.c (.s (.d (.int .i64 64))))) none⟩, 
  ⟨(some 151), some (148, true), .fadr 0 (.t 3)⟩, 
  ⟨(some 152), some (148, true), .load false 1 (.t 151)⟩, 
  ⟨(some 153), some (148, true), .mv (.t 21)⟩, 
  ⟨(some 154), some (148, true), .iadr (.sl 1) (.t 152) (.t 153)⟩, 
  ⟨(some 155), some (148, true), .load false 1 (.t 154)⟩, 
  ⟨(some 156), some (148, true), .slc .str (.t 155) none (some (.c (.s (.d (.int .i64 64))))) none⟩, 
  ⟨(some 157), some (148, true), .bin .eql (.t 150) (.t 156)⟩, 
  ⟨(some 158), none, .pick (.t 148) (.t 157) (.c (.s (.d (.bool false))))⟩, 
  ⟨(some 159), none, .mv (.t 22)⟩, 
  ⟨(some 160), none, .len .str (.t 159)⟩, 
  ⟨(some 161), none, .bin .eql (.t 160) (.c (.s (.d (.int .i64 128))))⟩, 
  ⟨(some 162), none, .mv (.t 161)⟩, 
  ⟨(some 163), some (162, true), .mv (.t 22)⟩, 
  ⟨(some 164), some (162, true), .slc .str (.t 163) (some (.c (.s (.d (.int .i64 64))))) none none⟩, 
  ⟨(some 165), some (162, true), .fadr 0 (.t 3)⟩, 
  ⟨(some 166), some (162, true), .load false 1 (.t 165)⟩, 
  ⟨(some 167), some (162, true), .mv (.t 21)⟩, 
  ⟨(some 168), some (162, true), .iadr (.sl 1) (.t 166) (.t 167)⟩, 
  ⟨(some 169), some (162, true), .load false 1 (.t 168)⟩, 
  ⟨(some 170), some (162, true), .slc .str (.t 169) (some (.c (.s (.d (.int .i64 64))))) none none⟩, 
  ⟨(some 171), some (162, true), .bin .eql (.t 164) (.t 170)⟩, 
  ⟨(some 172), none, .pick (.t 162) (.t 171) (.c (.s (.d (.bool false))))⟩, 
  ⟨(some 23), none, .mv (.t 158)⟩, 
  ⟨(some 24), none, .mv (.t 172)⟩]
def c5r25 : List Opn := [
  ⟨(some 173), none, .fadr 1 (.t 7)⟩, 
  ⟨(some 174), none, .load false 1 (.t 173)⟩, 
  ⟨(some 175), none, .len (.sl 0) (.t 174)⟩, 
  ⟨(some 176), none, .mv (.c (.s (.d (.int .i64 0))))⟩]
def c5r26 : List Opn := [
  ⟨(some 177), none, .bin .lss (.t 176) (.t 175)⟩]
def c5r27 : List Opn := [
  ⟨(some 178), none, .iadr (.sl 2) (.t 174) (.t 176)⟩, 
  ⟨(some 179), none, .load true 2 (.t 178)⟩, 
  ⟨(some 26), none, .new [(.d (.int .i64 0)), (.d (.str []))]⟩, 
  ⟨none, none, .store 2 (.t 26) (.t 179)⟩]
def c5r28 : List Opn := [
  ⟨(some 180), none, .mv (.t 23)⟩, 
  ⟨(some 181), none, .mv (.t 180)⟩, 
  ⟨(some 182), some (181, false), .fadr 0 (.t 26)⟩, 
  ⟨(some 183), some (181, false), .load false 1 (.t 182)⟩, 
  ⟨(some 184), some (181, false), .mv (.t 21)⟩, 
  ⟨(some 185), some (181, false), .bin .eql (.t 183) (.t 184)⟩, 
  ⟨(some 186), some (181, false), .mv (.t 185)⟩, 
  ⟨(some 187), some (186, true), .mv (.t 22)⟩, 
  ⟨(some 188), some (186, true), .len .str (.t 187)⟩, 
  ⟨(some 189), some (186, true), .bin .eql (.t 188) (.c (.s (.d (.int .i64 128))))⟩, 
  ⟨(some 190), some (181, false), .pick (.t 186) (.t 189) (.c (.s (.d (.bool false))))⟩, 
  ⟨(some 191), some (181, false), .mv (.t 190)⟩, 
  ⟨(some 192), some (191, true), .fadr 1 (.t 26)⟩, 
  ⟨(some 193), some (191, true), .load false 1 (.t 192)⟩, 
  ⟨(some 194), some (191, true), .slc .str (.t 193) none (some (.c (.s (.d (.int .i64 64))))) none⟩, 
  ⟨(some 195), some (191, true), .mv (.t 22)⟩, 
  ⟨(some 196), some (191, true), .slc .str (.t 195) none (some (.c (.s (.d (.int .i64 64))))) none⟩, 
  ⟨(some 197), some (191, true), .bin .eql (.t 194) (.t 196)⟩, 
  ⟨(some 198), some (181, false), .pick (.t 191) (.t 197) (.c (.s (.d (.bool false))))⟩, 
  ⟨(some 199), none, .pick (.t 181) (.c (.s (.d (.bool true)))) (.t 198)⟩, 
  ⟨(some 23), none, .mv (.t 199)⟩]
def c5r29 : List Opn := [
  ⟨(some 200), none, .mv (.t 24)⟩, 
  ⟨(some 201), none, .mv (.t 200)⟩, 
  ⟨(some 202), some (201, false), .fadr 0 (.t 26)⟩, 
  ⟨(some 203), some (201, false), .load false 1 (.t 202)⟩, 
  ⟨(some 204), some (201, false), .mv (.t 21)⟩, 
  ⟨(some 205), some (201, false), .bin .eql (.t 203) (.t 204)⟩, 
  ⟨(some 206), some (201, false), .mv (.t 205)⟩, 
  ⟨(some 207), some (206, true), .mv (.t 22)⟩, 
  ⟨(some 208), some (206, true), .len .str (.t 207)⟩, 
  ⟨(some 209), some (206, true), .bin .eql (.t 208) (.c (.s (.d (.int .i64 128))))⟩, 
  ⟨(some 210), some (201, false), .pick (.t 206) (.t 209) (.c (.s (.d (.bool false))))⟩, 
  ⟨(some 211), some (201, false), .mv (.t 210)⟩, 
  ⟨(some 212), some (211, true), .fadr 1 (.t 26)⟩, 
  ⟨(some 213), some (211, true), .load false 1 (.t 212)⟩, 
  ⟨(some 214), some (211, true), .slc .str (.t 213) (some (.c (.s (.d (.int .i64 64))))) none none⟩, 
  ⟨(some 215), some (211, true), .mv (.t 22)⟩, 
  ⟨(some 216), some (211, true), .slc .str (.t 215) (some (.c (.s (.d (.int .i64 64))))) none none⟩, 
  ⟨(some 217), some (211, true), .bin .eql (.t 214) (.t 216)⟩, 
  ⟨(some 218), some (201, false), .pick (.t 211) (.t 217) (.c (.s (.d (.bool false))))⟩, 
  ⟨(some 219), none, .pick (.t 201) (.c (.s (.d (.bool true)))) (.t 218)⟩, 
  ⟨(some 24), none, .mv (.t 219)⟩]
def c5r30 : List Opn := [
  ⟨(some 220), none, .bin .add (.t 176) (.c (.s (.d (.int .i64 1))))⟩, 
  ⟨(some 176), none, .mv (.t 220)⟩]
def c5l32 : C := .seq (.reg c5r26 none [3, 7, 21, 22, 23, 24, 138, 139, 140, 174, 175, 176, 177]) (.seq (.cond (.t 177) (.skip) (.exit 4)) (.seq (.blk 5 (.seq (.reg c5r27 none [3, 7, 21, 22, 23, 24, 26, 138, 139, 140, 174, 175, 176]) (.seq (.reg c5r28 (some [0, 1, 3, 7, 3, 31, 63, 127, 255, 511, 1023, 2047, 4095, 8191, 16383, 4095, 36863, 131071, 262143, 524287, 1048575]) [3, 7, 21, 22, 23, 24, 26, 138, 139, 140, 174, 175, 176]) (.reg c5r29 (some [0, 1, 3, 7, 3, 31, 63, 127, 255, 511, 1023, 2047, 4095, 8191, 16383, 4095, 36863, 131071, 262143, 524287, 1048575]) [3, 7, 21, 22, 23, 24, 138, 139, 140, 174, 175, 176])))) (.reg c5r30 none [3, 7, 21, 22, 23, 24, 138, 139, 140, 174, 175, 176])))
def c5r31 : List Opn := [
  ⟨(some 221), none, .mv (.t 23)⟩, 
  ⟨(some 222), none, .un .not (.t 221)⟩, 
  ⟨(some 223), none, .mv (.t 222)⟩, 
  ⟨(some 224), some (223, false), .mv (.t 24)⟩, 
  ⟨(some 225), some (223, false), .un .not (.t 224)⟩, 
  ⟨(some 226), none, .pick (.t 223) (.c (.s (.d (.bool true)))) (.t 225)⟩]
def c5r32 : List Opn := [
  ⟨(some 6), none, .mv (.c (.s (.d (.bool false))))⟩]
def c5r33 : List Opn := [
  ⟨(some 227), none, .bin .add (.t 140) (.c (.s (.d (.int .i64 1))))⟩, 
  ⟨(some 140), none, .mv (.t 227)⟩]
def c5l36 : C := .seq (.reg c5r22 none [3, 7, 138, 139, 140, 141]) (.seq (.cond (.t 141) (.skip) (.exit 2)) (.seq (.blk 3 (.seq (.reg c5r23 none [3, 7, 21, 22, 138, 139, 140]) (.seq (.reg c5r24 (some [0, 1, 3, 7, 15, 31, 15, 79, 15, 463, 975, 1999, 4095, 8191, 0, 16384, 49152, 114703, 245775, 507919, 245775, 1294351, 245775, 7585807, 15974415, 32751631, 67092495, 134201359, 262143, 536870911]) [3, 7, 21, 22, 23, 24, 138, 139, 140]) (.seq (.seq (.reg c5r25 none [3, 7, 21, 22, 23, 24, 138, 139, 140, 174, 175, 176]) (.blk 4 (.loop c5l32))) (.seq (.reg c5r31 none [3, 7, 138, 139, 140, 226]) (.cond (.t 226) (.seq (.reg c5r32 none [6]) (.ret)) (.skip))))))) (.reg c5r33 none [3, 7, 138, 139, 140])))
def c5r34 : List Opn := [
  ⟨(some 6), none, .mv (.c (.s (.d (.bool true))))⟩]
def c5 : C := .seq (.reg c5r0 none [1, 2, 3]) (.seq (.reg c5r1 none [1, 2, 3]) (.seq (.reg c5r2 none [1, 2, 3]) (.seq (.seq (.reg c5r3 none [1, 2, 3, 32]) (.cond (.t 32) (.seq (.reg c5r4 none [6]) (.ret)) (.skip))) (.seq (.reg c5r5 none [1, 2, 3, 7, 8]) (.seq (.seq (.reg c5r6 none [2, 3, 7, 8, 36, 37, 38]) (.blk 0 (.loop c5l15))) (.seq (.reg c5r15 none [2, 3, 7, 13, 14]) (.seq (.reg c5r16 none [2, 3, 7, 13, 14, 15, 16]) (.seq (.reg c5r17 none [2, 3, 7, 13, 14, 15, 16, 17, 18]) (.seq (.reg c5r18 none [3, 7, 13, 14, 15, 16, 17, 18, 19, 20]) (.seq (.seq (.reg c5r19 none [3, 7, 19, 136]) (.cond (.t 136) (.seq (.reg c5r20 none [6]) (.ret)) (.skip))) (.seq (.seq (.reg c5r21 none [3, 7, 138, 139, 140]) (.blk 2 (.loop c5l36))) (.seq (.reg c5r34 none [6]) (.ret)))))))))))))
def k5 : List (Nat × List Nat) := [(34, [6]), (33, [3, 7, 138, 139, 140]), (32, [6]), (31, [3, 7, 138, 139, 140, 226]), (30, [3, 7, 21, 22, 23, 24, 138, 139, 140, 174, 175, 176]), (29, [3, 7, 21, 22, 23, 24, 138, 139, 140, 174, 175, 176]), (28, [3, 7, 21, 22, 23, 24, 26, 138, 139, 140, 174, 175, 176]), (27, [3, 7, 21, 22, 23, 24, 26, 138, 139, 140, 174, 175, 176]), (26, [3, 7, 21, 22, 23, 24, 138, 139, 140, 174, 175, 176, 177]), (25, [3, 7, 21, 22, 23, 24, 138, 139, 140, 174, 175, 176]), (24, [3, 7, 21, 22, 23, 24, 138, 139, 140]), (23, [3, 7, 21, 22, 138, 139, 140]), (22, [3, 7, 138, 139, 140, 141]), (21, [3, 7, 138, 139, 140]), (20, [6]), (19, [3, 7, 19, 136]), (18, [3, 7, 13, 14, 15, 16, 17, 18, 19, 20]), (17, [2, 3, 7, 13, 14, 15, 16, 17, 18]), (16, [2, 3, 7, 13, 14, 15, 16]), (15, [2, 3, 7, 13, 14]), (14, [2, 3, 7, 8, 36, 37, 38]), (13, [2, 3, 7, 8, 36, 37, 38]), (12, [6]), (11, [2, 3, 7, 8, 11, 36, 37, 38, 70]), (10, [2, 3, 7, 8, 11, 12, 36, 37, 38]), (9, [2, 3, 7, 8, 9, 10, 36, 37, 38, 44]), (8, [2, 3, 7, 8, 9, 10, 36, 37, 38]), (7, [2, 3, 7, 8, 36, 37, 38, 39]), (6, [2, 3, 7, 8, 36, 37, 38]), (5, [1, 2, 3, 7, 8]), (4, [6]), (3, [1, 2, 3, 32]), (2, [1, 2, 3]), (1, [1, 2, 3]), (0, [1, 2, 3])]
theorem cc5 : (Try.f5.body).bind (cC Try.prog 228 k5) = some c5 := by kernel_rfl
def rv5 : List RV := [.t 6]
theorem cr5 : cRVs Try.prog Try.f5.results.toList = some rv5 := by kernel_rfl
theorem rem_in (a b : Int) (hb : 0 < b) (hb2 : b ≤ 64) (ha : (Lit.int .i64 a).wf = true) : 0 ≤ (a.tmod b + b).tmod b ∧ (a.tmod b + b).tmod b < b := by
  have h1 : -b < a.tmod b ∧ a.tmod b < b := by
    constructor
    · exact Int.lt_tmod_of_pos a hb
    · exact Int.tmod_lt_of_pos a hb
  exact ⟨Int.tmod_nonneg b (by omega), Int.tmod_lt_of_pos _ hb⟩
set_option maxHeartbeats 4000000 in
theorem diskCrashes_fun (d : SDk) (ws : List SWr) (fs : List Int) (hd : WDk d) (hw : ws.length ≤ 9223372036854775807 ∧ ∀ w ∈ ws, (Lit.int .i64 w.1).wf = true ∧ w.2.length ≤ 9223372036854775807) (hf : fs.length ≤ 9223372036854775807 ∧ ∀ x ∈ fs, (Lit.int .i64 x).wf = true) : Fun Try.prog gl0 5 [.b (.agg ((encD d.1 d.2).map Lc.d)), .b (.s (.d (.sl (ws.map encW)))), .b (.s (.d (.sl (fs.map encI))))] (.bo true) := by
  obtain ⟨d1, d2⟩ := d
  obtain ⟨hd1, hd2, _⟩ := hd
  simp only at hd1 hd2
  refine fun_walk [] Try.func5 Try.ntmps5 cc5 cr5 (by kernel_rfl) (by simp only [List.length_cons, List.length_nil]; decide) ?_
  simp only [wk0, wk1, wk2, wk3, wk4, wk5, wk6, wk7, wk8, wk9, wk10, Rw_op, Rw_opg, RwD_op, RwD_opg, Bool.cond_true, Bool.cond_false, if_true, if_false, implies_true, forall_const, eq_self, ne_eq, forall_eq, forall_eq', forall_eq_or_imp, exists_eq', bne_self_eq_false, dchk, meets, touchS, touchI, quietI, allocI, isCall, idsV, ch0, Nat.testBit, semI, binS, unS, nilS, aggS, eqLs, eqL, evT, evS, stripV, gOk, gAll, opsOf, boolV, apG, numd, prL, cellsV, isB, out1, fail, fillOb, fillL, replaceAt, rowsV, newV, boundV, intV, lcOf, lcA, scA, Va.bo, Va.i, Va.st, Ret, allOb, rvOut, convB, convBs, convC, convR, conv, unD, Nat.reduceAdd, Nat.reduceSub, Nat.reduceMul, Nat.reduceLeDiff, Nat.reduceEqDiff, Nat.reduceLT, Nat.reduceBEq, reduceIte, reduceCtorEq, Int.reduceToNat, fnV, argsV, touchO, evO, bareI, Nat.reduceShiftRight, Nat.reduceAnd, Nat.reduceBneDiff, Nat.reduceBNe, encD]
  unfold c5
  refine .seq (Rw.walk ?_)
  simp only [wk0, wk1, wk2, wk3, wk4, wk5, wk6, wk7, wk8, wk9, wk10, Rw_op, Rw_opg, RwD_op, RwD_opg, Bool.cond_true, Bool.cond_false, if_true, if_false, implies_true, forall_const, eq_self, ne_eq, forall_eq, forall_eq', forall_eq_or_imp, exists_eq', bne_self_eq_false, dchk, meets, touchS, touchI, quietI, allocI, isCall, idsV, ch0, Nat.testBit, semI, binS, unS, nilS, aggS, eqLs, eqL, evT, evS, stripV, gOk, gAll, opsOf, boolV, apG, numd, prL, cellsV, isB, out1, fail, fillOb, fillL, replaceAt, rowsV, newV, boundV, intV, lcOf, lcA, scA, Va.bo, Va.i, Va.st, Ret, allOb, rvOut, convB, convBs, convC, convR, conv, unD, Nat.reduceAdd, Nat.reduceSub, Nat.reduceMul, Nat.reduceLeDiff, Nat.reduceEqDiff, Nat.reduceLT, Nat.reduceBEq, reduceIte, reduceCtorEq, Int.reduceToNat, fnV, argsV, touchO, evO, bareI, Nat.reduceShiftRight, Nat.reduceAnd, Nat.reduceBneDiff, Nat.reduceBNe, c5r0]
  refine .seq (Rw.walk ?_)
  simp only [wk0, wk1, wk2, wk3, wk4, wk5, wk6, wk7, wk8, wk9, wk10, Rw_op, Rw_opg, RwD_op, RwD_opg, Bool.cond_true, Bool.cond_false, if_true, if_false, implies_true, forall_const, eq_self, ne_eq, forall_eq, forall_eq', forall_eq_or_imp, exists_eq', bne_self_eq_false, dchk, meets, touchS, touchI, quietI, allocI, isCall, idsV, ch0, Nat.testBit, semI, binS, unS, nilS, aggS, eqLs, eqL, evT, evS, stripV, gOk, gAll, opsOf, boolV, apG, numd, prL, cellsV, isB, out1, fail, fillOb, fillL, replaceAt, rowsV, newV, boundV, intV, lcOf, lcA, scA, Va.bo, Va.i, Va.st, Ret, allOb, rvOut, convB, convBs, convC, convR, conv, unD, Nat.reduceAdd, Nat.reduceSub, Nat.reduceMul, Nat.reduceLeDiff, Nat.reduceEqDiff, Nat.reduceLT, Nat.reduceBEq, reduceIte, reduceCtorEq, Int.reduceToNat, fnV, argsV, touchO, evO, bareI, Nat.reduceShiftRight, Nat.reduceAnd, Nat.reduceBneDiff, Nat.reduceBNe, c5r1]
  refine call_fun [] true ⟨trivial, trivial, trivial⟩ rfl ?_ (law_few d1 d2 hd1 hd2) (fun h => by cases h) (by simp) ?_
  · simp only [wk0, wk1, wk2, wk3, wk4, wk5, wk6, wk7, wk8, wk9, wk10, Rw_op, Rw_opg, RwD_op, RwD_opg, Bool.cond_true, Bool.cond_false, if_true, if_false, implies_true, forall_const, eq_self, ne_eq, forall_eq, forall_eq', forall_eq_or_imp, exists_eq', bne_self_eq_false, dchk, meets, touchS, touchI, quietI, allocI, isCall, idsV, ch0, Nat.testBit, semI, binS, unS, nilS, aggS, eqLs, eqL, evT, evS, stripV, gOk, gAll, opsOf, boolV, apG, numd, prL, cellsV, isB, out1, fail, fillOb, fillL, replaceAt, rowsV, newV, boundV, intV, lcOf, lcA, scA, Va.bo, Va.i, Va.st, Ret, allOb, rvOut, convB, convBs, convC, convR, conv, unD, Nat.reduceAdd, Nat.reduceSub, Nat.reduceMul, Nat.reduceLeDiff, Nat.reduceEqDiff, Nat.reduceLT, Nat.reduceBEq, reduceIte, reduceCtorEq, Int.reduceToNat, fnV, argsV, touchO, evO, bareI, Nat.reduceShiftRight, Nat.reduceAnd, Nat.reduceBneDiff, Nat.reduceBNe, aD, encD]
  simp only [wk0, wk1, wk2, wk3, wk4, wk5, wk6, wk7, wk8, wk9, wk10, Rw_op, Rw_opg, RwD_op, RwD_opg, Bool.cond_true, Bool.cond_false, if_true, if_false, implies_true, forall_const, eq_self, ne_eq, forall_eq, forall_eq', forall_eq_or_imp, exists_eq', bne_self_eq_false, dchk, meets, touchS, touchI, quietI, allocI, isCall, idsV, ch0, Nat.testBit, semI, binS, unS, nilS, aggS, eqLs, eqL, evT, evS, stripV, gOk, gAll, opsOf, boolV, apG, numd, prL, cellsV, isB, out1, fail, fillOb, fillL, replaceAt, rowsV, newV, boundV, intV, lcOf, lcA, scA, Va.bo, Va.i, Va.st, Ret, allOb, rvOut, convB, convBs, convC, convR, conv, unD, Nat.reduceAdd, Nat.reduceSub, Nat.reduceMul, Nat.reduceLeDiff, Nat.reduceEqDiff, Nat.reduceLT, Nat.reduceBEq, reduceIte, reduceCtorEq, Int.reduceToNat, fnV, argsV, touchO, evO, bareI, Nat.reduceShiftRight, Nat.reduceAnd, Nat.reduceBneDiff, Nat.reduceBNe, aD, encD]
  generalize hs : d1.take 66 = s
  have hs1 : s.length ≤ 66 := by rw [← hs, List.length_take]; omega
  refine .seq (Rw.walk ?_)
  simp only [wk0, wk1, wk2, wk3, wk4, wk5, wk6, wk7, wk8, wk9, wk10, Rw_op, Rw_opg, RwD_op, RwD_opg, Bool.cond_true, Bool.cond_false, if_true, if_false, implies_true, forall_const, eq_self, ne_eq, forall_eq, forall_eq', forall_eq_or_imp, exists_eq', bne_self_eq_false, dchk, meets, touchS, touchI, quietI, allocI, isCall, idsV, ch0, Nat.testBit, semI, binS, unS, nilS, aggS, eqLs, eqL, evT, evS, stripV, gOk, gAll, opsOf, boolV, apG, numd, prL, cellsV, isB, out1, fail, fillOb, fillL, replaceAt, rowsV, newV, boundV, intV, lcOf, lcA, scA, Va.bo, Va.i, Va.st, Ret, allOb, rvOut, convB, convBs, convC, convR, conv, unD, Nat.reduceAdd, Nat.reduceSub, Nat.reduceMul, Nat.reduceLeDiff, Nat.reduceEqDiff, Nat.reduceLT, Nat.reduceBEq, reduceIte, reduceCtorEq, Int.reduceToNat, fnV, argsV, touchO, evO, bareI, Nat.reduceShiftRight, Nat.reduceAnd, Nat.reduceBneDiff, Nat.reduceBNe, c5r2]
  refine .seq (.seq (Rw.walk ?_))
  simp only [wk0, wk1, wk2, wk3, wk4, wk5, wk6, wk7, wk8, wk9, wk10, Rw_op, Rw_opg, RwD_op, RwD_opg, Bool.cond_true, Bool.cond_false, if_true, if_false, implies_true, forall_const, eq_self, ne_eq, forall_eq, forall_eq', forall_eq_or_imp, exists_eq', bne_self_eq_false, dchk, meets, touchS, touchI, quietI, allocI, isCall, idsV, ch0, Nat.testBit, semI, binS, unS, nilS, aggS, eqLs, eqL, evT, evS, stripV, gOk, gAll, opsOf, boolV, apG, numd, prL, cellsV, isB, out1, fail, fillOb, fillL, replaceAt, rowsV, newV, boundV, intV, lcOf, lcA, scA, Va.bo, Va.i, Va.st, Ret, allOb, rvOut, convB, convBs, convC, convR, conv, unD, Nat.reduceAdd, Nat.reduceSub, Nat.reduceMul, Nat.reduceLeDiff, Nat.reduceEqDiff, Nat.reduceLT, Nat.reduceBEq, reduceIte, reduceCtorEq, Int.reduceToNat, fnV, argsV, touchO, evO, bareI, Nat.reduceShiftRight, Nat.reduceAnd, Nat.reduceBneDiff, Nat.reduceBNe, c5r3]
  refine call_fun [] false ⟨trivial, trivial, trivial⟩ rfl ?_ (ref_Right s [] (by omega) (by simp)) (fun _ => rfl) (by simp) ?_
  · simp only [wk0, wk1, wk2, wk3, wk4, wk5, wk6, wk7, wk8, wk9, wk10, Rw_op, Rw_opg, RwD_op, RwD_opg, Bool.cond_true, Bool.cond_false, if_true, if_false, implies_true, forall_const, eq_self, ne_eq, forall_eq, forall_eq', forall_eq_or_imp, exists_eq', bne_self_eq_false, dchk, meets, touchS, touchI, quietI, allocI, isCall, idsV, ch0, Nat.testBit, semI, binS, unS, nilS, aggS, eqLs, eqL, evT, evS, stripV, gOk, gAll, opsOf, boolV, apG, numd, prL, cellsV, isB, out1, fail, fillOb, fillL, replaceAt, rowsV, newV, boundV, intV, lcOf, lcA, scA, Va.bo, Va.i, Va.st, Ret, allOb, rvOut, convB, convBs, convC, convR, conv, unD, Nat.reduceAdd, Nat.reduceSub, Nat.reduceMul, Nat.reduceLeDiff, Nat.reduceEqDiff, Nat.reduceLT, Nat.reduceBEq, reduceIte, reduceCtorEq, Int.reduceToNat, fnV, argsV, touchO, evO, bareI, Nat.reduceShiftRight, Nat.reduceAnd, Nat.reduceBneDiff, Nat.reduceBNe, aD, encD]
  simp only [wk0, wk1, wk2, wk3, wk4, wk5, wk6, wk7, wk8, wk9, wk10, Rw_op, Rw_opg, RwD_op, RwD_opg, Bool.cond_true, Bool.cond_false, if_true, if_false, implies_true, forall_const, eq_self, ne_eq, forall_eq, forall_eq', forall_eq_or_imp, exists_eq', bne_self_eq_false, dchk, meets, touchS, touchI, quietI, allocI, isCall, idsV, ch0, Nat.testBit, semI, binS, unS, nilS, aggS, eqLs, eqL, evT, evS, stripV, gOk, gAll, opsOf, boolV, apG, numd, prL, cellsV, isB, out1, fail, fillOb, fillL, replaceAt, rowsV, newV, boundV, intV, lcOf, lcA, scA, Va.bo, Va.i, Va.st, Ret, allOb, rvOut, convB, convBs, convC, convR, conv, unD, Nat.reduceAdd, Nat.reduceSub, Nat.reduceMul, Nat.reduceLeDiff, Nat.reduceEqDiff, Nat.reduceLT, Nat.reduceBEq, reduceIte, reduceCtorEq, Int.reduceToNat, fnV, argsV, touchO, evO, bareI, Nat.reduceShiftRight, Nat.reduceAnd, Nat.reduceBneDiff, Nat.reduceBNe]
  refine .cond rfl (fun h => ?_) (fun h => ?_)
  · refine .seq (Rw.walk ?_)
    simp only [wk0, wk1, wk2, wk3, wk4, wk5, wk6, wk7, wk8, wk9, wk10, Rw_op, Rw_opg, RwD_op, RwD_opg, Bool.cond_true, Bool.cond_false, if_true, if_false, implies_true, forall_const, eq_self, ne_eq, forall_eq, forall_eq', forall_eq_or_imp, exists_eq', bne_self_eq_false, dchk, meets, touchS, touchI, quietI, allocI, isCall, idsV, ch0, Nat.testBit, semI, binS, unS, nilS, aggS, eqLs, eqL, evT, evS, stripV, gOk, gAll, opsOf, boolV, apG, numd, prL, cellsV, isB, out1, fail, fillOb, fillL, replaceAt, rowsV, newV, boundV, intV, lcOf, lcA, scA, Va.bo, Va.i, Va.st, Ret, allOb, rvOut, convB, convBs, convC, convR, conv, unD, Nat.reduceAdd, Nat.reduceSub, Nat.reduceMul, Nat.reduceLeDiff, Nat.reduceEqDiff, Nat.reduceLT, Nat.reduceBEq, reduceIte, reduceCtorEq, Int.reduceToNat, fnV, argsV, touchO, evO, bareI, Nat.reduceShiftRight, Nat.reduceAnd, Nat.reduceBneDiff, Nat.reduceBNe, c5r4]
    refine call_fun [] false ⟨trivial, trivial⟩ rfl rfl lawAlive (fun _ => rfl) (by simp) ?_
    simp only [wk0, wk1, wk2, wk3, wk4, wk5, wk6, wk7, wk8, wk9, wk10, Rw_op, Rw_opg, RwD_op, RwD_opg, Bool.cond_true, Bool.cond_false, if_true, if_false, implies_true, forall_const, eq_self, ne_eq, forall_eq, forall_eq', forall_eq_or_imp, exists_eq', bne_self_eq_false, dchk, meets, touchS, touchI, quietI, allocI, isCall, idsV, ch0, Nat.testBit, semI, binS, unS, nilS, aggS, eqLs, eqL, evT, evS, stripV, gOk, gAll, opsOf, boolV, apG, numd, prL, cellsV, isB, out1, fail, fillOb, fillL, replaceAt, rowsV, newV, boundV, intV, lcOf, lcA, scA, Va.bo, Va.i, Va.st, Ret, allOb, rvOut, convB, convBs, convC, convR, conv, unD, Nat.reduceAdd, Nat.reduceSub, Nat.reduceMul, Nat.reduceLeDiff, Nat.reduceEqDiff, Nat.reduceLT, Nat.reduceBEq, reduceIte, reduceCtorEq, Int.reduceToNat, fnV, argsV, touchO, evO, bareI, Nat.reduceShiftRight, Nat.reduceAnd, Nat.reduceBneDiff, Nat.reduceBNe]
    refine .ret ?_
    simp only [wk0, wk1, wk2, wk3, wk4, wk5, wk6, wk7, wk8, wk9, wk10, Rw_op, Rw_opg, RwD_op, RwD_opg, Bool.cond_true, Bool.cond_false, if_true, if_false, implies_true, forall_const, eq_self, ne_eq, forall_eq, forall_eq', forall_eq_or_imp, exists_eq', bne_self_eq_false, dchk, meets, touchS, touchI, quietI, allocI, isCall, idsV, ch0, Nat.testBit, semI, binS, unS, nilS, aggS, eqLs, eqL, evT, evS, stripV, gOk, gAll, opsOf, boolV, apG, numd, prL, cellsV, isB, out1, fail, fillOb, fillL, replaceAt, rowsV, newV, boundV, intV, lcOf, lcA, scA, Va.bo, Va.i, Va.st, Ret, allOb, rvOut, convB, convBs, convC, convR, conv, unD, Nat.reduceAdd, Nat.reduceSub, Nat.reduceMul, Nat.reduceLeDiff, Nat.reduceEqDiff, Nat.reduceLT, Nat.reduceBEq, reduceIte, reduceCtorEq, Int.reduceToNat, fnV, argsV, touchO, evO, bareI, Nat.reduceShiftRight, Nat.reduceAnd, Nat.reduceBneDiff, Nat.reduceBNe, rv5]
  · refine .skip ?_
    have hr : rightL s [] = true := by simpa using h
    obtain ⟨hs2, _, hs3, hs4, _⟩ := rightL_t hr
    refine .seq (Rw.walk ?_)
    simp only [wk0, wk1, wk2, wk3, wk4, wk5, wk6, wk7, wk8, wk9, wk10, Rw_op, Rw_opg, RwD_op, RwD_opg, Bool.cond_true, Bool.cond_false, if_true, if_false, implies_true, forall_const, eq_self, ne_eq, forall_eq, forall_eq', forall_eq_or_imp, exists_eq', bne_self_eq_false, dchk, meets, touchS, touchI, quietI, allocI, isCall, idsV, ch0, Nat.testBit, semI, binS, unS, nilS, aggS, eqLs, eqL, evT, evS, stripV, gOk, gAll, opsOf, boolV, apG, numd, prL, cellsV, isB, out1, fail, fillOb, fillL, replaceAt, rowsV, newV, boundV, intV, lcOf, lcA, scA, Va.bo, Va.i, Va.st, Ret, allOb, rvOut, convB, convBs, convC, convR, conv, unD, Nat.reduceAdd, Nat.reduceSub, Nat.reduceMul, Nat.reduceLeDiff, Nat.reduceEqDiff, Nat.reduceLT, Nat.reduceBEq, reduceIte, reduceCtorEq, Int.reduceToNat, fnV, argsV, touchO, evO, bareI, Nat.reduceShiftRight, Nat.reduceAnd, Nat.reduceBneDiff, Nat.reduceBNe, c5r5]
    refine .seq (.seq (Rw.walk ?_))
    simp only [wk0, wk1, wk2, wk3, wk4, wk5, wk6, wk7, wk8, wk9, wk10, Rw_op, Rw_opg, RwD_op, RwD_opg, Bool.cond_true, Bool.cond_false, if_true, if_false, implies_true, forall_const, eq_self, ne_eq, forall_eq, forall_eq', forall_eq_or_imp, exists_eq', bne_self_eq_false, dchk, meets, touchS, touchI, quietI, allocI, isCall, idsV, ch0, Nat.testBit, semI, binS, unS, nilS, aggS, eqLs, eqL, evT, evS, stripV, gOk, gAll, opsOf, boolV, apG, numd, prL, cellsV, isB, out1, fail, fillOb, fillL, replaceAt, rowsV, newV, boundV, intV, lcOf, lcA, scA, Va.bo, Va.i, Va.st, Ret, allOb, rvOut, convB, convBs, convC, convR, conv, unD, Nat.reduceAdd, Nat.reduceSub, Nat.reduceMul, Nat.reduceLeDiff, Nat.reduceEqDiff, Nat.reduceLT, Nat.reduceBEq, reduceIte, reduceCtorEq, Int.reduceToNat, fnV, argsV, touchO, evO, bareI, Nat.reduceShiftRight, Nat.reduceAnd, Nat.reduceBneDiff, Nat.reduceBNe, c5r6]
    refine .weak (Imp.den 7 rfl) ?_
    simp only [wk0, wk1, wk2, wk3, wk4, wk5, wk6, wk7, wk8, wk9, wk10, Rw_op, Rw_opg, RwD_op, RwD_opg, Bool.cond_true, Bool.cond_false, if_true, if_false, implies_true, forall_const, eq_self, ne_eq, forall_eq, forall_eq', forall_eq_or_imp, exists_eq', bne_self_eq_false, dchk, meets, touchS, touchI, quietI, allocI, isCall, idsV, ch0, Nat.testBit, semI, binS, unS, nilS, aggS, eqLs, eqL, evT, evS, stripV, gOk, gAll, opsOf, boolV, apG, numd, prL, cellsV, isB, out1, fail, fillOb, fillL, replaceAt, rowsV, newV, boundV, intV, lcOf, lcA, scA, Va.bo, Va.i, Va.st, Ret, allOb, rvOut, convB, convBs, convC, convR, conv, unD, Nat.reduceAdd, Nat.reduceSub, Nat.reduceMul, Nat.reduceLeDiff, Nat.reduceEqDiff, Nat.reduceLT, Nat.reduceBEq, reduceIte, reduceCtorEq, Int.reduceToNat, fnV, argsV, touchO, evO, bareI, Nat.reduceShiftRight, Nat.reduceAnd, Nat.reduceBneDiff, Nat.reduceBNe, den]
    refine W.cut (κ := { t : List SWr // rightL s t = true ∧ t.length ≤ 30 }) (fun p => ⟨lkT [(2, .b (.s (.d (.sl (fs.map encI))))), (3, .b (.s (.ptr 3 1 0 0))), (7, .b (.s (.ptr 7 1 0 0))), (8, .b (.s (.own 35 p.val.length)))], lkG [(3, ⟨2, [[.d (.sl (s.map encS)), .nils]], false⟩), (7, ⟨2, [[.d (.sl (s.map encS)), (.d (.sl (p.val.map encW)))]], false⟩), (35, ⟨1, ((List.replicate p.val.length 1).map encI).map (fun r => r.map Lc.d), false⟩)]⟩) ?_ (fun tail => ?_)
    · intro ⟨t, hrt, ht30⟩
      obtain ⟨_, _, _, _, htl⟩ := rightL_t hrt
      have hc : ∀ l, crashL s t l = (endsL (fateL l) s t 0, 0) := fun l => by rw [crashL, if_pos hrt]
      have hfl : flushL s t = (endsL (fun _ => 1) s t 0, 0) := by rw [flushL, if_pos hrt]
      refine .seq (Rw.walk ?_)
      simp only [wk0, wk1, wk2, wk3, wk4, wk5, wk6, wk7, wk8, wk9, wk10, Rw_op, Rw_opg, RwD_op, RwD_opg, Bool.cond_true, Bool.cond_false, if_true, if_false, implies_true, forall_const, eq_self, ne_eq, forall_eq, forall_eq', forall_eq_or_imp, exists_eq', bne_self_eq_false, dchk, meets, touchS, touchI, quietI, allocI, isCall, idsV, ch0, Nat.testBit, semI, binS, unS, nilS, aggS, eqLs, eqL, evT, evS, stripV, gOk, gAll, opsOf, boolV, apG, numd, prL, cellsV, isB, out1, fail, fillOb, fillL, replaceAt, rowsV, newV, boundV, intV, lcOf, lcA, scA, Va.bo, Va.i, Va.st, Ret, allOb, rvOut, convB, convBs, convC, convR, conv, unD, Nat.reduceAdd, Nat.reduceSub, Nat.reduceMul, Nat.reduceLeDiff, Nat.reduceEqDiff, Nat.reduceLT, Nat.reduceBEq, reduceIte, reduceCtorEq, Int.reduceToNat, fnV, argsV, touchO, evO, bareI, Nat.reduceShiftRight, Nat.reduceAnd, Nat.reduceBneDiff, Nat.reduceBNe, c5r15]
      refine call_fun [35] true ⟨trivial, trivial, trivial, trivial⟩ rfl ?_ (disk_Crash s t (List.replicate t.length 1) (by omega) (by omega)) (fun h => by cases h) ?_ ?_
      · simp only [wk0, wk1, wk2, wk3, wk4, wk5, wk6, wk7, wk8, wk9, wk10, Rw_op, Rw_opg, RwD_op, RwD_opg, Bool.cond_true, Bool.cond_false, if_true, if_false, implies_true, forall_const, eq_self, ne_eq, forall_eq, forall_eq', forall_eq_or_imp, exists_eq', bne_self_eq_false, dchk, meets, touchS, touchI, quietI, allocI, isCall, idsV, ch0, Nat.testBit, semI, binS, unS, nilS, aggS, eqLs, eqL, evT, evS, stripV, gOk, gAll, opsOf, boolV, apG, numd, prL, cellsV, isB, out1, fail, fillOb, fillL, replaceAt, rowsV, newV, boundV, intV, lcOf, lcA, scA, Va.bo, Va.i, Va.st, Ret, allOb, rvOut, convB, convBs, convC, convR, conv, unD, Nat.reduceAdd, Nat.reduceSub, Nat.reduceMul, Nat.reduceLeDiff, Nat.reduceEqDiff, Nat.reduceLT, Nat.reduceBEq, reduceIte, reduceCtorEq, Int.reduceToNat, fnV, argsV, touchO, evO, bareI, Nat.reduceShiftRight, Nat.reduceAnd, Nat.reduceBneDiff, Nat.reduceBNe, aD, encD]
      · simp only [wk0, wk1, wk2, wk3, wk4, wk5, wk6, wk7, wk8, wk9, wk10, Rw_op, Rw_opg, RwD_op, RwD_opg, Bool.cond_true, Bool.cond_false, if_true, if_false, implies_true, forall_const, eq_self, ne_eq, forall_eq, forall_eq', forall_eq_or_imp, exists_eq', bne_self_eq_false, dchk, meets, touchS, touchI, quietI, allocI, isCall, idsV, ch0, Nat.testBit, semI, binS, unS, nilS, aggS, eqLs, eqL, evT, evS, stripV, gOk, gAll, opsOf, boolV, apG, numd, prL, cellsV, isB, out1, fail, fillOb, fillL, replaceAt, rowsV, newV, boundV, intV, lcOf, lcA, scA, Va.bo, Va.i, Va.st, Ret, allOb, rvOut, convB, convBs, convC, convR, conv, unD, Nat.reduceAdd, Nat.reduceSub, Nat.reduceMul, Nat.reduceLeDiff, Nat.reduceEqDiff, Nat.reduceLT, Nat.reduceBEq, reduceIte, reduceCtorEq, Int.reduceToNat, fnV, argsV, touchO, evO, bareI, Nat.reduceShiftRight, Nat.reduceAnd, Nat.reduceBneDiff, Nat.reduceBNe]
      simp only [wk0, wk1, wk2, wk3, wk4, wk5, wk6, wk7, wk8, wk9, wk10, Rw_op, Rw_opg, RwD_op, RwD_opg, Bool.cond_true, Bool.cond_false, if_true, if_false, implies_true, forall_const, eq_self, ne_eq, forall_eq, forall_eq', forall_eq_or_imp, exists_eq', bne_self_eq_false, dchk, meets, touchS, touchI, quietI, allocI, isCall, idsV, ch0, Nat.testBit, semI, binS, unS, nilS, aggS, eqLs, eqL, evT, evS, stripV, gOk, gAll, opsOf, boolV, apG, numd, prL, cellsV, isB, out1, fail, fillOb, fillL, replaceAt, rowsV, newV, boundV, intV, lcOf, lcA, scA, Va.bo, Va.i, Va.st, Ret, allOb, rvOut, convB, convBs, convC, convR, conv, unD, Nat.reduceAdd, Nat.reduceSub, Nat.reduceMul, Nat.reduceLeDiff, Nat.reduceEqDiff, Nat.reduceLT, Nat.reduceBEq, reduceIte, reduceCtorEq, Int.reduceToNat, fnV, argsV, touchO, evO, bareI, Nat.reduceShiftRight, Nat.reduceAnd, Nat.reduceBneDiff, Nat.reduceBNe, frz, hc, aD, encD, er]
      refine .seq (Rw.walk ?_)
      simp only [wk0, wk1, wk2, wk3, wk4, wk5, wk6, wk7, wk8, wk9, wk10, Rw_op, Rw_opg, RwD_op, RwD_opg, Bool.cond_true, Bool.cond_false, if_true, if_false, implies_true, forall_const, eq_self, ne_eq, forall_eq, forall_eq', forall_eq_or_imp, exists_eq', bne_self_eq_false, dchk, meets, touchS, touchI, quietI, allocI, isCall, idsV, ch0, Nat.testBit, semI, binS, unS, nilS, aggS, eqLs, eqL, evT, evS, stripV, gOk, gAll, opsOf, boolV, apG, numd, prL, cellsV, isB, out1, fail, fillOb, fillL, replaceAt, rowsV, newV, boundV, intV, lcOf, lcA, scA, Va.bo, Va.i, Va.st, Ret, allOb, rvOut, convB, convBs, convC, convR, conv, unD, Nat.reduceAdd, Nat.reduceSub, Nat.reduceMul, Nat.reduceLeDiff, Nat.reduceEqDiff, Nat.reduceLT, Nat.reduceBEq, reduceIte, reduceCtorEq, Int.reduceToNat, fnV, argsV, touchO, evO, bareI, Nat.reduceShiftRight, Nat.reduceAnd, Nat.reduceBneDiff, Nat.reduceBNe, c5r16]
      refine call_fun [] true ⟨trivial, trivial, trivial⟩ rfl ?_ (disk_Flush s t (by omega) (by omega)) (fun h => by cases h) (by simp) ?_
      · simp only [wk0, wk1, wk2, wk3, wk4, wk5, wk6, wk7, wk8, wk9, wk10, Rw_op, Rw_opg, RwD_op, RwD_opg, Bool.cond_true, Bool.cond_false, if_true, if_false, implies_true, forall_const, eq_self, ne_eq, forall_eq, forall_eq', forall_eq_or_imp, exists_eq', bne_self_eq_false, dchk, meets, touchS, touchI, quietI, allocI, isCall, idsV, ch0, Nat.testBit, semI, binS, unS, nilS, aggS, eqLs, eqL, evT, evS, stripV, gOk, gAll, opsOf, boolV, apG, numd, prL, cellsV, isB, out1, fail, fillOb, fillL, replaceAt, rowsV, newV, boundV, intV, lcOf, lcA, scA, Va.bo, Va.i, Va.st, Ret, allOb, rvOut, convB, convBs, convC, convR, conv, unD, Nat.reduceAdd, Nat.reduceSub, Nat.reduceMul, Nat.reduceLeDiff, Nat.reduceEqDiff, Nat.reduceLT, Nat.reduceBEq, reduceIte, reduceCtorEq, Int.reduceToNat, fnV, argsV, touchO, evO, bareI, Nat.reduceShiftRight, Nat.reduceAnd, Nat.reduceBneDiff, Nat.reduceBNe, aD, encD]
      simp only [wk0, wk1, wk2, wk3, wk4, wk5, wk6, wk7, wk8, wk9, wk10, Rw_op, Rw_opg, RwD_op, RwD_opg, Bool.cond_true, Bool.cond_false, if_true, if_false, implies_true, forall_const, eq_self, ne_eq, forall_eq, forall_eq', forall_eq_or_imp, exists_eq', bne_self_eq_false, dchk, meets, touchS, touchI, quietI, allocI, isCall, idsV, ch0, Nat.testBit, semI, binS, unS, nilS, aggS, eqLs, eqL, evT, evS, stripV, gOk, gAll, opsOf, boolV, apG, numd, prL, cellsV, isB, out1, fail, fillOb, fillL, replaceAt, rowsV, newV, boundV, intV, lcOf, lcA, scA, Va.bo, Va.i, Va.st, Ret, allOb, rvOut, convB, convBs, convC, convR, conv, unD, Nat.reduceAdd, Nat.reduceSub, Nat.reduceMul, Nat.reduceLeDiff, Nat.reduceEqDiff, Nat.reduceLT, Nat.reduceBEq, reduceIte, reduceCtorEq, Int.reduceToNat, fnV, argsV, touchO, evO, bareI, Nat.reduceShiftRight, Nat.reduceAnd, Nat.reduceBneDiff, Nat.reduceBNe, hfl, aD, encD, er]
      refine .seq (Rw.walk ?_)
      simp only [wk0, wk1, wk2, wk3, wk4, wk5, wk6, wk7, wk8, wk9, wk10, Rw_op, Rw_opg, RwD_op, RwD_opg, Bool.cond_true, Bool.cond_false, if_true, if_false, implies_true, forall_const, eq_self, ne_eq, forall_eq, forall_eq', forall_eq_or_imp, exists_eq', bne_self_eq_false, dchk, meets, touchS, touchI, quietI, allocI, isCall, idsV, ch0, Nat.testBit, semI, binS, unS, nilS, aggS, eqLs, eqL, evT, evS, stripV, gOk, gAll, opsOf, boolV, apG, numd, prL, cellsV, isB, out1, fail, fillOb, fillL, replaceAt, rowsV, newV, boundV, intV, lcOf, lcA, scA, Va.bo, Va.i, Va.st, Ret, allOb, rvOut, convB, convBs, convC, convR, conv, unD, Nat.reduceAdd, Nat.reduceSub, Nat.reduceMul, Nat.reduceLeDiff, Nat.reduceEqDiff, Nat.reduceLT, Nat.reduceBEq, reduceIte, reduceCtorEq, Int.reduceToNat, fnV, argsV, touchO, evO, bareI, Nat.reduceShiftRight, Nat.reduceAnd, Nat.reduceBneDiff, Nat.reduceBNe, c5r17]
      refine call_fun [] true ⟨trivial, trivial, trivial, trivial⟩ rfl ?_ (disk_Crash s t [] (by omega) (by omega)) (fun h => by cases h) (by simp) ?_
      · simp only [wk0, wk1, wk2, wk3, wk4, wk5, wk6, wk7, wk8, wk9, wk10, Rw_op, Rw_opg, RwD_op, RwD_opg, Bool.cond_true, Bool.cond_false, if_true, if_false, implies_true, forall_const, eq_self, ne_eq, forall_eq, forall_eq', forall_eq_or_imp, exists_eq', bne_self_eq_false, dchk, meets, touchS, touchI, quietI, allocI, isCall, idsV, ch0, Nat.testBit, semI, binS, unS, nilS, aggS, eqLs, eqL, evT, evS, stripV, gOk, gAll, opsOf, boolV, apG, numd, prL, cellsV, isB, out1, fail, fillOb, fillL, replaceAt, rowsV, newV, boundV, intV, lcOf, lcA, scA, Va.bo, Va.i, Va.st, Ret, allOb, rvOut, convB, convBs, convC, convR, conv, unD, Nat.reduceAdd, Nat.reduceSub, Nat.reduceMul, Nat.reduceLeDiff, Nat.reduceEqDiff, Nat.reduceLT, Nat.reduceBEq, reduceIte, reduceCtorEq, Int.reduceToNat, fnV, argsV, touchO, evO, bareI, Nat.reduceShiftRight, Nat.reduceAnd, Nat.reduceBneDiff, Nat.reduceBNe, aD, encD]
      simp only [wk0, wk1, wk2, wk3, wk4, wk5, wk6, wk7, wk8, wk9, wk10, Rw_op, Rw_opg, RwD_op, RwD_opg, Bool.cond_true, Bool.cond_false, if_true, if_false, implies_true, forall_const, eq_self, ne_eq, forall_eq, forall_eq', forall_eq_or_imp, exists_eq', bne_self_eq_false, dchk, meets, touchS, touchI, quietI, allocI, isCall, idsV, ch0, Nat.testBit, semI, binS, unS, nilS, aggS, eqLs, eqL, evT, evS, stripV, gOk, gAll, opsOf, boolV, apG, numd, prL, cellsV, isB, out1, fail, fillOb, fillL, replaceAt, rowsV, newV, boundV, intV, lcOf, lcA, scA, Va.bo, Va.i, Va.st, Ret, allOb, rvOut, convB, convBs, convC, convR, conv, unD, Nat.reduceAdd, Nat.reduceSub, Nat.reduceMul, Nat.reduceLeDiff, Nat.reduceEqDiff, Nat.reduceLT, Nat.reduceBEq, reduceIte, reduceCtorEq, Int.reduceToNat, fnV, argsV, touchO, evO, bareI, Nat.reduceShiftRight, Nat.reduceAnd, Nat.reduceBneDiff, Nat.reduceBNe, hc, aD, encD, er]
      refine .seq (Rw.walk ?_)
      simp only [wk0, wk1, wk2, wk3, wk4, wk5, wk6, wk7, wk8, wk9, wk10, Rw_op, Rw_opg, RwD_op, RwD_opg, Bool.cond_true, Bool.cond_false, if_true, if_false, implies_true, forall_const, eq_self, ne_eq, forall_eq, forall_eq', forall_eq_or_imp, exists_eq', bne_self_eq_false, dchk, meets, touchS, touchI, quietI, allocI, isCall, idsV, ch0, Nat.testBit, semI, binS, unS, nilS, aggS, eqLs, eqL, evT, evS, stripV, gOk, gAll, opsOf, boolV, apG, numd, prL, cellsV, isB, out1, fail, fillOb, fillL, replaceAt, rowsV, newV, boundV, intV, lcOf, lcA, scA, Va.bo, Va.i, Va.st, Ret, allOb, rvOut, convB, convBs, convC, convR, conv, unD, Nat.reduceAdd, Nat.reduceSub, Nat.reduceMul, Nat.reduceLeDiff, Nat.reduceEqDiff, Nat.reduceLT, Nat.reduceBEq, reduceIte, reduceCtorEq, Int.reduceToNat, fnV, argsV, touchO, evO, bareI, Nat.reduceShiftRight, Nat.reduceAnd, Nat.reduceBneDiff, Nat.reduceBNe, c5r18]
      refine call_fun [] true ⟨trivial, trivial, trivial, trivial⟩ rfl ?_ (disk_Crash s t fs (by omega) (by omega)) (fun h => by cases h) (by simp) ?_
      · simp only [wk0, wk1, wk2, wk3, wk4, wk5, wk6, wk7, wk8, wk9, wk10, Rw_op, Rw_opg, RwD_op, RwD_opg, Bool.cond_true, Bool.cond_false, if_true, if_false, implies_true, forall_const, eq_self, ne_eq, forall_eq, forall_eq', forall_eq_or_imp, exists_eq', bne_self_eq_false, dchk, meets, touchS, touchI, quietI, allocI, isCall, idsV, ch0, Nat.testBit, semI, binS, unS, nilS, aggS, eqLs, eqL, evT, evS, stripV, gOk, gAll, opsOf, boolV, apG, numd, prL, cellsV, isB, out1, fail, fillOb, fillL, replaceAt, rowsV, newV, boundV, intV, lcOf, lcA, scA, Va.bo, Va.i, Va.st, Ret, allOb, rvOut, convB, convBs, convC, convR, conv, unD, Nat.reduceAdd, Nat.reduceSub, Nat.reduceMul, Nat.reduceLeDiff, Nat.reduceEqDiff, Nat.reduceLT, Nat.reduceBEq, reduceIte, reduceCtorEq, Int.reduceToNat, fnV, argsV, touchO, evO, bareI, Nat.reduceShiftRight, Nat.reduceAnd, Nat.reduceBneDiff, Nat.reduceBNe, aD, encD]
      simp only [wk0, wk1, wk2, wk3, wk4, wk5, wk6, wk7, wk8, wk9, wk10, Rw_op, Rw_opg, RwD_op, RwD_opg, Bool.cond_true, Bool.cond_false, if_true, if_false, implies_true, forall_const, eq_self, ne_eq, forall_eq, forall_eq', forall_eq_or_imp, exists_eq', bne_self_eq_false, dchk, meets, touchS, touchI, quietI, allocI, isCall, idsV, ch0, Nat.testBit, semI, binS, unS, nilS, aggS, eqLs, eqL, evT, evS, stripV, gOk, gAll, opsOf, boolV, apG, numd, prL, cellsV, isB, out1, fail, fillOb, fillL, replaceAt, rowsV, newV, boundV, intV, lcOf, lcA, scA, Va.bo, Va.i, Va.st, Ret, allOb, rvOut, convB, convBs, convC, convR, conv, unD, Nat.reduceAdd, Nat.reduceSub, Nat.reduceMul, Nat.reduceLeDiff, Nat.reduceEqDiff, Nat.reduceLT, Nat.reduceBEq, reduceIte, reduceCtorEq, Int.reduceToNat, fnV, argsV, touchO, evO, bareI, Nat.reduceShiftRight, Nat.reduceAnd, Nat.reduceBneDiff, Nat.reduceBNe, hc, aD, encD, er]
      refine .seq (.seq (Rw.walk ?_))
      simp only [wk0, wk1, wk2, wk3, wk4, wk5, wk6, wk7, wk8, wk9, wk10, Rw_op, Rw_opg, RwD_op, RwD_opg, Bool.cond_true, Bool.cond_false, if_true, if_false, implies_true, forall_const, eq_self, ne_eq, forall_eq, forall_eq', forall_eq_or_imp, exists_eq', bne_self_eq_false, dchk, meets, touchS, touchI, quietI, allocI, isCall, idsV, ch0, Nat.testBit, semI, binS, unS, nilS, aggS, eqLs, eqL, evT, evS, stripV, gOk, gAll, opsOf, boolV, apG, numd, prL, cellsV, isB, out1, fail, fillOb, fillL, replaceAt, rowsV, newV, boundV, intV, lcOf, lcA, scA, Va.bo, Va.i, Va.st, Ret, allOb, rvOut, convB, convBs, convC, convR, conv, unD, Nat.reduceAdd, Nat.reduceSub, Nat.reduceMul, Nat.reduceLeDiff, Nat.reduceEqDiff, Nat.reduceLT, Nat.reduceBEq, reduceIte, reduceCtorEq, Int.reduceToNat, fnV, argsV, touchO, evO, bareI, Nat.reduceShiftRight, Nat.reduceAnd, Nat.reduceBneDiff, Nat.reduceBNe, c5r19, bne_self_eq_false]
      have he1 : endsL (fateL (List.replicate t.length 1)) s t 0 = endsL (fun _ => 1) s t 0 := endsL_congr _ _ t s 0 (fun j h0 h1 => by
        have hj : ¬ j ≥ ((List.replicate t.length (1 : Int)).length : Int) := by rw [List.length_replicate]; omega
        rw [fateL, if_neg hj]
        simp [List.getD, List.getElem?_replicate, show j.toNat < t.length by omega])
      have he2 : endsL (fateL []) s t 0 = s := endsL_none _ (fun j => by unfold fateL; split <;> rfl) t s 0
      have hK : (endsL (fateL fs) s t 0).length = s.length := endsL_len _ _ _ _
      have hK2 := endsL_all (fateL fs) t s 0 hs4 htl
      have hK3 := fun i hi => halves (fateL fs) i t s 0 hi hs4 htl
      rw [he1, he2]
      generalize endsL (fateL fs) s t 0 = K at hK hK2 hK3
      have hA := endsL_len (fun _ => 1) t s 0
      generalize endsL (fun _ => 1) s t 0 = A at hA
      refine call_funG [] rfl ?_ rfl rfl (fun _ => ref_Like A A [] [] (by omega) (by simp)) rfl (by simp) ?_
      · simp only [wk0, wk1, wk2, wk3, wk4, wk5, wk6, wk7, wk8, wk9, wk10, Rw_op, Rw_opg, RwD_op, RwD_opg, Bool.cond_true, Bool.cond_false, if_true, if_false, implies_true, forall_const, eq_self, ne_eq, forall_eq, forall_eq', forall_eq_or_imp, exists_eq', bne_self_eq_false, dchk, meets, touchS, touchI, quietI, allocI, isCall, idsV, ch0, Nat.testBit, semI, binS, unS, nilS, aggS, eqLs, eqL, evT, evS, stripV, gOk, gAll, opsOf, boolV, apG, numd, prL, cellsV, isB, out1, fail, fillOb, fillL, replaceAt, rowsV, newV, boundV, intV, lcOf, lcA, scA, Va.bo, Va.i, Va.st, Ret, allOb, rvOut, convB, convBs, convC, convR, conv, unD, Nat.reduceAdd, Nat.reduceSub, Nat.reduceMul, Nat.reduceLeDiff, Nat.reduceEqDiff, Nat.reduceLT, Nat.reduceBEq, reduceIte, reduceCtorEq, Int.reduceToNat, fnV, argsV, touchO, evO, bareI, Nat.reduceShiftRight, Nat.reduceAnd, Nat.reduceBneDiff, Nat.reduceBNe]
      have hlk : ∀ a : List (List UInt8), likeL a a [] [] = true := fun a => by simp [likeL]
      simp only [wk0, wk1, wk2, wk3, wk4, wk5, wk6, wk7, wk8, wk9, wk10, Rw_op, Rw_opg, RwD_op, RwD_opg, Bool.cond_true, Bool.cond_false, if_true, if_false, implies_true, forall_const, eq_self, ne_eq, forall_eq, forall_eq', forall_eq_or_imp, exists_eq', bne_self_eq_false, dchk, meets, touchS, touchI, quietI, allocI, isCall, idsV, ch0, Nat.testBit, semI, binS, unS, nilS, aggS, eqLs, eqL, evT, evS, stripV, gOk, gAll, opsOf, boolV, apG, numd, prL, cellsV, isB, out1, fail, fillOb, fillL, replaceAt, rowsV, newV, boundV, intV, lcOf, lcA, scA, Va.bo, Va.i, Va.st, Ret, allOb, rvOut, convB, convBs, convC, convR, conv, unD, Nat.reduceAdd, Nat.reduceSub, Nat.reduceMul, Nat.reduceLeDiff, Nat.reduceEqDiff, Nat.reduceLT, Nat.reduceBEq, reduceIte, reduceCtorEq, Int.reduceToNat, fnV, argsV, touchO, evO, bareI, Nat.reduceShiftRight, Nat.reduceAnd, Nat.reduceBneDiff, Nat.reduceBNe, hlk]
      refine call_funG [] rfl ?_ rfl rfl (fun _ => ref_Like s s [] [] (by omega) (by simp)) rfl (by simp) ?_
      · simp only [wk0, wk1, wk2, wk3, wk4, wk5, wk6, wk7, wk8, wk9, wk10, Rw_op, Rw_opg, RwD_op, RwD_opg, Bool.cond_true, Bool.cond_false, if_true, if_false, implies_true, forall_const, eq_self, ne_eq, forall_eq, forall_eq', forall_eq_or_imp, exists_eq', bne_self_eq_false, dchk, meets, touchS, touchI, quietI, allocI, isCall, idsV, ch0, Nat.testBit, semI, binS, unS, nilS, aggS, eqLs, eqL, evT, evS, stripV, gOk, gAll, opsOf, boolV, apG, numd, prL, cellsV, isB, out1, fail, fillOb, fillL, replaceAt, rowsV, newV, boundV, intV, lcOf, lcA, scA, Va.bo, Va.i, Va.st, Ret, allOb, rvOut, convB, convBs, convC, convR, conv, unD, Nat.reduceAdd, Nat.reduceSub, Nat.reduceMul, Nat.reduceLeDiff, Nat.reduceEqDiff, Nat.reduceLT, Nat.reduceBEq, reduceIte, reduceCtorEq, Int.reduceToNat, fnV, argsV, touchO, evO, bareI, Nat.reduceShiftRight, Nat.reduceAnd, Nat.reduceBneDiff, Nat.reduceBNe]
      simp only [wk0, wk1, wk2, wk3, wk4, wk5, wk6, wk7, wk8, wk9, wk10, Rw_op, Rw_opg, RwD_op, RwD_opg, Bool.cond_true, Bool.cond_false, if_true, if_false, implies_true, forall_const, eq_self, ne_eq, forall_eq, forall_eq', forall_eq_or_imp, exists_eq', bne_self_eq_false, dchk, meets, touchS, touchI, quietI, allocI, isCall, idsV, ch0, Nat.testBit, semI, binS, unS, nilS, aggS, eqLs, eqL, evT, evS, stripV, gOk, gAll, opsOf, boolV, apG, numd, prL, cellsV, isB, out1, fail, fillOb, fillL, replaceAt, rowsV, newV, boundV, intV, lcOf, lcA, scA, Va.bo, Va.i, Va.st, Ret, allOb, rvOut, convB, convBs, convC, convR, conv, unD, Nat.reduceAdd, Nat.reduceSub, Nat.reduceMul, Nat.reduceLeDiff, Nat.reduceEqDiff, Nat.reduceLT, Nat.reduceBEq, reduceIte, reduceCtorEq, Int.reduceToNat, fnV, argsV, touchO, evO, bareI, Nat.reduceShiftRight, Nat.reduceAnd, Nat.reduceBneDiff, Nat.reduceBNe, hlk, hK, bne_self_eq_false]
      refine call_funG [] rfl ?_ rfl rfl (fun _ => lawAlive) rfl (by simp) ?_
      · simp only [wk0, wk1, wk2, wk3, wk4, wk5, wk6, wk7, wk8, wk9, wk10, Rw_op, Rw_opg, RwD_op, RwD_opg, Bool.cond_true, Bool.cond_false, if_true, if_false, implies_true, forall_const, eq_self, ne_eq, forall_eq, forall_eq', forall_eq_or_imp, exists_eq', bne_self_eq_false, dchk, meets, touchS, touchI, quietI, allocI, isCall, idsV, ch0, Nat.testBit, semI, binS, unS, nilS, aggS, eqLs, eqL, evT, evS, stripV, gOk, gAll, opsOf, boolV, apG, numd, prL, cellsV, isB, out1, fail, fillOb, fillL, replaceAt, rowsV, newV, boundV, intV, lcOf, lcA, scA, Va.bo, Va.i, Va.st, Ret, allOb, rvOut, convB, convBs, convC, convR, conv, unD, Nat.reduceAdd, Nat.reduceSub, Nat.reduceMul, Nat.reduceLeDiff, Nat.reduceEqDiff, Nat.reduceLT, Nat.reduceBEq, reduceIte, reduceCtorEq, Int.reduceToNat, fnV, argsV, touchO, evO, bareI, Nat.reduceShiftRight, Nat.reduceAnd, Nat.reduceBneDiff, Nat.reduceBNe]
      simp only [wk0, wk1, wk2, wk3, wk4, wk5, wk6, wk7, wk8, wk9, wk10, Rw_op, Rw_opg, RwD_op, RwD_opg, Bool.cond_true, Bool.cond_false, if_true, if_false, implies_true, forall_const, eq_self, ne_eq, forall_eq, forall_eq', forall_eq_or_imp, exists_eq', bne_self_eq_false, dchk, meets, touchS, touchI, quietI, allocI, isCall, idsV, ch0, Nat.testBit, semI, binS, unS, nilS, aggS, eqLs, eqL, evT, evS, stripV, gOk, gAll, opsOf, boolV, apG, numd, prL, cellsV, isB, out1, fail, fillOb, fillL, replaceAt, rowsV, newV, boundV, intV, lcOf, lcA, scA, Va.bo, Va.i, Va.st, Ret, allOb, rvOut, convB, convBs, convC, convR, conv, unD, Nat.reduceAdd, Nat.reduceSub, Nat.reduceMul, Nat.reduceLeDiff, Nat.reduceEqDiff, Nat.reduceLT, Nat.reduceBEq, reduceIte, reduceCtorEq, Int.reduceToNat, fnV, argsV, touchO, evO, bareI, Nat.reduceShiftRight, Nat.reduceAnd, Nat.reduceBneDiff, Nat.reduceBNe]
      refine .cond rfl (fun h => by cases h) (fun h => ?_)
      refine .skip ?_
      refine .seq (.seq (Rw.walk ?_))
      simp only [wk0, wk1, wk2, wk3, wk4, wk5, wk6, wk7, wk8, wk9, wk10, Rw_op, Rw_opg, RwD_op, RwD_opg, Bool.cond_true, Bool.cond_false, if_true, if_false, implies_true, forall_const, eq_self, ne_eq, forall_eq, forall_eq', forall_eq_or_imp, exists_eq', bne_self_eq_false, dchk, meets, touchS, touchI, quietI, allocI, isCall, idsV, ch0, Nat.testBit, semI, binS, unS, nilS, aggS, eqLs, eqL, evT, evS, stripV, gOk, gAll, opsOf, boolV, apG, numd, prL, cellsV, isB, out1, fail, fillOb, fillL, replaceAt, rowsV, newV, boundV, intV, lcOf, lcA, scA, Va.bo, Va.i, Va.st, Ret, allOb, rvOut, convB, convBs, convC, convR, conv, unD, Nat.reduceAdd, Nat.reduceSub, Nat.reduceMul, Nat.reduceLeDiff, Nat.reduceEqDiff, Nat.reduceLT, Nat.reduceBEq, reduceIte, reduceCtorEq, Int.reduceToNat, fnV, argsV, touchO, evO, bareI, Nat.reduceShiftRight, Nat.reduceAnd, Nat.reduceBneDiff, Nat.reduceBNe, c5r21]
      refine .blk ?_
      refine W.loops (ι := { i : Nat // i ≤ K.length }) (fun i => ⟨lkT [(3, .b (.s (.ptr 3 1 0 0))), (7, .b (.s (.ptr 7 1 0 0))), (138, .b (.s (.d (.sl (K.map encS))))), (139, .i .i64 K.length), (140, .i .i64 i.val)], lkG [(3, ⟨2, [[.d (.sl (s.map encS)), .nils]], false⟩), (7, ⟨2, [[.d (.sl (s.map encS)), .d (.sl (t.map encW))]], false⟩)]⟩) (fun i => K.length - i.val) ⟨0, by omega⟩ ?_ ?_
      · refine Imp.lk _ _ ?_ ?_ ?_ ?_
        all_goals
          simp only [wk0, wk1, wk2, wk3, wk4, wk5, wk6, wk7, wk8, wk9, wk10, Rw_op, Rw_opg, RwD_op, RwD_opg, Bool.cond_true, Bool.cond_false, if_true, if_false, implies_true, forall_const, eq_self, ne_eq, forall_eq, forall_eq', forall_eq_or_imp, exists_eq', bne_self_eq_false, dchk, meets, touchS, touchI, quietI, allocI, isCall, idsV, ch0, Nat.testBit, semI, binS, unS, nilS, aggS, eqLs, eqL, evT, evS, stripV, gOk, gAll, opsOf, boolV, apG, numd, prL, cellsV, isB, out1, fail, fillOb, fillL, replaceAt, rowsV, newV, boundV, intV, lcOf, lcA, scA, Va.bo, Va.i, Va.st, Ret, allOb, rvOut, convB, convBs, convC, convR, conv, unD, Nat.reduceAdd, Nat.reduceSub, Nat.reduceMul, Nat.reduceLeDiff, Nat.reduceEqDiff, Nat.reduceLT, Nat.reduceBEq, reduceIte, reduceCtorEq, Int.reduceToNat, fnV, argsV, touchO, evO, bareI, Nat.reduceShiftRight, Nat.reduceAnd, Nat.reduceBneDiff, Nat.reduceBNe, allT, allE, refsV, refsIn, refsC, Int.ofNat_zero, Int.natCast_zero, hK]
      · intro ⟨i, hi⟩ ih
        unfold c5l36
        refine .seq (Rw.walk ?_)
        simp only [wk0, wk1, wk2, wk3, wk4, wk5, wk6, wk7, wk8, wk9, wk10, Rw_op, Rw_opg, RwD_op, RwD_opg, Bool.cond_true, Bool.cond_false, if_true, if_false, implies_true, forall_const, eq_self, ne_eq, forall_eq, forall_eq', forall_eq_or_imp, exists_eq', bne_self_eq_false, dchk, meets, touchS, touchI, quietI, allocI, isCall, idsV, ch0, Nat.testBit, semI, binS, unS, nilS, aggS, eqLs, eqL, evT, evS, stripV, gOk, gAll, opsOf, boolV, apG, numd, prL, cellsV, isB, out1, fail, fillOb, fillL, replaceAt, rowsV, newV, boundV, intV, lcOf, lcA, scA, Va.bo, Va.i, Va.st, Ret, allOb, rvOut, convB, convBs, convC, convR, conv, unD, Nat.reduceAdd, Nat.reduceSub, Nat.reduceMul, Nat.reduceLeDiff, Nat.reduceEqDiff, Nat.reduceLT, Nat.reduceBEq, reduceIte, reduceCtorEq, Int.reduceToNat, fnV, argsV, touchO, evO, bareI, Nat.reduceShiftRight, Nat.reduceAnd, Nat.reduceBneDiff, Nat.reduceBNe, c5r22]
        by_cases hlt : i < K.length
        · refine .seq (.cond rfl (fun h => ?_) (fun h => absurd h (by simp; omega)))
          refine .skip ?_
          refine .seq (.blk ?_)
          have hki := hK3 i (by omega)
          have hk128 := hK2 _ (getD_mem (d := []) hlt)
          have hrow := getD_map encS K i [] [] hlt
          have hsrow := getD_map encS s i [] [] (show i < s.length by omega)
          have hs128 := hs4 _ (getD_mem (d := []) (show i < s.length by omega))
          revert hki hk128 hrow hsrow hs128
          generalize K.getD i [] = y
          generalize s.getD i [] = z
          intro hki hk128 hrow hsrow hs128
          refine .seq (Rw.walk ?_)
          simp only [wk0, wk1, wk2, wk3, wk4, wk5, wk6, wk7, wk8, wk9, wk10, Rw_op, Rw_opg, RwD_op, RwD_opg, Bool.cond_true, Bool.cond_false, if_true, if_false, implies_true, forall_const, eq_self, ne_eq, forall_eq, forall_eq', forall_eq_or_imp, exists_eq', bne_self_eq_false, dchk, meets, touchS, touchI, quietI, allocI, isCall, idsV, ch0, Nat.testBit, semI, binS, unS, nilS, aggS, eqLs, eqL, evT, evS, stripV, gOk, gAll, opsOf, boolV, apG, numd, prL, cellsV, isB, out1, fail, fillOb, fillL, replaceAt, rowsV, newV, boundV, intV, lcOf, lcA, scA, Va.bo, Va.i, Va.st, Ret, allOb, rvOut, convB, convBs, convC, convR, conv, unD, Nat.reduceAdd, Nat.reduceSub, Nat.reduceMul, Nat.reduceLeDiff, Nat.reduceEqDiff, Nat.reduceLT, Nat.reduceBEq, reduceIte, reduceCtorEq, Int.reduceToNat, fnV, argsV, touchO, evO, bareI, Nat.reduceShiftRight, Nat.reduceAnd, Nat.reduceBneDiff, Nat.reduceBNe, c5r23, hrow, encS]
          refine ⟨⟨by omega, by omega, encS_len K⟩, ?_⟩
          have hq : (((128 : Nat) : Int) == 128) = true := by decide
          have hty : List.take 128 y = y := List.take_of_length_le (by omega)
          have htz : List.take 128 z = z := List.take_of_length_le (by omega)
          refine .seq (RwD.walk ?_)
          simp only [wk0, wk1, wk2, wk3, wk4, wk5, wk6, wk7, wk8, wk9, wk10, Rw_op, Rw_opg, RwD_op, RwD_opg, Bool.cond_true, Bool.cond_false, if_true, if_false, implies_true, forall_const, eq_self, ne_eq, forall_eq, forall_eq', forall_eq_or_imp, exists_eq', bne_self_eq_false, dchk, meets, touchS, touchI, quietI, allocI, isCall, idsV, ch0, Nat.testBit, semI, binS, unS, nilS, aggS, eqLs, eqL, evT, evS, stripV, gOk, gAll, opsOf, boolV, apG, numd, prL, cellsV, isB, out1, fail, fillOb, fillL, replaceAt, rowsV, newV, boundV, intV, lcOf, lcA, scA, Va.bo, Va.i, Va.st, Ret, allOb, rvOut, convB, convBs, convC, convR, conv, unD, Nat.reduceAdd, Nat.reduceSub, Nat.reduceMul, Nat.reduceLeDiff, Nat.reduceEqDiff, Nat.reduceLT, Nat.reduceBEq, reduceIte, reduceCtorEq, Int.reduceToNat, fnV, argsV, touchO, evO, bareI, Nat.reduceShiftRight, Nat.reduceAnd, Nat.reduceBneDiff, Nat.reduceBNe, c5r24, hsrow, encS, hk128, hs128, hq, hty, htz]
          refine ⟨⟨by omega, by omega, by omega⟩, ⟨by omega, by omega, encS_len s⟩, ⟨by omega, by omega, by omega⟩, ⟨by omega, by omega, by omega⟩, ⟨by omega, by omega, encS_len s⟩, ⟨by omega, by omega, by omega⟩, ?_⟩
          refine .seq (.seq (Rw.walk ?_))
          simp only [wk0, wk1, wk2, wk3, wk4, wk5, wk6, wk7, wk8, wk9, wk10, Rw_op, Rw_opg, RwD_op, RwD_opg, Bool.cond_true, Bool.cond_false, if_true, if_false, implies_true, forall_const, eq_self, ne_eq, forall_eq, forall_eq', forall_eq_or_imp, exists_eq', bne_self_eq_false, dchk, meets, touchS, touchI, quietI, allocI, isCall, idsV, ch0, Nat.testBit, semI, binS, unS, nilS, aggS, eqLs, eqL, evT, evS, stripV, gOk, gAll, opsOf, boolV, apG, numd, prL, cellsV, isB, out1, fail, fillOb, fillL, replaceAt, rowsV, newV, boundV, intV, lcOf, lcA, scA, Va.bo, Va.i, Va.st, Ret, allOb, rvOut, convB, convBs, convC, convR, conv, unD, Nat.reduceAdd, Nat.reduceSub, Nat.reduceMul, Nat.reduceLeDiff, Nat.reduceEqDiff, Nat.reduceLT, Nat.reduceBEq, reduceIte, reduceCtorEq, Int.reduceToNat, fnV, argsV, touchO, evO, bareI, Nat.reduceShiftRight, Nat.reduceAnd, Nat.reduceBneDiff, Nat.reduceBNe, c5r25]
          refine .blk ?_
          refine W.loops (ι := { j : Nat // j ≤ t.length }) (fun j => ⟨lkT [(3, .b (.s (.ptr 3 1 0 0))), (7, .b (.s (.ptr 7 1 0 0))), (21, .i .i64 i), (22, .st y), (23, .bo (y.take 64 == z.take 64 || (t.take j.val).any (hitF i y))), (24, .bo (y.drop 64 == z.drop 64 || (t.take j.val).any (hitL i y))), (138, .b (.s (.d (.sl (K.map encS))))), (139, .i .i64 K.length), (140, .i .i64 i), (174, .b (.s (.d (.sl (t.map encW))))), (175, .i .i64 t.length), (176, .i .i64 j.val)], lkG [(3, ⟨2, [[.d (.sl (s.map encS)), .nils]], false⟩), (7, ⟨2, [[.d (.sl (s.map encS)), .d (.sl (t.map encW))]], false⟩)]⟩) (fun j => t.length - j.val) ⟨0, by omega⟩ ?_ ?_
          · refine Imp.lk _ _ ?_ ?_ ?_ ?_
            all_goals
              simp only [wk0, wk1, wk2, wk3, wk4, wk5, wk6, wk7, wk8, wk9, wk10, Rw_op, Rw_opg, RwD_op, RwD_opg, Bool.cond_true, Bool.cond_false, if_true, if_false, implies_true, forall_const, eq_self, ne_eq, forall_eq, forall_eq', forall_eq_or_imp, exists_eq', bne_self_eq_false, dchk, meets, touchS, touchI, quietI, allocI, isCall, idsV, ch0, Nat.testBit, semI, binS, unS, nilS, aggS, eqLs, eqL, evT, evS, stripV, gOk, gAll, opsOf, boolV, apG, numd, prL, cellsV, isB, out1, fail, fillOb, fillL, replaceAt, rowsV, newV, boundV, intV, lcOf, lcA, scA, Va.bo, Va.i, Va.st, Ret, allOb, rvOut, convB, convBs, convC, convR, conv, unD, Nat.reduceAdd, Nat.reduceSub, Nat.reduceMul, Nat.reduceLeDiff, Nat.reduceEqDiff, Nat.reduceLT, Nat.reduceBEq, reduceIte, reduceCtorEq, Int.reduceToNat, fnV, argsV, touchO, evO, bareI, Nat.reduceShiftRight, Nat.reduceAnd, Nat.reduceBneDiff, Nat.reduceBNe, allT, allE, refsV, refsIn, refsC, Int.ofNat_zero, Int.natCast_zero, hK]
          · intro ⟨j, hj⟩ ih2
            unfold c5l32
            refine .seq (Rw.walk ?_)
            simp only [wk0, wk1, wk2, wk3, wk4, wk5, wk6, wk7, wk8, wk9, wk10, Rw_op, Rw_opg, RwD_op, RwD_opg, Bool.cond_true, Bool.cond_false, if_true, if_false, implies_true, forall_const, eq_self, ne_eq, forall_eq, forall_eq', forall_eq_or_imp, exists_eq', bne_self_eq_false, dchk, meets, touchS, touchI, quietI, allocI, isCall, idsV, ch0, Nat.testBit, semI, binS, unS, nilS, aggS, eqLs, eqL, evT, evS, stripV, gOk, gAll, opsOf, boolV, apG, numd, prL, cellsV, isB, out1, fail, fillOb, fillL, replaceAt, rowsV, newV, boundV, intV, lcOf, lcA, scA, Va.bo, Va.i, Va.st, Ret, allOb, rvOut, convB, convBs, convC, convR, conv, unD, Nat.reduceAdd, Nat.reduceSub, Nat.reduceMul, Nat.reduceLeDiff, Nat.reduceEqDiff, Nat.reduceLT, Nat.reduceBEq, reduceIte, reduceCtorEq, Int.reduceToNat, fnV, argsV, touchO, evO, bareI, Nat.reduceShiftRight, Nat.reduceAnd, Nat.reduceBneDiff, Nat.reduceBNe, c5r26]
            by_cases hjt : j < t.length
            · refine .seq (.cond rfl (fun h => ?_) (fun h => absurd h (by simp; omega)))
              refine .skip ?_
              refine .seq (.blk ?_)
              have hwr := getD_map encW t j (0, []) [] hjt
              have hwl := htl _ (getD_mem (d := (0, [])) hjt)
              have ha1 := any_take (p := hitF i y) t j hjt
              have ha2 := any_take (p := hitL i y) t j hjt
              revert hwr hwl ha1 ha2
              generalize t.getD j (0, []) = v
              intro hwr hwl ha1 ha2
              obtain ⟨va, vd⟩ := v
              simp only at hwl
              refine .seq (Rw.walk ?_)
              simp only [wk0, wk1, wk2, wk3, wk4, wk5, wk6, wk7, wk8, wk9, wk10, Rw_op, Rw_opg, RwD_op, RwD_opg, Bool.cond_true, Bool.cond_false, if_true, if_false, implies_true, forall_const, eq_self, ne_eq, forall_eq, forall_eq', forall_eq_or_imp, exists_eq', bne_self_eq_false, dchk, meets, touchS, touchI, quietI, allocI, isCall, idsV, ch0, Nat.testBit, semI, binS, unS, nilS, aggS, eqLs, eqL, evT, evS, stripV, gOk, gAll, opsOf, boolV, apG, numd, prL, cellsV, isB, out1, fail, fillOb, fillL, replaceAt, rowsV, newV, boundV, intV, lcOf, lcA, scA, Va.bo, Va.i, Va.st, Ret, allOb, rvOut, convB, convBs, convC, convR, conv, unD, Nat.reduceAdd, Nat.reduceSub, Nat.reduceMul, Nat.reduceLeDiff, Nat.reduceEqDiff, Nat.reduceLT, Nat.reduceBEq, reduceIte, reduceCtorEq, Int.reduceToNat, fnV, argsV, touchO, evO, bareI, Nat.reduceShiftRight, Nat.reduceAnd, Nat.reduceBneDiff, Nat.reduceBNe, c5r27, hwr, encW]
              refine ⟨⟨by omega, by omega, encW_len t⟩, ?_⟩
              refine .seq (RwD.walk ?_)
              have htv : List.take 128 vd = vd := List.take_of_length_le (by omega)
              generalize hb1 : (y.take 64 == z.take 64 || (t.take j).any (hitF i y)) = b1 at *
              generalize hb2 : (y.drop 64 == z.drop 64 || (t.take j).any (hitL i y)) = b2 at *
              simp only [wk0, wk1, wk2, wk3, wk4, wk5, wk6, wk7, wk8, wk9, wk10, Rw_op, Rw_opg, RwD_op, RwD_opg, Bool.cond_true, Bool.cond_false, if_true, if_false, implies_true, forall_const, eq_self, ne_eq, forall_eq, forall_eq', forall_eq_or_imp, exists_eq', bne_self_eq_false, dchk, meets, touchS, touchI, quietI, allocI, isCall, idsV, ch0, Nat.testBit, semI, binS, unS, nilS, aggS, eqLs, eqL, evT, evS, stripV, gOk, gAll, opsOf, boolV, apG, numd, prL, cellsV, isB, out1, fail, fillOb, fillL, replaceAt, rowsV, newV, boundV, intV, lcOf, lcA, scA, Va.bo, Va.i, Va.st, Ret, allOb, rvOut, convB, convBs, convC, convR, conv, unD, Nat.reduceAdd, Nat.reduceSub, Nat.reduceMul, Nat.reduceLeDiff, Nat.reduceEqDiff, Nat.reduceLT, Nat.reduceBEq, reduceIte, reduceCtorEq, Int.reduceToNat, fnV, argsV, touchO, evO, bareI, Nat.reduceShiftRight, Nat.reduceAnd, Nat.reduceBneDiff, Nat.reduceBNe, c5r28, hk128, hq, hwl.2.2, hty, htv]
              refine ⟨fun h => ⟨h, fun h2 => by rw [h, h2]; rfl⟩, fun _ => ⟨by omega, by omega, by omega⟩, fun _ => ⟨by omega, by omega, by omega⟩, fun h => ⟨h, fun h2 => by rw [h, h2]; rfl⟩, ?_⟩
              refine RwD.walk ?_
              simp only [wk0, wk1, wk2, wk3, wk4, wk5, wk6, wk7, wk8, wk9, wk10, Rw_op, Rw_opg, RwD_op, RwD_opg, Bool.cond_true, Bool.cond_false, if_true, if_false, implies_true, forall_const, eq_self, ne_eq, forall_eq, forall_eq', forall_eq_or_imp, exists_eq', bne_self_eq_false, dchk, meets, touchS, touchI, quietI, allocI, isCall, idsV, ch0, Nat.testBit, semI, binS, unS, nilS, aggS, eqLs, eqL, evT, evS, stripV, gOk, gAll, opsOf, boolV, apG, numd, prL, cellsV, isB, out1, fail, fillOb, fillL, replaceAt, rowsV, newV, boundV, intV, lcOf, lcA, scA, Va.bo, Va.i, Va.st, Ret, allOb, rvOut, convB, convBs, convC, convR, conv, unD, Nat.reduceAdd, Nat.reduceSub, Nat.reduceMul, Nat.reduceLeDiff, Nat.reduceEqDiff, Nat.reduceLT, Nat.reduceBEq, reduceIte, reduceCtorEq, Int.reduceToNat, fnV, argsV, touchO, evO, bareI, Nat.reduceShiftRight, Nat.reduceAnd, Nat.reduceBneDiff, Nat.reduceBNe, c5r29, hk128, hq, hwl.2.2, hty, htv]
              refine ⟨fun h => ⟨h, fun h2 => by rw [h, h2]; rfl⟩, fun _ => ⟨by omega, by omega, by omega⟩, fun _ => ⟨by omega, by omega, by omega⟩, fun h => ⟨h, fun h2 => by rw [h, h2]; rfl⟩, ?_⟩
              refine .eblk ?_
              refine Rw.walk ?_
              simp only [wk0, wk1, wk2, wk3, wk4, wk5, wk6, wk7, wk8, wk9, wk10, Rw_op, Rw_opg, RwD_op, RwD_opg, Bool.cond_true, Bool.cond_false, if_true, if_false, implies_true, forall_const, eq_self, ne_eq, forall_eq, forall_eq', forall_eq_or_imp, exists_eq', bne_self_eq_false, dchk, meets, touchS, touchI, quietI, allocI, isCall, idsV, ch0, Nat.testBit, semI, binS, unS, nilS, aggS, eqLs, eqL, evT, evS, stripV, gOk, gAll, opsOf, boolV, apG, numd, prL, cellsV, isB, out1, fail, fillOb, fillL, replaceAt, rowsV, newV, boundV, intV, lcOf, lcA, scA, Va.bo, Va.i, Va.st, Ret, allOb, rvOut, convB, convBs, convC, convR, conv, unD, Nat.reduceAdd, Nat.reduceSub, Nat.reduceMul, Nat.reduceLeDiff, Nat.reduceEqDiff, Nat.reduceLT, Nat.reduceBEq, reduceIte, reduceCtorEq, Int.reduceToNat, fnV, argsV, touchO, evO, bareI, Nat.reduceShiftRight, Nat.reduceAnd, Nat.reduceBneDiff, Nat.reduceBNe, c5r30]
              refine .weak ?_ (ih2 ⟨j + 1, by omega⟩ (by simp; omega))
              refine Imp.lk _ _ ?_ ?_ ?_ ?_
              all_goals
                simp only [wk0, wk1, wk2, wk3, wk4, wk5, wk6, wk7, wk8, wk9, wk10, Rw_op, Rw_opg, RwD_op, RwD_opg, Bool.cond_true, Bool.cond_false, if_true, if_false, implies_true, forall_const, eq_self, ne_eq, forall_eq, forall_eq', forall_eq_or_imp, exists_eq', bne_self_eq_false, dchk, meets, touchS, touchI, quietI, allocI, isCall, idsV, ch0, Nat.testBit, semI, binS, unS, nilS, aggS, eqLs, eqL, evT, evS, stripV, gOk, gAll, opsOf, boolV, apG, numd, prL, cellsV, isB, out1, fail, fillOb, fillL, replaceAt, rowsV, newV, boundV, intV, lcOf, lcA, scA, Va.bo, Va.i, Va.st, Ret, allOb, rvOut, convB, convBs, convC, convR, conv, unD, Nat.reduceAdd, Nat.reduceSub, Nat.reduceMul, Nat.reduceLeDiff, Nat.reduceEqDiff, Nat.reduceLT, Nat.reduceBEq, reduceIte, reduceCtorEq, Int.reduceToNat, fnV, argsV, touchO, evO, bareI, Nat.reduceShiftRight, Nat.reduceAnd, Nat.reduceBneDiff, Nat.reduceBNe, allT, allE, refsV, refsIn, refsC]
              refine ⟨?_, ?_, ?_⟩
              · rw [ha1, ← Bool.or_assoc, hb1]
                rfl
              · rw [ha2, ← Bool.or_assoc, hb2]
                rfl
              · rw [i64_in (by omega) (by omega)]
                rfl
            · refine .seq (.cond rfl (fun h => absurd h (by simp; omega)) (fun h => ?_))
              refine .exit rfl ?_
              have hf1 : (y.take 64 == z.take 64 || (t.take j).any (hitF i y)) = true := by
                rw [List.take_of_length_le (l := t) (by omega)]
                rcases hki.1 with h | h
                · rw [h]; simp
                · rw [h, Bool.or_true]
              have hf2 : (y.drop 64 == z.drop 64 || (t.take j).any (hitL i y)) = true := by
                rw [List.take_of_length_le (l := t) (by omega)]
                rcases hki.2 with h | h
                · rw [h]; simp
                · rw [h, Bool.or_true]
              rw [hf1, hf2]
              refine .seq (Rw.walk ?_)
              simp only [wk0, wk1, wk2, wk3, wk4, wk5, wk6, wk7, wk8, wk9, wk10, Rw_op, Rw_opg, RwD_op, RwD_opg, Bool.cond_true, Bool.cond_false, if_true, if_false, implies_true, forall_const, eq_self, ne_eq, forall_eq, forall_eq', forall_eq_or_imp, exists_eq', bne_self_eq_false, dchk, meets, touchS, touchI, quietI, allocI, isCall, idsV, ch0, Nat.testBit, semI, binS, unS, nilS, aggS, eqLs, eqL, evT, evS, stripV, gOk, gAll, opsOf, boolV, apG, numd, prL, cellsV, isB, out1, fail, fillOb, fillL, replaceAt, rowsV, newV, boundV, intV, lcOf, lcA, scA, Va.bo, Va.i, Va.st, Ret, allOb, rvOut, convB, convBs, convC, convR, conv, unD, Nat.reduceAdd, Nat.reduceSub, Nat.reduceMul, Nat.reduceLeDiff, Nat.reduceEqDiff, Nat.reduceLT, Nat.reduceBEq, reduceIte, reduceCtorEq, Int.reduceToNat, fnV, argsV, touchO, evO, bareI, Nat.reduceShiftRight, Nat.reduceAnd, Nat.reduceBneDiff, Nat.reduceBNe, c5r31]
              refine .cond rfl (fun h => by cases h) (fun h => ?_)
              refine .skip ?_
              refine .eblk ?_
              refine Rw.walk ?_
              simp only [wk0, wk1, wk2, wk3, wk4, wk5, wk6, wk7, wk8, wk9, wk10, Rw_op, Rw_opg, RwD_op, RwD_opg, Bool.cond_true, Bool.cond_false, if_true, if_false, implies_true, forall_const, eq_self, ne_eq, forall_eq, forall_eq', forall_eq_or_imp, exists_eq', bne_self_eq_false, dchk, meets, touchS, touchI, quietI, allocI, isCall, idsV, ch0, Nat.testBit, semI, binS, unS, nilS, aggS, eqLs, eqL, evT, evS, stripV, gOk, gAll, opsOf, boolV, apG, numd, prL, cellsV, isB, out1, fail, fillOb, fillL, replaceAt, rowsV, newV, boundV, intV, lcOf, lcA, scA, Va.bo, Va.i, Va.st, Ret, allOb, rvOut, convB, convBs, convC, convR, conv, unD, Nat.reduceAdd, Nat.reduceSub, Nat.reduceMul, Nat.reduceLeDiff, Nat.reduceEqDiff, Nat.reduceLT, Nat.reduceBEq, reduceIte, reduceCtorEq, Int.reduceToNat, fnV, argsV, touchO, evO, bareI, Nat.reduceShiftRight, Nat.reduceAnd, Nat.reduceBneDiff, Nat.reduceBNe, c5r33]
              refine .weak ?_ (ih ⟨i + 1, by omega⟩ (by simp; omega))
              refine Imp.lk _ _ ?_ ?_ ?_ ?_
              all_goals
                simp only [wk0, wk1, wk2, wk3, wk4, wk5, wk6, wk7, wk8, wk9, wk10, Rw_op, Rw_opg, RwD_op, RwD_opg, Bool.cond_true, Bool.cond_false, if_true, if_false, implies_true, forall_const, eq_self, ne_eq, forall_eq, forall_eq', forall_eq_or_imp, exists_eq', bne_self_eq_false, dchk, meets, touchS, touchI, quietI, allocI, isCall, idsV, ch0, Nat.testBit, semI, binS, unS, nilS, aggS, eqLs, eqL, evT, evS, stripV, gOk, gAll, opsOf, boolV, apG, numd, prL, cellsV, isB, out1, fail, fillOb, fillL, replaceAt, rowsV, newV, boundV, intV, lcOf, lcA, scA, Va.bo, Va.i, Va.st, Ret, allOb, rvOut, convB, convBs, convC, convR, conv, unD, Nat.reduceAdd, Nat.reduceSub, Nat.reduceMul, Nat.reduceLeDiff, Nat.reduceEqDiff, Nat.reduceLT, Nat.reduceBEq, reduceIte, reduceCtorEq, Int.reduceToNat, fnV, argsV, touchO, evO, bareI, Nat.reduceShiftRight, Nat.reduceAnd, Nat.reduceBneDiff, Nat.reduceBNe, allT, allE, refsV, refsIn, refsC]
              rw [i64_in (by omega) (by omega)]
              rfl
        · refine .seq (.cond rfl (fun h => absurd h (by simp; omega)) (fun h => ?_))
          refine .exit rfl ?_
          refine .seq (Rw.walk ?_)
          simp only [wk0, wk1, wk2, wk3, wk4, wk5, wk6, wk7, wk8, wk9, wk10, Rw_op, Rw_opg, RwD_op, RwD_opg, Bool.cond_true, Bool.cond_false, if_true, if_false, implies_true, forall_const, eq_self, ne_eq, forall_eq, forall_eq', forall_eq_or_imp, exists_eq', bne_self_eq_false, dchk, meets, touchS, touchI, quietI, allocI, isCall, idsV, ch0, Nat.testBit, semI, binS, unS, nilS, aggS, eqLs, eqL, evT, evS, stripV, gOk, gAll, opsOf, boolV, apG, numd, prL, cellsV, isB, out1, fail, fillOb, fillL, replaceAt, rowsV, newV, boundV, intV, lcOf, lcA, scA, Va.bo, Va.i, Va.st, Ret, allOb, rvOut, convB, convBs, convC, convR, conv, unD, Nat.reduceAdd, Nat.reduceSub, Nat.reduceMul, Nat.reduceLeDiff, Nat.reduceEqDiff, Nat.reduceLT, Nat.reduceBEq, reduceIte, reduceCtorEq, Int.reduceToNat, fnV, argsV, touchO, evO, bareI, Nat.reduceShiftRight, Nat.reduceAnd, Nat.reduceBneDiff, Nat.reduceBNe, c5r34]
          refine .ret ?_
          simp only [wk0, wk1, wk2, wk3, wk4, wk5, wk6, wk7, wk8, wk9, wk10, Rw_op, Rw_opg, RwD_op, RwD_opg, Bool.cond_true, Bool.cond_false, if_true, if_false, implies_true, forall_const, eq_self, ne_eq, forall_eq, forall_eq', forall_eq_or_imp, exists_eq', bne_self_eq_false, dchk, meets, touchS, touchI, quietI, allocI, isCall, idsV, ch0, Nat.testBit, semI, binS, unS, nilS, aggS, eqLs, eqL, evT, evS, stripV, gOk, gAll, opsOf, boolV, apG, numd, prL, cellsV, isB, out1, fail, fillOb, fillL, replaceAt, rowsV, newV, boundV, intV, lcOf, lcA, scA, Va.bo, Va.i, Va.st, Ret, allOb, rvOut, convB, convBs, convC, convR, conv, unD, Nat.reduceAdd, Nat.reduceSub, Nat.reduceMul, Nat.reduceLeDiff, Nat.reduceEqDiff, Nat.reduceLT, Nat.reduceBEq, reduceIte, reduceCtorEq, Int.reduceToNat, fnV, argsV, touchO, evO, bareI, Nat.reduceShiftRight, Nat.reduceAnd, Nat.reduceBneDiff, Nat.reduceBNe, rv5]
    · refine .blk ?_
      refine W.loops (ι := { t : List SWr // rightL s t = true ∧ t.length ≤ 30 ∧ t.length ≤ ws.length }) (fun p => ⟨lkT [(2, .b (.s (.d (.sl (fs.map encI))))), (3, .b (.s (.ptr 3 1 0 0))), (7, .b (.s (.ptr 7 1 0 0))), (8, .b (.s (.own 35 p.val.length))), (36, .b (.s (.d (.sl (ws.map encW))))), (37, .i .i64 ws.length), (38, .i .i64 p.val.length)], lkG [(3, ⟨2, [[.d (.sl (s.map encS)), .nils]], false⟩), (7, ⟨2, [[.d (.sl (s.map encS)), (.d (.sl (p.val.map encW)))]], false⟩), (35, ⟨1, ((List.replicate p.val.length 1).map encI).map (fun r => r.map Lc.d), false⟩)]⟩) (fun p => ws.length - p.val.length) ⟨[], hr, by simp, by simp⟩ ?_ ?_
      · refine Imp.lk _ _ ?_ ?_ ?_ ?_
        all_goals
          simp only [wk0, wk1, wk2, wk3, wk4, wk5, wk6, wk7, wk8, wk9, wk10, Rw_op, Rw_opg, RwD_op, RwD_opg, Bool.cond_true, Bool.cond_false, if_true, if_false, implies_true, forall_const, eq_self, ne_eq, forall_eq, forall_eq', forall_eq_or_imp, exists_eq', bne_self_eq_false, dchk, meets, touchS, touchI, quietI, allocI, isCall, idsV, ch0, Nat.testBit, semI, binS, unS, nilS, aggS, eqLs, eqL, evT, evS, stripV, gOk, gAll, opsOf, boolV, apG, numd, prL, cellsV, isB, out1, fail, fillOb, fillL, replaceAt, rowsV, newV, boundV, intV, lcOf, lcA, scA, Va.bo, Va.i, Va.st, Ret, allOb, rvOut, convB, convBs, convC, convR, conv, unD, Nat.reduceAdd, Nat.reduceSub, Nat.reduceMul, Nat.reduceLeDiff, Nat.reduceEqDiff, Nat.reduceLT, Nat.reduceBEq, reduceIte, reduceCtorEq, Int.reduceToNat, fnV, argsV, touchO, evO, bareI, Nat.reduceShiftRight, Nat.reduceAnd, Nat.reduceBneDiff, Nat.reduceBNe, allT, allE, refsV, refsIn, refsC, Int.ofNat_zero, Int.natCast_zero, List.replicate_zero]
      · intro ⟨t, hrt, ht30, htw⟩ ih
        unfold c5l15
        refine .seq (Rw.walk ?_)
        simp only [wk0, wk1, wk2, wk3, wk4, wk5, wk6, wk7, wk8, wk9, wk10, Rw_op, Rw_opg, RwD_op, RwD_opg, Bool.cond_true, Bool.cond_false, if_true, if_false, implies_true, forall_const, eq_self, ne_eq, forall_eq, forall_eq', forall_eq_or_imp, exists_eq', bne_self_eq_false, dchk, meets, touchS, touchI, quietI, allocI, isCall, idsV, ch0, Nat.testBit, semI, binS, unS, nilS, aggS, eqLs, eqL, evT, evS, stripV, gOk, gAll, opsOf, boolV, apG, numd, prL, cellsV, isB, out1, fail, fillOb, fillL, replaceAt, rowsV, newV, boundV, intV, lcOf, lcA, scA, Va.bo, Va.i, Va.st, Ret, allOb, rvOut, convB, convBs, convC, convR, conv, unD, Nat.reduceAdd, Nat.reduceSub, Nat.reduceMul, Nat.reduceLeDiff, Nat.reduceEqDiff, Nat.reduceLT, Nat.reduceBEq, reduceIte, reduceCtorEq, Int.reduceToNat, fnV, argsV, touchO, evO, bareI, Nat.reduceShiftRight, Nat.reduceAnd, Nat.reduceBneDiff, Nat.reduceBNe, c5r7]
        by_cases hlt : t.length < ws.length
        · refine .seq (.cond rfl (fun h => ?_) (fun h => absurd h (by simp; omega)))
          refine .skip ?_
          refine .seq (.blk ?_)
          have hrow := getD_map encW ws t.length (0, []) [] hlt
          have hmem : ws.getD t.length (0, []) ∈ ws := getD_mem hlt
          revert hrow hmem
          generalize ws.getD t.length (0, []) = w
          intro hrow hmem
          have hww := (hw.2 w hmem).1
          obtain ⟨wa, wd⟩ := w
          simp only at hww
          refine .seq (Rw.walk ?_)
          simp only [wk0, wk1, wk2, wk3, wk4, wk5, wk6, wk7, wk8, wk9, wk10, Rw_op, Rw_opg, RwD_op, RwD_opg, Bool.cond_true, Bool.cond_false, if_true, if_false, implies_true, forall_const, eq_self, ne_eq, forall_eq, forall_eq', forall_eq_or_imp, exists_eq', bne_self_eq_false, dchk, meets, touchS, touchI, quietI, allocI, isCall, idsV, ch0, Nat.testBit, semI, binS, unS, nilS, aggS, eqLs, eqL, evT, evS, stripV, gOk, gAll, opsOf, boolV, apG, numd, prL, cellsV, isB, out1, fail, fillOb, fillL, replaceAt, rowsV, newV, boundV, intV, lcOf, lcA, scA, Va.bo, Va.i, Va.st, Ret, allOb, rvOut, convB, convBs, convC, convR, conv, unD, Nat.reduceAdd, Nat.reduceSub, Nat.reduceMul, Nat.reduceLeDiff, Nat.reduceEqDiff, Nat.reduceLT, Nat.reduceBEq, reduceIte, reduceCtorEq, Int.reduceToNat, fnV, argsV, touchO, evO, bareI, Nat.reduceShiftRight, Nat.reduceAnd, Nat.reduceBneDiff, Nat.reduceBNe, c5r8, hrow, encW]
          refine ⟨⟨by omega, by omega, encW_len ws⟩, ?_⟩
          refine .seq (.seq (Rw.walk ?_))
          simp only [wk0, wk1, wk2, wk3, wk4, wk5, wk6, wk7, wk8, wk9, wk10, Rw_op, Rw_opg, RwD_op, RwD_opg, Bool.cond_true, Bool.cond_false, if_true, if_false, implies_true, forall_const, eq_self, ne_eq, forall_eq, forall_eq', forall_eq_or_imp, exists_eq', bne_self_eq_false, dchk, meets, touchS, touchI, quietI, allocI, isCall, idsV, ch0, Nat.testBit, semI, binS, unS, nilS, aggS, eqLs, eqL, evT, evS, stripV, gOk, gAll, opsOf, boolV, apG, numd, prL, cellsV, isB, out1, fail, fillOb, fillL, replaceAt, rowsV, newV, boundV, intV, lcOf, lcA, scA, Va.bo, Va.i, Va.st, Ret, allOb, rvOut, convB, convBs, convC, convR, conv, unD, Nat.reduceAdd, Nat.reduceSub, Nat.reduceMul, Nat.reduceLeDiff, Nat.reduceEqDiff, Nat.reduceLT, Nat.reduceBEq, reduceIte, reduceCtorEq, Int.reduceToNat, fnV, argsV, touchO, evO, bareI, Nat.reduceShiftRight, Nat.reduceAnd, Nat.reduceBneDiff, Nat.reduceBNe, c5r9]
          refine .cond rfl (fun h => ?_) (fun h => ?_)
          · refine .exit rfl ?_
            refine .weak ?_ (tail ⟨t, hrt, ht30⟩)
            refine Imp.lk _ _ ?_ ?_ ?_ ?_
            all_goals
              simp only [wk0, wk1, wk2, wk3, wk4, wk5, wk6, wk7, wk8, wk9, wk10, Rw_op, Rw_opg, RwD_op, RwD_opg, Bool.cond_true, Bool.cond_false, if_true, if_false, implies_true, forall_const, eq_self, ne_eq, forall_eq, forall_eq', forall_eq_or_imp, exists_eq', bne_self_eq_false, dchk, meets, touchS, touchI, quietI, allocI, isCall, idsV, ch0, Nat.testBit, semI, binS, unS, nilS, aggS, eqLs, eqL, evT, evS, stripV, gOk, gAll, opsOf, boolV, apG, numd, prL, cellsV, isB, out1, fail, fillOb, fillL, replaceAt, rowsV, newV, boundV, intV, lcOf, lcA, scA, Va.bo, Va.i, Va.st, Ret, allOb, rvOut, convB, convBs, convC, convR, conv, unD, Nat.reduceAdd, Nat.reduceSub, Nat.reduceMul, Nat.reduceLeDiff, Nat.reduceEqDiff, Nat.reduceLT, Nat.reduceBEq, reduceIte, reduceCtorEq, Int.reduceToNat, fnV, argsV, touchO, evO, bareI, Nat.reduceShiftRight, Nat.reduceAnd, Nat.reduceBneDiff, Nat.reduceBNe, allT, allE, refsV, refsIn, refsC]
          · refine .skip ?_
            have h30 : t.length < 30 := by have := of_decide_eq_false h; omega
            refine .seq (RwD.walk ?_)
            simp only [wk0, wk1, wk2, wk3, wk4, wk5, wk6, wk7, wk8, wk9, wk10, Rw_op, Rw_opg, RwD_op, RwD_opg, Bool.cond_true, Bool.cond_false, if_true, if_false, implies_true, forall_const, eq_self, ne_eq, forall_eq, forall_eq', forall_eq_or_imp, exists_eq', bne_self_eq_false, dchk, meets, touchS, touchI, quietI, allocI, isCall, idsV, ch0, Nat.testBit, semI, binS, unS, nilS, aggS, eqLs, eqL, evT, evS, stripV, gOk, gAll, opsOf, boolV, apG, numd, prL, cellsV, isB, out1, fail, fillOb, fillL, replaceAt, rowsV, newV, boundV, intV, lcOf, lcA, scA, Va.bo, Va.i, Va.st, Ret, allOb, rvOut, convB, convBs, convC, convR, conv, unD, Nat.reduceAdd, Nat.reduceSub, Nat.reduceMul, Nat.reduceLeDiff, Nat.reduceEqDiff, Nat.reduceLT, Nat.reduceBEq, reduceIte, reduceCtorEq, Int.reduceToNat, fnV, argsV, touchO, evO, bareI, Nat.reduceShiftRight, Nat.reduceAnd, Nat.reduceBneDiff, Nat.reduceBNe, c5r10, IntWalk.u8_in _ (show 0 ≤ (t.length : Int) ∧ (t.length : Int) ≤ 255 by omega)]
            refine ⟨by omega, by omega, ?_⟩
            have hu8 : IntKind.u8.wrap (t.length : Int) = t.length := IntWalk.u8_in _ ⟨by omega, by omega⟩
            have hp := rem_in wa s.length (by omega) (by omega) hww
            have hwr : IntKind.i64.wrap (wa.tmod s.length + s.length) = wa.tmod s.length + s.length := by
              have h1 := Int.lt_tmod_of_pos wa (show (0 : Int) < s.length by omega)
              have h2 := Int.tmod_lt_of_pos wa (show (0 : Int) < s.length by omega)
              exact i64_in (by omega) (by omega)
            rw [hwr]
            generalize (wa.tmod s.length + s.length).tmod s.length = at_ at hp
            refine call_fun [] false ⟨trivial, trivial, trivial⟩ rfl ?_ (lawSector t.length (by omega) (by omega)) (fun _ => rfl) (by simp) ?_
            · simp only [wk0, wk1, wk2, wk3, wk4, wk5, wk6, wk7, wk8, wk9, wk10, Rw_op, Rw_opg, RwD_op, RwD_opg, Bool.cond_true, Bool.cond_false, if_true, if_false, implies_true, forall_const, eq_self, ne_eq, forall_eq, forall_eq', forall_eq_or_imp, exists_eq', bne_self_eq_false, dchk, meets, touchS, touchI, quietI, allocI, isCall, idsV, ch0, Nat.testBit, semI, binS, unS, nilS, aggS, eqLs, eqL, evT, evS, stripV, gOk, gAll, opsOf, boolV, apG, numd, prL, cellsV, isB, out1, fail, fillOb, fillL, replaceAt, rowsV, newV, boundV, intV, lcOf, lcA, scA, Va.bo, Va.i, Va.st, Ret, allOb, rvOut, convB, convBs, convC, convR, conv, unD, Nat.reduceAdd, Nat.reduceSub, Nat.reduceMul, Nat.reduceLeDiff, Nat.reduceEqDiff, Nat.reduceLT, Nat.reduceBEq, reduceIte, reduceCtorEq, Int.reduceToNat, fnV, argsV, touchO, evO, bareI, Nat.reduceShiftRight, Nat.reduceAnd, Nat.reduceBneDiff, Nat.reduceBNe]
            simp only [wk0, wk1, wk2, wk3, wk4, wk5, wk6, wk7, wk8, wk9, wk10, Rw_op, Rw_opg, RwD_op, RwD_opg, Bool.cond_true, Bool.cond_false, if_true, if_false, implies_true, forall_const, eq_self, ne_eq, forall_eq, forall_eq', forall_eq_or_imp, exists_eq', bne_self_eq_false, dchk, meets, touchS, touchI, quietI, allocI, isCall, idsV, ch0, Nat.testBit, semI, binS, unS, nilS, aggS, eqLs, eqL, evT, evS, stripV, gOk, gAll, opsOf, boolV, apG, numd, prL, cellsV, isB, out1, fail, fillOb, fillL, replaceAt, rowsV, newV, boundV, intV, lcOf, lcA, scA, Va.bo, Va.i, Va.st, Ret, allOb, rvOut, convB, convBs, convC, convR, conv, unD, Nat.reduceAdd, Nat.reduceSub, Nat.reduceMul, Nat.reduceLeDiff, Nat.reduceEqDiff, Nat.reduceLT, Nat.reduceBEq, reduceIte, reduceCtorEq, Int.reduceToNat, fnV, argsV, touchO, evO, bareI, Nat.reduceShiftRight, Nat.reduceAnd, Nat.reduceBneDiff, Nat.reduceBNe]
            have hsn := right_snoc (at_, sectL t.length) hrt (by omega) hp.1 hp.2 (by simp [sectL])
            refine call_fun [65] true ⟨trivial, trivial, trivial, trivial⟩ rfl ?_ (disk_Save s t [(at_, sectL t.length)] (by omega) (by omega) (by simp)) (fun h => by cases h) ?_ ?_
            · simp only [wk0, wk1, wk2, wk3, wk4, wk5, wk6, wk7, wk8, wk9, wk10, Rw_op, Rw_opg, RwD_op, RwD_opg, Bool.cond_true, Bool.cond_false, if_true, if_false, implies_true, forall_const, eq_self, ne_eq, forall_eq, forall_eq', forall_eq_or_imp, exists_eq', bne_self_eq_false, dchk, meets, touchS, touchI, quietI, allocI, isCall, idsV, ch0, Nat.testBit, semI, binS, unS, nilS, aggS, eqLs, eqL, evT, evS, stripV, gOk, gAll, opsOf, boolV, apG, numd, prL, cellsV, isB, out1, fail, fillOb, fillL, replaceAt, rowsV, newV, boundV, intV, lcOf, lcA, scA, Va.bo, Va.i, Va.st, Ret, allOb, rvOut, convB, convBs, convC, convR, conv, unD, Nat.reduceAdd, Nat.reduceSub, Nat.reduceMul, Nat.reduceLeDiff, Nat.reduceEqDiff, Nat.reduceLT, Nat.reduceBEq, reduceIte, reduceCtorEq, Int.reduceToNat, fnV, argsV, touchO, evO, bareI, Nat.reduceShiftRight, Nat.reduceAnd, Nat.reduceBneDiff, Nat.reduceBNe, aD, encD, encW]
            · simp only [wk0, wk1, wk2, wk3, wk4, wk5, wk6, wk7, wk8, wk9, wk10, Rw_op, Rw_opg, RwD_op, RwD_opg, Bool.cond_true, Bool.cond_false, if_true, if_false, implies_true, forall_const, eq_self, ne_eq, forall_eq, forall_eq', forall_eq_or_imp, exists_eq', bne_self_eq_false, dchk, meets, touchS, touchI, quietI, allocI, isCall, idsV, ch0, Nat.testBit, semI, binS, unS, nilS, aggS, eqLs, eqL, evT, evS, stripV, gOk, gAll, opsOf, boolV, apG, numd, prL, cellsV, isB, out1, fail, fillOb, fillL, replaceAt, rowsV, newV, boundV, intV, lcOf, lcA, scA, Va.bo, Va.i, Va.st, Ret, allOb, rvOut, convB, convBs, convC, convR, conv, unD, Nat.reduceAdd, Nat.reduceSub, Nat.reduceMul, Nat.reduceLeDiff, Nat.reduceEqDiff, Nat.reduceLT, Nat.reduceBEq, reduceIte, reduceCtorEq, Int.reduceToNat, fnV, argsV, touchO, evO, bareI, Nat.reduceShiftRight, Nat.reduceAnd, Nat.reduceBneDiff, Nat.reduceBNe]
            simp only [wk0, wk1, wk2, wk3, wk4, wk5, wk6, wk7, wk8, wk9, wk10, Rw_op, Rw_opg, RwD_op, RwD_opg, Bool.cond_true, Bool.cond_false, if_true, if_false, implies_true, forall_const, eq_self, ne_eq, forall_eq, forall_eq', forall_eq_or_imp, exists_eq', bne_self_eq_false, dchk, meets, touchS, touchI, quietI, allocI, isCall, idsV, ch0, Nat.testBit, semI, binS, unS, nilS, aggS, eqLs, eqL, evT, evS, stripV, gOk, gAll, opsOf, boolV, apG, numd, prL, cellsV, isB, out1, fail, fillOb, fillL, replaceAt, rowsV, newV, boundV, intV, lcOf, lcA, scA, Va.bo, Va.i, Va.st, Ret, allOb, rvOut, convB, convBs, convC, convR, conv, unD, Nat.reduceAdd, Nat.reduceSub, Nat.reduceMul, Nat.reduceLeDiff, Nat.reduceEqDiff, Nat.reduceLT, Nat.reduceBEq, reduceIte, reduceCtorEq, Int.reduceToNat, fnV, argsV, touchO, evO, bareI, Nat.reduceShiftRight, Nat.reduceAnd, Nat.reduceBneDiff, Nat.reduceBNe, frz, hsn.2, aD, encD, er]
            refine .seq (.seq (Rw.walk ?_))
            simp only [wk0, wk1, wk2, wk3, wk4, wk5, wk6, wk7, wk8, wk9, wk10, Rw_op, Rw_opg, RwD_op, RwD_opg, Bool.cond_true, Bool.cond_false, if_true, if_false, implies_true, forall_const, eq_self, ne_eq, forall_eq, forall_eq', forall_eq_or_imp, exists_eq', bne_self_eq_false, dchk, meets, touchS, touchI, quietI, allocI, isCall, idsV, ch0, Nat.testBit, semI, binS, unS, nilS, aggS, eqLs, eqL, evT, evS, stripV, gOk, gAll, opsOf, boolV, apG, numd, prL, cellsV, isB, out1, fail, fillOb, fillL, replaceAt, rowsV, newV, boundV, intV, lcOf, lcA, scA, Va.bo, Va.i, Va.st, Ret, allOb, rvOut, convB, convBs, convC, convR, conv, unD, Nat.reduceAdd, Nat.reduceSub, Nat.reduceMul, Nat.reduceLeDiff, Nat.reduceEqDiff, Nat.reduceLT, Nat.reduceBEq, reduceIte, reduceCtorEq, Int.reduceToNat, fnV, argsV, touchO, evO, bareI, Nat.reduceShiftRight, Nat.reduceAnd, Nat.reduceBneDiff, Nat.reduceBNe, c5r11, bne_self_eq_false]
            refine .cond rfl (fun h => by cases h) (fun h => ?_)
            refine .skip ?_
            refine RwD.walk ?_
            simp only [wk0, wk1, wk2, wk3, wk4, wk5, wk6, wk7, wk8, wk9, wk10, Rw_op, Rw_opg, RwD_op, RwD_opg, Bool.cond_true, Bool.cond_false, if_true, if_false, implies_true, forall_const, eq_self, ne_eq, forall_eq, forall_eq', forall_eq_or_imp, exists_eq', bne_self_eq_false, dchk, meets, touchS, touchI, quietI, allocI, isCall, idsV, ch0, Nat.testBit, semI, binS, unS, nilS, aggS, eqLs, eqL, evT, evS, stripV, gOk, gAll, opsOf, boolV, apG, numd, prL, cellsV, isB, out1, fail, fillOb, fillL, replaceAt, rowsV, newV, boundV, intV, lcOf, lcA, scA, Va.bo, Va.i, Va.st, Ret, allOb, rvOut, convB, convBs, convC, convR, conv, unD, Nat.reduceAdd, Nat.reduceSub, Nat.reduceMul, Nat.reduceLeDiff, Nat.reduceEqDiff, Nat.reduceLT, Nat.reduceBEq, reduceIte, reduceCtorEq, Int.reduceToNat, fnV, argsV, touchO, evO, bareI, Nat.reduceShiftRight, Nat.reduceAnd, Nat.reduceBneDiff, Nat.reduceBNe, c5r13]
            refine ⟨by omega, ?_⟩
            refine .eblk ?_
            refine Rw.walk ?_
            simp only [wk0, wk1, wk2, wk3, wk4, wk5, wk6, wk7, wk8, wk9, wk10, Rw_op, Rw_opg, RwD_op, RwD_opg, Bool.cond_true, Bool.cond_false, if_true, if_false, implies_true, forall_const, eq_self, ne_eq, forall_eq, forall_eq', forall_eq_or_imp, exists_eq', bne_self_eq_false, dchk, meets, touchS, touchI, quietI, allocI, isCall, idsV, ch0, Nat.testBit, semI, binS, unS, nilS, aggS, eqLs, eqL, evT, evS, stripV, gOk, gAll, opsOf, boolV, apG, numd, prL, cellsV, isB, out1, fail, fillOb, fillL, replaceAt, rowsV, newV, boundV, intV, lcOf, lcA, scA, Va.bo, Va.i, Va.st, Ret, allOb, rvOut, convB, convBs, convC, convR, conv, unD, Nat.reduceAdd, Nat.reduceSub, Nat.reduceMul, Nat.reduceLeDiff, Nat.reduceEqDiff, Nat.reduceLT, Nat.reduceBEq, reduceIte, reduceCtorEq, Int.reduceToNat, fnV, argsV, touchO, evO, bareI, Nat.reduceShiftRight, Nat.reduceAnd, Nat.reduceBneDiff, Nat.reduceBNe, c5r14]
            refine .weak ?_ (ih ⟨t ++ [(at_, sectL t.length)], hsn.1, by simp; omega, by simp; omega⟩ (by simp; omega))
            refine Imp.lk _ _ ?_ ?_ ?_ ?_
            all_goals
              simp only [wk0, wk1, wk2, wk3, wk4, wk5, wk6, wk7, wk8, wk9, wk10, Rw_op, Rw_opg, RwD_op, RwD_opg, Bool.cond_true, Bool.cond_false, if_true, if_false, implies_true, forall_const, eq_self, ne_eq, forall_eq, forall_eq', forall_eq_or_imp, exists_eq', bne_self_eq_false, dchk, meets, touchS, touchI, quietI, allocI, isCall, idsV, ch0, Nat.testBit, semI, binS, unS, nilS, aggS, eqLs, eqL, evT, evS, stripV, gOk, gAll, opsOf, boolV, apG, numd, prL, cellsV, isB, out1, fail, fillOb, fillL, replaceAt, rowsV, newV, boundV, intV, lcOf, lcA, scA, Va.bo, Va.i, Va.st, Ret, allOb, rvOut, convB, convBs, convC, convR, conv, unD, Nat.reduceAdd, Nat.reduceSub, Nat.reduceMul, Nat.reduceLeDiff, Nat.reduceEqDiff, Nat.reduceLT, Nat.reduceBEq, reduceIte, reduceCtorEq, Int.reduceToNat, fnV, argsV, touchO, evO, bareI, Nat.reduceShiftRight, Nat.reduceAnd, Nat.reduceBneDiff, Nat.reduceBNe, allT, allE, refsV, refsIn, refsC]
            · rw [i64_in (by omega) (by omega)]
              simp
            · rw [show (t ++ [(at_, sectL t.length)]).length = t.length + 1 by simp, List.replicate_succ', List.map_append, List.map_append]
              rfl
        · refine .seq (.cond rfl (fun h => absurd h (by simp; omega)) (fun h => ?_))
          refine .exit rfl ?_
          refine .weak ?_ (tail ⟨t, hrt, ht30⟩)
          refine Imp.lk _ _ ?_ ?_ ?_ ?_
          all_goals
            simp only [wk0, wk1, wk2, wk3, wk4, wk5, wk6, wk7, wk8, wk9, wk10, Rw_op, Rw_opg, RwD_op, RwD_opg, Bool.cond_true, Bool.cond_false, if_true, if_false, implies_true, forall_const, eq_self, ne_eq, forall_eq, forall_eq', forall_eq_or_imp, exists_eq', bne_self_eq_false, dchk, meets, touchS, touchI, quietI, allocI, isCall, idsV, ch0, Nat.testBit, semI, binS, unS, nilS, aggS, eqLs, eqL, evT, evS, stripV, gOk, gAll, opsOf, boolV, apG, numd, prL, cellsV, isB, out1, fail, fillOb, fillL, replaceAt, rowsV, newV, boundV, intV, lcOf, lcA, scA, Va.bo, Va.i, Va.st, Ret, allOb, rvOut, convB, convBs, convC, convR, conv, unD, Nat.reduceAdd, Nat.reduceSub, Nat.reduceMul, Nat.reduceLeDiff, Nat.reduceEqDiff, Nat.reduceLT, Nat.reduceBEq, reduceIte, reduceCtorEq, Int.reduceToNat, fnV, argsV, touchO, evO, bareI, Nat.reduceShiftRight, Nat.reduceAnd, Nat.reduceBneDiff, Nat.reduceBNe, allT, allE, refsV, refsIn, refsC]
end Go.Proofs.Ytjpomfbkfgkifaa.V
end

section
/- The row of the law DiskCrashes: for every input that the row speaks of the law returns true; each argument reads behind the call as it read before. -/
namespace Go.Proofs.Ytjpomfbkfgkifaa.diskCrashes
open Go.ChangeShapes Go.WideShapes Go.ChangeAt Go.RowKit Go.Proofs.Ytjpomfbkfgkifaa.V Go.Proofs.YtjpomfbkfgkifaaW.PrintWords
set_option linter.unusedVariables false
theorem own : ownKnob Try.prog.godebug = none := by kernel_rfl
theorem laidOut : laidOutB Try.prog = true := by kernel_rfl
set_option maxRecDepth 100000 in
theorem lifted (os : Os) (started : os.Started) (H : Type) (enc : TypeId × Value → H) :
    ReturnsInHanded {} Try.checked os 5 .any (Rows.diskCrashesSpec.pre6 enc Try.prog Try.f5 Rows.diskCrashesRow.domain false) (Rows.diskCrashesSpec.post enc Try.prog Try.f5 false true false false) := by
  refine returnsInHanded_of_change_sized (C := Try.checked) own started (by kernel_rfl) Try.func5
    (ChangeSpec.witness6 (enc := enc) (C := Try.checked) false ⟨#[], #[.agg #[.slice none 0 0, .slice none 0 0], .slice none 0 0, .slice none 0 0], []⟩ 8 (by kernel_rfl) (by kernel_rfl) (by kernel_rfl) (by kernel_rfl)) ?_
  intro W base args ds gs before hval0 hW hcnd hsz0 _
  have hsz : (DataW.weightsEach Try.prog (Try.f5.params.toList ++ Rows.diskCrashesSpec.plain.varTypes Try.prog) (ds ++ gs)).all (· ≤ reachBytes) = true := hsz0
  have hval : ∀ (j : Nat) t v, Try.f5.params[j]? = some t → args[j]? = some v → Value.okWide Try.prog W .any base t v := hval0
  have hW' := hW
  obtain ⟨p, q, hA0, hV, rfl, hfz, hnd⟩ := hW
  have hA : DataW.TrodAll enc Try.prog W 0 (fun _ => true) true Try.f5.params.toList args.toList ds p := hA0
  rw [Try.params5] at hA hval hsz
  obtain ⟨v0, vs0, d0, ds0, p0, q0, hargs, rfl, rfl, h0, r0⟩ := trodAll_cons hA
  obtain ⟨v1, vs1, d1, ds1, p1, q1, rfl, rfl, rfl, h1, r1⟩ := trodAll_cons r0
  obtain ⟨v2, vs2, d2, ds2, p2, q2, rfl, rfl, rfl, h2, r2⟩ := trodAll_cons r1
  obtain ⟨rfl, rfl, rfl⟩ := trodAll_nil r2
  obtain rfl : args = #[v0, v1, v2] := by cases args; simp_all
  obtain ⟨rfl, rfl⟩ := trodVars_none hV
  have k0 := h0
  have lt0 : ∀ x ∈ p0, x.block < W.heap.size := by obtain ⟨m, hm⟩ := k0; exact DataW.trod_lt m _ _ _ hm
  obtain ⟨a0, e0, w0⟩ := arg_struct Try.underlying25 ops_Disk (hval 0 25 v0 rfl rfl) h0
  have k1 := h1
  have lt1 : ∀ x ∈ p1, x.block < W.heap.size := by obtain ⟨m, hm⟩ := k1; exact DataW.trod_lt m _ _ _ hm
  obtain ⟨a1, e1, w1⟩ := arg_slice Try.underlying23 (ops_slice (e := 36) (by kernel_rfl) (by kernel_rfl) (by decide) ops_Write) (hval 1 23 v1 rfl rfl) h1
  have k2 := h2
  have lt2 : ∀ x ∈ p2, x.block < W.heap.size := by obtain ⟨m, hm⟩ := k2; exact DataW.trod_lt m _ _ _ hm
  obtain ⟨a2, e2, w2⟩ := arg_slice Try.underlying27 (ops_slice (e := 3) (by kernel_rfl) (by kernel_rfl) (by decide) (ops_int (by kernel_rfl))) (hval 2 27 v2 rfl rfl) h2
  refine (Fun.law (xs := [_, _, _]) (vs := [v0, v1, v2]) (w := W) (diskCrashes_fun a0 a1 a2 w0 w1 w2) ⟨e0, e1, e2, trivial⟩).mono fun e W' ⟨he, bel⟩ => ?_
  subst he
  exact ⟨_, rfl, _, _, _, [], _, [], hW', trodAll_mk1 (shut_bool Try.underlying4 _), (trodAll_cons_mk (Below.trod laidOut (by kernel_rfl) (of_decide_eq_true (by kernel_rfl)) k0 bel lt0) (trodAll_cons_mk (Below.trod laidOut (by kernel_rfl) (of_decide_eq_true (by kernel_rfl)) k1 bel lt1) (trodAll_cons_mk (Below.trod laidOut (by kernel_rfl) (of_decide_eq_true (by kernel_rfl)) k2 bel lt2) trodAll_mk0))), rfl, bel.frame _, fun h => by cases h⟩
theorem over : Rows.diskCrashesRow.holds Try.pinned (OpenSpec.ofChange Rows.diskCrashesSpec) :=
  OpenClaim.holds_of_wide 5 Try.f5 rfl rfl rfl rfl rfl rfl rfl ⟨rfl, rfl, rfl, rfl, rfl⟩ rfl rfl rfl rfl rfl (by kernel_rfl) Try.func5 (by kernel_rfl)
    (of_decide_eq_true (by kernel_rfl)) (by unfold Func.isWrapper; first | (rw [if_pos (by decide +kernel)]; kernel_rfl) | (rw [if_neg (by decide +kernel)]; exact ⟨rfl, rfl⟩))
    (fun os started H enc _ => lifted os started H enc)
theorem proved : Rows.DiskCrashesSaid := over
end Go.Proofs.Ytjpomfbkfgkifaa.diskCrashes
namespace Go.Proofs.Ytjpomfbkfgkifaa
/-- The row, under a short name, for the claim. -/
theorem diskCrashes_holds : Rows.DiskCrashesSaid := diskCrashes.proved
#print axioms diskCrashes_holds
end Go.Proofs.Ytjpomfbkfgkifaa
end
