/- The row of the law LedgerFills: for every input that the row speaks of the law returns true; each argument reads behind the call as it read before. -/
import Derived.Test.YtjhelpeglgigbaaQLedgerFillsF
import Derived.Test.YtjhelpeglgigbaaQLedgerFillsC
import Derived.Below
import Derived.OwnWalk
import Derived.Orders
import Derived.WalkKit
import Derived.Laws.Slices
import Derived.LaidMore
import Derived.FnData
import Derived.Test.YtjhelpeglgigbaaRows
import Derived.ProofKit
import Derived.OpenShut
import Derived.ShutString
import Derived.ChangeOld
import Derived.SizedLaws
import Derived.SliceStrings
import Derived.Carry
import Derived.KernelRfl
import Derived.Test.YtjhelpeglgigbaaWSized
section
/- Ledger: what Steps, Add and Renew come to. -/
namespace Go.Proofs.Ytjhelpeglgigbaa.V.M
set_option linter.unusedVariables false
set_option linter.unusedSimpArgs false
open Go Go.RowKit
abbrev ledR (d : api_Disk) (half gen used : Nat) (es : List Str) : api_Ledger := api_Ledger.mk d (half : Int) (gen : Int) (used : Int) es
theorem right_led {d : api_Disk} {half gen used : Nat} {es : List Str} (h : Led d half gen used es) : f_ledger_Right (ledR d half gen used es) = some true := by
  have := h.ok.hi
  rw [lright_ok _ (by show d.Sectors.length < _; omega) (by show d.Dirty.length < _; rw [h.dirty]; decide), h.openS]
  simp [rrB]
/-- Where an Add, or a Renew, goes: which half, which generation, behind how much. -/
def goS (renew : Bool) (half gen used : Nat) : Nat × Nat × Nat := if renew then (1 - half, gen + 1, 0) else (half, gen, used)
def fullP (d : api_Disk) (g : Nat × Nat × Nat) (len : Nat) : Prop := 128 * (hf d - 1) < g.2.2 + len ∨ 1099511627776 < g.2.1
instance (d : api_Disk) (g : Nat × Nat × Nat) (len : Nat) : Decidable (fullP d g len) := inferInstanceAs (Decidable (_ ∨ _))
theorem go_le {d : api_Disk} {half gen used : Nat} {es : List Str} (h : Led d half gen used es) (renew : Bool) : (goS renew half gen used).1 ≤ 1 ∧ (goS renew half gen used).2.2 ≤ 128 * (hf d - 1) ∧ (goS renew half gen used).2.1 ≤ 1099511627777 := by
  have := h.half_le; have := h.used_le; have := h.gen_le
  unfold goS; split
  · exact ⟨by dsimp only; omega, by dsimp only; omega, by dsimp only; omega⟩
  · exact ⟨by dsimp only; omega, by dsimp only; omega, by dsimp only; omega⟩
theorem go_bind {d : api_Disk} {half gen used : Nat} {es : List Str} (h : Led d half gen used es) (renew : Bool) {α : Type} (k : Int × Int × Int → Option α) :
    (Option.bind (if renew then some ((IntKind.i64.wrap (1 - (half : Int))), (IntKind.i64.wrap ((gen : Int) + 1)), (0 : Int)) else some ((half : Int), (gen : Int), (used : Int))) k) = k (((goS renew half gen used).1 : Int), ((goS renew half gen used).2.1 : Int), ((goS renew half gen used).2.2 : Int)) := by
  have := h.half_le; have := h.used_le; have := h.gen_le
  cases renew with
  | true =>
    rw [if_pos rfl, Option.bind_some, w_i64 (n := 1 - (half : Int)) (by omega) (by omega), w_i64 (n := (gen : Int) + 1) (by omega) (by omega)]
    show k _ = k (((1 - half : Nat) : Int), ((gen + 1 : Nat) : Int), ((0 : Nat) : Int))
    congr 2; omega
  | false => rfl
theorem steps_go {d : api_Disk} {half gen used : Nat} {es : List Str} (h : Led d half gen used es) (renew : Bool) (news : List Str) (hn : news.length ≤ 66) :
    f_ledger_Steps (ledR d half gen used es) renew news = some (if ¬ mayP news then ([], 2) else if fullP d (goS renew half gen used) (bindP news).length then ([], 13) else (layS d (goS renew half gen used).1 (goS renew half gen used).2.1 (goS renew half gen used).2.2 (bindP news), 0)) := by
  have hl := hf_le h.ok
  have hg := go_le h renew
  unfold f_ledger_Steps
  rw [right_led h, Option.bind_some, if_neg (by decide), bind_ok _ hn, Option.bind_some]
  by_cases c : mayP news
  · rw [bindR_may c, if_neg (show ¬ (((0 : Int) != 0) = true) by decide), if_neg (show ¬ ¬ mayP news from fun h => h c)]
    dsimp only
    rw [go_bind h]
    have hb := bindP_le news c.2
    generalize goS renew half gen used = g at hg
    rw [room_ok d h.ok _ hg.1, Option.bind_some]
    dsimp only
    have hr := roomS_len h.ok hg.1
    rw [hr, w_i64 (by omega) (by omega)]
    by_cases f : fullP d g (bindP news).length
    · rw [if_pos f, if_pos (by unfold fullP at f; simp; omega)]
    · rw [if_neg f, if_neg (by unfold fullP at f; simp; omega), lay_ok d h.ok _ hg.1 _ _ (by omega) _ (by unfold fullP at f; omega)]; rfl
  · rw [bindR_not c, if_pos (by decide), if_pos c]
theorem save_flush (d : api_Disk) (h : OkD d) (hd : d.Dirty = []) (l : List api_Write) (hl : ∀ w ∈ l, GoodW d.Sectors.length w) (hn : l.length ≤ 200) :
    f_disk_Save (api_Disk.mk d.Sectors d.Dirty) l = some (api_Disk.mk d.Sectors l, 0) ∧ f_disk_Flush (api_Disk.mk d.Sectors l) = some (mkD (endS (fun _ => 1) 0 l d.Sectors), 0) := by
  have e := save_ok d h (by rw [hd]; intro w hw; cases hw) l hl (by rw [hd]; simpa using hn)
  rw [hd, List.nil_append] at e
  rw [hd]
  refine ⟨?_, flush_ok (api_Disk.mk d.Sectors l) ⟨h.lo, h.hi, hn, h.sect⟩ hl⟩
  obtain ⟨S, D⟩ := d
  subst hd
  exact e
theorem head_good (d : api_Disk) (h : OkD d) {half : Nat} (hh : half ≤ 1) (g u : Nat) : ∀ w ∈ [api_Write.mk ((half * hf d : Nat) : Int) (headS g u)], GoodW d.Sectors.length w := by
  have hl := hf_le h
  have hm := half_mul_le (d := d) hh
  intro w hw
  obtain rfl := List.mem_singleton.mp hw
  exact ⟨by dsimp only; omega, by dsimp only; omega, headS_len g u⟩
theorem done11_ok (d : api_Disk) (h : OkD d) (hd : d.Dirty = []) (half gen used : Nat) (hh : half ≤ 1) (s : Str) (hu : used + s.length ≤ 128 * (hf d - 1)) (e : Int) :
    f_ledger_done_l11 (layS d half gen used s, e) 3 0 d.Sectors d.Dirty = some (2, (newD d half gen used s).Sectors, []) := by
  have hl := hf_le h
  have q1 := save_flush d h hd (if s = [] then [] else outW (half * hf d) used s.length (thenS (roomS d half) used s)) (outW_good d h hh hu) (by split; decide; exact Nat.le_trans (outW_num _ _ _ _ (by omega)) (by decide))
  have h2 : OkD (mkD (crashS (fun _ => 1) d half used s)) := okD_mk h (crash_len ..) (crash_sect _ d h hh hu)
  have hf2 : hf (mkD (crashS (fun _ => 1) d half used s)) = hf d := hf_mk (crash_len ..)
  have q2 := save_flush (mkD (crashS (fun _ => 1) d half used s)) h2 rfl [api_Write.mk ((half * hf d : Nat) : Int) (headS gen (used + s.length))] (by have := head_good _ h2 hh gen (used + s.length); rwa [hf2] at this) (by simp)
  have w1 : IntKind.i64.wrap ((0 : Int) + 1) = 1 := by decide
  have w2 : IntKind.i64.wrap ((1 : Int) + 1) = 2 := by decide
  rw [f_ledger_done_l11, if_pos (by simp [layS]), show ix (layS d half gen used s, e).1 0 = some (if s = [] then [] else outW (half * hf d) used s.length (thenS (roomS d half) used s)) from rfl, Option.bind_some, q1.1, Option.bind_some]
  dsimp only
  rw [q1.2, Option.bind_some, w1, f_ledger_done_l11, if_pos (by simp [layS]), show ix (layS d half gen used s, e).1 1 = some [api_Write.mk ((half * hf d : Nat) : Int) (headS gen (used + s.length))] from rfl, Option.bind_some]
  have q21 := q2.1
  have q22 := q2.2
  dsimp only [mkD] at q21 q22 ⊢
  rw [show endS (fun _ => 1) 0 (if s = [] then [] else outW (half * hf d) used s.length (thenS (roomS d half) used s)) d.Sectors = crashS (fun _ => 1) d half used s from rfl, q21, Option.bind_some]
  dsimp only
  rw [q22, Option.bind_some, w2, f_ledger_done_l11, if_neg (by simp [layS])]
  rfl
/-- What an Add, or a Renew, comes to. -/
def doneS (d : api_Disk) (half gen used : Nat) (es : List Str) (renew : Bool) (news : List Str) : api_Ledger × Int :=
  if ¬ mayP news then (zeroL, 2) else if fullP d (goS renew half gen used) (bindP news).length then (zeroL, 13)
  else (ledR (newD d (goS renew half gen used).1 (goS renew half gen used).2.1 (goS renew half gen used).2.2 (bindP news)) (goS renew half gen used).1 (goS renew half gen used).2.1 ((goS renew half gen used).2.2 + (bindP news).length) (if renew then news else es ++ news), 0)
theorem Led.go {d : api_Disk} {half gen used : Nat} {es : List Str} (h : Led d half gen used es) (renew : Bool) {news : List Str} (hm : mayP news) (hf_ : ¬ fullP d (goS renew half gen used) (bindP news).length) :
    Led (newD d (goS renew half gen used).1 (goS renew half gen used).2.1 (goS renew half gen used).2.2 (bindP news)) (goS renew half gen used).1 (goS renew half gen used).2.1 ((goS renew half gen used).2.2 + (bindP news).length) (if renew then news else es ++ news) := by
  cases renew with
  | true =>
    have f2 : ¬ (128 * (hf d - 1) < 0 + (bindP news).length ∨ 1099511627776 < gen + 1) := hf_
    exact h.renew hm.2 (by omega) (by omega)
  | false =>
    have f2 : ¬ (128 * (hf d - 1) < used + (bindP news).length ∨ 1099511627776 < gen) := hf_
    exact h.add hm.2 (by omega)
theorem done_go {d : api_Disk} {half gen used : Nat} {es : List Str} (h : Led d half gen used es) (renew : Bool) (news : List Str) (hn : news.length ≤ 66) :
    f_ledger_done (ledR d half gen used es) renew news = some (doneS d half gen used es renew news) := by
  have hg := go_le h renew
  unfold f_ledger_done doneS
  rw [steps_go h renew news hn, Option.bind_some]
  by_cases c : mayP news
  · by_cases f : fullP d (goS renew half gen used) (bindP news).length
    · rw [if_neg (show ¬ ¬ mayP news from fun h => h c), if_neg (show ¬ ¬ mayP news from fun h => h c), if_pos f, if_pos f]; rfl
    · have hgo := h.go renew c f
      rw [if_neg (show ¬ ¬ mayP news from fun h => h c), if_neg (show ¬ ¬ mayP news from fun h => h c), if_neg f, if_neg f, if_neg (show ¬ (((0 : Int) != 0) = true) by decide)]
      have e := done11_ok d h.ok h.dirty (goS renew half gen used).1 (goS renew half gen used).2.1 (goS renew half gen used).2.2 hg.1 (bindP news) (by unfold fullP at f; omega) 0
      dsimp only
      rw [show ((((layS d (goS renew half gen used).1 (goS renew half gen used).2.1 (goS renew half gen used).2.2 (bindP news)).length : Int) : Int) - 0).toNat + 1 = 3 from rfl, e, Option.bind_some]
      dsimp only
      rw [show api_Disk.mk (newD d (goS renew half gen used).1 (goS renew half gen used).2.1 (goS renew half gen used).2.2 (bindP news)).Sectors [] = newD d (goS renew half gen used).1 (goS renew half gen used).2.1 (goS renew half gen used).2.2 (bindP news) from rfl]
      have hi := hgo.ok.hi
      rw [open_ok _ (by omega) (by rw [hgo.dirty]; decide), hgo.openS, Option.bind_some]
  · rw [if_pos c, if_pos c]; rfl
theorem add_go {d : api_Disk} {half gen used : Nat} {es : List Str} (h : Led d half gen used es) (news : List Str) (hn : news.length ≤ 66) :
    f_ledger_Add (ledR d half gen used es) news = some (doneS d half gen used es false news) := by
  unfold f_ledger_Add; rw [done_go h false news hn]; rfl
theorem renew_go {d : api_Disk} {half gen used : Nat} {es : List Str} (h : Led d half gen used es) (news : List Str) (hn : news.length ≤ 66) :
    f_ledger_Renew (ledR d half gen used es) news = some (doneS d half gen used es true news) := by
  unfold f_ledger_Renew; rw [done_go h true news hn]; rfl
end Go.Proofs.Ytjhelpeglgigbaa.V.M
end

section
/- Ledger: the empty one; what the laws share. -/
namespace Go.Proofs.Ytjhelpeglgigbaa.V.M
set_option linter.unusedVariables false
set_option linter.unusedSimpArgs false
open Go Go.RowKit
def fmtD (n : Nat) : api_Disk := mkD ((List.replicate n (List.replicate 128 0)).set 0 (headS 1 0))
theorem fmtD_len (n : Nat) : (fmtD n).Sectors.length = n := by show (List.set _ _ _).length = _; simp
theorem fmtD_hf (n : Nat) : hf (fmtD n) = n / 2 := by unfold hf; rw [fmtD_len]
theorem fmtD_0 {n : Nat} (h : 4 ≤ n) : (fmtD n).Sectors[0]? = some (headS 1 0) := by
  show (List.set _ _ _)[0]? = _; rw [List.getElem?_set_self (by simp; omega)]
theorem fmtD_i {n i : Nat} (h : i < n) (h0 : 0 < i) : (fmtD n).Sectors[i]? = some (List.replicate 128 0) := by
  show (List.set _ _ _)[i]? = _; rw [List.getElem?_set_ne (by omega), List.getElem?_replicate, if_pos h]
theorem fmtD_ok {n : Nat} (h1 : 4 ≤ n) (h2 : n ≤ 64) : OkD (fmtD n) :=
  ⟨by rw [fmtD_len]; exact h1, by rw [fmtD_len]; exact h2, by show 0 ≤ 200; decide, set_sect (fun s hs => by rw [(List.mem_replicate.mp hs).2]; simp) _ (headS_len 1 0)⟩
theorem fmt_sec0 {n : Nat} (h1 : 4 ≤ n) : secS (fmtD n) 0 = headS 1 0 := by rw [secS_get, Nat.zero_mul, fmtD_0 h1]; rfl
theorem fmt_sec1 {n : Nat} (h1 : 4 ≤ n) : secS (fmtD n) 1 = List.replicate 128 0 := by rw [secS_get, Nat.one_mul, fmtD_hf, fmtD_i (by omega) (by omega)]; rfl
theorem fmt_tells1 {n : Nat} (h1 : 4 ≤ n) : tellsS (fmtD n) 1 = (0, 0) := by
  unfold tellsS toldB
  rw [fmt_sec1 h1, show genN (List.replicate 128 0) = 0 by decide]
  rfl
theorem fmt_led {n : Nat} (h1 : 4 ≤ n) (h2 : n ≤ 64) : Led (fmtD n) 0 1 0 [] := by
  refine ⟨fmtD_ok h1 h2, rfl, pick_of (by decide) (tells_head (fmt_sec0 h1) (by decide) (by decide) (Nat.zero_le _) (by decide)) (fun _ => by rw [fmt_tells1 h1]; decide) (by omega), by decide, ?_⟩
  rw [List.take_zero]; rfl
theorem fmt_clean {n : Nat} (h1 : 4 ≤ n) (h2 : n ≤ 64) {half : Nat} (hh : half ≤ 1) : clean (roomS (fmtD n) half) 0 := by
  intro i _ hi
  have hok := fmtD_ok h1 h2
  have hm := half_mul_le (d := fmtD n) hh
  have hfn := fmtD_hf n
  rw [roomS_len hok hh] at hi
  rw [room_get _ hok hh i hi, fmtD_i (by omega) (by omega), Option.bind_some, List.getElem?_replicate, if_pos (by omega)]
theorem format_ok (n : Nat) (h1 : 4 ≤ n) (h2 : n ≤ 64) : f_ledger_Format (n : Int) = some (ledR (fmtD n) 0 1 0 [], 0) := by
  unfold f_ledger_Format
  have e : f_ledger_head 1 0 = some (headS 1 0) := head_ok 1 0 (by decide) (by decide)
  rw [if_pos (by omega), e, Option.bind_some, Int.toNat_natCast]
  show f_ledger_Open (fmtD n) = _
  have h := fmt_led h1 h2
  have hl := fmtD_len n
  rw [open_ok _ (by omega) (by rw [h.dirty]; decide), h.openS]
theorem clamp_ok (lo hi : Nat) (x : Int) (h : lo ≤ hi) : ∃ n : Nat, lo ≤ n ∧ n ≤ hi ∧ (if (hi : Int) < (if x < (lo : Int) then (lo : Int) else x) then (hi : Int) else (if x < (lo : Int) then (lo : Int) else x)) = (n : Int) := by
  by_cases a : x < (lo : Int)
  · rw [if_pos a, if_neg (by omega)]; exact ⟨lo, by omega, by omega, rfl⟩
  · rw [if_neg a]
    by_cases b : (hi : Int) < x
    · rw [if_pos b]; exact ⟨hi, by omega, by omega, rfl⟩
    · rw [if_neg b]; exact ⟨x.toNat, by omega, by omega, by omega⟩
theorem Led.ent_len {d : api_Disk} {half gen used : Nat} {es : List Str} (h : Led d half gen used es) : es.length ≤ 4000 := by
  have hl := hf_le h.ok
  have hu := h.used_le
  have e := h.ent
  unfold entS at e
  have := entG_len _ _ _ _ e
  rw [List.length_take, List.length_nil] at this
  omega
theorem Led.open_f {d : api_Disk} {half gen used : Nat} {es : List Str} (h : Led d half gen used es) : f_ledger_Open d = some (ledR d half gen used es, 0) := by
  have := h.ok.hi
  rw [open_ok _ (by omega) (by rw [h.dirty]; decide), h.openS]
theorem doneS_long {d : api_Disk} {half gen used : Nat} {es : List Str} {renew : Bool} {news : List Str} (h : ¬ mayP news) : doneS d half gen used es renew news = (zeroL, 2) := by unfold doneS; rw [if_pos h]
theorem doneS_full {d : api_Disk} {half gen used : Nat} {es : List Str} {renew : Bool} {news : List Str} (h : mayP news) (hf_ : fullP d (goS renew half gen used) (bindP news).length) : doneS d half gen used es renew news = (zeroL, 13) := by
  unfold doneS; rw [if_neg (show ¬ ¬ mayP news from fun h2 => h2 h), if_pos hf_]
theorem doneS_may {d : api_Disk} {half gen used : Nat} {es : List Str} {renew : Bool} {news : List Str} (h : mayP news) (hf_ : ¬ fullP d (goS renew half gen used) (bindP news).length) : doneS d half gen used es renew news =
    (ledR (newD d (goS renew half gen used).1 (goS renew half gen used).2.1 (goS renew half gen used).2.2 (bindP news)) (goS renew half gen used).1 (goS renew half gen used).2.1 ((goS renew half gen used).2.2 + (bindP news).length) (if renew then news else es ++ news), 0) := by
  unfold doneS; rw [if_neg (show ¬ ¬ mayP news from fun h2 => h2 h), if_neg hf_]
/-- Three ways. -/
theorem doneS_cases {d : api_Disk} {half gen used : Nat} {es : List Str} (h : Led d half gen used es) (renew : Bool) (news : List Str) :
    (doneS d half gen used es renew news = (zeroL, 2) ∨ doneS d half gen used es renew news = (zeroL, 13)) ∨
    ∃ d2 half2 gen2 used2, Led d2 half2 gen2 used2 (if renew then news else es ++ news) ∧ doneS d half gen used es renew news = (ledR d2 half2 gen2 used2 (if renew then news else es ++ news), 0) := by
  by_cases m : mayP news
  · by_cases f : fullP d (goS renew half gen used) (bindP news).length
    · exact .inl (.inr (doneS_full m f))
    · exact .inr ⟨_, _, _, _, h.go renew m f, doneS_may m f⟩
  · exact .inl (.inl (doneS_long m))
abbrev tupL (p : api_Ledger × Int) : Int × (List Str) × (List api_Write) × Int × Int × Int × (List Str) := (p.2, p.1.Disk.Sectors, p.1.Disk.Dirty, p.1.Half, p.1.Gen, p.1.Used, p.1.Entries)
theorem either_go {d : api_Disk} {half gen used : Nat} {es : List Str} (h : Led d half gen used es) (renew : Bool) (news : List Str) (hn : news.length ≤ 66) {α : Type} (k : Int × (List Str) × (List api_Write) × Int × Int × Int × (List Str) → Option α) :
    (Option.bind (if renew then (f_ledger_Renew (api_Ledger.mk (api_Disk.mk d.Sectors d.Dirty) (half : Int) (gen : Int) (used : Int) es) news).bind fun t3 => some (t3.2, t3.1.Disk.Sectors, t3.1.Disk.Dirty, t3.1.Half, t3.1.Gen, t3.1.Used, t3.1.Entries)
      else (f_ledger_Add (api_Ledger.mk (api_Disk.mk d.Sectors d.Dirty) (half : Int) (gen : Int) (used : Int) es) news).bind fun t3 => some (t3.2, t3.1.Disk.Sectors, t3.1.Disk.Dirty, t3.1.Half, t3.1.Gen, t3.1.Used, t3.1.Entries)) k) = k (tupL (doneS d half gen used es renew news)) := by
  cases renew with
  | true =>
    have e : f_ledger_Renew (api_Ledger.mk (api_Disk.mk d.Sectors d.Dirty) (half : Int) (gen : Int) (used : Int) es) news = some (doneS d half gen used es true news) := renew_go h news hn
    rw [if_pos rfl, e]; rfl
  | false =>
    have e : f_ledger_Add (api_Ledger.mk (api_Disk.mk d.Sectors d.Dirty) (half : Int) (gen : Int) (used : Int) es) news = some (doneS d half gen used es false news) := add_go h news hn
    rw [if_neg (by decide), e]; rfl
theorem same_refl (l : List Str) (h : l.length ≤ 1000000) : f_ref01_Same l l = some true := by rw [same_ok _ _ (by omega)]; simp
end Go.Proofs.Ytjhelpeglgigbaa.V.M
end

section
/- Ledger: the laws LedgerGoes, LedgerHalves, LedgerOrder. -/
namespace Go.Proofs.Ytjhelpeglgigbaa.V.M
set_option linter.unusedVariables false
set_option linter.unusedSimpArgs false
open Go Go.RowKit
theorem goes26_ok (rows : List (List Str)) (renews : List Bool) (t : api_Ledger × Int) (k : Nat) : ∀ (v m : Nat) (d : api_Disk) (half gen used : Nat) (es : List Str), Led d half gen used es → v + k = rows.length → k < m →
    ∃ z, f_law10_LedgerGoes_l26 rows renews t m es (v : Int) d.Sectors d.Dirty half gen used es = some (.inl z) := by
  induction k with
  | zero =>
    intro v m d half gen used es h hv hm
    obtain ⟨m, rfl⟩ : ∃ k, m = k + 1 := ⟨m - 1, by omega⟩
    rw [f_law10_LedgerGoes_l26, if_neg (by simp; omega)]
    exact ⟨_, rfl⟩
  | succ k ih =>
    intro v m d half gen used es h hv hm
    obtain ⟨m, rfl⟩ : ∃ k, m = k + 1 := ⟨m - 1, by omega⟩
    rw [f_law10_LedgerGoes_l26, if_pos (by simp; omega), ix_nat, List.getElem?_eq_getElem (by omega), Option.bind_some]
    by_cases c : v ≥ 16
    · rw [if_pos (by simp; omega)]
      exact ⟨_, rfl⟩
    · have hx := fewL_len (rows[v]'(by omega))
      rw [if_neg (by simp; omega), texts_ok, Option.bind_some]
      generalize fewL (rows[v]'(by omega)) = x at hx
      obtain ⟨b, eb⟩ : ∃ b, gx (decide ((v : Int) < (renews.length : Int))) (ix renews (v : Int)) default = some b := by
        by_cases c2 : v < renews.length
        · rw [decide_eq_true (by omega), ix_nat, List.getElem?_eq_getElem c2]; exact ⟨_, rfl⟩
        · rw [decide_eq_false (by omega)]; exact ⟨_, rfl⟩
      rw [eb, Option.bind_some]
      generalize ((decide ((v : Int) < (renews.length : Int))) && b) = renew
      rw [either_go h renew x hx, w_s (by omega)]
      have go := fun d2 h2 g2 u2 es2 (q : Led d2 h2 g2 u2 es2) => ih (v + 1) m d2 h2 g2 u2 es2 q (by omega) (by omega)
      have hes := h.ent_len
      rcases doneS_cases h renew x with (a | a) | ⟨d2, h2, g2, u2, q, a⟩
      · rw [a, if_pos (show (((2 : Int) != 0) = true) by decide), if_neg (show ¬ ((((2 : Int) != 13) && ((2 : Int) != 2)) = true) by decide)]
        exact go _ _ _ _ _ h
      · rw [a, if_pos (show (((13 : Int) != 0) = true) by decide), if_neg (show ¬ ((((13 : Int) != 13) && ((13 : Int) != 2)) = true) by decide)]
        exact go _ _ _ _ _ h
      · rw [a, if_neg (show ¬ (((0 : Int) != 0) = true) by decide), gd_t _ (by omega), gd_t _ (by rw [List.nil_append]; omega)]
        have es2 : (if renew = true then some x else some (([] : List Str) ++ es ++ x)) = some (if renew then x else es ++ x) := by cases renew <;> rfl
        have ql := q.ent_len
        rw [es2, Option.bind_some]
        generalize (if renew = true then x else es ++ x) = e2 at q ql
        dsimp only
        rw [show f_ledger_Open (api_Disk.mk d2.Sectors d2.Dirty) = some (ledR d2 h2 g2 u2 e2, 0) from q.open_f, Option.bind_some]
        dsimp only
        rw [same_refl _ (by omega), show f_ledger_Right (api_Ledger.mk (api_Disk.mk d2.Sectors d2.Dirty) (h2 : Int) (g2 : Int) (u2 : Int) e2) = some true from right_led q]
        exact go _ _ _ _ _ q
theorem ledgerGoes_true (sectors : Int) (rows : List (List Str)) (renews : List Bool) : f_law10_LedgerGoes sectors rows renews = some true := by
  obtain ⟨n, n1, n2, en⟩ := clamp_ok 4 64 sectors (by decide)
  unfold f_law10_LedgerGoes
  rw [show (if 64 < (if sectors < 4 then 4 else sectors) then 64 else (if sectors < 4 then 4 else sectors)) = (n : Int) from en, Option.bind_some, format_ok n n1 n2, Option.bind_some]
  obtain ⟨z, e⟩ := goes26_ok rows renews (ledR (fmtD n) 0 1 0 [], 0) rows.length 0 ((((rows.length : Int) : Int) - 0).toNat + 1) (fmtD n) 0 1 0 [] (fmt_led n1 n2) (by omega) (by omega)
  dsimp only
  rw [show f_law10_LedgerGoes_l26 rows renews (ledR (fmtD n) 0 1 0 [], 0) ((((rows.length : Int) : Int) - 0).toNat + 1) [] 0 (fmtD n).Sectors (fmtD n).Dirty ((0 : Nat) : Int) ((1 : Nat) : Int) ((0 : Nat) : Int) [] = _ from e, Option.bind_some, alive10]; rfl
theorem halves25_ok (sec2 : Int) (n : Nat) (t3 : api_Ledger × Int) (s : Int × Int × Int × (List Str) × (List api_Write) × Int × Int × Int × (List Str)) (hn : n ≤ 64) (h2 : IntKind.i64.wrap (sec2.tdiv 2) = ((n / 2 : Nat) : Int)) (g : Nat) (hg : g ≤ 1) (hs : s.2.1 = (g : Int)) (hl : s.2.2.2.1.length = n) (hl3 : t3.1.Disk.Sectors.length = n)
    (he : ∀ i, i < g * (n / 2) ∨ g * (n / 2) + n / 2 ≤ i → s.2.2.2.1[i]? = t3.1.Disk.Sectors[i]?) (k : Nat) : ∀ (v m : Nat), v + k = n / 2 → k < m → f_law10_LedgerHalves_l25 sec2 t3 s m (v : Int) = some (.inl ((n / 2 : Nat) : Int)) := by
  induction k with
  | zero =>
    intro v m hv hm
    obtain ⟨m, rfl⟩ : ∃ k, m = k + 1 := ⟨m - 1, by omega⟩
    rw [f_law10_LedgerHalves_l25, h2, if_neg (by simp; omega), show v = n / 2 by omega]
  | succ k ih =>
    intro v m hv hm
    obtain ⟨m, rfl⟩ : ∃ k, m = k + 1 := ⟨m - 1, by omega⟩
    have e1 : IntKind.i64.wrap (1 - (g : Int)) = ((1 - g : Nat) : Int) := by rw [w_i64 (by omega) (by omega)]; omega
    have hm2 : (1 - g) * (n / 2) ≤ n / 2 := by rcases Nat.le_one_iff_eq_zero_or_eq_one.mp hg with rfl | rfl <;> omega
    have e2 : IntKind.i64.wrap (((1 - g : Nat) : Int) * ((n / 2 : Nat) : Int)) = (((1 - g) * (n / 2) : Nat) : Int) := by rw [← Int.natCast_mul, w_nat (by omega)]
    have e3 : IntKind.i64.wrap ((((1 - g) * (n / 2) : Nat) : Int) + (v : Int)) = (((1 - g) * (n / 2) + v : Nat) : Int) := by rw [w_i64 (by omega) (by omega)]; omega
    have q := he ((1 - g) * (n / 2) + v) (by rcases Nat.le_one_iff_eq_zero_or_eq_one.mp hg with rfl | rfl <;> omega)
    have hlt : (1 - g) * (n / 2) + v < n := by omega
    rw [f_law10_LedgerHalves_l25, h2, if_pos (by simp; omega), hs, e1, e2, e3, Option.bind_some, ix_nat, ix_nat, q, List.getElem?_eq_getElem (show (1 - g) * (n / 2) + v < t3.1.Disk.Sectors.length by omega), Option.bind_some, Option.bind_some, if_neg (by simp), w_s (by omega)]
    exact ih (v + 1) m (by omega) (by omega)
theorem ledgerHalves_true (sectors : Int) (l m : List Str) (renew : Bool) : f_law10_LedgerHalves sectors l m renew = some true := by
  obtain ⟨n, n1, n2, en⟩ := clamp_ok 4 64 sectors (by decide)
  unfold f_law10_LedgerHalves
  have h0 := fmt_led n1 n2
  have hx := fewL_len l
  have hy := fewL_len m
  rw [show (if 64 < (if sectors < 4 then 4 else sectors) then 64 else (if sectors < 4 then 4 else sectors)) = (n : Int) from en, Option.bind_some, format_ok n n1 n2, Option.bind_some, texts_ok, Option.bind_some, alive10, texts_ok]
  generalize fewL l = x at hx
  generalize fewL m = y at hy
  dsimp only
  rw [add_go h0 x hx, Option.bind_some, show gx (!(((0 : Int)) != 0)) (some true) default = some true from rfl, Option.bind_some, if_neg (show ¬ ((((0 : Int) != 0) || !true) = true) by decide)]
  have w1 : IntKind.i64.wrap ((n : Int).tdiv 2) = ((n / 2 : Nat) : Int) := by rw [Int.tdiv_eq_ediv_of_nonneg (by omega), w_i64 (by omega) (by omega)]; omega
  by_cases mx : mayP x
  · by_cases f : fullP (fmtD n) (goS false 0 1 0) (bindP x).length
    · rw [doneS_full mx f]; rfl
    · have hgo := h0.go false mx f
      rw [doneS_may mx f, if_neg (show ¬ (((0 : Int) != 0) = true) by decide)]
      rw [show goS false 0 1 0 = (0, 1, 0) from rfl] at hgo ⊢
      dsimp only at hgo ⊢
      have hh : hf (newD (fmtD n) 0 1 0 (bindP x)) = n / 2 := by rw [show hf (newD (fmtD n) 0 1 0 (bindP x)) = hf (fmtD n) from hf_mk (newD_len ..), fmtD_hf]
      have hs : (newD (fmtD n) 0 1 0 (bindP x)).Sectors.length = n := by rw [newD_len, fmtD_len]
      generalize newD (fmtD n) 0 1 0 (bindP x) = d at hgo hh hs
      generalize (if false = true then x else [] ++ x) = es at hgo
      generalize 0 + (bindP x).length = used at hgo
      have ek : ∀ {α : Type} (k : Int × Int × Int × (List Str) × (List api_Write) × Int × Int × Int × (List Str) → Option α),
          (Option.bind (if renew then (some y).bind fun t5 => (f_ledger_Renew (ledR d 0 1 used es) t5).bind fun t6 => some (t6.2, (IntKind.i64.wrap (1 - ((0 : Nat) : Int))), (IntKind.i64.wrap (((1 : Nat) : Int) + 1)), t6.1.Disk.Sectors, t6.1.Disk.Dirty, t6.1.Half, t6.1.Gen, t6.1.Used, t6.1.Entries)
            else (some y).bind fun t5 => (f_ledger_Add (ledR d 0 1 used es) t5).bind fun t6 => some (t6.2, ((0 : Nat) : Int), ((1 : Nat) : Int), t6.1.Disk.Sectors, t6.1.Disk.Dirty, t6.1.Half, t6.1.Gen, t6.1.Used, t6.1.Entries)) k)
          = k ((doneS d 0 1 used es renew y).2, ((goS renew 0 1 used).1 : Int), ((goS renew 0 1 used).2.1 : Int), (doneS d 0 1 used es renew y).1.Disk.Sectors, (doneS d 0 1 used es renew y).1.Disk.Dirty, (doneS d 0 1 used es renew y).1.Half, (doneS d 0 1 used es renew y).1.Gen, (doneS d 0 1 used es renew y).1.Used, (doneS d 0 1 used es renew y).1.Entries) := by
        intro α k
        cases renew with
        | true => rw [if_pos rfl, Option.bind_some, renew_go hgo y hy]; rfl
        | false => rw [if_neg (by decide), Option.bind_some, add_go hgo y hy]; rfl
      rw [ek]
      by_cases my : mayP y
      · by_cases g : fullP d (goS renew 0 1 used) (bindP y).length
        · rw [doneS_full my g]; rfl
        · have hg := go_le hgo renew
          have hu : (goS renew 0 1 used).2.2 + (bindP y).length ≤ 128 * (hf d - 1) := by unfold fullP at g; omega
          rw [doneS_may my g, if_neg (show ¬ (((0 : Int) != 0) = true) by decide), w1]
          dsimp only
          have q := halves25_ok (n : Int) n (ledR d 0 1 used es, 0) (0, ((goS renew 0 1 used).1 : Int), ((goS renew 0 1 used).2.1 : Int), (newD d (goS renew 0 1 used).1 (goS renew 0 1 used).2.1 (goS renew 0 1 used).2.2 (bindP y)).Sectors, (newD d (goS renew 0 1 used).1 (goS renew 0 1 used).2.1 (goS renew 0 1 used).2.2 (bindP y)).Dirty, ((goS renew 0 1 used).1 : Int), ((goS renew 0 1 used).2.1 : Int), (((goS renew 0 1 used).2.2 + (bindP y).length : Nat) : Int), (if renew then y else es ++ y))
            n2 w1 (goS renew 0 1 used).1 hg.1 rfl (by show (newD _ _ _ _ _).Sectors.length = n; rw [newD_len]; exact hs) hs (fun i hi => newD_other hgo.ok hg.1 _ hu i (by rw [hh]; exact hi)) (n / 2) 0 ((((n / 2 : Nat) : Int) - 0).toNat + 1) (by omega) (by omega)
          rw [show ((0 : Nat) : Int) = 0 from rfl] at q
          rw [q, Option.bind_some]
          simp
      · rw [doneS_long my]; rfl
  · rw [doneS_long mx]; rfl
end Go.Proofs.Ytjhelpeglgigbaa.V.M
end

section
/- Ledger: the laws LedgerOrder, LedgerFills. -/
namespace Go.Proofs.Ytjhelpeglgigbaa.V.M
set_option linter.unusedVariables false
set_option linter.unusedSimpArgs false
open Go Go.RowKit
theorem sect_of_room {d d2 : api_Disk} (h : OkD d) (h2 : OkD d2) {half : Nat} (hh : half ≤ 1) (hf2 : hf d2 = hf d) (e : roomS d half = roomS d2 half) (k : Nat) (hk : k < hf d - 1) : d.Sectors[half * hf d + 1 + k]? = d2.Sectors[half * hf d + 1 + k]? := by
  have hl := hf_le h
  have hl2 := hf_le h2
  have hm := half_mul_le (d := d) hh
  have l1 : half * hf d + 1 + k < d.Sectors.length := by omega
  have l2 : half * hf d + 1 + k < d2.Sectors.length := by omega
  rw [List.getElem?_eq_getElem l1, List.getElem?_eq_getElem l2]
  congr 1
  have s1 := h.sect _ (List.getElem_mem l1)
  have s2 := h2.sect _ (List.getElem_mem l2)
  apply List.ext_getElem?
  intro j
  by_cases c : j < 128
  · have g1 := room_get d h hh (128 * k + j) (by omega)
    have g2 := room_get d2 h2 hh (128 * k + j) (by omega)
    rw [hf2] at g2
    rw [show (128 * k + j) / 128 = k by omega, show (128 * k + j) % 128 = j by omega] at g1 g2
    rw [List.getElem?_eq_getElem l1, Option.bind_some] at g1
    rw [List.getElem?_eq_getElem l2, Option.bind_some] at g2
    rw [← g1, ← g2, e]
  · rw [List.getElem?_eq_none (by omega), List.getElem?_eq_none (by omega)]
theorem thenS_clean {R s : Str} {used : Nat} (h : used + s.length ≤ R.length) : clean (thenS R used s) (used + s.length) := by
  intro i h1 h2
  rw [thenS_len h] at h2
  exact then_get_hi h i h1 h2
theorem thenS_two {R a b : Str} {used : Nat} (h : used + (a ++ b).length ≤ R.length) : thenS (thenS R used a) (used + a.length) b = thenS R used (a ++ b) := by
  rw [List.length_append] at h
  have e := then_take (R := R) (s := a) (used := used) (by omega)
  have l := thenS_len (R := R) (s := a) (used := used) (by omega)
  unfold thenS at e l ⊢
  rw [e, l, List.append_assoc (R.take used), List.length_append]
  congr 2
  omega
/-- What is added in two parts, and at once. -/
theorem newD_two {d : api_Disk} (h : OkD d) {half : Nat} (hh : half ≤ 1) (gen used : Nat) (a b : Str) (hu : used + (a ++ b).length ≤ 128 * (hf d - 1)) (hc : clean (roomS d half) used) : newD (newD d half gen used a) half gen (used + a.length) b = newD d half gen used (a ++ b) := by
  have hl := hf_le h
  have hr := roomS_len h hh
  have hm := half_mul_le (d := d) hh
  have la : (a ++ b).length = a.length + b.length := List.length_append
  have ha : used + a.length ≤ 128 * (hf d - 1) := by omega
  have o1 := newD_ok h hh gen ha
  have f1 : hf (newD d half gen used a) = hf d := hf_mk (newD_len ..)
  have hb : used + a.length + b.length ≤ 128 * (hf (newD d half gen used a) - 1) := by rw [f1]; omega
  have r1 := newD_room_clean h hh gen ha hc
  have c1 : clean (roomS (newD d half gen used a) half) (used + a.length) := by rw [r1]; exact thenS_clean (by omega)
  have o2 := newD_ok o1 hh gen hb
  have r2 := newD_room_clean o1 hh gen hb c1
  have o3 := newD_ok h hh gen hu
  have r3 := newD_room_clean h hh gen hu hc
  have f2 : hf (newD (newD d half gen used a) half gen (used + a.length) b) = hf d := (hf_mk (newD_len ..)).trans f1
  have f3 : hf (newD d half gen used (a ++ b)) = hf d := hf_mk (newD_len ..)
  have er : roomS (newD (newD d half gen used a) half gen (used + a.length) b) half = roomS (newD d half gen used (a ++ b)) half := by
    rw [r2, r1, r3]; exact thenS_two (by omega)
  have es : (newD (newD d half gen used a) half gen (used + a.length) b).Sectors = (newD d half gen used (a ++ b)).Sectors := by
    apply List.ext_getElem?
    intro i
    have n1 : (newD (newD d half gen used a) half gen (used + a.length) b).Sectors.length = d.Sectors.length := by rw [newD_len, newD_len]
    have n2 : (newD d half gen used (a ++ b)).Sectors.length = d.Sectors.length := newD_len ..
    by_cases c : i < half * hf d ∨ half * hf d + hf d ≤ i
    · rw [newD_other o1 hh gen hb i (by rw [f1]; exact c), newD_other h hh gen ha i c, newD_other h hh gen hu i c]
    · by_cases c2 : i = half * hf d
      · have q1 := newD_head o1 hh gen (used + a.length) b
        have q2 := newD_head h hh gen used (a ++ b)
        rw [secS_get, f2] at q1
        rw [secS_get, f3] at q2
        subst c2
        rw [List.getElem?_eq_getElem (by omega), Option.getD_some] at q1
        rw [List.getElem?_eq_getElem (by omega), Option.getD_some] at q2
        rw [List.getElem?_eq_getElem (by omega), List.getElem?_eq_getElem (by omega), q1, q2, la, Nat.add_assoc]
      · have q := sect_of_room o2 o3 hh (by rw [f2, f3]) er (i - (half * hf d + 1)) (by rw [f2]; omega)
        rw [f2, show half * hf d + 1 + (i - (half * hf d + 1)) = i by omega] at q
        exact q
  show api_Disk.mk (newD (newD d half gen used a) half gen (used + a.length) b).Sectors [] = api_Disk.mk (newD d half gen used (a ++ b)).Sectors []
  rw [es]
theorem bindP_split (x : List Str) (i : Nat) : bindP (x.take i) ++ bindP (x.drop i) = bindP x := by rw [← bindP_app, List.take_append_drop]
theorem ledgerOrder_true (sectors : Int) (l : List Str) (at_ : Int) (ha : (Lit.int .i64 at_).wf = true) : f_law10_LedgerOrder sectors l at_ = some true := by
  have ha1 := bounds_i64 ha
  obtain ⟨n, n1, n2, en⟩ := clamp_ok 4 64 sectors (by decide)
  unfold f_law10_LedgerOrder
  have h0 := fmt_led n1 n2
  have hx := fewL_len l
  rw [show (if 64 < (if sectors < 4 then 4 else sectors) then 64 else (if sectors < 4 then 4 else sectors)) = (n : Int) from en, Option.bind_some, texts_ok, Option.bind_some, alive10]
  generalize fewL l = x at hx
  obtain ⟨i, hi, ei⟩ : ∃ i : Nat, i ≤ x.length ∧ (IntKind.i64.wrap ((IntKind.i64.wrap ((at_.tmod (IntKind.i64.wrap ((x.length : Int) + 1))) + (x.length : Int))) + 1)).tmod (IntKind.i64.wrap ((x.length : Int) + 1)) = (i : Int) := by
    rw [w_i64 (n := (x.length : Int) + 1) (by omega) (by omega)]
    have h1 := Int.lt_tmod_of_pos at_ (b := (x.length : Int) + 1) (by omega)
    have h2 := Int.tmod_lt_of_pos at_ (b := (x.length : Int) + 1) (by omega)
    generalize at_.tmod ((x.length : Int) + 1) = z at h1 h2
    rw [w_i64 (n := z + (x.length : Int)) (by omega) (by omega), w_i64 (by omega) (by omega), Int.tmod_eq_emod_of_nonneg (by omega)]
    have h3 := Int.emod_nonneg (z + (x.length : Int) + 1) (b := (x.length : Int) + 1) (by omega)
    have h4 := Int.emod_lt_of_pos (z + (x.length : Int) + 1) (b := (x.length : Int) + 1) (by omega)
    exact ⟨((z + (x.length : Int) + 1) % ((x.length : Int) + 1)).toNat, by omega, by omega⟩
  have hw : (IntKind.i64.wrap ((x.length : Int) + 1)) ≠ 0 := by rw [w_i64 (by omega) (by omega)]; omega
  rw [gd_t _ hw, gd_t _ hw, ei, Option.bind_some, format_ok n n1 n2, Option.bind_some]
  dsimp only
  have ht : (x.take i).length ≤ 66 := by rw [List.length_take]; omega
  have hd : (x.drop i).length ≤ 66 := by rw [List.length_drop]; omega
  rw [add_go h0 x hx, Option.bind_some, gd_t _ (by omega), cut_zero, cut_all, add_go h0 _ ht, Option.bind_some, show gx (!(((0 : Int)) != 0)) (some true) default = some true from rfl, Option.bind_some, if_neg (show ¬ ((((0 : Int) != 0) || !true) = true) by decide)]
  by_cases m : mayP x
  · have es := bindP_split x i
    have hl : (bindP (x.take i)).length + (bindP (x.drop i)).length = (bindP x).length := by rw [← es, List.length_append]
    have m1 : mayP (x.take i) := ⟨by have := m.1; rw [List.length_take]; omega, fun y hy => m.2 y (List.mem_of_mem_take hy)⟩
    have m2 : mayP (x.drop i) := ⟨by have := m.1; rw [List.length_drop]; omega, fun y hy => m.2 y (List.mem_of_mem_drop hy)⟩
    have hg := fun s : Nat => show fullP (fmtD n) (goS false 0 1 0) s ↔ 128 * (hf (fmtD n) - 1) < 0 + s by
      show (128 * (hf (fmtD n) - 1) < 0 + s ∨ 1099511627776 < 1) ↔ _; omega
    by_cases f : fullP (fmtD n) (goS false 0 1 0) (bindP x).length
    · rw [doneS_full m f, if_pos (by simp)]; rfl
    · have f1 : ¬ fullP (fmtD n) (goS false 0 1 0) (bindP (x.take i)).length := by rw [hg] at f ⊢; omega
      rw [doneS_may m f, doneS_may m1 f1, if_neg (by simp), gd_t _ (by omega)]
      have hgo := h0.go false m1 f1
      rw [show goS false 0 1 0 = (0, 1, 0) from rfl] at hgo ⊢
      dsimp only at hgo ⊢
      rw [add_go hgo _ hd, Option.bind_some]
      have h2f : hf (newD (fmtD n) 0 1 0 (bindP (x.take i))) = hf (fmtD n) := hf_mk (newD_len ..)
      have f2 : ¬ fullP (newD (fmtD n) 0 1 0 (bindP (x.take i))) (goS false 0 1 (0 + (bindP (x.take i)).length)) (bindP (x.drop i)).length := by
        show ¬ (128 * (hf (newD (fmtD n) 0 1 0 (bindP (x.take i))) - 1) < (0 + (bindP (x.take i)).length) + (bindP (x.drop i)).length ∨ 1099511627776 < 1)
        rw [h2f]; rw [hg] at f; omega
      rw [doneS_may m2 f2, show goS false 0 1 (0 + (bindP (x.take i)).length) = (0, 1, 0 + (bindP (x.take i)).length) from rfl]
      dsimp only
      have hu : 0 + (bindP (x.take i) ++ bindP (x.drop i)).length ≤ 128 * (hf (fmtD n) - 1) := by rw [es]; rw [hg] at f; omega
      have en2 := newD_two h0.ok (half := 0) (by decide) 1 0 (bindP (x.take i)) (bindP (x.drop i)) hu (fmt_clean n1 n2 (by decide))
      rw [es] at en2
      have hn := newD_len (fmtD n) 0 1 0 (bindP x)
      have hfl := fmtD_len n
      rw [en2, show ((0 + (bindP (x.take i)).length) + (bindP (x.drop i)).length) = 0 + (bindP x).length by omega]
      have ee : ((if false = true then x.drop i else (if false = true then x.take i else [] ++ x.take i) ++ x.drop i)) = x := by
        show [] ++ x.take i ++ x.drop i = x
        rw [List.nil_append, List.take_append_drop]
      have ee2 : (if false = true then x else [] ++ x) = x := rfl
      rw [ee, ee2, same_refl x (by omega), like_self _ (by omega) (by show (0 : Nat) < _; decide)]
      simp [gx]
  · rw [doneS_long m, if_pos (by simp)]; rfl
theorem fills1_ok (k : Nat) (h : k ≤ 100000) : f_law10_LedgerFills_1 (k : Int) = some (List.replicate k 0) := by
  unfold f_law10_LedgerFills_1
  rw [gd_t _ (by omega), Int.toNat_natCast, List.map_replicate]; rfl
theorem bindP_one (k : Nat) : (bindP [List.replicate k 0]).length = 2 + k := by rw [bindP_cons]; simp [two_len, bindP]
theorem may_one (k : Nat) : mayP [List.replicate k 0] ↔ k ≤ 4096 :=
  ⟨fun h => by have := h.2 _ (List.mem_singleton.mpr rfl); simpa using this, fun h => ⟨by simp, fun x hx => by obtain rfl := List.mem_singleton.mp hx; simpa using h⟩⟩
theorem ledgerFills_true (sectors some_ : Int) (hs : (Lit.int .i64 some_).wf = true) : f_law10_LedgerFills sectors some_ = some true := by
  have hs1 := bounds_i64 hs
  obtain ⟨n, n1, n2, en⟩ := clamp_ok 4 40 sectors (by decide)
  unfold f_law10_LedgerFills
  have h0 := fmt_led n1 (show n ≤ 64 by omega)
  have hfn := fmtD_hf n
  rw [show (if 40 < (if sectors < 4 then 4 else sectors) then 40 else (if sectors < 4 then 4 else sectors)) = (n : Int) from en, Option.bind_some, alive10]
  have w1 : IntKind.i64.wrap ((n : Int).tdiv 2) = ((n / 2 : Nat) : Int) := by rw [Int.tdiv_eq_ediv_of_nonneg (by omega), w_i64 (by omega) (by omega)]; omega
  have w2 : IntKind.i64.wrap (((n / 2 : Nat) : Int) - 1) = ((n / 2 - 1 : Nat) : Int) := by rw [w_i64 (by omega) (by omega)]; omega
  have w3 : IntKind.i64.wrap (((n / 2 - 1 : Nat) : Int) * 128) = ((128 * (n / 2 - 1) : Nat) : Int) := by rw [w_i64 (by omega) (by omega)]; omega
  rw [w1, w2, w3]
  obtain ⟨r, hr⟩ : ∃ r, 128 * (n / 2 - 1) = r := ⟨_, rfl⟩
  rw [hr]
  have r1 : 128 ≤ r := by omega
  have r2 : r ≤ 128 * 19 := by omega
  have w4 : IntKind.i64.wrap ((r : Int) - 1) = (r : Int) - 1 := w_i64 (by omega) (by omega)
  rw [w4, gd_t _ (by omega), gd_t _ (by omega)]
  obtain ⟨q, q1, q2, eq⟩ : ∃ q : Nat, 2 ≤ q ∧ q ≤ r ∧ IntKind.i64.wrap (((IntKind.i64.wrap ((IntKind.i64.wrap ((some_.tmod ((r : Int) - 1)) + (r : Int))) - 1)).tmod ((r : Int) - 1)) + 2) = (q : Int) := by
    have h1 := Int.lt_tmod_of_pos some_ (b := (r : Int) - 1) (by omega)
    have h2 := Int.tmod_lt_of_pos some_ (b := (r : Int) - 1) (by omega)
    generalize some_.tmod ((r : Int) - 1) = z at h1 h2
    rw [w_i64 (n := z + (r : Int)) (by omega) (by omega), w_i64 (n := z + (r : Int) - 1) (by omega) (by omega), Int.tmod_eq_emod_of_nonneg (by omega)]
    have h3 := Int.emod_nonneg (z + (r : Int) - 1) (b := (r : Int) - 1) (by omega)
    have h4 := Int.emod_lt_of_pos (z + (r : Int) - 1) (b := (r : Int) - 1) (by omega)
    generalize (z + (r : Int) - 1) % ((r : Int) - 1) = y at h3 h4
    rw [w_i64 (by omega) (by omega)]
    exact ⟨(y + 2).toNat, by omega, by omega, by omega⟩
  rw [eq, Option.bind_some, format_ok n n1 (by omega), Option.bind_some]
  have w5 : IntKind.i64.wrap ((q : Int) - 2) = ((q - 2 : Nat) : Int) := by rw [w_i64 (by omega) (by omega)]; omega
  rw [w5, if_neg (by omega), fills1_ok _ (by omega), Option.bind_some]
  dsimp only
  have m1 : mayP [List.replicate (q - 2) 0] := (may_one _).mpr (by omega)
  have b1 := bindP_one (q - 2)
  have f1 : ¬ fullP (fmtD n) (goS false 0 1 0) (bindP [List.replicate (q - 2) 0]).length := by
    show ¬ (128 * (hf (fmtD n) - 1) < 0 + (bindP [List.replicate (q - 2) 0]).length ∨ 1099511627776 < 1)
    rw [hfn, b1]; omega
  have hgo := h0.go false m1 f1
  rw [add_go h0 _ (by simp), Option.bind_some, doneS_may m1 f1]
  rw [show goS false 0 1 0 = (0, 1, 0) from rfl] at hgo ⊢
  dsimp only at hgo ⊢
  have hh : hf (newD (fmtD n) 0 1 0 (bindP [List.replicate (q - 2) 0])) = n / 2 := by rw [show hf (newD (fmtD n) 0 1 0 (bindP [List.replicate (q - 2) 0])) = hf (fmtD n) from hf_mk (newD_len ..), fmtD_hf]
  generalize newD (fmtD n) 0 1 0 (bindP [List.replicate (q - 2) 0]) = d at hgo hh
  generalize (if false = true then [List.replicate (q - 2) (0 : UInt8)] else [] ++ [List.replicate (q - 2) 0]) = es at hgo
  rw [b1, show 0 + (2 + (q - 2)) = q by omega] at hgo ⊢
  rw [show gx (!(((0 : Int)) != 0 || ((0 : Int)) != 0)) (some true) default = some true from rfl, Option.bind_some, if_neg (show ¬ (((((0 : Int) != 0) || ((0 : Int) != 0)) || !true) = true) by decide)]
  have w6 : IntKind.i64.wrap ((r : Int) - (q : Int)) = ((r - q : Nat) : Int) := by rw [w_i64 (by omega) (by omega)]; omega
  rw [w6, Option.bind_some]
  have full2 : ∀ s, fullP d (goS false 0 1 q) s ↔ r < q + s := fun s => by
    show (128 * (hf d - 1) < q + s ∨ 1099511627776 < 1) ↔ _; rw [hh]; omega
  by_cases c : r - q < 2
  · rw [if_pos (by simp; omega), show ([([] : Str)] : List Str) = [List.replicate 0 0] from rfl, add_go hgo _ (by simp), Option.bind_some, doneS_full ((may_one 0).mpr (by decide)) ((full2 _).mpr (by rw [bindP_one]; omega))]; rfl
  · have w7 : IntKind.i64.wrap (((r - q : Nat) : Int) - 2) = ((r - q - 2 : Nat) : Int) := by rw [w_i64 (by omega) (by omega)]; omega
    have w8 : IntKind.i64.wrap (((r - q : Nat) : Int) - 1) = ((r - q - 1 : Nat) : Int) := by rw [w_i64 (by omega) (by omega)]; omega
    have w9 : IntKind.i64.wrap ((r : Int) - 2) = ((r - 2 : Nat) : Int) := by rw [w_i64 (by omega) (by omega)]; omega
    have f3 : ¬ fullP d (goS false 0 1 q) (bindP [List.replicate (r - q - 2) 0]).length := by rw [full2, bindP_one]; omega
    have m3 : mayP [List.replicate (r - q - 2) 0] := (may_one _).mpr (by omega)
    have h3 := hgo.go false m3 f3
    rw [if_neg (by simp; omega), w7, w8, w9, fills1_ok _ (by omega), Option.bind_some, add_go hgo _ (by simp), Option.bind_some, fills1_ok _ (by omega), Option.bind_some, add_go hgo _ (by simp), Option.bind_some, if_neg (by simp; omega), if_neg (by omega), fills1_ok _ (by omega), Option.bind_some]
    rw [doneS_may m3 f3, doneS_full ((may_one _).mpr (by omega)) ((full2 _).mpr (by rw [bindP_one]; omega))]
    rw [show goS false 0 1 q = (0, 1, q) from rfl] at h3 ⊢
    dsimp only at h3 ⊢
    have hh3 : hf (newD d 0 1 q (bindP [List.replicate (r - q - 2) 0])) = n / 2 := by rw [show hf (newD d 0 1 q (bindP [List.replicate (r - q - 2) 0])) = hf d from hf_mk (newD_len ..), hh]
    rw [renew_go h3 _ (by simp), Option.bind_some, doneS_may ((may_one _).mpr (by omega)) (by
      show ¬ (128 * (hf (newD d 0 1 q (bindP [List.replicate (r - q - 2) 0])) - 1) < 0 + (bindP [List.replicate (r - 2) 0]).length ∨ 1099511627776 < 2)
      rw [hh3, bindP_one]; omega), bindP_one]
    simp [goS]
    omega
end Go.Proofs.Ytjhelpeglgigbaa.V.M
end

section
/- The functions' proofs and the plain laws, side by side. -/
namespace Go.Proofs.Ytjhelpeglgigbaa.V
set_option linter.unusedVariables false
set_option linter.unusedSimpArgs false
theorem ledgerGoes_true (sectors : Int) (rows : List (List Str)) (renews : List Bool) : f_law10_LedgerGoes sectors rows renews = some true := M.ledgerGoes_true sectors rows renews
theorem ledgerHalves_true (sectors : Int) (l m : List Str) (renew : Bool) : f_law10_LedgerHalves sectors l m renew = some true := M.ledgerHalves_true sectors l m renew
theorem ledgerOrder_true (sectors : Int) (l : List Str) (at_ : Int) (w0 : (Lit.int .i64 sectors).wf = true) (w1 : l.length ≤ 9223372036854775807 ∧ ∀ x ∈ l, x.length ≤ 9223372036854775807) (w2 : (Lit.int .i64 at_).wf = true) : f_law10_LedgerOrder sectors l at_ = some true := M.ledgerOrder_true sectors l at_ w2
theorem ledgerFills_true (sectors some_ : Int) (w0 : (Lit.int .i64 sectors).wf = true) (w1 : (Lit.int .i64 some_).wf = true) : f_law10_LedgerFills sectors some_ = some true := M.ledgerFills_true sectors some_ w1
end Go.Proofs.Ytjhelpeglgigbaa.V
end

section
/- Rows: what a row lays of type handles. -/
namespace Go.Proofs.Ytjhelpeglgigbaa.V
open Go Go.RowKit
set_option linter.unusedVariables false
set_option linter.unusedSimpArgs false
theorem glrep_h {w : World} {g u b o : Nat} (h : w.cell? ⟨g, 0, none⟩ = some (.iface u (.agg #[.pointer (some ⟨b, o, none⟩)]))) : RepD w (fun k => k < w.heap.size) (.ref [.ifc u true [.z (.hnd b o)]] 0) (.pointer (some ⟨g, 0, none⟩)) := by
  refine .ref _ 0 g 0 (fun _ => .iface u (.agg #[.pointer (some ⟨b, o, none⟩)])) (cell?_lt h) (fun j sc hj => ?_) (fun j sc hj => ?_)
  · match j, hj with
    | 0, hj => exact h
  · match j, hj with
    | 0, hj =>
      obtain rfl := Option.some.inj hj
      refine .ifa u _ _ rfl fun j sc hj => ?_
      match j, hj with
      | 0, hj => obtain rfl := Option.some.inj hj; exact .z (.hnd b o)
theorem handle_met {P : Program} {laid : List (String × DataW Unit)} {W : World} {v : String} {d : DataW Unit} {g u b o n : Nat} {ty : TypeId} {name : List UInt8} (h : handlesMet P laid W) (hm : (v, d) ∈ laid) (hf : d.funcsIn? = none)
    (hn : d.handleName? = some name) (hg : P.globalNamed v = some g) (hu : (P.cutTypes.find? (·.1 == "internal/reflectlite.rtype")).map (·.2) = some u) (hsz : P.types.size = n)
    (hone : ((List.range n).filter fun t => P.rowNamed t name) = [ty]) (hh : typeHandle P ty = .pointer (some ⟨b, o, none⟩)) : W.cell? ⟨g, 0, none⟩ = some (.iface u (.agg #[.pointer (some ⟨b, o, none⟩)])) := by
  have h1 := h _ hm
  simp only [hf] at h1
  obtain ⟨name', u', ty', e1, e2, e3, e4, e5⟩ := h1
  obtain rfl := Option.some.inj (hn.symm.trans e1)
  obtain rfl := Option.some.inj (hu.symm.trans e2)
  have hm : ty' ∈ (List.range n).filter fun t => P.rowNamed t name := List.mem_filter.2 ⟨List.mem_range.2 (by rw [← hsz]; exact e3), e4⟩
  rw [hone] at hm
  obtain rfl := List.mem_singleton.1 hm
  rw [hh] at e5
  simpa using World.var?_cell hg e5 0
theorem laid_split {P : Program} {laid : List (String × DataW Unit)} {W : World} (h : laidMetH P laid W) (hne : (laid.filter fun x => x.2.handleName?.isSome).isEmpty = false) : laidMet P (laid.filter fun x => x.2.handleName?.isNone) W ∧ handlesMet P (laid.filter fun x => x.2.handleName?.isSome) W := by
  unfold laidMetH at h
  generalize (laid.filter fun x => x.2.handleName?.isSome) = hs at h hne
  match hs, h, hne with
  | a :: r, h, _ => exact h
end Go.Proofs.Ytjhelpeglgigbaa.V
end

section
/- The row of the law LedgerFills: for every input that the row speaks of the law returns true; each argument reads behind the call as it read before. -/
namespace Go.Proofs.Ytjhelpeglgigbaa.ledgerFills
open Go.ChangeShapes Go.WideShapes Go.ChangeAt Go.RowKit Go.Proofs.Ytjhelpeglgigbaa.V Go.Proofs.YtjhelpeglgigbaaW.PrintWords
set_option linter.unusedVariables false
theorem own : ownKnob Try.prog.godebug = none := by kernel_rfl
theorem laidOut : laidOutB Try.prog = true := by kernel_rfl
theorem gl_ok {W : World} : GlOk glP W (fun k => k < W.heap.size) := fun g cs hg => by cases hg
set_option maxRecDepth 100000 in
theorem lifted (os : Os) (started : os.Started) (H : Type) (enc : TypeId × Value → H) :
    ReturnsInHanded {} Try.checked os 8 .any (Rows.ledgerFillsSpec.pre6 enc Try.prog Try.f8 Rows.ledgerFillsRow.domain false) (Rows.ledgerFillsSpec.post enc Try.prog Try.f8 false true false false) := by
  refine returnsInHanded_of_change_sized (C := Try.checked) own started (by kernel_rfl) Try.func8
    (ChangeSpec.witness6 (enc := enc) (C := Try.checked) false ⟨#[], #[.int .i64 0, .int .i64 0], []⟩ 8 (by kernel_rfl) (by kernel_rfl) (by kernel_rfl) (by kernel_rfl)) ?_
  intro W base args ds gs before hval0 hW hcnd hsz0 _
  have hsz : (DataW.weightsEach Try.prog (Try.f8.params.toList ++ Rows.ledgerFillsSpec.plain.varTypes Try.prog) (ds ++ gs)).all (· ≤ reachBytes) = true := hsz0
  have hval : ∀ (j : Nat) t v, Try.f8.params[j]? = some t → args[j]? = some v → Value.okWide Try.prog W .any base t v := hval0
  have hW' := hW
  obtain ⟨p, q, hA0, hV, rfl, hfz, hnd⟩ := hW
  have hA : DataW.TrodAll enc Try.prog W 0 (fun _ => true) true Try.f8.params.toList args.toList ds p := hA0
  rw [Try.params8] at hA hval hsz
  obtain ⟨v0, vs0, d0, ds0, p0, q0, hargs, rfl, rfl, h0, r0⟩ := trodAll_cons hA
  obtain ⟨v1, vs1, d1, ds1, p1, q1, rfl, rfl, rfl, h1, r1⟩ := trodAll_cons r0
  obtain ⟨rfl, rfl, rfl⟩ := trodAll_nil r1
  obtain rfl : args = #[v0, v1] := by cases args; simp_all
  obtain ⟨rfl, rfl⟩ := trodVars_none hV
  have k0 := h0
  have lt0 : ∀ x ∈ p0, x.block < W.heap.size := by obtain ⟨m, hm⟩ := k0; exact DataW.trod_lt m _ _ _ hm
  obtain ⟨a0, e0, w0⟩ := arg_int Try.underlying3 (hval 0 3 v0 rfl rfl) h0
  have k1 := h1
  have lt1 : ∀ x ∈ p1, x.block < W.heap.size := by obtain ⟨m, hm⟩ := k1; exact DataW.trod_lt m _ _ _ hm
  obtain ⟨a1, e1, w1⟩ := arg_int Try.underlying3 (hval 1 3 v1 rfl rfl) h1
  refine (Fun.lawG (xs := [_, _]) (vs := [v0, v1]) (w := W) (f_law10_LedgerFills_ok a0 a1 true (by first | exact ledgerFills_true a0 a1 w0 w1 | exact ledgerFills_true a0 a1 | (apply ledgerFills_true <;> assumption))) gl_ok ⟨e0, e1, trivial⟩).mono fun e W' ⟨he, bel⟩ => ?_
  subst he
  exact ⟨_, rfl, _, _, _, [], _, [], hW', trodAll_mk1 (shut_bool Try.underlying4 _), (trodAll_cons_mk (Below.trod laidOut (by kernel_rfl) (of_decide_eq_true (by kernel_rfl)) k0 bel lt0) (trodAll_cons_mk (Below.trod laidOut (by kernel_rfl) (of_decide_eq_true (by kernel_rfl)) k1 bel lt1) trodAll_mk0)), rfl, bel.frame _, fun h => by cases h⟩
theorem over : Rows.ledgerFillsRow.holds Try.pinned (OpenSpec.ofChange Rows.ledgerFillsSpec) :=
  OpenClaim.holds_of_wide 8 Try.f8 rfl rfl rfl rfl rfl rfl rfl ⟨rfl, rfl, rfl, rfl, rfl⟩ rfl rfl rfl rfl rfl (by kernel_rfl) Try.func8 (by kernel_rfl)
    (of_decide_eq_true (by kernel_rfl)) (by unfold Func.isWrapper; first | (rw [if_pos (by decide +kernel)]; kernel_rfl) | (rw [if_neg (by decide +kernel)]; exact ⟨rfl, rfl⟩))
    (fun os started H enc _ => lifted os started H enc)
theorem proved : Rows.LedgerFillsSaid := over
end Go.Proofs.Ytjhelpeglgigbaa.ledgerFills
namespace Go.Proofs.Ytjhelpeglgigbaa
/-- The statement, under a short name, for the claim. -/
theorem ledgerFills_holds : Rows.LedgerFillsSaid := ledgerFills.proved
#print axioms ledgerFills_holds
end Go.Proofs.Ytjhelpeglgigbaa
end
