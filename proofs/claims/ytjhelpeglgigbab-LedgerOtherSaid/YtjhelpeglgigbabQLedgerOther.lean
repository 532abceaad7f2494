/- The row of the law LedgerOther: for every input that the row speaks of the law returns true; each argument reads behind the call as it read before. -/
import Derived.Test.YtjhelpeglgigbabQLedgerOtherE
import Derived.Test.YtjhelpeglgigbabQLedgerOtherC
import Derived.Below
import Derived.OwnWalk
import Derived.Orders
import Derived.WalkKit
import Derived.Laws.Slices
import Derived.LaidMore
import Derived.FnData
import Derived.Test.YtjhelpeglgigbabRows
import Derived.ProofKit
import Derived.OpenShut
import Derived.ShutString
import Derived.ChangeOld
import Derived.SizedLaws
import Derived.SliceStrings
import Derived.Carry
import Derived.KernelRfl
import Derived.Test.YtjhelpeglgigbabWSized
section
/- Ledger: what Steps, Add and Renew come to. -/
namespace Go.Proofs.Ytjhelpeglgigbab.V.M
set_option linter.unusedVariables false
set_option linter.unusedSimpArgs false
open Go Go.RowKit
abbrev ledR (d : api_Disk) (half gen used : Nat) (es : List Str) : api_Ledger := api_Ledger.mk d (half : Int) (gen : Int) (used : Int) es
theorem right_led {d : api_Disk} {half gen used : Nat} {es : List Str} (h : Led d half gen used es) : f_ledger_Right (ledR d half gen used es) = some true := by
  have := h.ok.hi
  rw [lright_ok _ (by show d.Sectors.length < _; omega) (by show d.Dirty.length < _; rw [h.dirty]; decide), h.openS]
  simp [rrB]
/-- Where an Add, or a Renew, goes: which half, which generation, behind how much. -/
def goS (renew : Bool) (half gen used : Nat) : Nat × Nat × Nat := if renew then (1 - half, gen + 1, 0) else (half, gen, used)
def fullP (d : api_Disk) (g : Nat × Nat × Nat) (len : Nat) : Prop := 128 * (hf d - 1) < g.2.2 + len ∨ 1099511627776 < g.2.1
instance (d : api_Disk) (g : Nat × Nat × Nat) (len : Nat) : Decidable (fullP d g len) := inferInstanceAs (Decidable (_ ∨ _))
theorem go_le {d : api_Disk} {half gen used : Nat} {es : List Str} (h : Led d half gen used es) (renew : Bool) : (goS renew half gen used).1 ≤ 1 ∧ (goS renew half gen used).2.2 ≤ 128 * (hf d - 1) ∧ (goS renew half gen used).2.1 ≤ 1099511627777 := by
  have := h.half_le; have := h.used_le; have := h.gen_le
  unfold goS; split
  · exact ⟨by dsimp only; omega, by dsimp only; omega, by dsimp only; omega⟩
  · exact ⟨by dsimp only; omega, by dsimp only; omega, by dsimp only; omega⟩
theorem go_bind {d : api_Disk} {half gen used : Nat} {es : List Str} (h : Led d half gen used es) (renew : Bool) {α : Type} (k : Int × Int × Int → Option α) :
    (Option.bind (if renew then some ((IntKind.i64.wrap (1 - (half : Int))), (IntKind.i64.wrap ((gen : Int) + 1)), (0 : Int)) else some ((half : Int), (gen : Int), (used : Int))) k) = k (((goS renew half gen used).1 : Int), ((goS renew half gen used).2.1 : Int), ((goS renew half gen used).2.2 : Int)) := by
  have := h.half_le; have := h.used_le; have := h.gen_le
  cases renew with
  | true =>
    rw [if_pos rfl, Option.bind_some, w_i64 (n := 1 - (half : Int)) (by omega) (by omega), w_i64 (n := (gen : Int) + 1) (by omega) (by omega)]
    show k _ = k (((1 - half : Nat) : Int), ((gen + 1 : Nat) : Int), ((0 : Nat) : Int))
    congr 2; omega
  | false => rfl
theorem steps_go {d : api_Disk} {half gen used : Nat} {es : List Str} (h : Led d half gen used es) (renew : Bool) (news : List Str) (hn : news.length ≤ 66) :
    f_ledger_Steps (ledR d half gen used es) renew news = some (if ¬ mayP news then ([], 2) else if fullP d (goS renew half gen used) (bindP news).length then ([], 13) else (layS d (goS renew half gen used).1 (goS renew half gen used).2.1 (goS renew half gen used).2.2 (bindP news), 0)) := by
  have hl := hf_le h.ok
  have hg := go_le h renew
  unfold f_ledger_Steps
  rw [right_led h, Option.bind_some, if_neg (by decide), bind_ok _ hn, Option.bind_some]
  by_cases c : mayP news
  · rw [bindR_may c, if_neg (show ¬ (((0 : Int) != 0) = true) by decide), if_neg (show ¬ ¬ mayP news from fun h => h c)]
    dsimp only
    rw [go_bind h]
    have hb := bindP_le news c.2
    generalize goS renew half gen used = g at hg
    rw [room_ok d h.ok _ hg.1, Option.bind_some]
    dsimp only
    have hr := roomS_len h.ok hg.1
    rw [hr, w_i64 (by omega) (by omega)]
    by_cases f : fullP d g (bindP news).length
    · rw [if_pos f, if_pos (by unfold fullP at f; simp; omega)]
    · rw [if_neg f, if_neg (by unfold fullP at f; simp; omega), lay_ok d h.ok _ hg.1 _ _ (by omega) _ (by unfold fullP at f; omega)]; rfl
  · rw [bindR_not c, if_pos (by decide), if_pos c]
theorem save_flush (d : api_Disk) (h : OkD d) (hd : d.Dirty = []) (l : List api_Write) (hl : ∀ w ∈ l, GoodW d.Sectors.length w) (hn : l.length ≤ 200) :
    f_disk_Save (api_Disk.mk d.Sectors d.Dirty) l = some (api_Disk.mk d.Sectors l, 0) ∧ f_disk_Flush (api_Disk.mk d.Sectors l) = some (mkD (endS (fun _ => 1) 0 l d.Sectors), 0) := by
  have e := save_ok d h (by rw [hd]; intro w hw; cases hw) l hl (by rw [hd]; simpa using hn)
  rw [hd, List.nil_append] at e
  rw [hd]
  refine ⟨?_, flush_ok (api_Disk.mk d.Sectors l) ⟨h.lo, h.hi, hn, h.sect⟩ hl⟩
  obtain ⟨S, D⟩ := d
  subst hd
  exact e
theorem head_good (d : api_Disk) (h : OkD d) {half : Nat} (hh : half ≤ 1) (g u : Nat) : ∀ w ∈ [api_Write.mk ((half * hf d : Nat) : Int) (headS g u)], GoodW d.Sectors.length w := by
  have hl := hf_le h
  have hm := half_mul_le (d := d) hh
  intro w hw
  obtain rfl := List.mem_singleton.mp hw
  exact ⟨by dsimp only; omega, by dsimp only; omega, headS_len g u⟩
theorem done11_ok (d : api_Disk) (h : OkD d) (hd : d.Dirty = []) (half gen used : Nat) (hh : half ≤ 1) (s : Str) (hu : used + s.length ≤ 128 * (hf d - 1)) (e : Int) :
    f_ledger_done_l11 (layS d half gen used s, e) 3 0 d.Sectors d.Dirty = some (2, (newD d half gen used s).Sectors, []) := by
  have hl := hf_le h
  have q1 := save_flush d h hd (if s = [] then [] else outW (half * hf d) used s.length (thenS (roomS d half) used s)) (outW_good d h hh hu) (by split; decide; exact Nat.le_trans (outW_num _ _ _ _ (by omega)) (by decide))
  have h2 : OkD (mkD (crashS (fun _ => 1) d half used s)) := okD_mk h (crash_len ..) (crash_sect _ d h hh hu)
  have hf2 : hf (mkD (crashS (fun _ => 1) d half used s)) = hf d := hf_mk (crash_len ..)
  have q2 := save_flush (mkD (crashS (fun _ => 1) d half used s)) h2 rfl [api_Write.mk ((half * hf d : Nat) : Int) (headS gen (used + s.length))] (by have := head_good _ h2 hh gen (used + s.length); rwa [hf2] at this) (by simp)
  have w1 : IntKind.i64.wrap ((0 : Int) + 1) = 1 := by decide
  have w2 : IntKind.i64.wrap ((1 : Int) + 1) = 2 := by decide
  rw [f_ledger_done_l11, if_pos (by simp [layS]), show ix (layS d half gen used s, e).1 0 = some (if s = [] then [] else outW (half * hf d) used s.length (thenS (roomS d half) used s)) from rfl, Option.bind_some, q1.1, Option.bind_some]
  dsimp only
  rw [q1.2, Option.bind_some, w1, f_ledger_done_l11, if_pos (by simp [layS]), show ix (layS d half gen used s, e).1 1 = some [api_Write.mk ((half * hf d : Nat) : Int) (headS gen (used + s.length))] from rfl, Option.bind_some]
  have q21 := q2.1
  have q22 := q2.2
  dsimp only [mkD] at q21 q22 ⊢
  rw [show endS (fun _ => 1) 0 (if s = [] then [] else outW (half * hf d) used s.length (thenS (roomS d half) used s)) d.Sectors = crashS (fun _ => 1) d half used s from rfl, q21, Option.bind_some]
  dsimp only
  rw [q22, Option.bind_some, w2, f_ledger_done_l11, if_neg (by simp [layS])]
  rfl
/-- What an Add, or a Renew, comes to. -/
def doneS (d : api_Disk) (half gen used : Nat) (es : List Str) (renew : Bool) (news : List Str) : api_Ledger × Int :=
  if ¬ mayP news then (zeroL, 2) else if fullP d (goS renew half gen used) (bindP news).length then (zeroL, 13)
  else (ledR (newD d (goS renew half gen used).1 (goS renew half gen used).2.1 (goS renew half gen used).2.2 (bindP news)) (goS renew half gen used).1 (goS renew half gen used).2.1 ((goS renew half gen used).2.2 + (bindP news).length) (if renew then news else es ++ news), 0)
theorem Led.go {d : api_Disk} {half gen used : Nat} {es : List Str} (h : Led d half gen used es) (renew : Bool) {news : List Str} (hm : mayP news) (hf_ : ¬ fullP d (goS renew half gen used) (bindP news).length) :
    Led (newD d (goS renew half gen used).1 (goS renew half gen used).2.1 (goS renew half gen used).2.2 (bindP news)) (goS renew half gen used).1 (goS renew half gen used).2.1 ((goS renew half gen used).2.2 + (bindP news).length) (if renew then news else es ++ news) := by
  cases renew with
  | true =>
    have f2 : ¬ (128 * (hf d - 1) < 0 + (bindP news).length ∨ 1099511627776 < gen + 1) := hf_
    exact h.renew hm.2 (by omega) (by omega)
  | false =>
    have f2 : ¬ (128 * (hf d - 1) < used + (bindP news).length ∨ 1099511627776 < gen) := hf_
    exact h.add hm.2 (by omega)
theorem done_go {d : api_Disk} {half gen used : Nat} {es : List Str} (h : Led d half gen used es) (renew : Bool) (news : List Str) (hn : news.length ≤ 66) :
    f_ledger_done (ledR d half gen used es) renew news = some (doneS d half gen used es renew news) := by
  have hg := go_le h renew
  unfold f_ledger_done doneS
  rw [steps_go h renew news hn, Option.bind_some]
  by_cases c : mayP news
  · by_cases f : fullP d (goS renew half gen used) (bindP news).length
    · rw [if_neg (show ¬ ¬ mayP news from fun h => h c), if_neg (show ¬ ¬ mayP news from fun h => h c), if_pos f, if_pos f]; rfl
    · have hgo := h.go renew c f
      rw [if_neg (show ¬ ¬ mayP news from fun h => h c), if_neg (show ¬ ¬ mayP news from fun h => h c), if_neg f, if_neg f, if_neg (show ¬ (((0 : Int) != 0) = true) by decide)]
      have e := done11_ok d h.ok h.dirty (goS renew half gen used).1 (goS renew half gen used).2.1 (goS renew half gen used).2.2 hg.1 (bindP news) (by unfold fullP at f; omega) 0
      dsimp only
      rw [show ((((layS d (goS renew half gen used).1 (goS renew half gen used).2.1 (goS renew half gen used).2.2 (bindP news)).length : Int) : Int) - 0).toNat + 1 = 3 from rfl, e, Option.bind_some]
      dsimp only
      rw [show api_Disk.mk (newD d (goS renew half gen used).1 (goS renew half gen used).2.1 (goS renew half gen used).2.2 (bindP news)).Sectors [] = newD d (goS renew half gen used).1 (goS renew half gen used).2.1 (goS renew half gen used).2.2 (bindP news) from rfl]
      have hi := hgo.ok.hi
      rw [open_ok _ (by omega) (by rw [hgo.dirty]; decide), hgo.openS, Option.bind_some]
  · rw [if_pos c, if_pos c]; rfl
theorem add_go {d : api_Disk} {half gen used : Nat} {es : List Str} (h : Led d half gen used es) (news : List Str) (hn : news.length ≤ 66) :
    f_ledger_Add (ledR d half gen used es) news = some (doneS d half gen used es false news) := by
  unfold f_ledger_Add; rw [done_go h false news hn]; rfl
theorem renew_go {d : api_Disk} {half gen used : Nat} {es : List Str} (h : Led d half gen used es) (news : List Str) (hn : news.length ≤ 66) :
    f_ledger_Renew (ledR d half gen used es) news = some (doneS d half gen used es true news) := by
  unfold f_ledger_Renew; rw [done_go h true news hn]; rfl
end Go.Proofs.Ytjhelpeglgigbab.V.M
end

section
/- Ledger: the empty one; what the laws share. -/
namespace Go.Proofs.Ytjhelpeglgigbab.V.M
set_option linter.unusedVariables false
set_option linter.unusedSimpArgs false
open Go Go.RowKit
def fmtD (n : Nat) : api_Disk := mkD ((List.replicate n (List.replicate 128 0)).set 0 (headS 1 0))
theorem fmtD_len (n : Nat) : (fmtD n).Sectors.length = n := by show (List.set _ _ _).length = _; simp
theorem fmtD_hf (n : Nat) : hf (fmtD n) = n / 2 := by unfold hf; rw [fmtD_len]
theorem fmtD_0 {n : Nat} (h : 4 ≤ n) : (fmtD n).Sectors[0]? = some (headS 1 0) := by
  show (List.set _ _ _)[0]? = _; rw [List.getElem?_set_self (by simp; omega)]
theorem fmtD_i {n i : Nat} (h : i < n) (h0 : 0 < i) : (fmtD n).Sectors[i]? = some (List.replicate 128 0) := by
  show (List.set _ _ _)[i]? = _; rw [List.getElem?_set_ne (by omega), List.getElem?_replicate, if_pos h]
theorem fmtD_ok {n : Nat} (h1 : 4 ≤ n) (h2 : n ≤ 64) : OkD (fmtD n) :=
  ⟨by rw [fmtD_len]; exact h1, by rw [fmtD_len]; exact h2, by show 0 ≤ 200; decide, set_sect (fun s hs => by rw [(List.mem_replicate.mp hs).2]; simp) _ (headS_len 1 0)⟩
theorem fmt_sec0 {n : Nat} (h1 : 4 ≤ n) : secS (fmtD n) 0 = headS 1 0 := by rw [secS_get, Nat.zero_mul, fmtD_0 h1]; rfl
theorem fmt_sec1 {n : Nat} (h1 : 4 ≤ n) : secS (fmtD n) 1 = List.replicate 128 0 := by rw [secS_get, Nat.one_mul, fmtD_hf, fmtD_i (by omega) (by omega)]; rfl
theorem fmt_tells1 {n : Nat} (h1 : 4 ≤ n) : tellsS (fmtD n) 1 = (0, 0) := by
  unfold tellsS toldB
  rw [fmt_sec1 h1, show genN (List.replicate 128 0) = 0 by decide]
  rfl
theorem fmt_led {n : Nat} (h1 : 4 ≤ n) (h2 : n ≤ 64) : Led (fmtD n) 0 1 0 [] := by
  refine ⟨fmtD_ok h1 h2, rfl, pick_of (by decide) (tells_head (fmt_sec0 h1) (by decide) (by decide) (Nat.zero_le _) (by decide)) (fun _ => by rw [fmt_tells1 h1]; decide) (by omega), by decide, ?_⟩
  rw [List.take_zero]; rfl
theorem fmt_clean {n : Nat} (h1 : 4 ≤ n) (h2 : n ≤ 64) {half : Nat} (hh : half ≤ 1) : clean (roomS (fmtD n) half) 0 := by
  intro i _ hi
  have hok := fmtD_ok h1 h2
  have hm := half_mul_le (d := fmtD n) hh
  have hfn := fmtD_hf n
  rw [roomS_len hok hh] at hi
  rw [room_get _ hok hh i hi, fmtD_i (by omega) (by omega), Option.bind_some, List.getElem?_replicate, if_pos (by omega)]
theorem format_ok (n : Nat) (h1 : 4 ≤ n) (h2 : n ≤ 64) : f_ledger_Format (n : Int) = some (ledR (fmtD n) 0 1 0 [], 0) := by
  unfold f_ledger_Format
  have e : f_ledger_head 1 0 = some (headS 1 0) := head_ok 1 0 (by decide) (by decide)
  rw [if_pos (by omega), e, Option.bind_some, Int.toNat_natCast]
  show f_ledger_Open (fmtD n) = _
  have h := fmt_led h1 h2
  have hl := fmtD_len n
  rw [open_ok _ (by omega) (by rw [h.dirty]; decide), h.openS]
theorem clamp_ok (lo hi : Nat) (x : Int) (h : lo ≤ hi) : ∃ n : Nat, lo ≤ n ∧ n ≤ hi ∧ (if (hi : Int) < (if x < (lo : Int) then (lo : Int) else x) then (hi : Int) else (if x < (lo : Int) then (lo : Int) else x)) = (n : Int) := by
  by_cases a : x < (lo : Int)
  · rw [if_pos a, if_neg (by omega)]; exact ⟨lo, by omega, by omega, rfl⟩
  · rw [if_neg a]
    by_cases b : (hi : Int) < x
    · rw [if_pos b]; exact ⟨hi, by omega, by omega, rfl⟩
    · rw [if_neg b]; exact ⟨x.toNat, by omega, by omega, by omega⟩
theorem Led.ent_len {d : api_Disk} {half gen used : Nat} {es : List Str} (h : Led d half gen used es) : es.length ≤ 4000 := by
  have hl := hf_le h.ok
  have hu := h.used_le
  have e := h.ent
  unfold entS at e
  have := entG_len _ _ _ _ e
  rw [List.length_take, List.length_nil] at this
  omega
theorem Led.open_f {d : api_Disk} {half gen used : Nat} {es : List Str} (h : Led d half gen used es) : f_ledger_Open d = some (ledR d half gen used es, 0) := by
  have := h.ok.hi
  rw [open_ok _ (by omega) (by rw [h.dirty]; decide), h.openS]
theorem doneS_long {d : api_Disk} {half gen used : Nat} {es : List Str} {renew : Bool} {news : List Str} (h : ¬ mayP news) : doneS d half gen used es renew news = (zeroL, 2) := by unfold doneS; rw [if_pos h]
theorem doneS_full {d : api_Disk} {half gen used : Nat} {es : List Str} {renew : Bool} {news : List Str} (h : mayP news) (hf_ : fullP d (goS renew half gen used) (bindP news).length) : doneS d half gen used es renew news = (zeroL, 13) := by
  unfold doneS; rw [if_neg (show ¬ ¬ mayP news from fun h2 => h2 h), if_pos hf_]
theorem doneS_may {d : api_Disk} {half gen used : Nat} {es : List Str} {renew : Bool} {news : List Str} (h : mayP news) (hf_ : ¬ fullP d (goS renew half gen used) (bindP news).length) : doneS d half gen used es renew news =
    (ledR (newD d (goS renew half gen used).1 (goS renew half gen used).2.1 (goS renew half gen used).2.2 (bindP news)) (goS renew half gen used).1 (goS renew half gen used).2.1 ((goS renew half gen used).2.2 + (bindP news).length) (if renew then news else es ++ news), 0) := by
  unfold doneS; rw [if_neg (show ¬ ¬ mayP news from fun h2 => h2 h), if_neg hf_]
/-- Three ways. -/
theorem doneS_cases {d : api_Disk} {half gen used : Nat} {es : List Str} (h : Led d half gen used es) (renew : Bool) (news : List Str) :
    (doneS d half gen used es renew news = (zeroL, 2) ∨ doneS d half gen used es renew news = (zeroL, 13)) ∨
    ∃ d2 half2 gen2 used2, Led d2 half2 gen2 used2 (if renew then news else es ++ news) ∧ doneS d half gen used es renew news = (ledR d2 half2 gen2 used2 (if renew then news else es ++ news), 0) := by
  by_cases m : mayP news
  · by_cases f : fullP d (goS renew half gen used) (bindP news).length
    · exact .inl (.inr (doneS_full m f))
    · exact .inr ⟨_, _, _, _, h.go renew m f, doneS_may m f⟩
  · exact .inl (.inl (doneS_long m))
abbrev tupL (p : api_Ledger × Int) : Int × (List Str) × (List api_Write) × Int × Int × Int × (List Str) := (p.2, p.1.Disk.Sectors, p.1.Disk.Dirty, p.1.Half, p.1.Gen, p.1.Used, p.1.Entries)
theorem either_go {d : api_Disk} {half gen used : Nat} {es : List Str} (h : Led d half gen used es) (renew : Bool) (news : List Str) (hn : news.length ≤ 66) {α : Type} (k : Int × (List Str) × (List api_Write) × Int × Int × Int × (List Str) → Option α) :
    (Option.bind (if renew then (f_ledger_Renew (api_Ledger.mk (api_Disk.mk d.Sectors d.Dirty) (half : Int) (gen : Int) (used : Int) es) news).bind fun t3 => some (t3.2, t3.1.Disk.Sectors, t3.1.Disk.Dirty, t3.1.Half, t3.1.Gen, t3.1.Used, t3.1.Entries)
      else (f_ledger_Add (api_Ledger.mk (api_Disk.mk d.Sectors d.Dirty) (half : Int) (gen : Int) (used : Int) es) news).bind fun t3 => some (t3.2, t3.1.Disk.Sectors, t3.1.Disk.Dirty, t3.1.Half, t3.1.Gen, t3.1.Used, t3.1.Entries)) k) = k (tupL (doneS d half gen used es renew news)) := by
  cases renew with
  | true =>
    have e : f_ledger_Renew (api_Ledger.mk (api_Disk.mk d.Sectors d.Dirty) (half : Int) (gen : Int) (used : Int) es) news = some (doneS d half gen used es true news) := renew_go h news hn
    rw [if_pos rfl, e]; rfl
  | false =>
    have e : f_ledger_Add (api_Ledger.mk (api_Disk.mk d.Sectors d.Dirty) (half : Int) (gen : Int) (used : Int) es) news = some (doneS d half gen used es false news) := add_go h news hn
    rw [if_neg (by decide), e]; rfl
theorem same_refl (l : List Str) (h : l.length ≤ 1000000) : f_ref01_Same l l = some true := by rw [same_ok _ _ (by omega)]; simp
end Go.Proofs.Ytjhelpeglgigbab.V.M
end

section
/- Ledger: the law LedgerCrashes. -/
namespace Go.Proofs.Ytjhelpeglgigbab.V.M
set_option linter.unusedVariables false
set_option linter.unusedSimpArgs false
open Go Go.RowKit
/-- Heads end in zeros. -/
def Tail (d : api_Disk) : Prop := ∀ half, half ≤ 1 → (secS d half).drop 64 = List.replicate 64 0
theorem fmt_tail {n : Nat} (h1 : 4 ≤ n) : Tail (fmtD n) := by
  intro half hh
  rcases Nat.le_one_iff_eq_zero_or_eq_one.mp hh with rfl | rfl
  · rw [fmt_sec0 h1]; exact head_tail 1 0
  · rw [fmt_sec1 h1]; rfl
theorem newD_tail {d : api_Disk} (h : OkD d) (t : Tail d) {half : Nat} (hh : half ≤ 1) (gen : Nat) {used : Nat} {s : Str} (hu : used + s.length ≤ 128 * (hf d - 1)) : Tail (newD d half gen used s) := by
  have hl := hf_le h
  intro k hk
  by_cases c : k = half
  · subst c; rw [newD_head h hh]; exact head_tail _ _
  · rw [show secS (newD d half gen used s) k = secS d k from sec_mk (newD_len ..) (newD_other h hh gen hu _ (by rcases Nat.le_one_iff_eq_zero_or_eq_one.mp hh with rfl | rfl <;> rcases Nat.le_one_iff_eq_zero_or_eq_one.mp hk with rfl | rfl <;> omega))]
    exact t k hk
theorem doneT_cases {d : api_Disk} {half gen used : Nat} {es : List Str} (h : Led d half gen used es) (t : Tail d) (renew : Bool) (news : List Str) :
    (doneS d half gen used es renew news = (zeroL, 2) ∨ doneS d half gen used es renew news = (zeroL, 13)) ∨
    ∃ d2 half2 gen2 used2, Led d2 half2 gen2 used2 (if renew then news else es ++ news) ∧ Tail d2 ∧ doneS d half gen used es renew news = (ledR d2 half2 gen2 used2 (if renew then news else es ++ news), 0) := by
  by_cases m : mayP news
  · by_cases f : fullP d (goS renew half gen used) (bindP news).length
    · exact .inl (.inr (doneS_full m f))
    · exact .inr ⟨_, _, _, _, h.go renew m f, newD_tail h.ok t (go_le h renew).1 _ (by unfold fullP at f; omega), doneS_may m f⟩
  · exact .inl (.inl (doneS_long m))
/-- A crash while what is laid in a room is not safe: the ledger that was there. -/
theorem Led.crash0 {d : api_Disk} {half gen used : Nat} {es : List Str} (h : Led d half gen used es) (f : Nat → Int) (renew : Bool) {s : Str} (hu : (goS renew half gen used).2.2 + s.length ≤ 128 * (hf d - 1)) :
    Led (mkD (crashS f d (goS renew half gen used).1 (goS renew half gen used).2.2 s)) half gen used es := by
  have hl := hf_le h.ok
  have hg := go_le h renew
  have hh := h.half_le
  have ht := h.tells
  have hub := h.used_le
  have hr := roomS_len h.ok hh
  have hm := half_mul_le (d := d) hh
  have same : ∀ k, k ≤ 1 → tellsS (mkD (crashS f d (goS renew half gen used).1 (goS renew half gen used).2.2 s)) k = tellsS d k := by
    intro k hk
    refine tells_mk (crash_len ..) (crash_out f d h.ok hg.1 hu _ ?_)
    generalize (goS renew half gen used).1 = g at hg
    rcases Nat.le_one_iff_eq_zero_or_eq_one.mp hg.1 with rfl | rfl <;> rcases Nat.le_one_iff_eq_zero_or_eq_one.mp hk with rfl | rfl <;> omega
  refine ⟨okD_mk h.ok (crash_len ..) (crash_sect f d h.ok hg.1 hu), rfl, pick_of hh (by rw [same _ hh]; exact ht.1) (fun e => by rw [same 1 (by decide)]; exact ht.2.1 e) (fun e => by rw [same 0 (by decide)]; exact ht.2.2 e), h.gen0, ?_⟩
  rw [room_take h.ok (crash_len ..) (crash_sect f d h.ok hg.1 hu) hh used (roomS d half) hub (by omega) fun i hi => ?_]
  · exact h.ent
  · cases renew with
    | false => exact crash_used f d h.ok hh hu i hi
    | true =>
      have hg1 : 1 - half ≤ 1 := by omega
      have hu1 : 0 + s.length ≤ 128 * (hf d - 1) := hu
      have q := crash_out f d h.ok hg1 hu1 (half * hf d + 1 + i / 128) (by rcases Nat.le_one_iff_eq_zero_or_eq_one.mp hh with rfl | rfl <;> omega)
      rw [show (crashS f d (goS true half gen used).1 (goS true half gen used).2.2 s) = crashS f d (1 - half) 0 s from rfl, q, ← room_get d h.ok hh i (by omega)]
def fateF (l : List Int) (i : Nat) : Int := l.getD i 0
theorem fate_ok (l : List Int) (i : Nat) : f_disk_Crash_1 (i : Int) l = some (fateF l i) := by
  unfold f_disk_Crash_1 fateF
  by_cases c : l.length ≤ i
  · rw [if_pos (by simp; omega), List.getD_eq_getElem?_getD, List.getElem?_eq_none c]; rfl
  · rw [if_neg (by simp; omega), ix_nat, List.getD_eq_getElem?_getD, List.getElem?_eq_getElem (by omega)]; rfl
theorem crash_ok (d : api_Disk) (h : OkD d) (hw : ∀ w ∈ d.Dirty, GoodW d.Sectors.length w) (l : List Int) : f_disk_Crash d l = some (mkD (endS (fateF l) 0 d.Dirty d.Sectors), 0) := by
  have := h.hi; have := h.dirty
  unfold f_disk_Crash
  rw [right_ok d (by omega) (by omega), okB_true h hw, Option.bind_some, if_neg (by decide), ends_ok d h hw _ (fateF l) (fun i _ => fate_ok l i)]; rfl
/-- A crash while the head is not safe: all, or what was. -/
theorem crash1_cases {d : api_Disk} {half gen used : Nat} {es : List Str} (h : Led d half gen used es) (t : Tail d) (f : Nat → Int) (renew : Bool) {news : List Str} (hm : mayP news) (hu : ¬ fullP d (goS renew half gen used) (bindP news).length) :
    ∃ L, endS f 0 [api_Write.mk (((goS renew half gen used).1 * hf d : Nat) : Int) (headS (goS renew half gen used).2.1 ((goS renew half gen used).2.2 + (bindP news).length))] (crashS (fun _ => 1) d (goS renew half gen used).1 (goS renew half gen used).2.2 (bindP news)) = L ∧
      (Led (mkD L) half gen used es ∨ ∃ h2 g2 u2, Led (mkD L) h2 g2 u2 (if renew then news else es ++ news)) := by
  have hl := hf_le h.ok
  have hg := go_le h renew
  have hgo := h.go renew hm hu
  have hu2 : (goS renew half gen used).2.2 + (bindP news).length ≤ 128 * (hf d - 1) := by unfold fullP at hu; omega
  have hc0 := h.crash0 (fun _ => 1) renew (s := bindP news) hu2
  refine ⟨_, rfl, ?_⟩
  have hmul := half_mul_le (d := d) hg.1
  have ho : (crashS (fun _ => 1) d (goS renew half gen used).1 (goS renew half gen used).2.2 (bindP news))[(goS renew half gen used).1 * hf d]? = some (secS d (goS renew half gen used).1) := by
    rw [crash_out _ d h.ok hg.1 hu2 _ (.inl (by omega)), secS_get, List.getElem?_eq_getElem (show (goS renew half gen used).1 * hf d < d.Sectors.length by omega)]; rfl
  have htl := t _ hg.1
  rw [endS, endS]
  dsimp only
  rw [Int.toNat_natCast, List.getD_eq_getElem?_getD, ho, Option.getD_some]
  unfold newD at hgo
  generalize (goS renew half gen used).1 = g at hgo hc0 ho htl hmul
  generalize crashS (fun _ => 1) d g (goS renew half gen used).2.2 (bindP news) = L at hgo hc0 ho
  have hH := head_tail (goS renew half gen used).2.1 ((goS renew half gen used).2.2 + (bindP news).length)
  generalize headS (goS renew half gen used).2.1 ((goS renew half gen used).2.2 + (bindP news).length) = H at hgo hH
  unfold mixS
  by_cases c2 : f 0 = 2
  · rw [if_pos c2, htl, ← hH, List.take_append_drop]
    exact .inr ⟨_, _, _, hgo⟩
  · rw [if_neg c2]
    by_cases c1 : f 0 = 1
    · rw [if_pos c1]; exact .inr ⟨_, _, _, hgo⟩
    · rw [if_neg c1]
      have e : L.set (g * hf d) (secS d g) = L := by
        obtain ⟨hlt, he⟩ := List.getElem?_eq_some_iff.mp ho
        rw [← he]; exact List.set_getElem_self hlt
      rw [e]; exact .inl hc0
theorem crash15_ok (rows : List (List Str)) (renew : Bool) (news : List Str) (step : Int) (fates : List Int) (k : Nat) : ∀ (v m : Nat) (d : api_Disk) (half gen used : Nat) (es : List Str), Led d half gen used es → Tail d → v + k = rows.length → k < m →
    ∃ z d2 half2 gen2 used2 es2, Led d2 half2 gen2 used2 es2 ∧ Tail d2 ∧ f_law10_LedgerCrashes_l15 rows renew news step fates m (v : Int) d.Sectors d.Dirty half gen used es = some (z, d2.Sectors, d2.Dirty, (half2 : Int), (gen2 : Int), (used2 : Int), es2) := by
  induction k with
  | zero =>
    intro v m d half gen used es h t hv hm
    obtain ⟨m, rfl⟩ : ∃ k, m = k + 1 := ⟨m - 1, by omega⟩
    rw [f_law10_LedgerCrashes_l15, if_neg (by simp; omega)]
    exact ⟨_, d, half, gen, used, es, h, t, rfl⟩
  | succ k ih =>
    intro v m d half gen used es h t hv hm
    obtain ⟨m, rfl⟩ : ∃ k, m = k + 1 := ⟨m - 1, by omega⟩
    rw [f_law10_LedgerCrashes_l15, if_pos (by simp; omega), ix_nat, List.getElem?_eq_getElem (by omega), Option.bind_some]
    by_cases c : v ≥ 10
    · rw [if_pos (by simp; omega)]
      exact ⟨_, d, half, gen, used, es, h, t, rfl⟩
    · have hx := fewL_len (rows[v]'(by omega))
      rw [if_neg (by simp; omega), texts_ok, Option.bind_some]
      generalize fewL (rows[v]'(by omega)) = x at hx
      have e1 : f_ledger_Add (api_Ledger.mk (api_Disk.mk d.Sectors d.Dirty) (half : Int) (gen : Int) (used : Int) es) x = some (doneS d half gen used es false x) := add_go h x hx
      have e2 : f_ledger_Renew (api_Ledger.mk (api_Disk.mk d.Sectors d.Dirty) (half : Int) (gen : Int) (used : Int) es) x = some (doneS d half gen used es true x) := renew_go h x hx
      rw [e1, Option.bind_some, Option.bind_some, e2, w_s (by omega)]
      have go := fun d2 h2 g2 u2 es2 (q : Led d2 h2 g2 u2 es2) (qt : Tail d2) => ih (v + 1) m d2 h2 g2 u2 es2 q qt (by omega) (by omega)
      rcases doneT_cases h t false x with (a | a) | ⟨d2, h2, g2, u2, q, qt, a⟩
      · rw [a, if_neg (show ¬ (((2 : Int) == 13) = true) by decide), Option.bind_some, if_neg (show ¬ (((2 : Int) == 0) = true) by decide)]
        exact go _ _ _ _ _ h t
      · rw [a, if_pos (show (((13 : Int) == 13) = true) by decide), Option.bind_some]
        rcases doneT_cases h t true x with (b | b) | ⟨d3, h3, g3, u3, q, qt, b⟩
        · rw [b, Option.bind_some, if_neg (show ¬ (((2 : Int) == 0) = true) by decide)]; exact go _ _ _ _ _ h t
        · rw [b, Option.bind_some, if_neg (show ¬ (((13 : Int) == 0) = true) by decide)]; exact go _ _ _ _ _ h t
        · rw [b, Option.bind_some, if_pos (show (((0 : Int) == 0) = true) by decide)]; exact go _ _ _ _ _ q qt
      · rw [a, if_neg (show ¬ (((0 : Int) == 13) = true) by decide), Option.bind_some, if_pos (show (((0 : Int) == 0) = true) by decide)]
        exact go _ _ _ _ _ q qt
theorem two_cases (n : Int) (h : -9223372036854775808 ≤ n ∧ n ≤ 9223372036854775807) : (IntKind.i64.wrap ((n.tmod 2) + 2)).tmod 2 = 0 ∨ (IntKind.i64.wrap ((n.tmod 2) + 2)).tmod 2 = 1 := by
  have h1 := Int.lt_tmod_of_pos n (b := 2) (by omega)
  have h2 := Int.tmod_lt_of_pos n (b := 2) (by omega)
  generalize n.tmod 2 = x at h1 h2
  rw [w_i64 (by omega) (by omega), Int.tmod_eq_emod_of_nonneg (by omega)]
  omega
theorem ledgerCrashes_true (sectors : Int) (rows : List (List Str)) (renew : Bool) (news : List Str) (step : Int) (fates : List Int) (hs : (Lit.int .i64 step).wf = true) : f_law10_LedgerCrashes sectors rows renew news step fates = some true := by
  have hst := two_cases step (bounds_i64 hs)
  obtain ⟨n, n1, n2, en⟩ := clamp_ok 4 64 sectors (by decide)
  unfold f_law10_LedgerCrashes
  rw [show (if 64 < (if sectors < 4 then 4 else sectors) then 64 else (if sectors < 4 then 4 else sectors)) = (n : Int) from en, Option.bind_some, format_ok n n1 n2, Option.bind_some, alive10]
  rw [show gx (!(((0 : Int)) != 0)) (some true) default = some true from rfl, Option.bind_some, if_neg (show ¬ ((((0 : Int) != 0) || !true) = true) by decide)]
  obtain ⟨z, d, half, gen, used, es, h, t, e⟩ := crash15_ok rows renew news step fates rows.length 0 ((((rows.length : Int) : Int) - 0).toNat + 1) (fmtD n) 0 1 0 [] (fmt_led n1 n2) (fmt_tail n1) (by omega) (by omega)
  have hx := fewL_len news
  dsimp only
  rw [show f_law10_LedgerCrashes_l15 rows renew news step fates ((((rows.length : Int) : Int) - 0).toNat + 1) 0 (fmtD n).Sectors (fmtD n).Dirty ((0 : Nat) : Int) ((1 : Nat) : Int) ((0 : Nat) : Int) [] = _ from e, Option.bind_some, texts_ok, Option.bind_some]
  generalize fewL news = x at hx
  dsimp only
  have hd := h.dirty
  have hes := h.ent_len
  rw [show f_ledger_Steps (api_Ledger.mk (api_Disk.mk d.Sectors d.Dirty) (half : Int) (gen : Int) (used : Int) es) renew x = _ from steps_go h renew x hx, Option.bind_some]
  by_cases m : mayP x
  · rw [if_neg (show ¬ ¬ mayP x from fun h2 => h2 m)]
    by_cases f : fullP d (goS renew half gen used) (bindP x).length
    · rw [if_pos f]; rfl
    · rw [if_neg f, if_neg (show ¬ (((0 : Int) != 0) = true) by decide)]
      dsimp only
      have hl := hf_le h.ok
      have hg := go_le h renew
      have hu : (goS renew half gen used).2.2 + (bindP x).length ≤ 128 * (hf d - 1) := by unfold fullP at f; omega
      have then_ok : ∀ {α : Type} (k : List Str → Option α), (Option.bind (if (!renew) = true then gd ((0 + es.length) * 16 ≤ 140737488355328) <| gd (((([] : List Str) ++ es).length + x.length) * 16 ≤ 140737488355328) <| some ((([] : List Str) ++ es) ++ x) else some x) k) = k (if renew then x else es ++ x) := by
        intro α k
        cases renew with
        | true => rfl
        | false => rw [if_pos (show (!false) = true from rfl), gd_t _ (by omega), gd_t _ (by rw [List.nil_append]; omega)]; rfl
      -- what is found
      have fin : ∀ (L : List Str) (st : Bool), (Led (mkD L) half gen used es ∨ st = true ∧ ∃ h2 g2 u2, Led (mkD L) h2 g2 u2 (if renew then x else es ++ x)) →
          ((f_ledger_Open (mkD L)).bind fun t6 => Option.bind (if (!renew) = true then gd ((0 + es.length) * 16 ≤ 140737488355328) <| gd (((([] : List Str) ++ es).length + x.length) * 16 ≤ 140737488355328) <| some ((([] : List Str) ++ es) ++ x) else some x) fun s2 : (List Str) =>
            if (((0 : Int) != 0) || (t6.2 != 0)) then some false
            else
              (gx ((t6.1.Gen == (gen : Int)) && (t6.1.Used == (used : Int))) (f_ref01_Same t6.1.Entries es) default).bind fun t7 =>
              (gx ((!(((t6.1.Gen == (gen : Int)) && (t6.1.Used == (used : Int))) && t7)) && st) (f_ref01_Same t6.1.Entries s2) default).bind fun t8 =>
              some ((((t6.1.Gen == (gen : Int)) && (t6.1.Used == (used : Int))) && t7) || (st && t8))) = some true := by
        intro L st hL
        rcases hL with q | ⟨rfl, h2, g2, u2, q⟩
        · rw [q.open_f, Option.bind_some, then_ok, if_neg (show ¬ ((((0 : Int) != 0) || ((0 : Int) != 0)) = true) by decide)]
          dsimp only
          rw [same_refl es (by omega)]
          simp [gx]
        · have q1 := q.ent_len
          rw [q.open_f, Option.bind_some, then_ok, if_neg (show ¬ ((((0 : Int) != 0) || ((0 : Int) != 0)) = true) by decide)]
          dsimp only
          rw [same_refl _ (by omega), same_ok _ _ (by omega)]
          generalize (((g2 : Int) == (gen : Int)) && ((u2 : Int) == (used : Int))) = a
          generalize decide ((if renew = true then x else es ++ x) = es) = b
          cases a <;> cases b <;> rfl
      have q1 := save_flush d h.ok h.dirty (if bindP x = [] then [] else outW ((goS renew half gen used).1 * hf d) (goS renew half gen used).2.2 (bindP x).length (thenS (roomS d (goS renew half gen used).1) (goS renew half gen used).2.2 (bindP x))) (outW_good d h.ok hg.1 hu) (by split; decide; exact Nat.le_trans (outW_num _ _ _ _ (by omega)) (by decide))
      have on : (if bindP x = [] then [] else outW ((goS renew half gen used).1 * hf d) (goS renew half gen used).2.2 (bindP x).length (thenS (roomS d (goS renew half gen used).1) (goS renew half gen used).2.2 (bindP x))).length ≤ 200 := by split; decide; exact Nat.le_trans (outW_num _ _ _ _ (by omega)) (by decide)
      rcases hst with hs0 | hs1
      · have e35 : f_law10_LedgerCrashes_l35 renew step fates (z, d.Sectors, d.Dirty, (half : Int), (gen : Int), (used : Int), es) x (layS d (goS renew half gen used).1 (goS renew half gen used).2.1 (goS renew half gen used).2.2 (bindP x), 0) 2 0 d.Sectors d.Dirty =
            some (.inl (1, d.Sectors, (if bindP x = [] then [] else outW ((goS renew half gen used).1 * hf d) (goS renew half gen used).2.2 (bindP x).length (thenS (roomS d (goS renew half gen used).1) (goS renew half gen used).2.2 (bindP x))))) := by
          rw [f_law10_LedgerCrashes_l35, hs0, show IntKind.i64.wrap ((0 : Int) + 1) = 1 by decide]
          rw [show cut (layS d (goS renew half gen used).1 (goS renew half gen used).2.1 (goS renew half gen used).2.2 (bindP x), (0 : Int)).1 0 1 = [if bindP x = [] then [] else outW ((goS renew half gen used).1 * hf d) (goS renew half gen used).2.2 (bindP x).length (thenS (roomS d (goS renew half gen used).1) (goS renew half gen used).2.2 (bindP x))] from rfl]
          rw [if_pos (by simp), show ∀ y : List api_Write, ix [y] 0 = some y from fun _ => rfl, Option.bind_some, q1.1, Option.bind_some, if_neg (show ¬ (((0 : Int) != 0) = true) by decide), if_neg (by decide)]
          rw [f_law10_LedgerCrashes_l35, hs0, show IntKind.i64.wrap ((0 : Int) + 1) = 1 by decide]
          rw [show cut (layS d (goS renew half gen used).1 (goS renew half gen used).2.1 (goS renew half gen used).2.2 (bindP x), (0 : Int)).1 0 1 = [if bindP x = [] then [] else outW ((goS renew half gen used).1 * hf d) (goS renew half gen used).2.2 (bindP x).length (thenS (roomS d (goS renew half gen used).1) (goS renew half gen used).2.2 (bindP x))] from rfl]
          rw [if_neg (by simp)]
        rw [hs0, show IntKind.i64.wrap ((0 : Int) + 1) = 1 by decide, gd_t _ (by simp [layS])]
        rw [show ((((cut (layS d (goS renew half gen used).1 (goS renew half gen used).2.1 (goS renew half gen used).2.2 (bindP x)) 0 1).length : Int) : Int) - 0).toNat + 1 = 2 from rfl, e35, Option.bind_some]
        dsimp only
        have ec := crash_ok (api_Disk.mk d.Sectors (if bindP x = [] then [] else outW ((goS renew half gen used).1 * hf d) (goS renew half gen used).2.2 (bindP x).length (thenS (roomS d (goS renew half gen used).1) (goS renew half gen used).2.2 (bindP x)))) ⟨h.ok.lo, h.ok.hi, on, h.ok.sect⟩ (outW_good d h.ok hg.1 hu) fates
        rw [ec, Option.bind_some]
        exact fin _ _ (.inl (h.crash0 (fateF fates) renew hu))
      · have h2 : OkD (mkD (crashS (fun _ => 1) d (goS renew half gen used).1 (goS renew half gen used).2.2 (bindP x))) := okD_mk h.ok (crash_len ..) (crash_sect _ d h.ok hg.1 hu)
        have hf2 : hf (mkD (crashS (fun _ => 1) d (goS renew half gen used).1 (goS renew half gen used).2.2 (bindP x))) = hf d := hf_mk (crash_len ..)
        have hgd := head_good _ h2 hg.1 (goS renew half gen used).2.1 ((goS renew half gen used).2.2 + (bindP x).length)
        rw [hf2] at hgd
        have q2 := save_flush (mkD (crashS (fun _ => 1) d (goS renew half gen used).1 (goS renew half gen used).2.2 (bindP x))) h2 rfl [api_Write.mk (((goS renew half gen used).1 * hf d : Nat) : Int) (headS (goS renew half gen used).2.1 ((goS renew half gen used).2.2 + (bindP x).length))] hgd (by simp)
        have q11 := q1.1
        have q12 := q1.2
        have q21 := q2.1
        dsimp only [mkD] at q12 q21
        have e35 : f_law10_LedgerCrashes_l35 renew step fates (z, d.Sectors, d.Dirty, (half : Int), (gen : Int), (used : Int), es) x (layS d (goS renew half gen used).1 (goS renew half gen used).2.1 (goS renew half gen used).2.2 (bindP x), 0) 3 0 d.Sectors d.Dirty =
            some (.inl (2, crashS (fun _ => 1) d (goS renew half gen used).1 (goS renew half gen used).2.2 (bindP x), [api_Write.mk (((goS renew half gen used).1 * hf d : Nat) : Int) (headS (goS renew half gen used).2.1 ((goS renew half gen used).2.2 + (bindP x).length))])) := by
          have ecut : cut (layS d (goS renew half gen used).1 (goS renew half gen used).2.1 (goS renew half gen used).2.2 (bindP x), (0 : Int)).1 0 2 = [if bindP x = [] then [] else outW ((goS renew half gen used).1 * hf d) (goS renew half gen used).2.2 (bindP x).length (thenS (roomS d (goS renew half gen used).1) (goS renew half gen used).2.2 (bindP x)), [api_Write.mk (((goS renew half gen used).1 * hf d : Nat) : Int) (headS (goS renew half gen used).2.1 ((goS renew half gen used).2.2 + (bindP x).length))]] := rfl
          rw [f_law10_LedgerCrashes_l35, hs1, show IntKind.i64.wrap ((1 : Int) + 1) = 2 by decide, ecut]
          rw [if_pos (by simp), show ∀ y y2 : List api_Write, ix [y, y2] 0 = some y from fun _ _ => rfl, Option.bind_some, q11, Option.bind_some, if_neg (show ¬ (((0 : Int) != 0) = true) by decide), if_pos (by decide)]
          dsimp only
          rw [q12, Option.bind_some, if_neg (show ¬ (((0 : Int) != 0) = true) by decide), show IntKind.i64.wrap ((0 : Int) + 1) = 1 by decide]
          rw [f_law10_LedgerCrashes_l35, hs1, show IntKind.i64.wrap ((1 : Int) + 1) = 2 by decide, ecut]
          rw [if_pos (by simp), show ∀ y y2 : List api_Write, ix [y, y2] 1 = some y2 from fun _ _ => rfl, Option.bind_some]
          rw [show endS (fun _ => 1) 0 (if bindP x = [] then [] else outW ((goS renew half gen used).1 * hf d) (goS renew half gen used).2.2 (bindP x).length (thenS (roomS d (goS renew half gen used).1) (goS renew half gen used).2.2 (bindP x))) d.Sectors = crashS (fun _ => 1) d (goS renew half gen used).1 (goS renew half gen used).2.2 (bindP x) from rfl]
          dsimp only
          rw [q21, Option.bind_some, if_neg (show ¬ (((0 : Int) != 0) = true) by decide), if_neg (by decide)]
          rw [f_law10_LedgerCrashes_l35, hs1, show IntKind.i64.wrap ((1 : Int) + 1) = 2 by decide, ecut]
          rw [if_neg (by simp)]
        rw [hs1, show IntKind.i64.wrap ((1 : Int) + 1) = 2 by decide, gd_t _ (by simp [layS])]
        rw [show ((((cut (layS d (goS renew half gen used).1 (goS renew half gen used).2.1 (goS renew half gen used).2.2 (bindP x)) 0 2).length : Int) : Int) - 0).toNat + 1 = 3 from rfl, e35, Option.bind_some]
        dsimp only
        have ec := crash_ok (api_Disk.mk (crashS (fun _ => 1) d (goS renew half gen used).1 (goS renew half gen used).2.2 (bindP x)) [api_Write.mk (((goS renew half gen used).1 * hf d : Nat) : Int) (headS (goS renew half gen used).2.1 ((goS renew half gen used).2.2 + (bindP x).length))]) ⟨h2.lo, h2.hi, by simp, h2.sect⟩ hgd fates
        rw [ec, Option.bind_some]
        obtain ⟨L, eL, hL⟩ := crash1_cases h t (fateF fates) renew m f
        dsimp only
        rw [eL]
        exact fin _ _ (hL.imp id fun q => ⟨rfl, q⟩)
  · rw [if_pos m]; rfl
end Go.Proofs.Ytjhelpeglgigbab.V.M
end

section
/- Ledger: the law LedgerOther. -/
namespace Go.Proofs.Ytjhelpeglgigbab.V.M
set_option linter.unusedVariables false
set_option linter.unusedSimpArgs false
open Go Go.RowKit
theorem Led.poke {d : api_Disk} {gen used : Nat} {es : List Str} (h : Led d 0 gen used es) {i : Nat} {B : Str} (hi : hf d < i) (hB : B.length = 128) : Led (mkD (d.Sectors.set i B)) 0 gen used es := by
  have hl := hf_le h.ok
  have ht := h.tells
  have hub := h.used_le
  have hr := roomS_len h.ok (half := 0) (by decide)
  have hlen : (d.Sectors.set i B).length = d.Sectors.length := List.length_set
  have same : ∀ k, k ≤ 1 → tellsS (mkD (d.Sectors.set i B)) k = tellsS d k := by
    intro k hk
    have := half_mul_le (d := d) hk
    exact tells_mk hlen (by rw [List.getElem?_set_ne (by omega)])
  refine ⟨okD_mk h.ok hlen (set_sect h.ok.sect _ hB), rfl, pick_of (by decide) (by rw [same 0 (by decide)]; exact ht.1) (fun e => by rw [same 1 (by decide)]; exact ht.2.1 e) (by omega), h.gen0, ?_⟩
  rw [room_take h.ok hlen (set_sect h.ok.sect _ hB) (by decide) used (roomS d 0) hub (by omega) fun j hj => ?_]
  · exact h.ent
  · rw [List.getElem?_set_ne (by omega), ← room_get d h.ok (by decide) j (by omega)]
theorem other16_ok (mv : List Str) (c : Int) (t3 : api_Ledger × Int) (a : Int) (k : Nat) : ∀ (v m : Nat) (b : List Int), b.length = 128 → v + k = 128 → k < m → ∃ z b2, b2.length = 128 ∧ f_law10_LedgerOther_l16 mv c t3 a m (v : Int) b = some (z, b2) := by
  induction k with
  | zero =>
    intro v m b hb hv hm
    obtain ⟨m, rfl⟩ : ∃ k, m = k + 1 := ⟨m - 1, by omega⟩
    rw [f_law10_LedgerOther_l16, if_neg (by simp; omega)]
    exact ⟨_, b, hb, rfl⟩
  | succ k ih =>
    intro v m b hb hv hm
    obtain ⟨m, rfl⟩ : ∃ k, m = k + 1 := ⟨m - 1, by omega⟩
    rw [f_law10_LedgerOther_l16, if_pos (by simp; omega), ix_nat, List.getElem?_eq_getElem (by omega), Option.bind_some, w_s (by omega)]
    exact ih (v + 1) m _ (by rw [List.length_set]; exact hb) (by omega) (by omega)
theorem ledgerOther_true (sectors : Int) (l m : List Str) (at_ c : Int) (ha : (Lit.int .i64 at_).wf = true) : f_law10_LedgerOther sectors l m at_ c = some true := by
  have ha1 := bounds_i64 ha
  obtain ⟨n, n1, n2, en⟩ := clamp_ok 6 64 sectors (by decide)
  unfold f_law10_LedgerOther
  have h0 := fmt_led (n := n) (by omega) n2
  have hx := fewL_len l
  have hy := fewL_len m
  rw [show (if 64 < (if sectors < 6 then 6 else sectors) then 64 else (if sectors < 6 then 6 else sectors)) = (n : Int) from en, Option.bind_some, format_ok n (by omega) n2, Option.bind_some, texts_ok, Option.bind_some, alive10]
  generalize fewL l = x at hx
  dsimp only
  rw [add_go h0 x hx, Option.bind_some, show gx (!(((0 : Int)) != 0)) (some true) default = some true from rfl, Option.bind_some, if_neg (show ¬ ((((0 : Int) != 0) || !true) = true) by decide), texts_ok, Option.bind_some]
  generalize fewL m = y at hy
  by_cases mx : mayP x
  · by_cases f : fullP (fmtD n) (goS false 0 1 0) (bindP x).length
    · rw [doneS_full mx f]; rfl
    · have hgo := h0.go false mx f
      rw [doneS_may mx f, if_neg (show ¬ (((0 : Int) != 0) = true) by decide)]
      rw [show goS false 0 1 0 = (0, 1, 0) from rfl] at hgo ⊢
      dsimp only at hgo ⊢
      have hh : hf (newD (fmtD n) 0 1 0 (bindP x)) = n / 2 := by rw [show hf (newD (fmtD n) 0 1 0 (bindP x)) = hf (fmtD n) from hf_mk (newD_len ..), fmtD_hf]
      have hs : (newD (fmtD n) 0 1 0 (bindP x)).Sectors.length = n := by rw [newD_len, fmtD_len]
      generalize newD (fmtD n) 0 1 0 (bindP x) = d at hgo hh hs
      generalize (if false = true then x else [] ++ x) = es at hgo
      generalize 0 + (bindP x).length = used at hgo
      have w1 : IntKind.i64.wrap ((n : Int).tdiv 2) = ((n / 2 : Nat) : Int) := by rw [Int.tdiv_eq_ediv_of_nonneg (by omega), w_i64 (by omega) (by omega)]; omega
      have w2 : IntKind.i64.wrap (((n / 2 : Nat) : Int) - 1) = ((n / 2 - 1 : Nat) : Int) := by rw [w_i64 (by omega) (by omega)]; omega
      have w3 : IntKind.i64.wrap (((n / 2 : Nat) : Int) + 1) = ((n / 2 + 1 : Nat) : Int) := w_s (by omega)
      obtain ⟨i, hi1, hi2, ei⟩ : ∃ i : Nat, n / 2 < i ∧ i < n ∧ IntKind.i64.wrap ((IntKind.i64.wrap (((n / 2 : Nat) : Int) + 1)) + ((IntKind.i64.wrap ((IntKind.i64.wrap ((at_.tmod (((n / 2 - 1 : Nat) : Int))) + ((n / 2 : Nat) : Int))) - 1)).tmod ((n / 2 - 1 : Nat) : Int))) = (i : Int) := by
        have h1 := Int.lt_tmod_of_pos at_ (b := ((n / 2 - 1 : Nat) : Int)) (by omega)
        have h2 := Int.tmod_lt_of_pos at_ (b := ((n / 2 - 1 : Nat) : Int)) (by omega)
        generalize at_.tmod ((n / 2 - 1 : Nat) : Int) = z at h1 h2
        rw [w3, w_i64 (n := z + ((n / 2 : Nat) : Int)) (by omega) (by omega), w_i64 (n := z + ((n / 2 : Nat) : Int) - 1) (by omega) (by omega), Int.tmod_eq_emod_of_nonneg (by omega)]
        have h3 := Int.emod_nonneg (z + ((n / 2 : Nat) : Int) - 1) (b := ((n / 2 - 1 : Nat) : Int)) (by omega)
        have h4 := Int.emod_lt_of_pos (z + ((n / 2 : Nat) : Int) - 1) (b := ((n / 2 - 1 : Nat) : Int)) (by omega)
        generalize (z + ((n / 2 : Nat) : Int) - 1) % ((n / 2 - 1 : Nat) : Int) = q at h3 h4
        rw [w_i64 (by omega) (by omega)]
        exact ⟨(((n / 2 + 1 : Nat) : Int) + q).toNat, by omega, by omega, by omega⟩
      rw [w1, w2, gd_t _ (by omega), gd_t _ (by omega), ei, gd_t _ (by decide)]
      obtain ⟨z, b, hb, e16⟩ := other16_ok m c (ledR d 0 1 used es, 0) (i : Int) 128 0 (((128 : Int) - 0).toNat + 1) (List.replicate 128 0) (by simp) (by decide) (by decide)
      rw [show f_law10_LedgerOther_l16 m c (ledR d 0 1 used es, 0) (i : Int) (((128 : Int) - 0).toNat + 1) 0 (List.replicate 128 0) = _ from e16, Option.bind_some]
      have hB : (b.map nb).length = 128 := by rw [List.length_map]; exact hb
      dsimp only
      generalize b.map nb = B at hB
      have hw : ∀ w ∈ [api_Write.mk (i : Int) B], GoodW d.Sectors.length w := by
        intro w hw
        obtain rfl := List.mem_singleton.mp hw
        exact ⟨by dsimp only; omega, by dsimp only; omega, hB⟩
      have q := save_flush d hgo.ok hgo.dirty [api_Write.mk (i : Int) B] hw (by simp)
      have q1 : f_disk_Save d [api_Write.mk (i : Int) B] = _ := q.1
      rw [q1, Option.bind_some]
      dsimp only
      rw [q.2, Option.bind_some]
      dsimp only
      have hp := hgo.poke (i := i) (B := B) (by omega) hB
      have e2 : endS (fun _ => 1) 0 [api_Write.mk (i : Int) B] d.Sectors = d.Sectors.set i B := rfl
      have hf2 : hf (mkD (d.Sectors.set i B)) = hf d := hf_mk List.length_set
      have l1 := hgo.ent_len
      rw [e2, hp.open_f, Option.bind_some, Option.bind_some, renew_go hgo y hy, Option.bind_some, Option.bind_some]
      dsimp only
      rw [renew_go hp y hy, Option.bind_some, same_refl es (by omega)]
      by_cases my : mayP y
      · by_cases g : fullP d (goS true 0 1 used) (bindP y).length
        · have g2 : fullP (mkD (d.Sectors.set i B)) (goS true 0 1 used) (bindP y).length := by unfold fullP at g ⊢; rw [hf2]; exact g
          rw [doneS_full my g, doneS_full my g2]; rfl
        · have g2 : ¬ fullP (mkD (d.Sectors.set i B)) (goS true 0 1 used) (bindP y).length := by unfold fullP at g ⊢; rw [hf2]; exact g
          rw [doneS_may my g, doneS_may my g2]
          dsimp only
          rw [same_refl _ (by have := my.1; rw [if_pos rfl]; omega)]
          simp [gx]
      · rw [doneS_long my, doneS_long my]; rfl
  · rw [doneS_long mx]; rfl
end Go.Proofs.Ytjhelpeglgigbab.V.M
end

section
/- The functions' proofs and the plain laws, side by side. -/
namespace Go.Proofs.Ytjhelpeglgigbab.V
set_option linter.unusedVariables false
set_option linter.unusedSimpArgs false
theorem ledgerCrashes_true (sectors : Int) (rows : List (List Str)) (renew : Bool) (news : List Str) (step : Int) (fates : List Int) (w0 : (Lit.int .i64 sectors).wf = true) (w1 : rows.length ≤ 9223372036854775807 ∧ ∀ y ∈ rows, y.length ≤ 9223372036854775807 ∧ ∀ x ∈ y, x.length ≤ 9223372036854775807) (w2 : True) (w3 : news.length ≤ 9223372036854775807 ∧ ∀ x ∈ news, x.length ≤ 9223372036854775807) (w4 : (Lit.int .i64 step).wf = true) (w5 : fates.length ≤ 9223372036854775807 ∧ ∀ x ∈ fates, (Lit.int .i64 x).wf = true) : f_law10_LedgerCrashes sectors rows renew news step fates = some true := M.ledgerCrashes_true sectors rows renew news step fates w4
theorem ledgerOther_true (sectors : Int) (l m : List Str) (at_ c : Int) (w0 : (Lit.int .i64 sectors).wf = true) (w1 : l.length ≤ 9223372036854775807 ∧ ∀ x ∈ l, x.length ≤ 9223372036854775807) (w2 : m.length ≤ 9223372036854775807 ∧ ∀ x ∈ m, x.length ≤ 9223372036854775807) (w3 : (Lit.int .i64 at_).wf = true) (w4 : (Lit.int .u8 c).wf = true) : f_law10_LedgerOther sectors l m at_ c = some true := M.ledgerOther_true sectors l m at_ c w3
end Go.Proofs.Ytjhelpeglgigbab.V
end

section
/- Rows: what a row lays of type handles. -/
namespace Go.Proofs.Ytjhelpeglgigbab.V
open Go Go.RowKit
set_option linter.unusedVariables false
set_option linter.unusedSimpArgs false
theorem glrep_h {w : World} {g u b o : Nat} (h : w.cell? ⟨g, 0, none⟩ = some (.iface u (.agg #[.pointer (some ⟨b, o, none⟩)]))) : RepD w (fun k => k < w.heap.size) (.ref [.ifc u true [.z (.hnd b o)]] 0) (.pointer (some ⟨g, 0, none⟩)) := by
  refine .ref _ 0 g 0 (fun _ => .iface u (.agg #[.pointer (some ⟨b, o, none⟩)])) (cell?_lt h) (fun j sc hj => ?_) (fun j sc hj => ?_)
  · match j, hj with
    | 0, hj => exact h
  · match j, hj with
    | 0, hj =>
      obtain rfl := Option.some.inj hj
      refine .ifa u _ _ rfl fun j sc hj => ?_
      match j, hj with
      | 0, hj => obtain rfl := Option.some.inj hj; exact .z (.hnd b o)
theorem handle_met {P : Program} {laid : List (String × DataW Unit)} {W : World} {v : String} {d : DataW Unit} {g u b o n : Nat} {ty : TypeId} {name : List UInt8} (h : handlesMet P laid W) (hm : (v, d) ∈ laid) (hf : d.funcsIn? = none)
    (hn : d.handleName? = some name) (hg : P.globalNamed v = some g) (hu : (P.cutTypes.find? (·.1 == "internal/reflectlite.rtype")).map (·.2) = some u) (hsz : P.types.size = n)
    (hone : ((List.range n).filter fun t => P.rowNamed t name) = [ty]) (hh : typeHandle P ty = .pointer (some ⟨b, o, none⟩)) : W.cell? ⟨g, 0, none⟩ = some (.iface u (.agg #[.pointer (some ⟨b, o, none⟩)])) := by
  have h1 := h _ hm
  simp only [hf] at h1
  obtain ⟨name', u', ty', e1, e2, e3, e4, e5⟩ := h1
  obtain rfl := Option.some.inj (hn.symm.trans e1)
  obtain rfl := Option.some.inj (hu.symm.trans e2)
  have hm : ty' ∈ (List.range n).filter fun t => P.rowNamed t name := List.mem_filter.2 ⟨List.mem_range.2 (by rw [← hsz]; exact e3), e4⟩
  rw [hone] at hm
  obtain rfl := List.mem_singleton.1 hm
  rw [hh] at e5
  simpa using World.var?_cell hg e5 0
theorem laid_split {P : Program} {laid : List (String × DataW Unit)} {W : World} (h : laidMetH P laid W) (hne : (laid.filter fun x => x.2.handleName?.isSome).isEmpty = false) : laidMet P (laid.filter fun x => x.2.handleName?.isNone) W ∧ handlesMet P (laid.filter fun x => x.2.handleName?.isSome) W := by
  unfold laidMetH at h
  generalize (laid.filter fun x => x.2.handleName?.isSome) = hs at h hne
  match hs, h, hne with
  | a :: r, h, _ => exact h
end Go.Proofs.Ytjhelpeglgigbab.V
end

section
/- The row of the law LedgerOther: for every input that the row speaks of the law returns true; each argument reads behind the call as it read before. -/
namespace Go.Proofs.Ytjhelpeglgigbab.ledgerOther
open Go.ChangeShapes Go.WideShapes Go.ChangeAt Go.RowKit Go.Proofs.Ytjhelpeglgigbab.V Go.Proofs.YtjhelpeglgigbabW.PrintWords
set_option linter.unusedVariables false
theorem own : ownKnob Try.prog.godebug = none := by kernel_rfl
theorem laidOut : laidOutB Try.prog = true := by kernel_rfl
theorem gl_ok {W : World} : GlOk glP W (fun k => k < W.heap.size) := fun g cs hg => by cases hg
set_option maxRecDepth 100000 in
theorem lifted (os : Os) (started : os.Started) (H : Type) (enc : TypeId × Value → H) :
    ReturnsInHanded {} Try.checked os 3 .any (Rows.ledgerOtherSpec.pre6 enc Try.prog Try.f3 Rows.ledgerOtherRow.domain false) (Rows.ledgerOtherSpec.post enc Try.prog Try.f3 false true false false) := by
  refine returnsInHanded_of_change_sized (C := Try.checked) own started (by kernel_rfl) Try.func3
    (ChangeSpec.witness6 (enc := enc) (C := Try.checked) false ⟨#[], #[.int .i64 0, .slice none 0 0, .slice none 0 0, .int .i64 0, .int .u8 0], []⟩ 8 (by kernel_rfl) (by kernel_rfl) (by kernel_rfl) (by kernel_rfl)) ?_
  intro W base args ds gs before hval0 hW hcnd hsz0 _
  have hsz : (DataW.weightsEach Try.prog (Try.f3.params.toList ++ Rows.ledgerOtherSpec.plain.varTypes Try.prog) (ds ++ gs)).all (· ≤ reachBytes) = true := hsz0
  have hval : ∀ (j : Nat) t v, Try.f3.params[j]? = some t → args[j]? = some v → Value.okWide Try.prog W .any base t v := hval0
  have hW' := hW
  obtain ⟨p, q, hA0, hV, rfl, hfz, hnd⟩ := hW
  have hA : DataW.TrodAll enc Try.prog W 0 (fun _ => true) true Try.f3.params.toList args.toList ds p := hA0
  rw [Try.params3] at hA hval hsz
  obtain ⟨v0, vs0, d0, ds0, p0, q0, hargs, rfl, rfl, h0, r0⟩ := trodAll_cons hA
  obtain ⟨v1, vs1, d1, ds1, p1, q1, rfl, rfl, rfl, h1, r1⟩ := trodAll_cons r0
  obtain ⟨v2, vs2, d2, ds2, p2, q2, rfl, rfl, rfl, h2, r2⟩ := trodAll_cons r1
  obtain ⟨v3, vs3, d3, ds3, p3, q3, rfl, rfl, rfl, h3, r3⟩ := trodAll_cons r2
  obtain ⟨v4, vs4, d4, ds4, p4, q4, rfl, rfl, rfl, h4, r4⟩ := trodAll_cons r3
  obtain ⟨rfl, rfl, rfl⟩ := trodAll_nil r4
  obtain rfl : args = #[v0, v1, v2, v3, v4] := by cases args; simp_all
  obtain ⟨rfl, rfl⟩ := trodVars_none hV
  have k0 := h0
  have lt0 : ∀ x ∈ p0, x.block < W.heap.size := by obtain ⟨m, hm⟩ := k0; exact DataW.trod_lt m _ _ _ hm
  obtain ⟨a0, e0, w0⟩ := arg_int Try.underlying3 (hval 0 3 v0 rfl rfl) h0
  have k1 := h1
  have lt1 : ∀ x ∈ p1, x.block < W.heap.size := by obtain ⟨m, hm⟩ := k1; exact DataW.trod_lt m _ _ _ hm
  obtain ⟨a1, e1, w1⟩ := arg_slice Try.underlying22 (ops_slice (e := 9) (by kernel_rfl) (by kernel_rfl) (by decide) (ops_str (by kernel_rfl))) (hval 1 22 v1 rfl rfl) h1
  have k2 := h2
  have lt2 : ∀ x ∈ p2, x.block < W.heap.size := by obtain ⟨m, hm⟩ := k2; exact DataW.trod_lt m _ _ _ hm
  obtain ⟨a2, e2, w2⟩ := arg_slice Try.underlying22 (ops_slice (e := 9) (by kernel_rfl) (by kernel_rfl) (by decide) (ops_str (by kernel_rfl))) (hval 2 22 v2 rfl rfl) h2
  have k3 := h3
  have lt3 : ∀ x ∈ p3, x.block < W.heap.size := by obtain ⟨m, hm⟩ := k3; exact DataW.trod_lt m _ _ _ hm
  obtain ⟨a3, e3, w3⟩ := arg_int Try.underlying3 (hval 3 3 v3 rfl rfl) h3
  have k4 := h4
  have lt4 : ∀ x ∈ p4, x.block < W.heap.size := by obtain ⟨m, hm⟩ := k4; exact DataW.trod_lt m _ _ _ hm
  obtain ⟨a4, e4, w4⟩ := arg_int Try.underlying5 (hval 4 5 v4 rfl rfl) h4
  refine (Fun.lawG (xs := [_, _, _, _, _]) (vs := [v0, v1, v2, v3, v4]) (w := W) (f_law10_LedgerOther_ok a0 a1 a2 a3 a4 true (by first | exact ledgerOther_true a0 a1 a2 a3 a4 w0 w1 w2 w3 w4 | exact ledgerOther_true a0 a1 a2 a3 a4 | (apply ledgerOther_true <;> assumption))) gl_ok ⟨e0, e1, e2, e3, e4, trivial⟩).mono fun e W' ⟨he, bel⟩ => ?_
  subst he
  exact ⟨_, rfl, _, _, _, [], _, [], hW', trodAll_mk1 (shut_bool Try.underlying4 _), (trodAll_cons_mk (Below.trod laidOut (by kernel_rfl) (of_decide_eq_true (by kernel_rfl)) k0 bel lt0) (trodAll_cons_mk (Below.trod laidOut (by kernel_rfl) (of_decide_eq_true (by kernel_rfl)) k1 bel lt1) (trodAll_cons_mk (Below.trod laidOut (by kernel_rfl) (of_decide_eq_true (by kernel_rfl)) k2 bel lt2) (trodAll_cons_mk (Below.trod laidOut (by kernel_rfl) (of_decide_eq_true (by kernel_rfl)) k3 bel lt3) (trodAll_cons_mk (Below.trod laidOut (by kernel_rfl) (of_decide_eq_true (by kernel_rfl)) k4 bel lt4) trodAll_mk0))))), rfl, bel.frame _, fun h => by cases h⟩
theorem over : Rows.ledgerOtherRow.holds Try.pinned (OpenSpec.ofChange Rows.ledgerOtherSpec) :=
  OpenClaim.holds_of_wide 3 Try.f3 rfl rfl rfl rfl rfl rfl rfl ⟨rfl, rfl, rfl, rfl, rfl⟩ rfl rfl rfl rfl rfl (by kernel_rfl) Try.func3 (by kernel_rfl)
    (of_decide_eq_true (by kernel_rfl)) (by unfold Func.isWrapper; first | (rw [if_pos (by decide +kernel)]; kernel_rfl) | (rw [if_neg (by decide +kernel)]; exact ⟨rfl, rfl⟩))
    (fun os started H enc _ => lifted os started H enc)
theorem proved : Rows.LedgerOtherSaid := over
end Go.Proofs.Ytjhelpeglgigbab.ledgerOther
namespace Go.Proofs.Ytjhelpeglgigbab
/-- The statement, under a short name, for the claim. -/
theorem ledgerOther_holds : Rows.LedgerOtherSaid := ledgerOther.proved
#print axioms ledgerOther_holds
end Go.Proofs.Ytjhelpeglgigbab
end
