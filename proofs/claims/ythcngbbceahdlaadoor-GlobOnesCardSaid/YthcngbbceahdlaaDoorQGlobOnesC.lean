/- A range over a function whose iterator turns blocks of its own: the statement, by what the iterator says and what a round keeps. -/
import Derived.Test.YthcngbbceahdlaaDoorQGlobOnesB
import Derived.Lib.Bytealg
import Derived.Lib.Join
import Derived.Lib.Repeat
import Derived.Shelf.Strings.Builder1
import Derived.Shelf.Strings.Builder2
import Derived.Shelf.Strings.OnBuilder
import Derived.Shelf.Strings.Trim
import Derived.Shelf.Small.Utf8
import Derived.Shelf.Small.Strs
import Derived.Shelf.Strings.BuilderF
import Derived.Shelf.Strings.BuilderK
import Derived.Shelf.Utf8.RuneCount
import Derived.Shelf.Strings.Builder2Cap
import Derived.Shelf.Strings.Search1
import Derived.Shelf.Strings.Search2
import Derived.Shelf.Strings.Search3
import Derived.Shelf.Strings.Cut
import Derived.Shelf.Strings.Count
import Derived.Shelf.LaysM
import Derived.Shelf.Strings.Shaped
import Derived.Shelf.Strings.Prefix
import Derived.Shelf.Strings.Split
import Derived.Shelf.Strings.SplitShaped
import Derived.Shelf.Unicode.Decode
import Derived.Shelf.Strings.Runes
import Derived.Shelf.Strings.RuneCount
import Derived.Shelf.Strings.AsciiSet
import Derived.Shelf.Strings.Explode
import Derived.Shelf.Bits.Mul64
import Derived.Shelf.Strings.Repeat
import Derived.Shelf.Unicode.DecodeSlow
import Derived.Shelf.Unicode.DecodeAny
import Derived.Shelf.Unicode.DecodeLast
import Derived.Shelf.Strings.BuilderCap
import Derived.Shelf.Slices.Turned
import Derived.Test.YthcngbbceahdlaaDoorProg
import Derived.Below
import Derived.OwnWalk
import Derived.Orders
import Derived.WalkKit
import Derived.Laws.Slices
import Derived.OpenShut
import Derived.FnData
import Derived.LaidMore
import Derived.MakeChecks
import Derived.RangeFuncKeeps
import Derived.RangeFuncCalls
import Derived.RangeFuncLeaves
section
/- What Go functions compute, as Lean functions. -/
namespace Go.Proofs.YthcngbbceahdlaaDoor.V
open Go Go.RowKit
set_option linter.unusedVariables false
set_option linter.unusedSimpArgs false
set_option maxHeartbeats 1000000
set_option maxRecDepth 20000
abbrev glP : Gl := fun _ => none
structure cron_part where

deriving DecidableEq, Inhabited
def e_cron_part (x : cron_part) : List Sc := []
theorem e_cron_part_len (x : cron_part) : (e_cron_part x).length = 0 := rfl
def W_cron_part (x : cron_part) : Prop := True
structure glob_many where
  slash : Bool
deriving DecidableEq, Inhabited
def e_glob_many (x : glob_many) : List Sc := [(.bool x.slash)]
theorem e_glob_many_len (x : glob_many) : (e_glob_many x).length = 1 := rfl
def W_glob_many (x : glob_many) : Prop := True
def f_strings_Count (s sub : Str) : Option Int := match sub with
  | [c] => some ((Lib.countByte s c : Nat) : Int)
  | _ => none
def f_strings_explode (s : Str) (n : Int) : Option (List Str) := none
def f_internal_stringslite_Index (s sub : Str) : Option Int := match sub with
  | [c] => some (Lib.indexByte s c)
  | _ => none
def f_internal_stringslite_IndexByte (s : Str) (c : Int) : Option Int := some (Lib.indexByte s c.toNat.toUInt8)
theorem flat_eS (l : List Str) : (l.map eS).flatten = l.map Sc.str := by
  induction l with
  | nil => rfl
  | cons x l ih => rw [List.map_cons, List.flatten_cons, ih]; rfl
def f_strings_Join (l : List Str) (sep : Str) : Option Str := gd (l.length ≤ 140737488355328 ∧ (Lib.join l sep).length ≤ 140737488355328) <| some (Lib.join l sep)
def f_strings_Repeat (s : Str) (n : Int) : Option Str := gd (0 ≤ n ∧ n ≤ 9223372036854775807 ∧ s.length * n.toNat ≤ 140737488355328) <| some (Lib.repeatL s n.toNat)
def f_slices_IndexFunc_byte_byte_l7 (s : (List Int)) (f : Int → Option (Bool)) : Nat → Int → Option ((Int) ⊕ (Int))
  | 0, _ => none
  | m_ + 1, v8 =>
    if (decide (v8 < (s.length : Int))) then
      (ix s v8).bind fun x =>
      (f x).bind fun b =>
      if b then
        some (.inr v8)
      else
        f_slices_IndexFunc_byte_byte_l7 s f m_ (IntKind.i64.wrap (v8 + 1))
    else
      some (.inl v8)
def f_slices_IndexFunc_byte_byte (s : (List Int)) (f : Int → Option (Bool)) : Option (Int) :=
  Option.bind (f_slices_IndexFunc_byte_byte_l7 s f ((((s.length : Int) : Int) - 0).toNat + 1) 0) fun s2 : (Int) ⊕ (Int) => match s2 with
  | .inr z => some z
  | .inl s3 =>
    some (-1)
def f_slices_ContainsFunc_byte_byte (s : (List Int)) (f : Int → Option (Bool)) : Option (Bool) :=
  (f_slices_IndexFunc_byte_byte s f).bind fun t =>
  some (decide (t ≥ 0))
def f_glob_pieces_1 (c : Int) : Option (Bool) :=
  some ((decide (c < 33)) || (decide (c > 126)))
def f_internal_stringslite_HasPrefix (s : Str) (prefixv : Str) : Option (Bool) :=
  gd ((decide ((s.length : Int) ≥ (prefixv.length : Int))) = true → 0 ≤ (prefixv.length : Int) ∧ (prefixv.length : Int) ≤ (s.length : Int)) <|
  some ((decide ((s.length : Int) ≥ (prefixv.length : Int))) && ((cut s 0 (prefixv.length : Int)) == prefixv))
def f_strings_HasPrefix (s : Str) (prefixv : Str) : Option (Bool) :=
  (f_internal_stringslite_HasPrefix s prefixv).bind fun t =>
  some t
def f_internal_stringslite_Cut (s : Str) (sep : Str) : Option (Str × Str × Bool) :=
  (f_internal_stringslite_Index s sep).bind fun t =>
  if (decide (t ≥ 0)) then
    gd (0 ≤ t ∧ t ≤ (s.length : Int)) <|
    gd (0 ≤ (IntKind.i64.wrap (t + (sep.length : Int))) ∧ (IntKind.i64.wrap (t + (sep.length : Int))) ≤ (s.length : Int)) <|
    some ((cut s 0 t), (cut s (IntKind.i64.wrap (t + (sep.length : Int))) (s.length : Int)), true)
  else
    some (s, ([] : Str), false)
def f_strings_Cut (s : Str) (sep : Str) : Option (Str × Str × Bool) :=
  (f_internal_stringslite_Cut s sep).bind fun t =>
  some (t.1, t.2.1, t.2.2)
def f_strings_Index (s : Str) (substr : Str) : Option (Int) :=
  (f_internal_stringslite_Index s substr).bind fun t =>
  some t
def f_strings_Contains (s : Str) (substr : Str) : Option (Bool) :=
  (f_strings_Index s substr).bind fun t =>
  some (decide (t ≥ 0))
def f_strings_genSplit_l17 (s : Str) (sep : Str) (sepSave : Int) (n2 : Int) : Nat → Str → Int → (List Str) → Option (Str × Int × (List Str))
  | 0, _, _, _ => none
  | m_ + 1, s3, i, a =>
    if (decide (i < (IntKind.i64.wrap (n2 - 1)))) then
      (f_strings_Index s3 sep).bind fun t =>
      if (decide (t < 0)) then
        some (s3, i, a)
      else
        gd (0 ≤ (IntKind.i64.wrap (t + sepSave)) ∧ (IntKind.i64.wrap (t + sepSave)) ≤ (s3.length : Int)) <|
        (ix a i).bind fun x =>
        gd (0 ≤ (IntKind.i64.wrap (t + (sep.length : Int))) ∧ (IntKind.i64.wrap (t + (sep.length : Int))) ≤ (s3.length : Int)) <|
        f_strings_genSplit_l17 s sep sepSave n2 m_ (cut s3 (IntKind.i64.wrap (t + (sep.length : Int))) (s3.length : Int)) (IntKind.i64.wrap (i + 1)) (a.set i.toNat (cut s3 0 (IntKind.i64.wrap (t + sepSave))))
    else
      some (s3, i, a)
def f_strings_genSplit (s : Str) (sep : Str) (sepSave : Int) (n : Int) : Option ((List Str)) :=
  if (n == 0) then
    some ([] : (List Str))
  else
    if (sep == ([] : Str)) then
      (f_strings_explode s n).bind fun t =>
      some t
    else
      Option.bind (
        if (decide (n < 0)) then
          (f_strings_Count s sep).bind fun t =>
          some (IntKind.i64.wrap (t + 1))
        else
          some n) fun s2 : Int =>
      (some (if (IntKind.i64.wrap ((s.length : Int) + 1)) < s2 then (IntKind.i64.wrap ((s.length : Int) + 1)) else s2)).bind fun n2 =>
      gd (0 ≤ n2 ∧ n2 ≤ n2 ∧ n2 * 16 ≤ 140737488355328 ∧ n2 < 9223372036854775808) <|
      Option.bind (f_strings_genSplit_l17 s sep sepSave n2 ((((IntKind.i64.wrap (n2 - 1)) : Int) - 0).toNat + 1) s 0 (List.replicate n2.toNat [])) fun s3 : Str × Int × (List Str) =>
      (ix s3.2.2 s3.2.1).bind fun x =>
      gd (0 ≤ (IntKind.i64.wrap (s3.2.1 + 1)) ∧ (IntKind.i64.wrap (s3.2.1 + 1)) ≤ (s3.2.2.length : Int)) <|
      some (cut (s3.2.2.set s3.2.1.toNat s3.1) 0 (IntKind.i64.wrap (s3.2.1 + 1)))
def f_strings_Split (s : Str) (sep : Str) : Option ((List Str)) :=
  (f_strings_genSplit s sep 0 (-1)).bind fun t =>
  some t
def f_glob_pieces_l24 (s : Bool) : Nat → Str → (List Sc) → Option ((Str × (List Sc)) ⊕ ((List Sc) × Bool))
  | 0, _, _ => none
  | m_ + 1, p2, out =>
    if (!(p2 == ([] : Str))) then
      (ix p2 0).bind fun c =>
      (f_strings_HasPrefix p2 ([42, 42] : Str)).bind fun t =>
      if t then
        gd ((out.length + 1) * 16 ≤ 140737488355328) <|
        gd (2 ≤ (p2.length : Int)) <|
        f_glob_pieces_l24 s m_ (cut p2 2 (p2.length : Int)) (out ++ ([(.ifc 95 true [(.bool true)])] : List Sc))
      else
        if ((bn c) == 42) then
          gd ((out.length + 1) * 16 ≤ 140737488355328) <|
          gd (1 ≤ (p2.length : Int)) <|
          f_glob_pieces_l24 s m_ (cut p2 1 (p2.length : Int)) (out ++ ([(.ifc 95 true [(.bool false)])] : List Sc))
        else
          if ((bn c) == 63) then
            gd ((out.length + 1) * 16 ≤ 140737488355328) <|
            gd (1 ≤ (p2.length : Int)) <|
            f_glob_pieces_l24 s m_ (cut p2 1 (p2.length : Int)) (out ++ ([(.ifc 96 true [])] : List Sc))
          else
            if ((bn c) == 123) then
              gd (1 ≤ (p2.length : Int)) <|
              (f_strings_Cut (cut p2 1 (p2.length : Int)) ([125] : Str)).bind fun t2 =>
              (gx (!(!t2.2.2)) (f_strings_Contains t2.1 ([123] : Str)) default).bind fun t3 =>
              if ((!t2.2.2) || t3) then
                some (.inr (([] : (List Sc)), false))
              else
                (f_strings_Split t2.1 ([44] : Str)).bind fun t4 =>
                gd ((out.length + 1) * 16 ≤ 140737488355328) <|
                gd (0 ≤ (IntKind.i64.wrap ((t2.1.length : Int) + 2)) ∧ (IntKind.i64.wrap ((t2.1.length : Int) + 2)) ≤ (p2.length : Int)) <|
                f_glob_pieces_l24 s m_ (cut p2 (IntKind.i64.wrap ((t2.1.length : Int) + 2)) (p2.length : Int)) (out ++ ([(.ifc 99 false [(.sl (t4.map eS))])] : List Sc))
            else
              if ((bn c) == 125) then
                some (.inr (([] : (List Sc)), false))
              else
                gd ((out.length + 1) * 16 ≤ 140737488355328) <|
                gd (1 ≤ (p2.length : Int)) <|
                f_glob_pieces_l24 s m_ (cut p2 1 (p2.length : Int)) (out ++ ([(.ifc 100 false [(.int .u8 (bn c))])] : List Sc))
    else
      some (.inl (p2, out))
def f_glob_pieces (p : Str) : Option ((List Sc) × Bool) :=
  Option.bind (
    if (p == ([] : Str)) then
      some true
    else
      if (decide ((p.length : Int) > 128)) then
        some true
      else
        (f_slices_ContainsFunc_byte_byte (p.map bn) f_glob_pieces_1).bind fun t =>
        some t) fun s : Bool =>
  if s then
    some (([] : (List Sc)), false)
  else
    Option.bind (f_glob_pieces_l24 s (p.length + 1) p []) fun s2 : (Str × (List Sc)) ⊕ ((List Sc) × Bool) => match s2 with
    | .inr z => some z
    | .inl s3 =>
      some (s3.2, true)
def f_glob_many_takes_l8 (mv : glob_many) (s : Str) : Nat → Int → (List Int) → Option (Int × (List Int))
  | 0, _, _ => none
  | m_ + 1, v10, out =>
    if (decide (v10 < (s.length : Int))) then
      (ix s v10).bind fun c =>
      if (((bn c) == 47) && (!mv.slash)) then
        some (v10, out)
      else
        gd ((out.length + 1) * 8 ≤ 140737488355328) <|
        f_glob_many_takes_l8 mv s m_ (IntKind.i64.wrap (v10 + 1)) (out ++ ([(IntKind.i64.wrap (v10 + 1))] : List Int))
    else
      some (v10, out)
def f_glob_many_takes (mv : glob_many) (s : Str) : Option ((List Int)) :=
  Option.bind (f_glob_many_takes_l8 mv s ((((s.length : Int) : Int) - 0).toNat + 1) 0 ([0] : List Int)) fun s2 : Int × (List Int) =>
  some s2.2
def f_glob_one_takes (p0 : cron_part) (s : Str) : Option ((List Int)) :=
  gd ((!(s == ([] : Str))) = true → 0 < (s.length : Int)) <|
  if ((!(s == ([] : Str))) && ((bn (s.getD 0 0)) != 47)) then
    some ([1] : List Int)
  else
    some ([] : (List Int))
def f_slices_Index_int_int_l7 (s : (List Int)) (v : Int) : Nat → Int → Option ((Int) ⊕ (Int))
  | 0, _ => none
  | m_ + 1, v8 =>
    if (decide (v8 < (s.length : Int))) then
      (ix s v8).bind fun x =>
      if (v == x) then
        some (.inr v8)
      else
        f_slices_Index_int_int_l7 s v m_ (IntKind.i64.wrap (v8 + 1))
    else
      some (.inl v8)
def f_slices_Index_int_int (s : (List Int)) (v : Int) : Option (Int) :=
  Option.bind (f_slices_Index_int_int_l7 s v ((((s.length : Int) : Int) - 0).toNat + 1) 0) fun s2 : (Int) ⊕ (Int) => match s2 with
  | .inr z => some z
  | .inl s3 =>
    some (-1)
def f_slices_Contains_int_int (s : (List Int)) (v : Int) : Option (Bool) :=
  (f_slices_Index_int_int s v).bind fun t =>
  some (decide (t ≥ 0))
def f_glob_words_takes_l8 (w : (List Str)) (s : Str) : Nat → Int → (List Int) → Option (Int × (List Int))
  | 0, _, _ => none
  | m_ + 1, v10, out =>
    if (decide (v10 < (w.length : Int))) then
      (ix w v10).bind fun x =>
      (f_strings_HasPrefix s x).bind fun t =>
      (gx t (f_slices_Contains_int_int out (x.length : Int)) default).bind fun t2 =>
      if (t && (!t2)) then
        gd ((out.length + 1) * 8 ≤ 140737488355328) <|
        f_glob_words_takes_l8 w s m_ (IntKind.i64.wrap (v10 + 1)) (out ++ ([(x.length : Int)] : List Int))
      else
        f_glob_words_takes_l8 w s m_ (IntKind.i64.wrap (v10 + 1)) out
    else
      some (v10, out)
def f_glob_words_takes (w : (List Str)) (s : Str) : Option ((List Int)) :=
  Option.bind (f_glob_words_takes_l8 w s ((((w.length : Int) : Int) - 0).toNat + 1) 0 []) fun s2 : Int × (List Int) =>
  some s2.2
def f_glob_plain_takes (p : Int) (s : Str) : Option ((List Int)) :=
  gd ((!(s == ([] : Str))) = true → 0 < (s.length : Int)) <|
  if ((!(s == ([] : Str))) && ((bn (s.getD 0 0)) == p)) then
    some ([1] : List Int)
  else
    some ([] : (List Int))
abbrev tyMany : Nat := 95
abbrev tyOne : Nat := 96
abbrev tyWords : Nat := 99
abbrev tyPlain : Nat := 100
def unS1 : List Sc → Option Str
  | [.str l] => some l
  | _ => none
def unSs : List (List Sc) → Option (List Str)
  | [] => some []
  | r :: l => (unS1 r).bind fun x => (unSs l).bind fun y => some (x :: y)
def m_glob_takes (x : Sc) : Bool := match x with
  | .ifc t _ _ => t == 95 || t == 96 || t == 99 || t == 100
  | _ => false
def f_inv_glob_takes (x : Sc) (s : Str) : Option (List Int) := match x with
  | .ifc t true [.bool b] => if t = 95 then f_glob_many_takes (glob_many.mk b) s else none
  | .ifc t true [] => if t = 96 then f_glob_one_takes default s else none
  | .ifc t false [.sl rows] => if t = 99 then (unSs rows).bind fun l => f_glob_words_takes l s else none
  | .ifc t false [.int .u8 c] => if t = 100 then f_glob_plain_takes c s else none
  | _ => none

def f_glob_match_l16 (l : (List Sc)) (s : Str) (v21 : Int) (atv : (List Bool)) (x2 : Sc) (v31 : Int) (t : (List Int)) : Nat → Int → (List Bool) → Option (Int × (List Bool))
  | 0, _, _ => none
  | m_ + 1, v47, next2 =>
    if (decide (v47 < (t.length : Int))) then
      (ix t v47).bind fun x4 =>
      (ix next2 (IntKind.i64.wrap (v31 + x4))).bind fun x5 =>
      f_glob_match_l16 l s v21 atv x2 v31 t m_ (IntKind.i64.wrap (v47 + 1)) (next2.set (IntKind.i64.wrap (v31 + x4)).toNat true)
    else
      some (v47, next2)
def f_glob_match_l18 (l : (List Sc)) (s : Str) (v21 : Int) (atv : (List Bool)) (x2 : Sc) : Nat → Int → (List Bool) → Option (Int × (List Bool))
  | 0, _, _ => none
  | m_ + 1, v31, next =>
    if (decide (v31 < (atv.length : Int))) then
      (ix atv v31).bind fun x3 =>
      if (!x3) then
        f_glob_match_l18 l s v21 atv x2 m_ (IntKind.i64.wrap (v31 + 1)) next
      else
        gd (0 ≤ v31 ∧ v31 ≤ (s.length : Int)) <|
        gd (m_glob_takes x2 = true) <|
        (f_inv_glob_takes x2 (cut s v31 (s.length : Int))).bind fun t =>
        Option.bind (f_glob_match_l16 l s v21 atv x2 v31 t ((((t.length : Int) : Int) - 0).toNat + 1) 0 next) fun s2 : Int × (List Bool) =>
        f_glob_match_l18 l s v21 atv x2 m_ (IntKind.i64.wrap (v31 + 1)) s2.2
    else
      some (v31, next)
def f_glob_match_l21 (l : (List Sc)) (s : Str) : Nat → Int → (List Bool) → Option (Int × (List Bool))
  | 0, _, _ => none
  | m_ + 1, v21, atv =>
    if (decide (v21 < (l.length : Int))) then
      (ix l v21).bind fun x2 =>
      gd (0 ≤ (IntKind.i64.wrap ((s.length : Int) + 1)) ∧ (IntKind.i64.wrap ((s.length : Int) + 1)) ≤ (IntKind.i64.wrap ((s.length : Int) + 1)) ∧ (IntKind.i64.wrap ((s.length : Int) + 1)) * 1 ≤ 140737488355328 ∧ (IntKind.i64.wrap ((s.length : Int) + 1)) < 9223372036854775808) <|
      Option.bind (f_glob_match_l18 l s v21 atv x2 ((((atv.length : Int) : Int) - 0).toNat + 1) 0 (List.replicate (IntKind.i64.wrap ((s.length : Int) + 1)).toNat false)) fun s2 : Int × (List Bool) =>
      f_glob_match_l21 l s m_ (IntKind.i64.wrap (v21 + 1)) s2.2
    else
      some (v21, atv)
def f_glob_match (l : (List Sc)) (s : Str) : Option (Bool) :=
  gd (0 ≤ (IntKind.i64.wrap ((s.length : Int) + 1)) ∧ (IntKind.i64.wrap ((s.length : Int) + 1)) ≤ (IntKind.i64.wrap ((s.length : Int) + 1)) ∧ (IntKind.i64.wrap ((s.length : Int) + 1)) * 1 ≤ 140737488355328 ∧ (IntKind.i64.wrap ((s.length : Int) + 1)) < 9223372036854775808) <|
  (ix (List.replicate (IntKind.i64.wrap ((s.length : Int) + 1)).toNat false) 0).bind fun x =>
  Option.bind (f_glob_match_l21 l s ((((l.length : Int) : Int) - 0).toNat + 1) 0 ((List.replicate (IntKind.i64.wrap ((s.length : Int) + 1)).toNat false).set 0 true)) fun s2 : Int × (List Bool) =>
  (ix s2.2 (s.length : Int)).bind fun x2 =>
  some x2
def f_glob_Match (pattern : Str) (s : Str) : Option (Bool) :=
  (f_glob_pieces pattern).bind fun t =>
  (gx (t.2 && (decide ((s.length : Int) ≤ 200))) (f_glob_match t.1 s) default).bind fun t2 =>
  some ((t.2 && (decide ((s.length : Int) ≤ 200))) && t2)
def f_law07_alive : Option (Bool) :=
  (f_glob_Match ([108, 105, 98, 47, 42] : Str) ([108, 105, 98, 47, 97] : Str)).bind fun t =>
  (gx t (f_glob_Match ([108, 105, 98, 47, 42] : Str) ([108, 105, 98, 47, 97, 47, 98] : Str)) default).bind fun t2 =>
  (gx (t && (!t2)) (f_glob_Match ([108, 105, 98, 47, 42, 42] : Str) ([108, 105, 98, 47, 97, 47, 98] : Str)) default).bind fun t3 =>
  some ((t && (!t2)) && t3)
def f_strings_IndexByte (s : Str) (c : Int) : Option (Int) :=
  (f_internal_stringslite_IndexByte s c).bind fun t =>
  some t
def f_internal_stringslite_HasSuffix (s : Str) (suffix : Str) : Option (Bool) :=
  gd ((decide ((s.length : Int) ≥ (suffix.length : Int))) = true → 0 ≤ (IntKind.i64.wrap ((s.length : Int) - (suffix.length : Int))) ∧ (IntKind.i64.wrap ((s.length : Int) - (suffix.length : Int))) ≤ (s.length : Int)) <|
  some ((decide ((s.length : Int) ≥ (suffix.length : Int))) && ((cut s (IntKind.i64.wrap ((s.length : Int) - (suffix.length : Int))) (s.length : Int)) == suffix))
def f_strings_HasSuffix (s : Str) (suffix : Str) : Option (Bool) :=
  (f_internal_stringslite_HasSuffix s suffix).bind fun t =>
  some t
def f_law07_GlobStars_l10 (a : Str) (b : Str) (s : Str) : Nat → Int → Option ((Int) ⊕ (Bool))
  | 0, _ => none
  | m_ + 1, v37 =>
    if (decide (v37 < (((cut a 0 (if 40 < (a.length : Int) then 40 else (a.length : Int))) ++ (cut b 0 (if 40 < (b.length : Int) then 40 else (b.length : Int)))).length : Int))) then
      (ix (((cut a 0 (if 40 < (a.length : Int) then 40 else (a.length : Int))) ++ (cut b 0 (if 40 < (b.length : Int) then 40 else (b.length : Int)))).map bn) v37).bind fun x =>
      (gx (!((decide (x < 33)) || (decide (x > 126)))) (f_strings_IndexByte ([42, 63, 123, 125] : Str) x) default).bind fun t3 =>
      if (((decide (x < 33)) || (decide (x > 126))) || (decide (t3 ≥ 0))) then
        some (.inr true)
      else
        f_law07_GlobStars_l10 a b s m_ (IntKind.i64.wrap (v37 + 1))
    else
      some (.inl v37)
def f_law07_GlobStars (a : Str) (b : Str) (s : Str) : Option (Bool) :=
  gd (0 ≤ (if 40 < (a.length : Int) then 40 else (a.length : Int)) ∧ (if 40 < (a.length : Int) then 40 else (a.length : Int)) ≤ (a.length : Int)) <|
  gd (0 ≤ (if 40 < (b.length : Int) then 40 else (b.length : Int)) ∧ (if 40 < (b.length : Int) then 40 else (b.length : Int)) ≤ (b.length : Int)) <|
  gd (0 ≤ (if 100 < (s.length : Int) then 100 else (s.length : Int)) ∧ (if 100 < (s.length : Int) then 100 else (s.length : Int)) ≤ (s.length : Int)) <|
  (f_glob_Match ([42, 42] : Str) (cut s 0 (if 100 < (s.length : Int) then 100 else (s.length : Int)))).bind fun t =>
  (gx (!(!t)) (f_law07_alive) default).bind fun t2 =>
  if ((!t) || (!t2)) then
    some false
  else
    gd ((cut a 0 (if 40 < (a.length : Int) then 40 else (a.length : Int))).length + (cut b 0 (if 40 < (b.length : Int) then 40 else (b.length : Int))).length ≤ 9223372036854775807) <|
    Option.bind (f_law07_GlobStars_l10 a b s ((((((cut a 0 (if 40 < (a.length : Int) then 40 else (a.length : Int))) ++ (cut b 0 (if 40 < (b.length : Int) then 40 else (b.length : Int)))).length : Int) : Int) - 0).toNat + 1) 0) fun s2 : (Int) ⊕ (Bool) => match s2 with
    | .inr z => some z
    | .inl s3 =>
      (gx (decide (((cut s 0 (if 100 < (s.length : Int) then 100 else (s.length : Int))).length : Int) ≥ (IntKind.i64.wrap (((cut a 0 (if 40 < (a.length : Int) then 40 else (a.length : Int))).length : Int) + ((cut b 0 (if 40 < (b.length : Int) then 40 else (b.length : Int))).length : Int))))) (f_strings_HasPrefix (cut s 0 (if 100 < (s.length : Int) then 100 else (s.length : Int))) (cut a 0 (if 40 < (a.length : Int) then 40 else (a.length : Int)))) default).bind fun t3 =>
      (gx ((decide (((cut s 0 (if 100 < (s.length : Int) then 100 else (s.length : Int))).length : Int) ≥ (IntKind.i64.wrap (((cut a 0 (if 40 < (a.length : Int) then 40 else (a.length : Int))).length : Int) + ((cut b 0 (if 40 < (b.length : Int) then 40 else (b.length : Int))).length : Int))))) && t3) (f_strings_HasSuffix (cut s 0 (if 100 < (s.length : Int) then 100 else (s.length : Int))) (cut b 0 (if 40 < (b.length : Int) then 40 else (b.length : Int)))) default).bind fun t4 =>
      gd ((cut a 0 (if 40 < (a.length : Int) then 40 else (a.length : Int))).length + (cut b 0 (if 40 < (b.length : Int) then 40 else (b.length : Int))).length ≤ 9223372036854775807) <|
      gd ((!(((cut a 0 (if 40 < (a.length : Int) then 40 else (a.length : Int))) ++ (cut b 0 (if 40 < (b.length : Int) then 40 else (b.length : Int)))) == ([] : Str))) = true → (cut a 0 (if 40 < (a.length : Int) then 40 else (a.length : Int))).length + (cut b 0 (if 40 < (b.length : Int) then 40 else (b.length : Int))).length ≤ 9223372036854775807) <|
      (gx (!(((cut a 0 (if 40 < (a.length : Int) then 40 else (a.length : Int))) ++ (cut b 0 (if 40 < (b.length : Int) then 40 else (b.length : Int)))) == ([] : Str))) (f_glob_Match ((cut a 0 (if 40 < (a.length : Int) then 40 else (a.length : Int))) ++ (cut b 0 (if 40 < (b.length : Int) then 40 else (b.length : Int)))) (cut s 0 (if 100 < (s.length : Int) then 100 else (s.length : Int)))) default).bind fun t5 =>
      gd ((!(((cut a 0 (if 40 < (a.length : Int) then 40 else (a.length : Int))) ++ (cut b 0 (if 40 < (b.length : Int) then 40 else (b.length : Int)))) == ([] : Str))) = true → (cut a 0 (if 40 < (a.length : Int) then 40 else (a.length : Int))).length + (cut b 0 (if 40 < (b.length : Int) then 40 else (b.length : Int))).length ≤ 9223372036854775807) <|
      gd ((!((!(((cut a 0 (if 40 < (a.length : Int) then 40 else (a.length : Int))) ++ (cut b 0 (if 40 < (b.length : Int) then 40 else (b.length : Int)))) == ([] : Str))) && (!(t5 == ((cut s 0 (if 100 < (s.length : Int) then 100 else (s.length : Int))) == ((cut a 0 (if 40 < (a.length : Int) then 40 else (a.length : Int))) ++ (cut b 0 (if 40 < (b.length : Int) then 40 else (b.length : Int))))))))) = true → (cut a 0 (if 40 < (a.length : Int) then 40 else (a.length : Int))).length + 2 ≤ 9223372036854775807) <|
      gd ((!((!(((cut a 0 (if 40 < (a.length : Int) then 40 else (a.length : Int))) ++ (cut b 0 (if 40 < (b.length : Int) then 40 else (b.length : Int)))) == ([] : Str))) && (!(t5 == ((cut s 0 (if 100 < (s.length : Int) then 100 else (s.length : Int))) == ((cut a 0 (if 40 < (a.length : Int) then 40 else (a.length : Int))) ++ (cut b 0 (if 40 < (b.length : Int) then 40 else (b.length : Int))))))))) = true → ((cut a 0 (if 40 < (a.length : Int) then 40 else (a.length : Int))) ++ ([42, 42] : Str)).length + (cut b 0 (if 40 < (b.length : Int) then 40 else (b.length : Int))).length ≤ 9223372036854775807) <|
      (gx (!((!(((cut a 0 (if 40 < (a.length : Int) then 40 else (a.length : Int))) ++ (cut b 0 (if 40 < (b.length : Int) then 40 else (b.length : Int)))) == ([] : Str))) && (!(t5 == ((cut s 0 (if 100 < (s.length : Int) then 100 else (s.length : Int))) == ((cut a 0 (if 40 < (a.length : Int) then 40 else (a.length : Int))) ++ (cut b 0 (if 40 < (b.length : Int) then 40 else (b.length : Int))))))))) (f_glob_Match (((cut a 0 (if 40 < (a.length : Int) then 40 else (a.length : Int))) ++ ([42, 42] : Str)) ++ (cut b 0 (if 40 < (b.length : Int) then 40 else (b.length : Int)))) (cut s 0 (if 100 < (s.length : Int) then 100 else (s.length : Int)))) default).bind fun t6 =>
      if (((!(((cut a 0 (if 40 < (a.length : Int) then 40 else (a.length : Int))) ++ (cut b 0 (if 40 < (b.length : Int) then 40 else (b.length : Int)))) == ([] : Str))) && (!(t5 == ((cut s 0 (if 100 < (s.length : Int) then 100 else (s.length : Int))) == ((cut a 0 (if 40 < (a.length : Int) then 40 else (a.length : Int))) ++ (cut b 0 (if 40 < (b.length : Int) then 40 else (b.length : Int)))))))) || (!(t6 == (((decide (((cut s 0 (if 100 < (s.length : Int) then 100 else (s.length : Int))).length : Int) ≥ (IntKind.i64.wrap (((cut a 0 (if 40 < (a.length : Int) then 40 else (a.length : Int))).length : Int) + ((cut b 0 (if 40 < (b.length : Int) then 40 else (b.length : Int))).length : Int))))) && t3) && t4)))) then
        some false
      else
        gd ((cut a 0 (if 40 < (a.length : Int) then 40 else (a.length : Int))).length + 1 ≤ 9223372036854775807) <|
        gd (((cut a 0 (if 40 < (a.length : Int) then 40 else (a.length : Int))) ++ ([42] : Str)).length + (cut b 0 (if 40 < (b.length : Int) then 40 else (b.length : Int))).length ≤ 9223372036854775807) <|
        (f_glob_Match (((cut a 0 (if 40 < (a.length : Int) then 40 else (a.length : Int))) ++ ([42] : Str)) ++ (cut b 0 (if 40 < (b.length : Int) then 40 else (b.length : Int)))) (cut s 0 (if 100 < (s.length : Int) then 100 else (s.length : Int)))).bind fun t7 =>
        gd ((((decide (((cut s 0 (if 100 < (s.length : Int) then 100 else (s.length : Int))).length : Int) ≥ (IntKind.i64.wrap (((cut a 0 (if 40 < (a.length : Int) then 40 else (a.length : Int))).length : Int) + ((cut b 0 (if 40 < (b.length : Int) then 40 else (b.length : Int))).length : Int))))) && t3) && t4) = true → 0 ≤ (if ((cut s 0 (if 100 < (s.length : Int) then 100 else (s.length : Int))).length : Int) < ((cut a 0 (if 40 < (a.length : Int) then 40 else (a.length : Int))).length : Int) then ((cut s 0 (if 100 < (s.length : Int) then 100 else (s.length : Int))).length : Int) else ((cut a 0 (if 40 < (a.length : Int) then 40 else (a.length : Int))).length : Int)) ∧ (if ((cut s 0 (if 100 < (s.length : Int) then 100 else (s.length : Int))).length : Int) < ((cut a 0 (if 40 < (a.length : Int) then 40 else (a.length : Int))).length : Int) then ((cut s 0 (if 100 < (s.length : Int) then 100 else (s.length : Int))).length : Int) else ((cut a 0 (if 40 < (a.length : Int) then 40 else (a.length : Int))).length : Int)) ≤ (if (IntKind.i64.wrap (((cut s 0 (if 100 < (s.length : Int) then 100 else (s.length : Int))).length : Int) - ((cut b 0 (if 40 < (b.length : Int) then 40 else (b.length : Int))).length : Int))) < (if ((cut s 0 (if 100 < (s.length : Int) then 100 else (s.length : Int))).length : Int) < ((cut a 0 (if 40 < (a.length : Int) then 40 else (a.length : Int))).length : Int) then ((cut s 0 (if 100 < (s.length : Int) then 100 else (s.length : Int))).length : Int) else ((cut a 0 (if 40 < (a.length : Int) then 40 else (a.length : Int))).length : Int)) then (if ((cut s 0 (if 100 < (s.length : Int) then 100 else (s.length : Int))).length : Int) < ((cut a 0 (if 40 < (a.length : Int) then 40 else (a.length : Int))).length : Int) then ((cut s 0 (if 100 < (s.length : Int) then 100 else (s.length : Int))).length : Int) else ((cut a 0 (if 40 < (a.length : Int) then 40 else (a.length : Int))).length : Int)) else (IntKind.i64.wrap (((cut s 0 (if 100 < (s.length : Int) then 100 else (s.length : Int))).length : Int) - ((cut b 0 (if 40 < (b.length : Int) then 40 else (b.length : Int))).length : Int)))) ∧ (if (IntKind.i64.wrap (((cut s 0 (if 100 < (s.length : Int) then 100 else (s.length : Int))).length : Int) - ((cut b 0 (if 40 < (b.length : Int) then 40 else (b.length : Int))).length : Int))) < (if ((cut s 0 (if 100 < (s.length : Int) then 100 else (s.length : Int))).length : Int) < ((cut a 0 (if 40 < (a.length : Int) then 40 else (a.length : Int))).length : Int) then ((cut s 0 (if 100 < (s.length : Int) then 100 else (s.length : Int))).length : Int) else ((cut a 0 (if 40 < (a.length : Int) then 40 else (a.length : Int))).length : Int)) then (if ((cut s 0 (if 100 < (s.length : Int) then 100 else (s.length : Int))).length : Int) < ((cut a 0 (if 40 < (a.length : Int) then 40 else (a.length : Int))).length : Int) then ((cut s 0 (if 100 < (s.length : Int) then 100 else (s.length : Int))).length : Int) else ((cut a 0 (if 40 < (a.length : Int) then 40 else (a.length : Int))).length : Int)) else (IntKind.i64.wrap (((cut s 0 (if 100 < (s.length : Int) then 100 else (s.length : Int))).length : Int) - ((cut b 0 (if 40 < (b.length : Int) then 40 else (b.length : Int))).length : Int)))) ≤ ((cut s 0 (if 100 < (s.length : Int) then 100 else (s.length : Int))).length : Int)) <|
        (gx (((decide (((cut s 0 (if 100 < (s.length : Int) then 100 else (s.length : Int))).length : Int) ≥ (IntKind.i64.wrap (((cut a 0 (if 40 < (a.length : Int) then 40 else (a.length : Int))).length : Int) + ((cut b 0 (if 40 < (b.length : Int) then 40 else (b.length : Int))).length : Int))))) && t3) && t4) (f_strings_Contains (cut (cut s 0 (if 100 < (s.length : Int) then 100 else (s.length : Int))) (if ((cut s 0 (if 100 < (s.length : Int) then 100 else (s.length : Int))).length : Int) < ((cut a 0 (if 40 < (a.length : Int) then 40 else (a.length : Int))).length : Int) then ((cut s 0 (if 100 < (s.length : Int) then 100 else (s.length : Int))).length : Int) else ((cut a 0 (if 40 < (a.length : Int) then 40 else (a.length : Int))).length : Int)) (if (IntKind.i64.wrap (((cut s 0 (if 100 < (s.length : Int) then 100 else (s.length : Int))).length : Int) - ((cut b 0 (if 40 < (b.length : Int) then 40 else (b.length : Int))).length : Int))) < (if ((cut s 0 (if 100 < (s.length : Int) then 100 else (s.length : Int))).length : Int) < ((cut a 0 (if 40 < (a.length : Int) then 40 else (a.length : Int))).length : Int) then ((cut s 0 (if 100 < (s.length : Int) then 100 else (s.length : Int))).length : Int) else ((cut a 0 (if 40 < (a.length : Int) then 40 else (a.length : Int))).length : Int)) then (if ((cut s 0 (if 100 < (s.length : Int) then 100 else (s.length : Int))).length : Int) < ((cut a 0 (if 40 < (a.length : Int) then 40 else (a.length : Int))).length : Int) then ((cut s 0 (if 100 < (s.length : Int) then 100 else (s.length : Int))).length : Int) else ((cut a 0 (if 40 < (a.length : Int) then 40 else (a.length : Int))).length : Int)) else (IntKind.i64.wrap (((cut s 0 (if 100 < (s.length : Int) then 100 else (s.length : Int))).length : Int) - ((cut b 0 (if 40 < (b.length : Int) then 40 else (b.length : Int))).length : Int))))) ([47] : Str)) default).bind fun t8 =>
        some (t7 == ((((decide (((cut s 0 (if 100 < (s.length : Int) then 100 else (s.length : Int))).length : Int) ≥ (IntKind.i64.wrap (((cut a 0 (if 40 < (a.length : Int) then 40 else (a.length : Int))).length : Int) + ((cut b 0 (if 40 < (b.length : Int) then 40 else (b.length : Int))).length : Int))))) && t3) && t4) && (!t8)))
def f_glob_Right (pattern : Str) : Option (Bool) :=
  (f_glob_pieces pattern).bind fun t =>
  some t.2
def f_slices_IndexFunc_string_string_l7 (s : (List Str)) (f : Str → Option (Bool)) : Nat → Int → Option ((Int) ⊕ (Int))
  | 0, _ => none
  | m_ + 1, v8 =>
    if (decide (v8 < (s.length : Int))) then
      (ix s v8).bind fun x =>
      (f x).bind fun b =>
      if b then
        some (.inr v8)
      else
        f_slices_IndexFunc_string_string_l7 s f m_ (IntKind.i64.wrap (v8 + 1))
    else
      some (.inl v8)
def f_slices_IndexFunc_string_string (s : (List Str)) (f : Str → Option (Bool)) : Option (Int) :=
  Option.bind (f_slices_IndexFunc_string_string_l7 s f ((((s.length : Int) : Int) - 0).toNat + 1) 0) fun s2 : (Int) ⊕ (Int) => match s2 with
  | .inr z => some z
  | .inl s3 =>
    some (-1)
def f_slices_ContainsFunc_string_string (s : (List Str)) (f : Str → Option (Bool)) : Option (Bool) :=
  (f_slices_IndexFunc_string_string s f).bind fun t =>
  some (decide (t ≥ 0))
def f_glob_Some_1 (p : Str) : Option (Bool) :=
  (f_glob_Right p).bind fun t =>
  some (!t)
def f_glob_Some_2 (p : Str) (p1 : Str) : Option (Bool) :=
  (f_glob_Match p p1).bind fun t =>
  some t
def f_glob_Some (s : Str) (patterns : (List Str)) : Option (Bool × Int) :=
  (gx (!(decide ((s.length : Int) > 200))) (f_slices_ContainsFunc_string_string patterns f_glob_Some_1) default).bind fun t =>
  if ((decide ((s.length : Int) > 200)) || t) then
    some (false, 1)
  else
    (gx (!((patterns.length : Int) == 0)) (f_slices_ContainsFunc_string_string patterns (fun a0 => f_glob_Some_2 a0 s)) default).bind fun t2 =>
    some ((((patterns.length : Int) == 0) || t2), 0)
def f_law07_GlobNames_l10 (s : Str) (l : (List Str)) : Nat → Bool → Bool → Int → (List Str) → Option (Bool × Bool × Int × (List Str))
  | 0, _, _, _, _ => none
  | m_ + 1, one, may, v27, l2 =>
    if (decide (v27 < ((([] : List Str) ++ (cut l 0 (if 5 < (l.length : Int) then 5 else (l.length : Int)))).length : Int))) then
      (ix l2 v27).bind fun x =>
      gd (0 ≤ (if 100 < (x.length : Int) then 100 else (x.length : Int)) ∧ (if 100 < (x.length : Int) then 100 else (x.length : Int)) ≤ (x.length : Int)) <|
      (ix l2 v27).bind fun x2 =>
      (gx (!one) (ix (l2.set v27.toNat (cut x 0 (if 100 < (x.length : Int) then 100 else (x.length : Int)))) v27) default).bind fun x3 =>
      (gx (!one) (f_glob_Match x3 (cut s 0 (if 100 < (s.length : Int) then 100 else (s.length : Int)))) default).bind fun t =>
      (gx may (ix (l2.set v27.toNat (cut x 0 (if 100 < (x.length : Int) then 100 else (x.length : Int)))) v27) default).bind fun x4 =>
      (gx may (f_glob_Right x4) default).bind fun t2 =>
      f_law07_GlobNames_l10 s l m_ (one || t) (may && t2) (IntKind.i64.wrap (v27 + 1)) (l2.set v27.toNat (cut x 0 (if 100 < (x.length : Int) then 100 else (x.length : Int))))
    else
      some (one, may, v27, l2)
def f_law07_GlobNames (s : Str) (l : (List Str)) : Option (Bool) :=
  gd (0 ≤ (if 100 < (s.length : Int) then 100 else (s.length : Int)) ∧ (if 100 < (s.length : Int) then 100 else (s.length : Int)) ≤ (s.length : Int)) <|
  gd (0 ≤ (if 5 < (l.length : Int) then 5 else (l.length : Int)) ∧ (if 5 < (l.length : Int) then 5 else (l.length : Int)) ≤ (l.length : Int)) <|
  gd ((0 + (cut l 0 (if 5 < (l.length : Int) then 5 else (l.length : Int))).length) * 16 ≤ 140737488355328) <|
  Option.bind (f_law07_GlobNames_l10 s l (((((([] : List Str) ++ (cut l 0 (if 5 < (l.length : Int) then 5 else (l.length : Int)))).length : Int) : Int) - 0).toNat + 1) false true 0 (([] : List Str) ++ (cut l 0 (if 5 < (l.length : Int) then 5 else (l.length : Int))))) fun s2 : Bool × Bool × Int × (List Str) =>
  (f_glob_Some (cut s 0 (if 100 < (s.length : Int) then 100 else (s.length : Int))) s2.2.2.2).bind fun t =>
  if (!s2.2.1) then
    (f_law07_alive).bind fun t2 =>
    some ((t2 && (t.2 == 1)) && (!t.1))
  else
    gd ((s2.2.2.2.length + 1) * 16 ≤ 140737488355328) <|
    (f_glob_Some (cut s 0 (if 100 < (s.length : Int) then 100 else (s.length : Int))) (s2.2.2.2 ++ ([([42, 42] : Str)] : List Str))).bind fun t2 =>
    (f_law07_alive).bind fun t3 =>
    some ((((t3 && (t.2 == 0)) && (t.1 == (s2.1 || ((s2.2.2.2.length : Int) == 0)))) && (t2.2 == 0)) && t2.1)
def f_law07_GlobWords_l13 (l : (List Str)) (s : Str) (is : Bool) (v22 : Int) (x : Str) : Nat → Int → Option ((Int) ⊕ (Bool))
  | 0, _ => none
  | m_ + 1, v29 =>
    if (decide (v29 < (x.length : Int))) then
      (ix (x.map bn) v29).bind fun x2 =>
      (gx (!((decide (x2 < 33)) || (decide (x2 > 126)))) (f_strings_IndexByte ([123, 125, 44] : Str) x2) default).bind fun t =>
      if (((decide (x2 < 33)) || (decide (x2 > 126))) || (decide (t ≥ 0))) then
        (f_law07_alive).bind fun t2 =>
        some (.inr t2)
      else
        f_law07_GlobWords_l13 l s is v22 x m_ (IntKind.i64.wrap (v29 + 1))
    else
      some (.inl v29)
def f_law07_GlobWords_l18 (l : (List Str)) (s : Str) : Nat → Bool → Int → Option ((Bool × Int) ⊕ (Bool))
  | 0, _, _ => none
  | m_ + 1, is, v22 =>
    if (decide (v22 < ((cut l 0 (if 5 < (l.length : Int) then 5 else (l.length : Int))).length : Int))) then
      (ix (cut l 0 (if 5 < (l.length : Int) then 5 else (l.length : Int))) v22).bind fun x =>
      Option.bind (f_law07_GlobWords_l13 l s is v22 x ((((x.length : Int) : Int) - 0).toNat + 1) 0) fun s2 : (Int) ⊕ (Bool) => match s2 with
      | .inr z => some (.inr z)
      | .inl s3 =>
        if (decide ((x.length : Int) > 20)) then
          (f_law07_alive).bind fun t =>
          some (.inr t)
        else
          f_law07_GlobWords_l18 l s m_ (is || ((cut s 0 (if 60 < (s.length : Int) then 60 else (s.length : Int))) == x)) (IntKind.i64.wrap (v22 + 1))
    else
      some (.inl (is, v22))
def f_law07_GlobWords (l : (List Str)) (s : Str) : Option (Bool) :=
  gd (0 ≤ (if 5 < (l.length : Int) then 5 else (l.length : Int)) ∧ (if 5 < (l.length : Int) then 5 else (l.length : Int)) ≤ (l.length : Int)) <|
  gd (0 ≤ (if 60 < (s.length : Int) then 60 else (s.length : Int)) ∧ (if 60 < (s.length : Int) then 60 else (s.length : Int)) ≤ (s.length : Int)) <|
  Option.bind (f_law07_GlobWords_l18 l s (((((cut l 0 (if 5 < (l.length : Int) then 5 else (l.length : Int))).length : Int) : Int) - 0).toNat + 1) false 0) fun s2 : (Bool × Int) ⊕ (Bool) => match s2 with
  | .inr z => some z
  | .inl s3 =>
    Option.bind (
      if (((cut l 0 (if 5 < (l.length : Int) then 5 else (l.length : Int))).length : Int) == 0) then
        some ((cut s 0 (if 60 < (s.length : Int) then 60 else (s.length : Int))) == ([] : Str))
      else
        some s3.1) fun s2 : Bool =>
    (f_law07_alive).bind fun t =>
    (gx t (f_strings_Join (cut l 0 (if 5 < (l.length : Int) then 5 else (l.length : Int))) ([44] : Str)) default).bind fun t2 =>
    gd (t = true → 1 + t2.length ≤ 9223372036854775807) <|
    gd (t = true → (([123] : Str) ++ t2).length + 1 ≤ 9223372036854775807) <|
    (gx t (f_glob_Match ((([123] : Str) ++ t2) ++ ([125] : Str)) (cut s 0 (if 60 < (s.length : Int) then 60 else (s.length : Int)))) default).bind fun t3 =>
    some (t && (t3 == s2))
def f_law07_GlobOnes (n : Int) (s : Str) (p : Str) (q : Str) (a : Str) (b : Str) : Option (Bool) :=
  gd (0 ≤ (if 60 < (s.length : Int) then 60 else (s.length : Int)) ∧ (if 60 < (s.length : Int) then 60 else (s.length : Int)) ≤ (s.length : Int)) <|
  gd (0 ≤ (if 40 < (p.length : Int) then 40 else (p.length : Int)) ∧ (if 40 < (p.length : Int) then 40 else (p.length : Int)) ≤ (p.length : Int)) <|
  gd (0 ≤ (if 40 < (q.length : Int) then 40 else (q.length : Int)) ∧ (if 40 < (q.length : Int) then 40 else (q.length : Int)) ≤ (q.length : Int)) <|
  gd (0 ≤ (if 60 < (a.length : Int) then 60 else (a.length : Int)) ∧ (if 60 < (a.length : Int) then 60 else (a.length : Int)) ≤ (a.length : Int)) <|
  gd (0 ≤ (if 60 < (b.length : Int) then 60 else (b.length : Int)) ∧ (if 60 < (b.length : Int) then 60 else (b.length : Int)) ≤ (b.length : Int)) <|
  (f_strings_Repeat ([63] : Str) (IntKind.i64.wrap (1 + ((IntKind.i64.wrap ((n.tmod 20) + 20)).tmod 20)))).bind fun t =>
  (f_glob_Match t (cut s 0 (if 60 < (s.length : Int) then 60 else (s.length : Int)))).bind fun t2 =>
  (gx (((cut s 0 (if 60 < (s.length : Int) then 60 else (s.length : Int))).length : Int) == (IntKind.i64.wrap (1 + ((IntKind.i64.wrap ((n.tmod 20) + 20)).tmod 20)))) (f_strings_Contains (cut s 0 (if 60 < (s.length : Int) then 60 else (s.length : Int))) ([47] : Str)) default).bind fun t3 =>
  (gx (!(!(t2 == ((((cut s 0 (if 60 < (s.length : Int) then 60 else (s.length : Int))).length : Int) == (IntKind.i64.wrap (1 + ((IntKind.i64.wrap ((n.tmod 20) + 20)).tmod 20)))) && (!t3))))) (f_law07_alive) default).bind fun t4 =>
  if ((!(t2 == ((((cut s 0 (if 60 < (s.length : Int) then 60 else (s.length : Int))).length : Int) == (IntKind.i64.wrap (1 + ((IntKind.i64.wrap ((n.tmod 20) + 20)).tmod 20)))) && (!t3)))) || (!t4)) then
    some false
  else
    (f_glob_Right (cut p 0 (if 40 < (p.length : Int) then 40 else (p.length : Int)))).bind fun t5 =>
    (gx (!(!t5)) (f_glob_Right (cut q 0 (if 40 < (q.length : Int) then 40 else (q.length : Int)))) default).bind fun t6 =>
    (gx (!((!t5) || (!t6))) (f_strings_HasSuffix (cut p 0 (if 40 < (p.length : Int) then 40 else (p.length : Int))) ([42] : Str)) default).bind fun t7 =>
    if (((!t5) || (!t6)) || t7) then
      some true
    else
      (f_glob_Match (cut p 0 (if 40 < (p.length : Int) then 40 else (p.length : Int))) (cut a 0 (if 60 < (a.length : Int) then 60 else (a.length : Int)))).bind fun t8 =>
      (gx (!(!t8)) (f_glob_Match (cut q 0 (if 40 < (q.length : Int) then 40 else (q.length : Int))) (cut b 0 (if 60 < (b.length : Int) then 60 else (b.length : Int)))) default).bind fun t9 =>
      gd ((!((!t8) || (!t9))) = true → (cut p 0 (if 40 < (p.length : Int) then 40 else (p.length : Int))).length + (cut q 0 (if 40 < (q.length : Int) then 40 else (q.length : Int))).length ≤ 9223372036854775807) <|
      gd ((!((!t8) || (!t9))) = true → (cut a 0 (if 60 < (a.length : Int) then 60 else (a.length : Int))).length + (cut b 0 (if 60 < (b.length : Int) then 60 else (b.length : Int))).length ≤ 9223372036854775807) <|
      (gx (!((!t8) || (!t9))) (f_glob_Match ((cut p 0 (if 40 < (p.length : Int) then 40 else (p.length : Int))) ++ (cut q 0 (if 40 < (q.length : Int) then 40 else (q.length : Int)))) ((cut a 0 (if 60 < (a.length : Int) then 60 else (a.length : Int))) ++ (cut b 0 (if 60 < (b.length : Int) then 60 else (b.length : Int))))) default).bind fun t10 =>
      some (((!t8) || (!t9)) || t10)
end Go.Proofs.YthcngbbceahdlaaDoor.V
end

section
/- The shelf contracts that this seat uses, in plain words. -/
namespace Go.Proofs
open Go.Shelf
def Tryd.lays170_ren : Go.Shelf.Ren := ⟨fun | 170 => 45 | n => n, fun | 70 => 63 | 3 => 3 | 0 => 0 | 72 => 65 | 37 => 24 | 5 => 5 | n => n, fun | n => n⟩
theorem Tryd.lays170 : Go.Proofs.Lays.n170 Tryd.prog Tryd.lays170_ren := {
  mixed := by kernel_rfl
  f170 := Tryd.func45.trans (congrArg some (by kernel_rfl))
  t0 := Tryd.underlying0
  a0 := Tryd.isAgg0
  z0 := Tryd.sizeOf0
  v0 := Tryd.zeroValue0
  t3 := Tryd.underlying3
  a3 := Tryd.isAgg3
  z3 := Tryd.sizeOf3
  v3 := Tryd.zeroValue3
  t37 := Tryd.underlying24
  a37 := Tryd.isAgg24
  z37 := Tryd.sizeOf24
  v37 := Tryd.zeroValue24
  t70 := Tryd.underlying63
  a70 := Tryd.isAgg63
  z70 := Tryd.sizeOf63
  v70 := Tryd.zeroValue63
  t72 := Tryd.underlying65
  a72 := Tryd.isAgg65
  z72 := Tryd.sizeOf65
  v72 := Tryd.zeroValue65 }
open Go.RowKit in
theorem Tryd.Builder_Len (B b : Nat) (bs : List Value) (w : World) (h : Lib.IsBuilder 65 5 B b bs w) :
    Calls Tryd.prog 45 #[.pointer (some ⟨b, 0, none⟩)] w fun e w' => e = .returned (.int .i64 bs.length) ∧ w' = w := Any.Builder_Len Tryd.lays170 B b bs w h
def Tryd.lays169_ren : Go.Shelf.Ren := ⟨fun | 169 => 43 | n => n, fun | 70 => 63 | 9 => 9 | 0 => 0 | 72 => 65 | 37 => 24 | 127 => 106 | 3 => 3 | 5 => 5 | n => n, fun | n => n⟩
theorem Tryd.lays169 : Go.Proofs.Lays.n169 Tryd.prog Tryd.lays169_ren := {
  mixed := by kernel_rfl
  f169 := Tryd.func43.trans (congrArg some (by kernel_rfl))
  t0 := Tryd.underlying0
  a0 := Tryd.isAgg0
  z0 := Tryd.sizeOf0
  v0 := Tryd.zeroValue0
  t3 := Tryd.underlying3
  a3 := Tryd.isAgg3
  z3 := Tryd.sizeOf3
  v3 := Tryd.zeroValue3
  t9 := Tryd.underlying9
  a9 := Tryd.isAgg9
  z9 := Tryd.sizeOf9
  v9 := Tryd.zeroValue9
  t37 := Tryd.underlying24
  a37 := Tryd.isAgg24
  z37 := Tryd.sizeOf24
  v37 := Tryd.zeroValue24
  t70 := Tryd.underlying63
  a70 := Tryd.isAgg63
  z70 := Tryd.sizeOf63
  v70 := Tryd.zeroValue63
  t72 := Tryd.underlying65
  a72 := Tryd.isAgg65
  z72 := Tryd.sizeOf65
  v72 := Tryd.zeroValue65
  t127 := Tryd.underlying106
  a127 := Tryd.isAgg106
  z127 := Tryd.sizeOf106
  v127 := Tryd.zeroValue106 }
theorem Tryd.Builder_Extra_169 : Builder.Extra Tryd.prog Tryd.lays169_ren := {
  sizeBuilder := by kernel_rfl
  liesBuilder := by kernel_rfl
  t5 := Tryd.underlying5
  a5 := Tryd.isAgg5
  z5 := Tryd.sizeOf5
  v5 := Tryd.zeroValue5
  infoByte := by kernel_rfl
  cellsByte := by kernel_rfl
  sizeByte := by kernel_rfl
  neB5 := by decide }
open Go.RowKit in
theorem Tryd.Builder_String (B b : Nat) (l : List UInt8) (w : World) (h : Lib.IsBuilder 65 5 B b (Lib.byteCells l) w) (h0 : l ≠ []) :
    Calls Tryd.prog 43 #[.pointer (some ⟨b, 0, none⟩)] w fun e w' => e = .returned (.string ⟨l.toArray⟩) ∧ Below B w w' := Any.Builder_String Tryd.lays169 Tryd.Builder_Extra_169 B b l w h h0
open Go.RowKit in
theorem Tryd.Builder_String_empty (B b : Nat) (w : World) (h : Lib.IsBuilder 65 5 B b [] w) (hBw : B ≤ w.heap.size) :
    Calls Tryd.prog 43 #[.pointer (some ⟨b, 0, none⟩)] w fun e w' => e = .returned (.string ⟨#[]⟩) ∧ Below B w w' := Any.Builder_String_empty Tryd.lays169 Tryd.Builder_Extra_169 B b w h hBw
open Go.RowKit in
theorem Tryd.Builder_String_any (B b : Nat) (l : List UInt8) (w : World) (h : Lib.IsBuilder 65 5 B b (Lib.byteCells l) w) (hBw : B ≤ w.heap.size) :
    Calls Tryd.prog 43 #[.pointer (some ⟨b, 0, none⟩)] w fun e w' => e = .returned (.string ⟨l.toArray⟩) ∧ Below B w w' := Any.Builder_String_any Tryd.lays169 Tryd.Builder_Extra_169 B b l w h hBw
def Tryd.lays241_ren : Go.Shelf.Ren := ⟨fun | 241 => 64 | 277 => 79 | n => n, fun | 70 => 63 | 3 => 3 | 0 => 0 | 72 => 65 | 37 => 24 | 5 => 5 | n => n, fun | n => n⟩
theorem Tryd.lays241 : Go.Proofs.Lays.n241 Tryd.prog Tryd.lays241_ren := {
  mixed := by kernel_rfl
  f241 := Tryd.func64.trans (congrArg some (by kernel_rfl))
  f277 := Tryd.func79.trans (congrArg some (by kernel_rfl))
  t0 := Tryd.underlying0
  a0 := Tryd.isAgg0
  z0 := Tryd.sizeOf0
  v0 := Tryd.zeroValue0
  t3 := Tryd.underlying3
  a3 := Tryd.isAgg3
  z3 := Tryd.sizeOf3
  v3 := Tryd.zeroValue3
  t37 := Tryd.underlying24
  a37 := Tryd.isAgg24
  z37 := Tryd.sizeOf24
  v37 := Tryd.zeroValue24
  t70 := Tryd.underlying63
  a70 := Tryd.isAgg63
  z70 := Tryd.sizeOf63
  v70 := Tryd.zeroValue63
  t72 := Tryd.underlying65
  a72 := Tryd.isAgg65
  z72 := Tryd.sizeOf65
  v72 := Tryd.zeroValue65 }
theorem Tryd.Builder_Extra_241 : Builder.Extra Tryd.prog Tryd.lays241_ren := {
  sizeBuilder := by kernel_rfl
  liesBuilder := by kernel_rfl
  t5 := Tryd.underlying5
  a5 := Tryd.isAgg5
  z5 := Tryd.sizeOf5
  v5 := Tryd.zeroValue5
  infoByte := by kernel_rfl
  cellsByte := by kernel_rfl
  sizeByte := by kernel_rfl
  neB5 := by decide }
open Go.RowKit in
theorem Tryd.Builder_grow_fresh (B b n : Nat) (w : World) (hB : B ≤ b) (hbk : w.heap[b]? = some (.cells #[.pointer (some ⟨b, 0, none⟩), .slice none 0 0] 65 (0, 0))) (hBw : B ≤ w.heap.size) (hn : n ≤ 281474976710656) :
    Calls Tryd.prog 64 #[.pointer (some ⟨b, 0, none⟩), .int .i64 n] w fun e w' => e = .returned (.tuple #[]) ∧ (Lib.BuilderAt 65 5 B b (.pointer (some ⟨b, 0, none⟩)) [] w' ∧ Below B w w') := Any.Builder_grow_fresh Tryd.lays241 Tryd.Builder_Extra_241 B b n w hB hbk hBw hn
def Tryd.lays165_ren : Go.Shelf.Ren := ⟨fun | 165 => 41 | 240 => 63 | 241 => 64 | 276 => 78 | 277 => 79 | n => n, fun | 70 => 63 | 3 => 3 | 0 => 0 | 4 => 4 | 9 => 9 | 20 => 20 | 72 => 65 | 37 => 24 | 164 => 126 | 5 => 5 | n => n, fun | n => n⟩
theorem Tryd.lays165 : Go.Proofs.Lays.n165 Tryd.prog Tryd.lays165_ren := {
  mixed := by kernel_rfl
  f165 := Tryd.func41.trans (congrArg some (by kernel_rfl))
  f240 := Tryd.func63.trans (congrArg some (by kernel_rfl))
  f241 := Tryd.func64.trans (congrArg some (by kernel_rfl))
  f276 := Tryd.func78.trans (congrArg some (by kernel_rfl))
  f277 := Tryd.func79.trans (congrArg some (by kernel_rfl))
  t0 := Tryd.underlying0
  a0 := Tryd.isAgg0
  z0 := Tryd.sizeOf0
  v0 := Tryd.zeroValue0
  t3 := Tryd.underlying3
  a3 := Tryd.isAgg3
  z3 := Tryd.sizeOf3
  v3 := Tryd.zeroValue3
  t4 := Tryd.underlying4
  a4 := Tryd.isAgg4
  z4 := Tryd.sizeOf4
  v4 := Tryd.zeroValue4
  t9 := Tryd.underlying9
  a9 := Tryd.isAgg9
  z9 := Tryd.sizeOf9
  v9 := Tryd.zeroValue9
  t20 := Tryd.underlying20
  a20 := Tryd.isAgg20
  z20 := Tryd.sizeOf20
  v20 := Tryd.zeroValue20
  t37 := Tryd.underlying24
  a37 := Tryd.isAgg24
  z37 := Tryd.sizeOf24
  v37 := Tryd.zeroValue24
  t70 := Tryd.underlying63
  a70 := Tryd.isAgg63
  z70 := Tryd.sizeOf63
  v70 := Tryd.zeroValue63
  t72 := Tryd.underlying65
  a72 := Tryd.isAgg65
  z72 := Tryd.sizeOf65
  v72 := Tryd.zeroValue65
  t164 := Tryd.underlying126
  a164 := Tryd.isAgg126
  z164 := Tryd.sizeOf126
  v164 := Tryd.zeroValue126 }
theorem Tryd.Builder_Extra_165 : Builder.Extra Tryd.prog Tryd.lays165_ren := {
  sizeBuilder := by kernel_rfl
  liesBuilder := by kernel_rfl
  t5 := Tryd.underlying5
  a5 := Tryd.isAgg5
  z5 := Tryd.sizeOf5
  v5 := Tryd.zeroValue5
  infoByte := by kernel_rfl
  cellsByte := by kernel_rfl
  sizeByte := by kernel_rfl
  neB5 := by decide }
open Go.RowKit in
theorem Tryd.Builder_Grow_fresh (B b n : Nat) (w : World) (hB : B ≤ b) (hbk : w.heap[b]? = some (.cells #[.pointer none, .slice none 0 0] 65 (0, 0))) (hBw : B ≤ w.heap.size) (hn : n ≤ 281474976710656) :
    Calls Tryd.prog 41 #[.pointer (some ⟨b, 0, none⟩), .int .i64 n] w fun e w' => e = .returned (.tuple #[]) ∧ (Lib.BuilderAt 65 5 B b (.pointer (some ⟨b, 0, none⟩)) [] w' ∧ Below B w w') := Any.Builder_Grow_fresh Tryd.lays165 Tryd.Builder_Extra_165 B b n w hB hbk hBw hn
def Tryd.lays156_ren : Go.Shelf.Ren := ⟨fun | 156 => 21 | 165 => 41 | 166 => 42 | 169 => 43 | 240 => 63 | 241 => 64 | 276 => 78 | 277 => 79 | n => n, fun | 31 => 27 | 9 => 9 | 3 => 3 | 4 => 4 | 0 => 0 | 20 => 20 | 72 => 65 | 76 => 69 | 70 => 63 | 37 => 24 | 75 => 68 | 127 => 106 | 164 => 126 | 5 => 5 | 80 => 71 | n => n, fun | n => n⟩
theorem Tryd.lays156 : Go.Proofs.Lays.n156 Tryd.prog Tryd.lays156_ren := {
  mixed := by kernel_rfl
  f156 := Tryd.func21.trans (congrArg some (by kernel_rfl))
  f165 := Tryd.func41.trans (congrArg some (by kernel_rfl))
  f166 := Tryd.func42.trans (congrArg some (by kernel_rfl))
  f169 := Tryd.func43.trans (congrArg some (by kernel_rfl))
  f240 := Tryd.func63.trans (congrArg some (by kernel_rfl))
  f241 := Tryd.func64.trans (congrArg some (by kernel_rfl))
  f276 := Tryd.func78.trans (congrArg some (by kernel_rfl))
  f277 := Tryd.func79.trans (congrArg some (by kernel_rfl))
  t0 := Tryd.underlying0
  a0 := Tryd.isAgg0
  z0 := Tryd.sizeOf0
  v0 := Tryd.zeroValue0
  t3 := Tryd.underlying3
  a3 := Tryd.isAgg3
  z3 := Tryd.sizeOf3
  v3 := Tryd.zeroValue3
  t4 := Tryd.underlying4
  a4 := Tryd.isAgg4
  z4 := Tryd.sizeOf4
  v4 := Tryd.zeroValue4
  t9 := Tryd.underlying9
  a9 := Tryd.isAgg9
  z9 := Tryd.sizeOf9
  v9 := Tryd.zeroValue9
  t20 := Tryd.underlying20
  a20 := Tryd.isAgg20
  z20 := Tryd.sizeOf20
  v20 := Tryd.zeroValue20
  t31 := Tryd.underlying27
  a31 := Tryd.isAgg27
  z31 := Tryd.sizeOf27
  v31 := Tryd.zeroValue27
  t37 := Tryd.underlying24
  a37 := Tryd.isAgg24
  z37 := Tryd.sizeOf24
  v37 := Tryd.zeroValue24
  t70 := Tryd.underlying63
  a70 := Tryd.isAgg63
  z70 := Tryd.sizeOf63
  v70 := Tryd.zeroValue63
  t72 := Tryd.underlying65
  a72 := Tryd.isAgg65
  z72 := Tryd.sizeOf65
  v72 := Tryd.zeroValue65
  t75 := Tryd.underlying68
  a75 := Tryd.isAgg68
  z75 := Tryd.sizeOf68
  v75 := Tryd.zeroValue68
  t76 := Tryd.underlying69
  a76 := Tryd.isAgg69
  z76 := Tryd.sizeOf69
  v76 := Tryd.zeroValue69
  t127 := Tryd.underlying106
  a127 := Tryd.isAgg106
  z127 := Tryd.sizeOf106
  v127 := Tryd.zeroValue106
  t164 := Tryd.underlying126
  a164 := Tryd.isAgg126
  z164 := Tryd.sizeOf126
  v164 := Tryd.zeroValue126 }
theorem Tryd.Builder_Extra_156 : Builder.Extra Tryd.prog Tryd.lays156_ren := {
  sizeBuilder := by kernel_rfl
  liesBuilder := by kernel_rfl
  t5 := Tryd.underlying5
  a5 := Tryd.isAgg5
  z5 := Tryd.sizeOf5
  v5 := Tryd.zeroValue5
  infoByte := by kernel_rfl
  cellsByte := by kernel_rfl
  sizeByte := by kernel_rfl
  neB5 := by decide }
open Go.RowKit in
theorem Tryd.strings_Join_none (a : Option Addr) (c : Nat) (sep : ByteArray) (w : World) :
    Calls Tryd.prog 21 #[.slice a 0 c, .string sep] w fun e w' => e = .returned (.string ⟨#[]⟩) ∧ w' = w := Any.strings_Join_none Tryd.lays156 Tryd.Builder_Extra_156 a c sep w
open Go.RowKit in
theorem Tryd.strings_Join (bk o c : Nat) (xs : List ByteArray) (sep : ByteArray) (w : World) (hcells : ∀ (j : Nat) x, xs[j]? = some x → w.cell? ⟨bk, o + j, none⟩ = some (.string x)) (hbk : bk < w.heap.size) (hN : xs.length ≤ 140737488355328) (hcap : xs.length ≤ c) (hlen : (Lib.join (xs.map (·.data.toList)) sep.data.toList).length ≤ 140737488355328) :
    Calls Tryd.prog 21 #[.slice (some ⟨bk, o, none⟩) xs.length c, .string sep] w fun e w' => e = .returned (.string ⟨(Lib.join (xs.map (·.data.toList)) sep.data.toList).toArray⟩) ∧ Below w.heap.size w w' := Any.strings_Join Tryd.lays156 Tryd.Builder_Extra_156 bk o c xs sep w hcells hbk hN hcap hlen
def Tryd.lays231_ren : Go.Shelf.Ren := ⟨fun | 231 => 93 | n => n, fun | 9 => 9 | 5 => 5 | 3 => 3 | 4 => 4 | n => n, fun | n => n⟩
theorem Tryd.lays231 : Go.Proofs.Lays.n231 Tryd.prog Tryd.lays231_ren := {
  mixed := by kernel_rfl
  f231 := Tryd.func93.trans (congrArg some (by kernel_rfl))
  t3 := Tryd.underlying3
  a3 := Tryd.isAgg3
  z3 := Tryd.sizeOf3
  v3 := Tryd.zeroValue3
  t4 := Tryd.underlying4
  a4 := Tryd.isAgg4
  z4 := Tryd.sizeOf4
  v4 := Tryd.zeroValue4
  t5 := Tryd.underlying5
  a5 := Tryd.isAgg5
  z5 := Tryd.sizeOf5
  v5 := Tryd.zeroValue5
  t9 := Tryd.underlying9
  a9 := Tryd.isAgg9
  z9 := Tryd.sizeOf9
  v9 := Tryd.zeroValue9 }
open Go.RowKit in
theorem Tryd.strings_trimLeftByte (s : ByteArray) (c : UInt8) (w : World) :
    Calls Tryd.prog 93 #[.string s, .int .u8 c.toNat] w fun e w' => e = .returned (.string ⟨(Lib.trimLeftB s.data.toList c).toArray⟩) ∧ w' = w := Any.strings_trimLeftByte Tryd.lays231 s c w
def Tryd.lays232_ren : Go.Shelf.Ren := ⟨fun | 232 => 94 | n => n, fun | 9 => 9 | 5 => 5 | 3 => 3 | 4 => 4 | n => n, fun | n => n⟩
theorem Tryd.lays232 : Go.Proofs.Lays.n232 Tryd.prog Tryd.lays232_ren := {
  mixed := by kernel_rfl
  f232 := Tryd.func94.trans (congrArg some (by kernel_rfl))
  t3 := Tryd.underlying3
  a3 := Tryd.isAgg3
  z3 := Tryd.sizeOf3
  v3 := Tryd.zeroValue3
  t4 := Tryd.underlying4
  a4 := Tryd.isAgg4
  z4 := Tryd.sizeOf4
  v4 := Tryd.zeroValue4
  t5 := Tryd.underlying5
  a5 := Tryd.isAgg5
  z5 := Tryd.sizeOf5
  v5 := Tryd.zeroValue5
  t9 := Tryd.underlying9
  a9 := Tryd.isAgg9
  z9 := Tryd.sizeOf9
  v9 := Tryd.zeroValue9 }
open Go.RowKit in
theorem Tryd.strings_trimRightByte (s : ByteArray) (c : UInt8) (w : World) (hs : s.size ≤ 9223372036854775807) :
    Calls Tryd.prog 94 #[.string s, .int .u8 c.toNat] w fun e w' => e = .returned (.string ⟨(Lib.trimRightB s.data.toList c).toArray⟩) ∧ w' = w := Any.strings_trimRightByte Tryd.lays232 s c w hs
def Tryd.lays160_ren : Go.Shelf.Ren := ⟨fun | 160 => 91 | 232 => 94 | 231 => 93 | 227 => 95 | 234 => 97 | 233 => 96 | 236 => 99 | 235 => 98 | 228 => 100 | 271 => 102 | 151 => 101 | 197 => 88 | 120 => 104 | 152 => 103 | 260 => 92 | 137 => 15 | 119 => 105 | 224 => 76 | 225 => 75 | 217 => 34 | 266 => 60 | n => n, fun | 9 => 9 | 4 => 4 | 3 => 3 | 5 => 5 | 117 => 154 | 116 => 153 | 0 => 0 | 124 => 157 | 21 => 21 | 105 => 148 | 46 => 72 | 119 => 158 | 139 => 161 | 138 => 160 | n => n, fun | 3 => 1 | 4 => 2 | n => n⟩
theorem Tryd.lays160 : Go.Proofs.Lays.n160 Tryd.prog Tryd.lays160_ren := {
  mixed := by kernel_rfl
  f119 := Tryd.func105.trans (congrArg some (by kernel_rfl))
  f120 := Tryd.func104.trans (congrArg some (by kernel_rfl))
  f137 := Tryd.func15.trans (congrArg some (by kernel_rfl))
  f151 := Tryd.func101.trans (congrArg some (by kernel_rfl))
  f152 := Tryd.func103.trans (congrArg some (by kernel_rfl))
  f160 := Tryd.func91.trans (congrArg some (by kernel_rfl))
  f197 := Tryd.func88.trans (congrArg some (by kernel_rfl))
  f217 := Tryd.func34.trans (congrArg some (by kernel_rfl))
  f224 := Tryd.func76.trans (congrArg some (by kernel_rfl))
  f225 := Tryd.func75.trans (congrArg some (by kernel_rfl))
  f227 := Tryd.func95.trans (congrArg some (by kernel_rfl))
  f228 := Tryd.func100.trans (congrArg some (by kernel_rfl))
  f231 := Tryd.func93.trans (congrArg some (by kernel_rfl))
  f232 := Tryd.func94.trans (congrArg some (by kernel_rfl))
  f233 := Tryd.func96.trans (congrArg some (by kernel_rfl))
  f234 := Tryd.func97.trans (congrArg some (by kernel_rfl))
  f235 := Tryd.func98.trans (congrArg some (by kernel_rfl))
  f236 := Tryd.func99.trans (congrArg some (by kernel_rfl))
  f260 := Tryd.func92.trans (congrArg some (by kernel_rfl))
  f266 := Tryd.func60.trans (congrArg some (by kernel_rfl))
  f271 := Tryd.func102.trans (congrArg some (by kernel_rfl))
  t0 := Tryd.underlying0
  a0 := Tryd.isAgg0
  z0 := Tryd.sizeOf0
  v0 := Tryd.zeroValue0
  t3 := Tryd.underlying3
  a3 := Tryd.isAgg3
  z3 := Tryd.sizeOf3
  v3 := Tryd.zeroValue3
  t4 := Tryd.underlying4
  a4 := Tryd.isAgg4
  z4 := Tryd.sizeOf4
  v4 := Tryd.zeroValue4
  t5 := Tryd.underlying5
  a5 := Tryd.isAgg5
  z5 := Tryd.sizeOf5
  v5 := Tryd.zeroValue5
  t9 := Tryd.underlying9
  a9 := Tryd.isAgg9
  z9 := Tryd.sizeOf9
  v9 := Tryd.zeroValue9
  t21 := Tryd.underlying21
  a21 := Tryd.isAgg21
  z21 := Tryd.sizeOf21
  v21 := Tryd.zeroValue21
  t46 := Tryd.underlying72
  a46 := Tryd.isAgg72
  z46 := Tryd.sizeOf72
  v46 := Tryd.zeroValue72
  t105 := Tryd.underlying148
  a105 := Tryd.isAgg148
  z105 := Tryd.sizeOf148
  v105 := Tryd.zeroValue148
  t116 := Tryd.underlying153
  a116 := Tryd.isAgg153
  z116 := Tryd.sizeOf153
  t117 := Tryd.underlying154
  a117 := Tryd.isAgg154
  z117 := Tryd.sizeOf154
  v117 := Tryd.zeroValue154
  t119 := Tryd.underlying158
  a119 := Tryd.isAgg158
  z119 := Tryd.sizeOf158
  t124 := Tryd.underlying157
  a124 := Tryd.isAgg157
  z124 := Tryd.sizeOf157
  v124 := Tryd.zeroValue157
  t138 := Tryd.underlying160
  a138 := Tryd.isAgg160
  z138 := Tryd.sizeOf160
  v138 := Tryd.zeroValue160
  t139 := Tryd.underlying161
  a139 := Tryd.isAgg161
  z139 := Tryd.sizeOf161
  v139 := Tryd.zeroValue161
  g3 := by kernel_rfl
  g4 := by kernel_rfl }
open Go.RowKit in
theorem Tryd.strings_Trim_one (s : ByteArray) (c : UInt8) (hc : c.toNat < 128) (w : World) (hs : s.size ≤ 9223372036854775807) :
    Calls Tryd.prog 91 #[.string s, .string ⟨#[c]⟩] w fun e w' => e = .returned (.string ⟨(Lib.trimB s.data.toList c).toArray⟩) ∧ (w' = w ∨ w' = w.drew) := Any.strings_Trim_one Tryd.lays160 s c hc w hs
def Tryd.lays119_ren : Go.Shelf.Ren := ⟨fun | 119 => 105 | n => n, fun | 21 => 21 | 4 => 4 | n => n, fun | n => n⟩
theorem Tryd.lays119 : Go.Proofs.Lays.n119 Tryd.prog Tryd.lays119_ren := {
  mixed := by kernel_rfl
  f119 := Tryd.func105.trans (congrArg some (by kernel_rfl))
  t4 := Tryd.underlying4
  a4 := Tryd.isAgg4
  z4 := Tryd.sizeOf4
  v4 := Tryd.zeroValue4
  t21 := Tryd.underlying21
  a21 := Tryd.isAgg21
  z21 := Tryd.sizeOf21
  v21 := Tryd.zeroValue21 }
theorem Tryd.utf8_ValidRune (r : Int) (w : World) :
    Calls Tryd.prog 105 #[.int .i32 r] w fun e w' => e = .returned (.bool (Lib.validRune r)) ∧ w' = w := Any.utf8_ValidRune Tryd.lays119 r w
def Tryd.lays120_ren : Go.Shelf.Ren := ⟨fun | 120 => 104 | n => n, fun | 5 => 5 | 4 => 4 | n => n, fun | n => n⟩
theorem Tryd.lays120 : Go.Proofs.Lays.n120 Tryd.prog Tryd.lays120_ren := {
  mixed := by kernel_rfl
  f120 := Tryd.func104.trans (congrArg some (by kernel_rfl))
  t4 := Tryd.underlying4
  a4 := Tryd.isAgg4
  z4 := Tryd.sizeOf4
  v4 := Tryd.zeroValue4
  t5 := Tryd.underlying5
  a5 := Tryd.isAgg5
  z5 := Tryd.sizeOf5
  v5 := Tryd.zeroValue5 }
theorem Tryd.utf8_RuneStart (b : Int) (w : World) (h0 : 0 ≤ b) (h1 : b < 256) :
    Calls Tryd.prog 104 #[.int .u8 b] w fun e w' => e = .returned (.bool (Lib.runeStart b)) ∧ w' = w := Any.utf8_RuneStart Tryd.lays120 b w h0 h1
def Tryd.lays137_ren : Go.Shelf.Ren := ⟨fun | 137 => 15 | 217 => 34 | 266 => 60 | n => n, fun | 9 => 9 | 5 => 5 | 3 => 3 | n => n, fun | n => n⟩
theorem Tryd.lays137 : Go.Proofs.Lays.n137 Tryd.prog Tryd.lays137_ren := {
  mixed := by kernel_rfl
  f137 := Tryd.func15.trans (congrArg some (by kernel_rfl))
  f217 := Tryd.func34.trans (congrArg some (by kernel_rfl))
  f266 := Tryd.func60.trans (congrArg some (by kernel_rfl))
  t3 := Tryd.underlying3
  a3 := Tryd.isAgg3
  z3 := Tryd.sizeOf3
  v3 := Tryd.zeroValue3
  t5 := Tryd.underlying5
  a5 := Tryd.isAgg5
  z5 := Tryd.sizeOf5
  v5 := Tryd.zeroValue5
  t9 := Tryd.underlying9
  a9 := Tryd.isAgg9
  z9 := Tryd.sizeOf9
  v9 := Tryd.zeroValue9 }
open Go.RowKit in
theorem Tryd.strings_IndexByte (s : ByteArray) (c : Int) (w : World) :
    Calls Tryd.prog 15 #[.string s, .int .u8 c] w fun e w' => e = .returned (.int .i64 (Lib.indexByte s.data.toList c.toNat.toUInt8)) ∧ w' = w := Any.strings_IndexByte Tryd.lays137 s c w
open Go.RowKit in
theorem Tryd.Builder_Len_f (B b : Nat) (bs : List Value) (w : World) (h : Lib.IsBuilderF 65 5 B b bs w) :
    Calls Tryd.prog 45 #[.pointer (some ⟨b, 0, none⟩)] w fun e w' => e = .returned (.int .i64 bs.length) ∧ w' = w := Any.Builder_Len_f Tryd.lays170 B b bs w h
open Go.RowKit in
theorem Tryd.Builder_String_f (B b : Nat) (l : List UInt8) (w : World) (h : Lib.IsBuilderF 65 5 B b (Lib.byteCells l) w) (h0 : l ≠ []) :
    Calls Tryd.prog 43 #[.pointer (some ⟨b, 0, none⟩)] w fun e w' => e = .returned (.string ⟨l.toArray⟩) ∧ (Lib.IsBuilderF 65 5 B b (Lib.byteCells l) w' ∧ Below B w w') := Any.Builder_String_f Tryd.lays169 Tryd.Builder_Extra_169 B b l w h h0
open Go.RowKit in
theorem Tryd.Builder_String_empty_f (B b : Nat) (w : World) (h : Lib.IsBuilderF 65 5 B b [] w) (hBw : B ≤ w.heap.size) :
    Calls Tryd.prog 43 #[.pointer (some ⟨b, 0, none⟩)] w fun e w' => e = .returned (.string ⟨#[]⟩) ∧ (Lib.IsBuilderF 65 5 B b [] w' ∧ Below B w w') := Any.Builder_String_empty_f Tryd.lays169 Tryd.Builder_Extra_169 B b w h hBw
open Go.RowKit in
theorem Tryd.Builder_String_any_f (B b : Nat) (l : List UInt8) (w : World) (h : Lib.IsBuilderF 65 5 B b (Lib.byteCells l) w) (hBw : B ≤ w.heap.size) :
    Calls Tryd.prog 43 #[.pointer (some ⟨b, 0, none⟩)] w fun e w' => e = .returned (.string ⟨l.toArray⟩) ∧ (Lib.IsBuilderF 65 5 B b (Lib.byteCells l) w' ∧ Below B w w') := Any.Builder_String_any_f Tryd.lays169 Tryd.Builder_Extra_169 B b l w h hBw
open Go.RowKit in
theorem Tryd.Builder_String_k (B b : Nat) (l : List UInt8) (w : World) (h : Lib.IsBuilderF 65 5 B b (Lib.byteCells l) w) (h0 : l ≠ []) :
    Calls Tryd.prog 43 #[.pointer (some ⟨b, 0, none⟩)] w fun e w' => e = .returned (.string ⟨l.toArray⟩) ∧ (Lib.IsBuilderF 65 5 B b (Lib.byteCells l) w' ∧ Below B w w' ∧ Lib.OthersKept 5 (some b) w w') := Any.Builder_String_k Tryd.lays169 Tryd.Builder_Extra_169 B b l w h h0
open Go.RowKit in
theorem Tryd.Builder_String_empty_k (B b : Nat) (w : World) (h : Lib.IsBuilderF 65 5 B b [] w) (hBw : B ≤ w.heap.size) :
    Calls Tryd.prog 43 #[.pointer (some ⟨b, 0, none⟩)] w fun e w' => e = .returned (.string ⟨#[]⟩) ∧ (Lib.IsBuilderF 65 5 B b [] w' ∧ Below B w w' ∧ Lib.OthersKept 5 (some b) w w') := Any.Builder_String_empty_k Tryd.lays169 Tryd.Builder_Extra_169 B b w h hBw
open Go.RowKit in
theorem Tryd.Builder_String_any_k (B b : Nat) (l : List UInt8) (w : World) (h : Lib.IsBuilderF 65 5 B b (Lib.byteCells l) w) (hBw : B ≤ w.heap.size) :
    Calls Tryd.prog 43 #[.pointer (some ⟨b, 0, none⟩)] w fun e w' => e = .returned (.string ⟨l.toArray⟩) ∧ (Lib.IsBuilderF 65 5 B b (Lib.byteCells l) w' ∧ Below B w w' ∧ Lib.OthersKept 5 (some b) w w') := Any.Builder_String_any_k Tryd.lays169 Tryd.Builder_Extra_169 B b l w h hBw
def Tryd.lays195_ren : Go.Shelf.Ren := ⟨fun | 195 => 87 | n => n, fun | 9 => 9 | 3 => 3 | 0 => 0 | 4 => 4 | n => n, fun | n => n⟩
theorem Tryd.lays195 : Go.Proofs.Lays.n195 Tryd.prog Tryd.lays195_ren := {
  mixed := by kernel_rfl
  f195 := Tryd.func87.trans (congrArg some (by kernel_rfl))
  t0 := Tryd.underlying0
  a0 := Tryd.isAgg0
  z0 := Tryd.sizeOf0
  v0 := Tryd.zeroValue0
  t3 := Tryd.underlying3
  a3 := Tryd.isAgg3
  z3 := Tryd.sizeOf3
  v3 := Tryd.zeroValue3
  t4 := Tryd.underlying4
  a4 := Tryd.isAgg4
  z4 := Tryd.sizeOf4
  v4 := Tryd.zeroValue4
  t9 := Tryd.underlying9
  a9 := Tryd.isAgg9
  z9 := Tryd.sizeOf9
  v9 := Tryd.zeroValue9 }
open Go.RowKit in
theorem Tryd.utf8_RuneCountInString (s : ByteArray) (w : World) (hs : s.size < 9223372036854775807) :
    Calls Tryd.prog 87 #[.string s] w fun e w' => e = .returned (.int .i64 (Lib.runeCount s)) ∧ ∃ pos, w' = w.iter s pos := Any.utf8_RuneCountInString Tryd.lays195 s w hs
open Go.RowKit in
theorem Tryd.Builder_grow_fresh_cap (B b n : Nat) (w : World) (hB : B ≤ b) (hbk : w.heap[b]? = some (.cells #[.pointer (some ⟨b, 0, none⟩), .slice none 0 0] 65 (0, 0))) (hBw : B ≤ w.heap.size) (hn : n ≤ 281474976710656) :
    Calls Tryd.prog 64 #[.pointer (some ⟨b, 0, none⟩), .int .i64 n] w fun e w' => e = .returned (.tuple #[]) ∧ (Lib.BuilderAt 65 5 B b (.pointer (some ⟨b, 0, none⟩)) [] w' ∧ Below B w w') ∧ ∃ p cap, w'.cell? ⟨b, 1, none⟩ = some (.slice p 0 cap) ∧ n ≤ cap := Any.Builder_grow_fresh_cap Tryd.lays241 Tryd.Builder_Extra_241 B b n w hB hbk hBw hn
open Go.RowKit in
theorem Tryd.Builder_Grow_fresh_cap (B b n : Nat) (w : World) (hB : B ≤ b) (hbk : w.heap[b]? = some (.cells #[.pointer none, .slice none 0 0] 65 (0, 0))) (hBw : B ≤ w.heap.size) (hn : n ≤ 281474976710656) :
    Calls Tryd.prog 41 #[.pointer (some ⟨b, 0, none⟩), .int .i64 n] w fun e w' => e = .returned (.tuple #[]) ∧ (Lib.BuilderAt 65 5 B b (.pointer (some ⟨b, 0, none⟩)) [] w' ∧ Below B w w') ∧ ∃ p cap, w'.cell? ⟨b, 1, none⟩ = some (.slice p 0 cap) ∧ n ≤ cap := Any.Builder_Grow_fresh_cap Tryd.lays165 Tryd.Builder_Extra_165 B b n w hB hbk hBw hn
def Tryd.lays217_ren : Go.Shelf.Ren := ⟨fun | 217 => 34 | 266 => 60 | n => n, fun | 9 => 9 | 5 => 5 | 3 => 3 | n => n, fun | n => n⟩
theorem Tryd.lays217 : Go.Proofs.Lays.n217 Tryd.prog Tryd.lays217_ren := {
  mixed := by kernel_rfl
  f217 := Tryd.func34.trans (congrArg some (by kernel_rfl))
  f266 := Tryd.func60.trans (congrArg some (by kernel_rfl))
  t3 := Tryd.underlying3
  a3 := Tryd.isAgg3
  z3 := Tryd.sizeOf3
  v3 := Tryd.zeroValue3
  t5 := Tryd.underlying5
  a5 := Tryd.isAgg5
  z5 := Tryd.sizeOf5
  v5 := Tryd.zeroValue5
  t9 := Tryd.underlying9
  a9 := Tryd.isAgg9
  z9 := Tryd.sizeOf9
  v9 := Tryd.zeroValue9 }
open Go.RowKit Go.Lib in
theorem Tryd.stringslite_IndexByte (s : ByteArray) (c : Int) (w : World) :
    Calls Tryd.prog 34 #[.string s, .int .u8 c] w fun e w' => e = .returned (.int .i64 (Lib.indexByte s.data.toList c.toNat.toUInt8)) ∧ w' = w := Any.stringslite_IndexByte Tryd.lays217 s c w
def Tryd.lays224_ren : Go.Shelf.Ren := ⟨fun | 224 => 76 | n => n, fun | 3 => 3 | n => n, fun | n => n⟩
theorem Tryd.lays224 : Go.Proofs.Lays.n224 Tryd.prog Tryd.lays224_ren := {
  mixed := by kernel_rfl
  f224 := Tryd.func76.trans (congrArg some (by kernel_rfl))
  t3 := Tryd.underlying3
  a3 := Tryd.isAgg3
  z3 := Tryd.sizeOf3
  v3 := Tryd.zeroValue3 }
open Go.RowKit Go.Lib in
theorem Tryd.bytealg_Cutover (n : Int) (h0 : 0 ≤ n) (h1 : n < 4611686018427387904) (w : World) :
    Calls Tryd.prog 76 #[.int .i64 n] w fun e w' => e = .returned (.int .i64 ((n + 16) / 8)) ∧ w' = w := Any.bytealg_Cutover Tryd.lays224 n h0 h1 w
def Tryd.lays314_ren : Go.Shelf.Ren := ⟨fun | 314 => 86 | n => n, fun | 9 => 9 | 51 => 107 | 3 => 3 | 4 => 4 | 5 => 5 | 46 => 72 | n => n, fun | n => n⟩
theorem Tryd.lays314 : Go.Proofs.Lays.n314 Tryd.prog Tryd.lays314_ren := {
  mixed := by kernel_rfl
  f314 := Tryd.func86.trans (congrArg some (by kernel_rfl))
  t3 := Tryd.underlying3
  a3 := Tryd.isAgg3
  z3 := Tryd.sizeOf3
  v3 := Tryd.zeroValue3
  t4 := Tryd.underlying4
  a4 := Tryd.isAgg4
  z4 := Tryd.sizeOf4
  v4 := Tryd.zeroValue4
  t5 := Tryd.underlying5
  a5 := Tryd.isAgg5
  z5 := Tryd.sizeOf5
  v5 := Tryd.zeroValue5
  t9 := Tryd.underlying9
  a9 := Tryd.isAgg9
  z9 := Tryd.sizeOf9
  v9 := Tryd.zeroValue9
  t46 := Tryd.underlying72
  a46 := Tryd.isAgg72
  z46 := Tryd.sizeOf72
  v46 := Tryd.zeroValue72
  t51 := Tryd.underlying107
  a51 := Tryd.isAgg107
  z51 := Tryd.sizeOf107
  v51 := Tryd.zeroValue107 }
open Go.RowKit Go.Lib in
theorem Tryd.bytealg_hashStr (sep : ByteArray) (hs : sep.size < 4294967281) (w : World) :
    Calls Tryd.prog 86 #[.string sep] w fun e w' => e = .returned (.tuple #[.int .u32 (RK.H sep.data.toList % 4294967296), .int .u32 (16777619 ^ sep.size % 4294967296)]) ∧ w' = w := Any.bytealg_hashStr Tryd.lays314 sep hs w
def Tryd.lays267_ren : Go.Shelf.Ren := ⟨fun | 267 => 77 | 314 => 86 | n => n, fun | 9 => 9 | 3 => 3 | 146 => 108 | 51 => 107 | 4 => 4 | 5 => 5 | 46 => 72 | n => n, fun | n => n⟩
theorem Tryd.lays267 : Go.Proofs.Lays.n267 Tryd.prog Tryd.lays267_ren := {
  mixed := by kernel_rfl
  f267 := Tryd.func77.trans (congrArg some (by kernel_rfl))
  f314 := Tryd.func86.trans (congrArg some (by kernel_rfl))
  t3 := Tryd.underlying3
  a3 := Tryd.isAgg3
  z3 := Tryd.sizeOf3
  v3 := Tryd.zeroValue3
  t4 := Tryd.underlying4
  a4 := Tryd.isAgg4
  z4 := Tryd.sizeOf4
  v4 := Tryd.zeroValue4
  t5 := Tryd.underlying5
  a5 := Tryd.isAgg5
  z5 := Tryd.sizeOf5
  v5 := Tryd.zeroValue5
  t9 := Tryd.underlying9
  a9 := Tryd.isAgg9
  z9 := Tryd.sizeOf9
  v9 := Tryd.zeroValue9
  t46 := Tryd.underlying72
  a46 := Tryd.isAgg72
  z46 := Tryd.sizeOf72
  v46 := Tryd.zeroValue72
  t51 := Tryd.underlying107
  a51 := Tryd.isAgg107
  z51 := Tryd.sizeOf107
  v51 := Tryd.zeroValue107
  t146 := Tryd.underlying108
  a146 := Tryd.isAgg108
  z146 := Tryd.sizeOf108
  v146 := Tryd.zeroValue108 }
open Go.RowKit Go.Lib in
theorem Tryd.bytealg_IndexRabinKarp (s sep : ByteArray) (h1 : 1 ≤ sep.size) (h2 : sep.size ≤ s.size) (hs : s.size < 4294967281) (w : World) :
    Calls Tryd.prog 77 #[.string s, .string sep] w fun e w' => e = .returned (.int .i64 (Lib.index s.data.toList sep.data.toList)) ∧ w' = w := Any.bytealg_IndexRabinKarp Tryd.lays267 s sep h1 h2 hs w
def Tryd.lays219_ren : Go.Shelf.Ren := ⟨fun | 219 => 61 | 217 => 34 | 225 => 75 | 224 => 76 | 267 => 77 | 266 => 60 | 314 => 86 | n => n, fun | 9 => 9 | 3 => 3 | 4 => 4 | 5 => 5 | 46 => 72 | 146 => 108 | 51 => 107 | n => n, fun | 1 => 0 | n => n⟩
theorem Tryd.lays219 : Go.Proofs.Lays.n219 Tryd.prog Tryd.lays219_ren := {
  mixed := by kernel_rfl
  f217 := Tryd.func34.trans (congrArg some (by kernel_rfl))
  f219 := Tryd.func61.trans (congrArg some (by kernel_rfl))
  f224 := Tryd.func76.trans (congrArg some (by kernel_rfl))
  f225 := Tryd.func75.trans (congrArg some (by kernel_rfl))
  f266 := Tryd.func60.trans (congrArg some (by kernel_rfl))
  f267 := Tryd.func77.trans (congrArg some (by kernel_rfl))
  f314 := Tryd.func86.trans (congrArg some (by kernel_rfl))
  t3 := Tryd.underlying3
  a3 := Tryd.isAgg3
  z3 := Tryd.sizeOf3
  v3 := Tryd.zeroValue3
  t4 := Tryd.underlying4
  a4 := Tryd.isAgg4
  z4 := Tryd.sizeOf4
  v4 := Tryd.zeroValue4
  t5 := Tryd.underlying5
  a5 := Tryd.isAgg5
  z5 := Tryd.sizeOf5
  v5 := Tryd.zeroValue5
  t9 := Tryd.underlying9
  a9 := Tryd.isAgg9
  z9 := Tryd.sizeOf9
  v9 := Tryd.zeroValue9
  t46 := Tryd.underlying72
  a46 := Tryd.isAgg72
  z46 := Tryd.sizeOf72
  v46 := Tryd.zeroValue72
  t51 := Tryd.underlying107
  a51 := Tryd.isAgg107
  z51 := Tryd.sizeOf107
  v51 := Tryd.zeroValue107
  t146 := Tryd.underlying108
  a146 := Tryd.isAgg108
  z146 := Tryd.sizeOf108
  v146 := Tryd.zeroValue108
  g1 := by kernel_rfl }
open Go.RowKit Go.Lib in
theorem Tryd.stringslite_Index_one (s : ByteArray) (c : UInt8) (w : World) :
    Calls Tryd.prog 61 #[.string s, .string ⟨#[c]⟩] w fun e w' => e = .returned (.int .i64 (Lib.indexByte s.data.toList c)) ∧ w' = w := Any.stringslite_Index_one Tryd.lays219 s c w
open Go.RowKit Go.Lib in
theorem Tryd.stringslite_Index (s sub : ByteArray) (m : Int) (w : World) (hs : s.size < 4294967281) (hm : w.cell? ⟨0, 0, none⟩ = some (.int .i64 m)) :
    Calls Tryd.prog 61 #[.string s, .string sub] w fun e w' => e = .returned (.int .i64 (Lib.index s.data.toList sub.data.toList)) ∧ w' = w := Any.stringslite_Index Tryd.lays219 s sub m w hs hm
def Tryd.lays143_ren : Go.Shelf.Ren := ⟨fun | 143 => 37 | 219 => 61 | 217 => 34 | 225 => 75 | 224 => 76 | 267 => 77 | 266 => 60 | 314 => 86 | n => n, fun | 9 => 9 | 3 => 3 | 4 => 4 | 5 => 5 | 46 => 72 | 146 => 108 | 51 => 107 | n => n, fun | 1 => 0 | n => n⟩
theorem Tryd.lays143 : Go.Proofs.Lays.n143 Tryd.prog Tryd.lays143_ren := {
  mixed := by kernel_rfl
  f143 := Tryd.func37.trans (congrArg some (by kernel_rfl))
  f217 := Tryd.func34.trans (congrArg some (by kernel_rfl))
  f219 := Tryd.func61.trans (congrArg some (by kernel_rfl))
  f224 := Tryd.func76.trans (congrArg some (by kernel_rfl))
  f225 := Tryd.func75.trans (congrArg some (by kernel_rfl))
  f266 := Tryd.func60.trans (congrArg some (by kernel_rfl))
  f267 := Tryd.func77.trans (congrArg some (by kernel_rfl))
  f314 := Tryd.func86.trans (congrArg some (by kernel_rfl))
  t3 := Tryd.underlying3
  a3 := Tryd.isAgg3
  z3 := Tryd.sizeOf3
  v3 := Tryd.zeroValue3
  t4 := Tryd.underlying4
  a4 := Tryd.isAgg4
  z4 := Tryd.sizeOf4
  v4 := Tryd.zeroValue4
  t5 := Tryd.underlying5
  a5 := Tryd.isAgg5
  z5 := Tryd.sizeOf5
  v5 := Tryd.zeroValue5
  t9 := Tryd.underlying9
  a9 := Tryd.isAgg9
  z9 := Tryd.sizeOf9
  v9 := Tryd.zeroValue9
  t46 := Tryd.underlying72
  a46 := Tryd.isAgg72
  z46 := Tryd.sizeOf72
  v46 := Tryd.zeroValue72
  t51 := Tryd.underlying107
  a51 := Tryd.isAgg107
  z51 := Tryd.sizeOf107
  v51 := Tryd.zeroValue107
  t146 := Tryd.underlying108
  a146 := Tryd.isAgg108
  z146 := Tryd.sizeOf108
  v146 := Tryd.zeroValue108
  g1 := by kernel_rfl }
open Go.RowKit Go.Lib in
theorem Tryd.strings_Index_one (s : ByteArray) (c : UInt8) (w : World) :
    Calls Tryd.prog 37 #[.string s, .string ⟨#[c]⟩] w fun e w' => e = .returned (.int .i64 (Lib.indexByte s.data.toList c)) ∧ w' = w := Any.strings_Index_one Tryd.lays143 s c w
open Go.RowKit Go.Lib in
theorem Tryd.strings_Index (s sub : ByteArray) (m : Int) (w : World) (hs : s.size < 4294967281) (hm : w.cell? ⟨0, 0, none⟩ = some (.int .i64 m)) :
    Calls Tryd.prog 37 #[.string s, .string sub] w fun e w' => e = .returned (.int .i64 (Lib.index s.data.toList sub.data.toList)) ∧ w' = w := Any.strings_Index Tryd.lays143 s sub m w hs hm
def Tryd.lays144_ren : Go.Shelf.Ren := ⟨fun | 144 => 18 | 143 => 37 | 219 => 61 | 217 => 34 | 225 => 75 | 224 => 76 | 267 => 77 | 266 => 60 | 314 => 86 | n => n, fun | 9 => 9 | 4 => 4 | 3 => 3 | 5 => 5 | 46 => 72 | 146 => 108 | 51 => 107 | n => n, fun | 1 => 0 | n => n⟩
theorem Tryd.lays144 : Go.Proofs.Lays.n144 Tryd.prog Tryd.lays144_ren := {
  mixed := by kernel_rfl
  f143 := Tryd.func37.trans (congrArg some (by kernel_rfl))
  f144 := Tryd.func18.trans (congrArg some (by kernel_rfl))
  f217 := Tryd.func34.trans (congrArg some (by kernel_rfl))
  f219 := Tryd.func61.trans (congrArg some (by kernel_rfl))
  f224 := Tryd.func76.trans (congrArg some (by kernel_rfl))
  f225 := Tryd.func75.trans (congrArg some (by kernel_rfl))
  f266 := Tryd.func60.trans (congrArg some (by kernel_rfl))
  f267 := Tryd.func77.trans (congrArg some (by kernel_rfl))
  f314 := Tryd.func86.trans (congrArg some (by kernel_rfl))
  t3 := Tryd.underlying3
  a3 := Tryd.isAgg3
  z3 := Tryd.sizeOf3
  v3 := Tryd.zeroValue3
  t4 := Tryd.underlying4
  a4 := Tryd.isAgg4
  z4 := Tryd.sizeOf4
  v4 := Tryd.zeroValue4
  t5 := Tryd.underlying5
  a5 := Tryd.isAgg5
  z5 := Tryd.sizeOf5
  v5 := Tryd.zeroValue5
  t9 := Tryd.underlying9
  a9 := Tryd.isAgg9
  z9 := Tryd.sizeOf9
  v9 := Tryd.zeroValue9
  t46 := Tryd.underlying72
  a46 := Tryd.isAgg72
  z46 := Tryd.sizeOf72
  v46 := Tryd.zeroValue72
  t51 := Tryd.underlying107
  a51 := Tryd.isAgg107
  z51 := Tryd.sizeOf107
  v51 := Tryd.zeroValue107
  t146 := Tryd.underlying108
  a146 := Tryd.isAgg108
  z146 := Tryd.sizeOf108
  v146 := Tryd.zeroValue108
  g1 := by kernel_rfl }
open Go.RowKit Go.Lib in
theorem Tryd.strings_Contains_one (s : ByteArray) (c : UInt8) (w : World) :
    Calls Tryd.prog 18 #[.string s, .string ⟨#[c]⟩] w fun e w' => e = .returned (.bool (decide (0 ≤ Lib.indexByte s.data.toList c))) ∧ w' = w := Any.strings_Contains_one Tryd.lays144 s c w
open Go.RowKit Go.Lib in
theorem Tryd.strings_Contains (s sub : ByteArray) (m : Int) (w : World) (hs : s.size < 4294967281) (hm : w.cell? ⟨0, 0, none⟩ = some (.int .i64 m)) :
    Calls Tryd.prog 18 #[.string s, .string sub] w fun e w' => e = .returned (.bool (Lib.contains s.data.toList sub.data.toList)) ∧ w' = w := Any.strings_Contains Tryd.lays144 s sub m w hs hm
def Tryd.lays220_ren : Go.Shelf.Ren := ⟨fun | 220 => 74 | 219 => 61 | 217 => 34 | 225 => 75 | 224 => 76 | 267 => 77 | 266 => 60 | 314 => 86 | n => n, fun | 9 => 9 | 4 => 4 | 3 => 3 | 5 => 5 | 46 => 72 | 146 => 108 | 51 => 107 | n => n, fun | 1 => 0 | n => n⟩
theorem Tryd.lays220 : Go.Proofs.Lays.n220 Tryd.prog Tryd.lays220_ren := {
  mixed := by kernel_rfl
  f217 := Tryd.func34.trans (congrArg some (by kernel_rfl))
  f219 := Tryd.func61.trans (congrArg some (by kernel_rfl))
  f220 := Tryd.func74.trans (congrArg some (by kernel_rfl))
  f224 := Tryd.func76.trans (congrArg some (by kernel_rfl))
  f225 := Tryd.func75.trans (congrArg some (by kernel_rfl))
  f266 := Tryd.func60.trans (congrArg some (by kernel_rfl))
  f267 := Tryd.func77.trans (congrArg some (by kernel_rfl))
  f314 := Tryd.func86.trans (congrArg some (by kernel_rfl))
  t3 := Tryd.underlying3
  a3 := Tryd.isAgg3
  z3 := Tryd.sizeOf3
  v3 := Tryd.zeroValue3
  t4 := Tryd.underlying4
  a4 := Tryd.isAgg4
  z4 := Tryd.sizeOf4
  v4 := Tryd.zeroValue4
  t5 := Tryd.underlying5
  a5 := Tryd.isAgg5
  z5 := Tryd.sizeOf5
  v5 := Tryd.zeroValue5
  t9 := Tryd.underlying9
  a9 := Tryd.isAgg9
  z9 := Tryd.sizeOf9
  v9 := Tryd.zeroValue9
  t46 := Tryd.underlying72
  a46 := Tryd.isAgg72
  z46 := Tryd.sizeOf72
  v46 := Tryd.zeroValue72
  t51 := Tryd.underlying107
  a51 := Tryd.isAgg107
  z51 := Tryd.sizeOf107
  v51 := Tryd.zeroValue107
  t146 := Tryd.underlying108
  a146 := Tryd.isAgg108
  z146 := Tryd.sizeOf108
  v146 := Tryd.zeroValue108
  g1 := by kernel_rfl }
open Go.RowKit Go.Lib in
theorem Tryd.stringslite_Cut (s sep : ByteArray) (m : Int) (w : World) (hs : s.size < 4294967281) (hm : w.cell? ⟨0, 0, none⟩ = some (.int .i64 m)) :
    Calls Tryd.prog 74 #[.string s, .string sep] w fun e w' => e = .returned (.tuple #[.string ⟨(Lib.cut s.data.toList sep.data.toList).1.toArray⟩, .string ⟨(Lib.cut s.data.toList sep.data.toList).2.1.toArray⟩, .bool (Lib.cut s.data.toList sep.data.toList).2.2]) ∧ ∃ n, w' = w.drewN n := Any.stringslite_Cut Tryd.lays220 s sep m w hs hm
def Tryd.lays145_ren : Go.Shelf.Ren := ⟨fun | 145 => 59 | 220 => 74 | 219 => 61 | 217 => 34 | 225 => 75 | 224 => 76 | 267 => 77 | 266 => 60 | 314 => 86 | n => n, fun | 9 => 9 | 4 => 4 | 59 => 97 | 3 => 3 | 5 => 5 | 46 => 72 | 146 => 108 | 51 => 107 | n => n, fun | 1 => 0 | n => n⟩
theorem Tryd.lays145 : Go.Proofs.Lays.n145 Tryd.prog Tryd.lays145_ren := {
  mixed := by kernel_rfl
  f145 := Tryd.func59.trans (congrArg some (by kernel_rfl))
  f217 := Tryd.func34.trans (congrArg some (by kernel_rfl))
  f219 := Tryd.func61.trans (congrArg some (by kernel_rfl))
  f220 := Tryd.func74.trans (congrArg some (by kernel_rfl))
  f224 := Tryd.func76.trans (congrArg some (by kernel_rfl))
  f225 := Tryd.func75.trans (congrArg some (by kernel_rfl))
  f266 := Tryd.func60.trans (congrArg some (by kernel_rfl))
  f267 := Tryd.func77.trans (congrArg some (by kernel_rfl))
  f314 := Tryd.func86.trans (congrArg some (by kernel_rfl))
  t3 := Tryd.underlying3
  a3 := Tryd.isAgg3
  z3 := Tryd.sizeOf3
  v3 := Tryd.zeroValue3
  t4 := Tryd.underlying4
  a4 := Tryd.isAgg4
  z4 := Tryd.sizeOf4
  v4 := Tryd.zeroValue4
  t5 := Tryd.underlying5
  a5 := Tryd.isAgg5
  z5 := Tryd.sizeOf5
  v5 := Tryd.zeroValue5
  t9 := Tryd.underlying9
  a9 := Tryd.isAgg9
  z9 := Tryd.sizeOf9
  v9 := Tryd.zeroValue9
  t46 := Tryd.underlying72
  a46 := Tryd.isAgg72
  z46 := Tryd.sizeOf72
  v46 := Tryd.zeroValue72
  t51 := Tryd.underlying107
  a51 := Tryd.isAgg107
  z51 := Tryd.sizeOf107
  v51 := Tryd.zeroValue107
  t59 := Tryd.underlying97
  a59 := Tryd.isAgg97
  z59 := Tryd.sizeOf97
  v59 := Tryd.zeroValue97
  t146 := Tryd.underlying108
  a146 := Tryd.isAgg108
  z146 := Tryd.sizeOf108
  v146 := Tryd.zeroValue108
  g1 := by kernel_rfl }
open Go.RowKit Go.Lib in
theorem Tryd.strings_Cut (s sep : ByteArray) (m : Int) (w : World) (hs : s.size < 4294967281) (hm : w.cell? ⟨0, 0, none⟩ = some (.int .i64 m)) :
    Calls Tryd.prog 59 #[.string s, .string sep] w fun e w' => e = .returned (.tuple #[.string ⟨(Lib.cut s.data.toList sep.data.toList).1.toArray⟩, .string ⟨(Lib.cut s.data.toList sep.data.toList).2.1.toArray⟩, .bool (Lib.cut s.data.toList sep.data.toList).2.2]) ∧ ∃ n, w' = w.drewN n := Any.strings_Cut Tryd.lays145 s sep m w hs hm
def Tryd.lays138_ren : Go.Shelf.Ren := ⟨fun | 138 => 81 | 195 => 87 | 218 => 89 | 143 => 37 | 219 => 61 | 217 => 34 | 225 => 75 | 224 => 76 | 267 => 77 | 266 => 60 | 314 => 86 | n => n, fun | 9 => 9 | 3 => 3 | 4 => 4 | 5 => 5 | 0 => 0 | 46 => 72 | 146 => 108 | 51 => 107 | n => n, fun | 1 => 0 | n => n⟩
theorem Tryd.lays138 : Go.Proofs.Lays.n138 Tryd.prog Tryd.lays138_ren := {
  mixed := by kernel_rfl
  f138 := Tryd.func81.trans (congrArg some (by kernel_rfl))
  f143 := Tryd.func37.trans (congrArg some (by kernel_rfl))
  f195 := Tryd.func87.trans (congrArg some (by kernel_rfl))
  f217 := Tryd.func34.trans (congrArg some (by kernel_rfl))
  f218 := Tryd.func89.trans (congrArg some (by kernel_rfl))
  f219 := Tryd.func61.trans (congrArg some (by kernel_rfl))
  f224 := Tryd.func76.trans (congrArg some (by kernel_rfl))
  f225 := Tryd.func75.trans (congrArg some (by kernel_rfl))
  f266 := Tryd.func60.trans (congrArg some (by kernel_rfl))
  f267 := Tryd.func77.trans (congrArg some (by kernel_rfl))
  f314 := Tryd.func86.trans (congrArg some (by kernel_rfl))
  t0 := Tryd.underlying0
  a0 := Tryd.isAgg0
  z0 := Tryd.sizeOf0
  v0 := Tryd.zeroValue0
  t3 := Tryd.underlying3
  a3 := Tryd.isAgg3
  z3 := Tryd.sizeOf3
  v3 := Tryd.zeroValue3
  t4 := Tryd.underlying4
  a4 := Tryd.isAgg4
  z4 := Tryd.sizeOf4
  v4 := Tryd.zeroValue4
  t5 := Tryd.underlying5
  a5 := Tryd.isAgg5
  z5 := Tryd.sizeOf5
  v5 := Tryd.zeroValue5
  t9 := Tryd.underlying9
  a9 := Tryd.isAgg9
  z9 := Tryd.sizeOf9
  v9 := Tryd.zeroValue9
  t46 := Tryd.underlying72
  a46 := Tryd.isAgg72
  z46 := Tryd.sizeOf72
  v46 := Tryd.zeroValue72
  t51 := Tryd.underlying107
  a51 := Tryd.isAgg107
  z51 := Tryd.sizeOf107
  v51 := Tryd.zeroValue107
  t146 := Tryd.underlying108
  a146 := Tryd.isAgg108
  z146 := Tryd.sizeOf108
  v146 := Tryd.zeroValue108
  g1 := by kernel_rfl }
open Go.RowKit Go.Lib in
theorem Tryd.strings_Count_one (s : ByteArray) (c : UInt8) (w : World) :
    Calls Tryd.prog 81 #[.string s, .string ⟨#[c]⟩] w fun e w' => e = .returned (.int .i64 (Lib.countByte s.data.toList c)) ∧ w' = w := Any.strings_Count_one Tryd.lays138 s c w
open Go.RowKit Go.Lib in
theorem Tryd.strings_Count (s sub : ByteArray) (m : Int) (w : World) (hs : s.size < 4294967281) (hm : w.cell? ⟨0, 0, none⟩ = some (.int .i64 m)) (h2 : 2 ≤ sub.size) :
    Calls Tryd.prog 81 #[.string s, .string sub] w fun e w' => e = .returned (.int .i64 (Lib.countB s sub)) ∧ w' = w := Any.strings_Count Tryd.lays138 s sub m w hs hm h2
def Tryd.laysM219_ren : Go.Shelf.Ren := ⟨fun | 219 => 61 | 217 => 34 | 225 => 75 | 224 => 76 | 267 => 77 | 266 => 60 | 314 => 86 | n => n, fun | 9 => 9 | 3 => 3 | 4 => 4 | 5 => 5 | 46 => 72 | 146 => 108 | 51 => 107 | n => n, fun | 1 => 0 | n => n⟩
theorem Tryd.laysM219 : Go.Proofs.LaysM.n219 Tryd.prog Tryd.laysM219_ren := {
  mixed := by kernel_rfl
  f217 := Tryd.func34.trans (congrArg some (by kernel_rfl))
  f219 := Tryd.func61.trans (congrArg some (by kernel_rfl))
  f224 := Tryd.func76.trans (congrArg some (by kernel_rfl))
  f225 := Tryd.func75.trans (congrArg some (by kernel_rfl))
  f266 := Tryd.func60.trans (congrArg some (by kernel_rfl))
  f267 := Tryd.func77.trans (congrArg some (by kernel_rfl))
  f314 := Tryd.func86.trans (congrArg some (by kernel_rfl))
  t3 := Tryd.underlying3
  a3 := Tryd.isAgg3
  z3 := Tryd.sizeOf3
  v3 := Tryd.zeroValue3
  t4 := Tryd.underlying4
  a4 := Tryd.isAgg4
  z4 := Tryd.sizeOf4
  v4 := Tryd.zeroValue4
  t5 := Tryd.underlying5
  a5 := Tryd.isAgg5
  z5 := Tryd.sizeOf5
  v5 := Tryd.zeroValue5
  t9 := Tryd.underlying9
  a9 := Tryd.isAgg9
  z9 := Tryd.sizeOf9
  v9 := Tryd.zeroValue9
  t46 := Tryd.underlying72
  a46 := Tryd.isAgg72
  z46 := Tryd.sizeOf72
  v46 := Tryd.zeroValue72
  t51 := Tryd.underlying107
  a51 := Tryd.isAgg107
  z51 := Tryd.sizeOf107
  v51 := Tryd.zeroValue107
  t146 := Tryd.underlying108
  a146 := Tryd.isAgg108
  z146 := Tryd.sizeOf108
  v146 := Tryd.zeroValue108
  g1 := by kernel_rfl
  i3 := by kernel_rfl
  i4 := by kernel_rfl
  i5 := by kernel_rfl
  i9 := by kernel_rfl
  i46 := by kernel_rfl
  i51 := by kernel_rfl
  i146 := by kernel_rfl
  m1 := by kernel_rfl
  s1_3 := fun w h => Go.Proofs.cell_of_shapedOpen_int (zero := #[.int .i64 0]) (t := 3) h (of_decide_eq_true (by kernel_rfl)) (by kernel_rfl) rfl (by kernel_rfl) (by kernel_rfl) Tryd.underlying3 }
open Go.RowKit Go.Lib in
theorem Tryd.stringslite_Index_shaped (s sub : ByteArray) (w : World) (h : w.ShapedOpen Tryd.prog) (hs : s.size < 4294967281) :
    Calls Tryd.prog 61 #[.string s, .string sub] w fun e w' => e = .returned (.int .i64 (Lib.index s.data.toList sub.data.toList)) ∧ w' = w := Any.stringslite_Index_shaped Tryd.laysM219 s sub w h hs
def Tryd.laysM143_ren : Go.Shelf.Ren := ⟨fun | 143 => 37 | 219 => 61 | 217 => 34 | 225 => 75 | 224 => 76 | 267 => 77 | 266 => 60 | 314 => 86 | n => n, fun | 9 => 9 | 3 => 3 | 4 => 4 | 5 => 5 | 46 => 72 | 146 => 108 | 51 => 107 | n => n, fun | 1 => 0 | n => n⟩
theorem Tryd.laysM143 : Go.Proofs.LaysM.n143 Tryd.prog Tryd.laysM143_ren := {
  mixed := by kernel_rfl
  f143 := Tryd.func37.trans (congrArg some (by kernel_rfl))
  f217 := Tryd.func34.trans (congrArg some (by kernel_rfl))
  f219 := Tryd.func61.trans (congrArg some (by kernel_rfl))
  f224 := Tryd.func76.trans (congrArg some (by kernel_rfl))
  f225 := Tryd.func75.trans (congrArg some (by kernel_rfl))
  f266 := Tryd.func60.trans (congrArg some (by kernel_rfl))
  f267 := Tryd.func77.trans (congrArg some (by kernel_rfl))
  f314 := Tryd.func86.trans (congrArg some (by kernel_rfl))
  t3 := Tryd.underlying3
  a3 := Tryd.isAgg3
  z3 := Tryd.sizeOf3
  v3 := Tryd.zeroValue3
  t4 := Tryd.underlying4
  a4 := Tryd.isAgg4
  z4 := Tryd.sizeOf4
  v4 := Tryd.zeroValue4
  t5 := Tryd.underlying5
  a5 := Tryd.isAgg5
  z5 := Tryd.sizeOf5
  v5 := Tryd.zeroValue5
  t9 := Tryd.underlying9
  a9 := Tryd.isAgg9
  z9 := Tryd.sizeOf9
  v9 := Tryd.zeroValue9
  t46 := Tryd.underlying72
  a46 := Tryd.isAgg72
  z46 := Tryd.sizeOf72
  v46 := Tryd.zeroValue72
  t51 := Tryd.underlying107
  a51 := Tryd.isAgg107
  z51 := Tryd.sizeOf107
  v51 := Tryd.zeroValue107
  t146 := Tryd.underlying108
  a146 := Tryd.isAgg108
  z146 := Tryd.sizeOf108
  v146 := Tryd.zeroValue108
  g1 := by kernel_rfl
  i3 := by kernel_rfl
  i4 := by kernel_rfl
  i5 := by kernel_rfl
  i9 := by kernel_rfl
  i46 := by kernel_rfl
  i51 := by kernel_rfl
  i146 := by kernel_rfl
  m1 := by kernel_rfl
  s1_3 := fun w h => Go.Proofs.cell_of_shapedOpen_int (zero := #[.int .i64 0]) (t := 3) h (of_decide_eq_true (by kernel_rfl)) (by kernel_rfl) rfl (by kernel_rfl) (by kernel_rfl) Tryd.underlying3 }
open Go.RowKit Go.Lib in
theorem Tryd.strings_Index_shaped (s sub : ByteArray) (w : World) (h : w.ShapedOpen Tryd.prog) (hs : s.size < 4294967281) :
    Calls Tryd.prog 37 #[.string s, .string sub] w fun e w' => e = .returned (.int .i64 (Lib.index s.data.toList sub.data.toList)) ∧ w' = w := Any.strings_Index_shaped Tryd.laysM143 s sub w h hs
def Tryd.laysM144_ren : Go.Shelf.Ren := ⟨fun | 144 => 18 | 143 => 37 | 219 => 61 | 217 => 34 | 225 => 75 | 224 => 76 | 267 => 77 | 266 => 60 | 314 => 86 | n => n, fun | 9 => 9 | 4 => 4 | 3 => 3 | 5 => 5 | 46 => 72 | 146 => 108 | 51 => 107 | n => n, fun | 1 => 0 | n => n⟩
theorem Tryd.laysM144 : Go.Proofs.LaysM.n144 Tryd.prog Tryd.laysM144_ren := {
  mixed := by kernel_rfl
  f143 := Tryd.func37.trans (congrArg some (by kernel_rfl))
  f144 := Tryd.func18.trans (congrArg some (by kernel_rfl))
  f217 := Tryd.func34.trans (congrArg some (by kernel_rfl))
  f219 := Tryd.func61.trans (congrArg some (by kernel_rfl))
  f224 := Tryd.func76.trans (congrArg some (by kernel_rfl))
  f225 := Tryd.func75.trans (congrArg some (by kernel_rfl))
  f266 := Tryd.func60.trans (congrArg some (by kernel_rfl))
  f267 := Tryd.func77.trans (congrArg some (by kernel_rfl))
  f314 := Tryd.func86.trans (congrArg some (by kernel_rfl))
  t3 := Tryd.underlying3
  a3 := Tryd.isAgg3
  z3 := Tryd.sizeOf3
  v3 := Tryd.zeroValue3
  t4 := Tryd.underlying4
  a4 := Tryd.isAgg4
  z4 := Tryd.sizeOf4
  v4 := Tryd.zeroValue4
  t5 := Tryd.underlying5
  a5 := Tryd.isAgg5
  z5 := Tryd.sizeOf5
  v5 := Tryd.zeroValue5
  t9 := Tryd.underlying9
  a9 := Tryd.isAgg9
  z9 := Tryd.sizeOf9
  v9 := Tryd.zeroValue9
  t46 := Tryd.underlying72
  a46 := Tryd.isAgg72
  z46 := Tryd.sizeOf72
  v46 := Tryd.zeroValue72
  t51 := Tryd.underlying107
  a51 := Tryd.isAgg107
  z51 := Tryd.sizeOf107
  v51 := Tryd.zeroValue107
  t146 := Tryd.underlying108
  a146 := Tryd.isAgg108
  z146 := Tryd.sizeOf108
  v146 := Tryd.zeroValue108
  g1 := by kernel_rfl
  i3 := by kernel_rfl
  i4 := by kernel_rfl
  i5 := by kernel_rfl
  i9 := by kernel_rfl
  i46 := by kernel_rfl
  i51 := by kernel_rfl
  i146 := by kernel_rfl
  m1 := by kernel_rfl
  s1_3 := fun w h => Go.Proofs.cell_of_shapedOpen_int (zero := #[.int .i64 0]) (t := 3) h (of_decide_eq_true (by kernel_rfl)) (by kernel_rfl) rfl (by kernel_rfl) (by kernel_rfl) Tryd.underlying3 }
open Go.RowKit Go.Lib in
theorem Tryd.strings_Contains_shaped (s sub : ByteArray) (w : World) (h : w.ShapedOpen Tryd.prog) (hs : s.size < 4294967281) :
    Calls Tryd.prog 18 #[.string s, .string sub] w fun e w' => e = .returned (.bool (Lib.contains s.data.toList sub.data.toList)) ∧ w' = w := Any.strings_Contains_shaped Tryd.laysM144 s sub w h hs
def Tryd.laysM220_ren : Go.Shelf.Ren := ⟨fun | 220 => 74 | 219 => 61 | 217 => 34 | 225 => 75 | 224 => 76 | 267 => 77 | 266 => 60 | 314 => 86 | n => n, fun | 9 => 9 | 4 => 4 | 3 => 3 | 5 => 5 | 46 => 72 | 146 => 108 | 51 => 107 | n => n, fun | 1 => 0 | n => n⟩
theorem Tryd.laysM220 : Go.Proofs.LaysM.n220 Tryd.prog Tryd.laysM220_ren := {
  mixed := by kernel_rfl
  f217 := Tryd.func34.trans (congrArg some (by kernel_rfl))
  f219 := Tryd.func61.trans (congrArg some (by kernel_rfl))
  f220 := Tryd.func74.trans (congrArg some (by kernel_rfl))
  f224 := Tryd.func76.trans (congrArg some (by kernel_rfl))
  f225 := Tryd.func75.trans (congrArg some (by kernel_rfl))
  f266 := Tryd.func60.trans (congrArg some (by kernel_rfl))
  f267 := Tryd.func77.trans (congrArg some (by kernel_rfl))
  f314 := Tryd.func86.trans (congrArg some (by kernel_rfl))
  t3 := Tryd.underlying3
  a3 := Tryd.isAgg3
  z3 := Tryd.sizeOf3
  v3 := Tryd.zeroValue3
  t4 := Tryd.underlying4
  a4 := Tryd.isAgg4
  z4 := Tryd.sizeOf4
  v4 := Tryd.zeroValue4
  t5 := Tryd.underlying5
  a5 := Tryd.isAgg5
  z5 := Tryd.sizeOf5
  v5 := Tryd.zeroValue5
  t9 := Tryd.underlying9
  a9 := Tryd.isAgg9
  z9 := Tryd.sizeOf9
  v9 := Tryd.zeroValue9
  t46 := Tryd.underlying72
  a46 := Tryd.isAgg72
  z46 := Tryd.sizeOf72
  v46 := Tryd.zeroValue72
  t51 := Tryd.underlying107
  a51 := Tryd.isAgg107
  z51 := Tryd.sizeOf107
  v51 := Tryd.zeroValue107
  t146 := Tryd.underlying108
  a146 := Tryd.isAgg108
  z146 := Tryd.sizeOf108
  v146 := Tryd.zeroValue108
  g1 := by kernel_rfl
  i3 := by kernel_rfl
  i4 := by kernel_rfl
  i5 := by kernel_rfl
  i9 := by kernel_rfl
  i46 := by kernel_rfl
  i51 := by kernel_rfl
  i146 := by kernel_rfl
  m1 := by kernel_rfl
  s1_3 := fun w h => Go.Proofs.cell_of_shapedOpen_int (zero := #[.int .i64 0]) (t := 3) h (of_decide_eq_true (by kernel_rfl)) (by kernel_rfl) rfl (by kernel_rfl) (by kernel_rfl) Tryd.underlying3 }
open Go.RowKit Go.Lib in
theorem Tryd.stringslite_Cut_shaped (s sep : ByteArray) (w : World) (h : w.ShapedOpen Tryd.prog) (hs : s.size < 4294967281) :
    Calls Tryd.prog 74 #[.string s, .string sep] w fun e w' => e = .returned (.tuple #[.string ⟨(Lib.cut s.data.toList sep.data.toList).1.toArray⟩, .string ⟨(Lib.cut s.data.toList sep.data.toList).2.1.toArray⟩, .bool (Lib.cut s.data.toList sep.data.toList).2.2]) ∧ ∃ n, w' = w.drewN n := Any.stringslite_Cut_shaped Tryd.laysM220 s sep w h hs
def Tryd.laysM145_ren : Go.Shelf.Ren := ⟨fun | 145 => 59 | 220 => 74 | 219 => 61 | 217 => 34 | 225 => 75 | 224 => 76 | 267 => 77 | 266 => 60 | 314 => 86 | n => n, fun | 9 => 9 | 4 => 4 | 59 => 97 | 3 => 3 | 5 => 5 | 46 => 72 | 146 => 108 | 51 => 107 | n => n, fun | 1 => 0 | n => n⟩
theorem Tryd.laysM145 : Go.Proofs.LaysM.n145 Tryd.prog Tryd.laysM145_ren := {
  mixed := by kernel_rfl
  f145 := Tryd.func59.trans (congrArg some (by kernel_rfl))
  f217 := Tryd.func34.trans (congrArg some (by kernel_rfl))
  f219 := Tryd.func61.trans (congrArg some (by kernel_rfl))
  f220 := Tryd.func74.trans (congrArg some (by kernel_rfl))
  f224 := Tryd.func76.trans (congrArg some (by kernel_rfl))
  f225 := Tryd.func75.trans (congrArg some (by kernel_rfl))
  f266 := Tryd.func60.trans (congrArg some (by kernel_rfl))
  f267 := Tryd.func77.trans (congrArg some (by kernel_rfl))
  f314 := Tryd.func86.trans (congrArg some (by kernel_rfl))
  t3 := Tryd.underlying3
  a3 := Tryd.isAgg3
  z3 := Tryd.sizeOf3
  v3 := Tryd.zeroValue3
  t4 := Tryd.underlying4
  a4 := Tryd.isAgg4
  z4 := Tryd.sizeOf4
  v4 := Tryd.zeroValue4
  t5 := Tryd.underlying5
  a5 := Tryd.isAgg5
  z5 := Tryd.sizeOf5
  v5 := Tryd.zeroValue5
  t9 := Tryd.underlying9
  a9 := Tryd.isAgg9
  z9 := Tryd.sizeOf9
  v9 := Tryd.zeroValue9
  t46 := Tryd.underlying72
  a46 := Tryd.isAgg72
  z46 := Tryd.sizeOf72
  v46 := Tryd.zeroValue72
  t51 := Tryd.underlying107
  a51 := Tryd.isAgg107
  z51 := Tryd.sizeOf107
  v51 := Tryd.zeroValue107
  t59 := Tryd.underlying97
  a59 := Tryd.isAgg97
  z59 := Tryd.sizeOf97
  v59 := Tryd.zeroValue97
  t146 := Tryd.underlying108
  a146 := Tryd.isAgg108
  z146 := Tryd.sizeOf108
  v146 := Tryd.zeroValue108
  g1 := by kernel_rfl
  i3 := by kernel_rfl
  i4 := by kernel_rfl
  i5 := by kernel_rfl
  i9 := by kernel_rfl
  i46 := by kernel_rfl
  i51 := by kernel_rfl
  i59 := by kernel_rfl
  i146 := by kernel_rfl
  m1 := by kernel_rfl
  s1_3 := fun w h => Go.Proofs.cell_of_shapedOpen_int (zero := #[.int .i64 0]) (t := 3) h (of_decide_eq_true (by kernel_rfl)) (by kernel_rfl) rfl (by kernel_rfl) (by kernel_rfl) Tryd.underlying3 }
open Go.RowKit Go.Lib in
theorem Tryd.strings_Cut_shaped (s sep : ByteArray) (w : World) (h : w.ShapedOpen Tryd.prog) (hs : s.size < 4294967281) :
    Calls Tryd.prog 59 #[.string s, .string sep] w fun e w' => e = .returned (.tuple #[.string ⟨(Lib.cut s.data.toList sep.data.toList).1.toArray⟩, .string ⟨(Lib.cut s.data.toList sep.data.toList).2.1.toArray⟩, .bool (Lib.cut s.data.toList sep.data.toList).2.2]) ∧ ∃ n, w' = w.drewN n := Any.strings_Cut_shaped Tryd.laysM145 s sep w h hs
def Tryd.laysM138_ren : Go.Shelf.Ren := ⟨fun | 138 => 81 | 195 => 87 | 218 => 89 | 143 => 37 | 219 => 61 | 217 => 34 | 225 => 75 | 224 => 76 | 267 => 77 | 266 => 60 | 314 => 86 | n => n, fun | 9 => 9 | 3 => 3 | 4 => 4 | 5 => 5 | 0 => 0 | 46 => 72 | 146 => 108 | 51 => 107 | n => n, fun | 1 => 0 | n => n⟩
theorem Tryd.laysM138 : Go.Proofs.LaysM.n138 Tryd.prog Tryd.laysM138_ren := {
  mixed := by kernel_rfl
  f138 := Tryd.func81.trans (congrArg some (by kernel_rfl))
  f143 := Tryd.func37.trans (congrArg some (by kernel_rfl))
  f195 := Tryd.func87.trans (congrArg some (by kernel_rfl))
  f217 := Tryd.func34.trans (congrArg some (by kernel_rfl))
  f218 := Tryd.func89.trans (congrArg some (by kernel_rfl))
  f219 := Tryd.func61.trans (congrArg some (by kernel_rfl))
  f224 := Tryd.func76.trans (congrArg some (by kernel_rfl))
  f225 := Tryd.func75.trans (congrArg some (by kernel_rfl))
  f266 := Tryd.func60.trans (congrArg some (by kernel_rfl))
  f267 := Tryd.func77.trans (congrArg some (by kernel_rfl))
  f314 := Tryd.func86.trans (congrArg some (by kernel_rfl))
  t0 := Tryd.underlying0
  a0 := Tryd.isAgg0
  z0 := Tryd.sizeOf0
  v0 := Tryd.zeroValue0
  t3 := Tryd.underlying3
  a3 := Tryd.isAgg3
  z3 := Tryd.sizeOf3
  v3 := Tryd.zeroValue3
  t4 := Tryd.underlying4
  a4 := Tryd.isAgg4
  z4 := Tryd.sizeOf4
  v4 := Tryd.zeroValue4
  t5 := Tryd.underlying5
  a5 := Tryd.isAgg5
  z5 := Tryd.sizeOf5
  v5 := Tryd.zeroValue5
  t9 := Tryd.underlying9
  a9 := Tryd.isAgg9
  z9 := Tryd.sizeOf9
  v9 := Tryd.zeroValue9
  t46 := Tryd.underlying72
  a46 := Tryd.isAgg72
  z46 := Tryd.sizeOf72
  v46 := Tryd.zeroValue72
  t51 := Tryd.underlying107
  a51 := Tryd.isAgg107
  z51 := Tryd.sizeOf107
  v51 := Tryd.zeroValue107
  t146 := Tryd.underlying108
  a146 := Tryd.isAgg108
  z146 := Tryd.sizeOf108
  v146 := Tryd.zeroValue108
  g1 := by kernel_rfl
  i0 := by kernel_rfl
  i3 := by kernel_rfl
  i4 := by kernel_rfl
  i5 := by kernel_rfl
  i9 := by kernel_rfl
  i46 := by kernel_rfl
  i51 := by kernel_rfl
  i146 := by kernel_rfl
  m1 := by kernel_rfl
  s1_3 := fun w h => Go.Proofs.cell_of_shapedOpen_int (zero := #[.int .i64 0]) (t := 3) h (of_decide_eq_true (by kernel_rfl)) (by kernel_rfl) rfl (by kernel_rfl) (by kernel_rfl) Tryd.underlying3 }
open Go.RowKit Go.Lib in
theorem Tryd.strings_Count_shaped (s sub : ByteArray) (w : World) (h : w.ShapedOpen Tryd.prog) (hs : s.size < 4294967281) (h2 : 2 ≤ sub.size) :
    Calls Tryd.prog 81 #[.string s, .string sub] w fun e w' => e = .returned (.int .i64 (Lib.countB s sub)) ∧ w' = w := Any.strings_Count_shaped Tryd.laysM138 s sub w h hs h2
def Tryd.lays206_ren : Go.Shelf.Ren := ⟨fun | 206 => 35 | n => n, fun | 9 => 9 | 4 => 4 | 3 => 3 | n => n, fun | n => n⟩
theorem Tryd.lays206 : Go.Proofs.Lays.n206 Tryd.prog Tryd.lays206_ren := {
  mixed := by kernel_rfl
  f206 := Tryd.func35.trans (congrArg some (by kernel_rfl))
  t3 := Tryd.underlying3
  a3 := Tryd.isAgg3
  z3 := Tryd.sizeOf3
  v3 := Tryd.zeroValue3
  t4 := Tryd.underlying4
  a4 := Tryd.isAgg4
  z4 := Tryd.sizeOf4
  v4 := Tryd.zeroValue4
  t9 := Tryd.underlying9
  a9 := Tryd.isAgg9
  z9 := Tryd.sizeOf9
  v9 := Tryd.zeroValue9 }
open Go.RowKit Go.Lib in
theorem Tryd.stringslite_HasPrefix (s p : ByteArray) (w : World) :
    Calls Tryd.prog 35 #[.string s, .string p] w fun e w' => e = .returned (.bool (Lib.hasPrefix s.data.toList p.data.toList)) ∧ w' = w := Any.stringslite_HasPrefix Tryd.lays206 s p w
def Tryd.lays99_ren : Go.Shelf.Ren := ⟨fun | 99 => 16 | 206 => 35 | n => n, fun | 9 => 9 | 4 => 4 | 3 => 3 | n => n, fun | n => n⟩
theorem Tryd.lays99 : Go.Proofs.Lays.n99 Tryd.prog Tryd.lays99_ren := {
  mixed := by kernel_rfl
  f99 := Tryd.func16.trans (congrArg some (by kernel_rfl))
  f206 := Tryd.func35.trans (congrArg some (by kernel_rfl))
  t3 := Tryd.underlying3
  a3 := Tryd.isAgg3
  z3 := Tryd.sizeOf3
  v3 := Tryd.zeroValue3
  t4 := Tryd.underlying4
  a4 := Tryd.isAgg4
  z4 := Tryd.sizeOf4
  v4 := Tryd.zeroValue4
  t9 := Tryd.underlying9
  a9 := Tryd.isAgg9
  z9 := Tryd.sizeOf9
  v9 := Tryd.zeroValue9 }
open Go.RowKit Go.Lib in
theorem Tryd.strings_HasPrefix (s p : ByteArray) (w : World) :
    Calls Tryd.prog 16 #[.string s, .string p] w fun e w' => e = .returned (.bool (Lib.hasPrefix s.data.toList p.data.toList)) ∧ w' = w := Any.strings_HasPrefix Tryd.lays99 s p w
def Tryd.lays207_ren : Go.Shelf.Ren := ⟨fun | 207 => 36 | n => n, fun | 9 => 9 | 4 => 4 | 3 => 3 | n => n, fun | n => n⟩
theorem Tryd.lays207 : Go.Proofs.Lays.n207 Tryd.prog Tryd.lays207_ren := {
  mixed := by kernel_rfl
  f207 := Tryd.func36.trans (congrArg some (by kernel_rfl))
  t3 := Tryd.underlying3
  a3 := Tryd.isAgg3
  z3 := Tryd.sizeOf3
  v3 := Tryd.zeroValue3
  t4 := Tryd.underlying4
  a4 := Tryd.isAgg4
  z4 := Tryd.sizeOf4
  v4 := Tryd.zeroValue4
  t9 := Tryd.underlying9
  a9 := Tryd.isAgg9
  z9 := Tryd.sizeOf9
  v9 := Tryd.zeroValue9 }
open Go.RowKit Go.Lib in
theorem Tryd.stringslite_HasSuffix (s p : ByteArray) (w : World) (hs : s.size ≤ 9223372036854775807) :
    Calls Tryd.prog 36 #[.string s, .string p] w fun e w' => e = .returned (.bool (Lib.hasSuffix s.data.toList p.data.toList)) ∧ w' = w := Any.stringslite_HasSuffix Tryd.lays207 s p w hs
def Tryd.lays100_ren : Go.Shelf.Ren := ⟨fun | 100 => 17 | 207 => 36 | n => n, fun | 9 => 9 | 4 => 4 | 3 => 3 | n => n, fun | n => n⟩
theorem Tryd.lays100 : Go.Proofs.Lays.n100 Tryd.prog Tryd.lays100_ren := {
  mixed := by kernel_rfl
  f100 := Tryd.func17.trans (congrArg some (by kernel_rfl))
  f207 := Tryd.func36.trans (congrArg some (by kernel_rfl))
  t3 := Tryd.underlying3
  a3 := Tryd.isAgg3
  z3 := Tryd.sizeOf3
  v3 := Tryd.zeroValue3
  t4 := Tryd.underlying4
  a4 := Tryd.isAgg4
  z4 := Tryd.sizeOf4
  v4 := Tryd.zeroValue4
  t9 := Tryd.underlying9
  a9 := Tryd.isAgg9
  z9 := Tryd.sizeOf9
  v9 := Tryd.zeroValue9 }
open Go.RowKit Go.Lib in
theorem Tryd.strings_HasSuffix (s p : ByteArray) (w : World) (hs : s.size ≤ 9223372036854775807) :
    Calls Tryd.prog 17 #[.string s, .string p] w fun e w' => e = .returned (.bool (Lib.hasSuffix s.data.toList p.data.toList)) ∧ w' = w := Any.strings_HasSuffix Tryd.lays100 s p w hs
open Go.RowKit Go.Lib in
theorem Tryd.strings_Count_any (s sep : ByteArray) (m : Int) (w : World) (hs : s.size < 4294967281) (hm : w.cell? ⟨0, 0, none⟩ = some (.int .i64 m)) (h1 : 1 ≤ sep.size) :
    Calls Tryd.prog 81 #[.string s, .string sep] w fun e w' => e = .returned (.int .i64 (Lib.countB s sep)) ∧ w' = w := Any.strings_Count_any Tryd.lays138 s sep m w hs hm h1
def Tryd.lays221_ren : Go.Shelf.Ren := ⟨fun | 221 => 67 | 268 => 80 | 138 => 81 | 143 => 37 | 195 => 87 | 197 => 88 | 218 => 89 | 219 => 61 | 260 => 92 | 217 => 34 | 225 => 75 | 224 => 76 | 267 => 77 | 266 => 60 | 314 => 86 | n => n, fun | 9 => 9 | 3 => 3 | 31 => 27 | 4 => 4 | 0 => 0 | 105 => 148 | 21 => 21 | 5 => 5 | 46 => 72 | 119 => 158 | 139 => 161 | 138 => 160 | 146 => 108 | 51 => 107 | n => n, fun | 1 => 0 | 3 => 1 | 4 => 2 | n => n⟩
theorem Tryd.lays221 : Go.Proofs.Lays.n221 Tryd.prog Tryd.lays221_ren := {
  mixed := by kernel_rfl
  f138 := Tryd.func81.trans (congrArg some (by kernel_rfl))
  f143 := Tryd.func37.trans (congrArg some (by kernel_rfl))
  f195 := Tryd.func87.trans (congrArg some (by kernel_rfl))
  f197 := Tryd.func88.trans (congrArg some (by kernel_rfl))
  f217 := Tryd.func34.trans (congrArg some (by kernel_rfl))
  f218 := Tryd.func89.trans (congrArg some (by kernel_rfl))
  f219 := Tryd.func61.trans (congrArg some (by kernel_rfl))
  f221 := Tryd.func67.trans (congrArg some (by kernel_rfl))
  f224 := Tryd.func76.trans (congrArg some (by kernel_rfl))
  f225 := Tryd.func75.trans (congrArg some (by kernel_rfl))
  f260 := Tryd.func92.trans (congrArg some (by kernel_rfl))
  f266 := Tryd.func60.trans (congrArg some (by kernel_rfl))
  f267 := Tryd.func77.trans (congrArg some (by kernel_rfl))
  f268 := Tryd.func80.trans (congrArg some (by kernel_rfl))
  f314 := Tryd.func86.trans (congrArg some (by kernel_rfl))
  t0 := Tryd.underlying0
  a0 := Tryd.isAgg0
  z0 := Tryd.sizeOf0
  v0 := Tryd.zeroValue0
  t3 := Tryd.underlying3
  a3 := Tryd.isAgg3
  z3 := Tryd.sizeOf3
  v3 := Tryd.zeroValue3
  t4 := Tryd.underlying4
  a4 := Tryd.isAgg4
  z4 := Tryd.sizeOf4
  v4 := Tryd.zeroValue4
  t5 := Tryd.underlying5
  a5 := Tryd.isAgg5
  z5 := Tryd.sizeOf5
  v5 := Tryd.zeroValue5
  t9 := Tryd.underlying9
  a9 := Tryd.isAgg9
  z9 := Tryd.sizeOf9
  v9 := Tryd.zeroValue9
  t21 := Tryd.underlying21
  a21 := Tryd.isAgg21
  z21 := Tryd.sizeOf21
  v21 := Tryd.zeroValue21
  t31 := Tryd.underlying27
  a31 := Tryd.isAgg27
  z31 := Tryd.sizeOf27
  v31 := Tryd.zeroValue27
  t46 := Tryd.underlying72
  a46 := Tryd.isAgg72
  z46 := Tryd.sizeOf72
  v46 := Tryd.zeroValue72
  t51 := Tryd.underlying107
  a51 := Tryd.isAgg107
  z51 := Tryd.sizeOf107
  v51 := Tryd.zeroValue107
  t105 := Tryd.underlying148
  a105 := Tryd.isAgg148
  z105 := Tryd.sizeOf148
  v105 := Tryd.zeroValue148
  t119 := Tryd.underlying158
  a119 := Tryd.isAgg158
  z119 := Tryd.sizeOf158
  t138 := Tryd.underlying160
  a138 := Tryd.isAgg160
  z138 := Tryd.sizeOf160
  v138 := Tryd.zeroValue160
  t139 := Tryd.underlying161
  a139 := Tryd.isAgg161
  z139 := Tryd.sizeOf161
  v139 := Tryd.zeroValue161
  t146 := Tryd.underlying108
  a146 := Tryd.isAgg108
  z146 := Tryd.sizeOf108
  v146 := Tryd.zeroValue108
  g1 := by kernel_rfl
  g3 := by kernel_rfl
  g4 := by kernel_rfl }
open Go.RowKit Go.Lib in
theorem Tryd.strings_genSplit (s sep : ByteArray) (sv : Nat) (n : Int) (N : Nat) (m : Int) (w : World) (hs : s.size < 4294967281) (hm : w.cell? ⟨0, 0, none⟩ = some (.int .i64 m)) (h1 : 1 ≤ sep.size) (hsv : sv ≤ sep.size) (hn0 : n ≠ 0) (hn63 : n ≤ 9223372036854775807) (hN : (N : Int) = min (if n < 0 then (Lib.countB s sep : Int) + 1 else n) ((s.size : Int) + 1)) :
    Calls Tryd.prog 67 #[.string s, .string sep, .int .i64 sv, .int .i64 n] w fun e w' =>
      e = .returned (.slice (some ⟨w.heap.size, 0, none⟩) (Lib.splitB sep sv (N - 1) s).length N) ∧ w' = w.alloc (.cells (Lib.cellsOf (Lib.splitB sep sv (N - 1) s) N) 9) := Any.strings_genSplit Tryd.lays221 (by kernel_rfl) s sep sv n N m w hs hm h1 hsv hn0 hn63 hN
def Tryd.lays146_ren : Go.Shelf.Ren := ⟨fun | 146 => 46 | 221 => 67 | 268 => 80 | 138 => 81 | 143 => 37 | 195 => 87 | 197 => 88 | 218 => 89 | 219 => 61 | 260 => 92 | 217 => 34 | 225 => 75 | 224 => 76 | 267 => 77 | 266 => 60 | 314 => 86 | n => n, fun | 9 => 9 | 31 => 27 | 3 => 3 | 4 => 4 | 0 => 0 | 105 => 148 | 21 => 21 | 5 => 5 | 46 => 72 | 119 => 158 | 139 => 161 | 138 => 160 | 146 => 108 | 51 => 107 | n => n, fun | 1 => 0 | 3 => 1 | 4 => 2 | n => n⟩
theorem Tryd.lays146 : Go.Proofs.Lays.n146 Tryd.prog Tryd.lays146_ren := {
  mixed := by kernel_rfl
  f138 := Tryd.func81.trans (congrArg some (by kernel_rfl))
  f143 := Tryd.func37.trans (congrArg some (by kernel_rfl))
  f146 := Tryd.func46.trans (congrArg some (by kernel_rfl))
  f195 := Tryd.func87.trans (congrArg some (by kernel_rfl))
  f197 := Tryd.func88.trans (congrArg some (by kernel_rfl))
  f217 := Tryd.func34.trans (congrArg some (by kernel_rfl))
  f218 := Tryd.func89.trans (congrArg some (by kernel_rfl))
  f219 := Tryd.func61.trans (congrArg some (by kernel_rfl))
  f221 := Tryd.func67.trans (congrArg some (by kernel_rfl))
  f224 := Tryd.func76.trans (congrArg some (by kernel_rfl))
  f225 := Tryd.func75.trans (congrArg some (by kernel_rfl))
  f260 := Tryd.func92.trans (congrArg some (by kernel_rfl))
  f266 := Tryd.func60.trans (congrArg some (by kernel_rfl))
  f267 := Tryd.func77.trans (congrArg some (by kernel_rfl))
  f268 := Tryd.func80.trans (congrArg some (by kernel_rfl))
  f314 := Tryd.func86.trans (congrArg some (by kernel_rfl))
  t0 := Tryd.underlying0
  a0 := Tryd.isAgg0
  z0 := Tryd.sizeOf0
  v0 := Tryd.zeroValue0
  t3 := Tryd.underlying3
  a3 := Tryd.isAgg3
  z3 := Tryd.sizeOf3
  v3 := Tryd.zeroValue3
  t4 := Tryd.underlying4
  a4 := Tryd.isAgg4
  z4 := Tryd.sizeOf4
  v4 := Tryd.zeroValue4
  t5 := Tryd.underlying5
  a5 := Tryd.isAgg5
  z5 := Tryd.sizeOf5
  v5 := Tryd.zeroValue5
  t9 := Tryd.underlying9
  a9 := Tryd.isAgg9
  z9 := Tryd.sizeOf9
  v9 := Tryd.zeroValue9
  t21 := Tryd.underlying21
  a21 := Tryd.isAgg21
  z21 := Tryd.sizeOf21
  v21 := Tryd.zeroValue21
  t31 := Tryd.underlying27
  a31 := Tryd.isAgg27
  z31 := Tryd.sizeOf27
  v31 := Tryd.zeroValue27
  t46 := Tryd.underlying72
  a46 := Tryd.isAgg72
  z46 := Tryd.sizeOf72
  v46 := Tryd.zeroValue72
  t51 := Tryd.underlying107
  a51 := Tryd.isAgg107
  z51 := Tryd.sizeOf107
  v51 := Tryd.zeroValue107
  t105 := Tryd.underlying148
  a105 := Tryd.isAgg148
  z105 := Tryd.sizeOf148
  v105 := Tryd.zeroValue148
  t119 := Tryd.underlying158
  a119 := Tryd.isAgg158
  z119 := Tryd.sizeOf158
  t138 := Tryd.underlying160
  a138 := Tryd.isAgg160
  z138 := Tryd.sizeOf160
  v138 := Tryd.zeroValue160
  t139 := Tryd.underlying161
  a139 := Tryd.isAgg161
  z139 := Tryd.sizeOf161
  v139 := Tryd.zeroValue161
  t146 := Tryd.underlying108
  a146 := Tryd.isAgg108
  z146 := Tryd.sizeOf108
  v146 := Tryd.zeroValue108
  g1 := by kernel_rfl
  g3 := by kernel_rfl
  g4 := by kernel_rfl }
open Go.RowKit Go.Lib in
theorem Tryd.strings_Split (s sep : ByteArray) (m : Int) (w : World) (hs : s.size < 4294967281) (hm : w.cell? ⟨0, 0, none⟩ = some (.int .i64 m)) (h1 : 1 ≤ sep.size) :
    Calls Tryd.prog 46 #[.string s, .string sep] w fun e w' =>
      e = .returned (.slice (some ⟨w.heap.size, 0, none⟩) (Lib.countB s sep + 1) (Lib.countB s sep + 1)) ∧ w' = w.alloc (.cells ((Lib.splitB sep 0 (Lib.countB s sep) s).map Value.string).toArray 9) := Any.strings_Split Tryd.lays146 (by kernel_rfl) s sep m w hs hm h1
def Tryd.laysM146_ren : Go.Shelf.Ren := ⟨fun | 146 => 46 | 221 => 67 | 268 => 80 | 138 => 81 | 143 => 37 | 195 => 87 | 197 => 88 | 218 => 89 | 219 => 61 | 260 => 92 | 217 => 34 | 225 => 75 | 224 => 76 | 267 => 77 | 266 => 60 | 314 => 86 | n => n, fun | 9 => 9 | 31 => 27 | 3 => 3 | 4 => 4 | 0 => 0 | 105 => 148 | 21 => 21 | 5 => 5 | 46 => 72 | 119 => 158 | 139 => 161 | 138 => 160 | 146 => 108 | 51 => 107 | n => n, fun | 1 => 0 | 3 => 1 | 4 => 2 | n => n⟩
theorem Tryd.laysM146 : Go.Proofs.LaysM.n146 Tryd.prog Tryd.laysM146_ren := {
  mixed := by kernel_rfl
  f138 := Tryd.func81.trans (congrArg some (by kernel_rfl))
  f143 := Tryd.func37.trans (congrArg some (by kernel_rfl))
  f146 := Tryd.func46.trans (congrArg some (by kernel_rfl))
  f195 := Tryd.func87.trans (congrArg some (by kernel_rfl))
  f197 := Tryd.func88.trans (congrArg some (by kernel_rfl))
  f217 := Tryd.func34.trans (congrArg some (by kernel_rfl))
  f218 := Tryd.func89.trans (congrArg some (by kernel_rfl))
  f219 := Tryd.func61.trans (congrArg some (by kernel_rfl))
  f221 := Tryd.func67.trans (congrArg some (by kernel_rfl))
  f224 := Tryd.func76.trans (congrArg some (by kernel_rfl))
  f225 := Tryd.func75.trans (congrArg some (by kernel_rfl))
  f260 := Tryd.func92.trans (congrArg some (by kernel_rfl))
  f266 := Tryd.func60.trans (congrArg some (by kernel_rfl))
  f267 := Tryd.func77.trans (congrArg some (by kernel_rfl))
  f268 := Tryd.func80.trans (congrArg some (by kernel_rfl))
  f314 := Tryd.func86.trans (congrArg some (by kernel_rfl))
  t0 := Tryd.underlying0
  a0 := Tryd.isAgg0
  z0 := Tryd.sizeOf0
  v0 := Tryd.zeroValue0
  t3 := Tryd.underlying3
  a3 := Tryd.isAgg3
  z3 := Tryd.sizeOf3
  v3 := Tryd.zeroValue3
  t4 := Tryd.underlying4
  a4 := Tryd.isAgg4
  z4 := Tryd.sizeOf4
  v4 := Tryd.zeroValue4
  t5 := Tryd.underlying5
  a5 := Tryd.isAgg5
  z5 := Tryd.sizeOf5
  v5 := Tryd.zeroValue5
  t9 := Tryd.underlying9
  a9 := Tryd.isAgg9
  z9 := Tryd.sizeOf9
  v9 := Tryd.zeroValue9
  t21 := Tryd.underlying21
  a21 := Tryd.isAgg21
  z21 := Tryd.sizeOf21
  v21 := Tryd.zeroValue21
  t31 := Tryd.underlying27
  a31 := Tryd.isAgg27
  z31 := Tryd.sizeOf27
  v31 := Tryd.zeroValue27
  t46 := Tryd.underlying72
  a46 := Tryd.isAgg72
  z46 := Tryd.sizeOf72
  v46 := Tryd.zeroValue72
  t51 := Tryd.underlying107
  a51 := Tryd.isAgg107
  z51 := Tryd.sizeOf107
  v51 := Tryd.zeroValue107
  t105 := Tryd.underlying148
  a105 := Tryd.isAgg148
  z105 := Tryd.sizeOf148
  v105 := Tryd.zeroValue148
  t119 := Tryd.underlying158
  a119 := Tryd.isAgg158
  z119 := Tryd.sizeOf158
  t138 := Tryd.underlying160
  a138 := Tryd.isAgg160
  z138 := Tryd.sizeOf160
  v138 := Tryd.zeroValue160
  t139 := Tryd.underlying161
  a139 := Tryd.isAgg161
  z139 := Tryd.sizeOf161
  v139 := Tryd.zeroValue161
  t146 := Tryd.underlying108
  a146 := Tryd.isAgg108
  z146 := Tryd.sizeOf108
  v146 := Tryd.zeroValue108
  g1 := by kernel_rfl
  g3 := by kernel_rfl
  g4 := by kernel_rfl
  i0 := by kernel_rfl
  i3 := by kernel_rfl
  i4 := by kernel_rfl
  i5 := by kernel_rfl
  i9 := by kernel_rfl
  i21 := by kernel_rfl
  i31 := by kernel_rfl
  i46 := by kernel_rfl
  i51 := by kernel_rfl
  i105 := by kernel_rfl
  i138 := by kernel_rfl
  i139 := by kernel_rfl
  i146 := by kernel_rfl
  m1 := by kernel_rfl
  s1_3 := fun w h => Go.Proofs.cell_of_shapedOpen_int (zero := #[.int .i64 0]) (t := 3) h (of_decide_eq_true (by kernel_rfl)) (by kernel_rfl) rfl (by kernel_rfl) (by kernel_rfl) Tryd.underlying3
  m3 := by kernel_rfl
  m4 := by kernel_rfl }
open Go.RowKit Go.Lib in
theorem Tryd.strings_Split_shaped (s sep : ByteArray) (w : World) (h : w.ShapedOpen Tryd.prog) (hs : s.size < 4294967281) (h1 : 1 ≤ sep.size) :
    Calls Tryd.prog 46 #[.string s, .string sep] w fun e w' =>
      e = .returned (.slice (some ⟨w.heap.size, 0, none⟩) (Lib.countB s sep + 1) (Lib.countB s sep + 1)) ∧ w' = w.alloc (.cells ((Lib.splitB sep 0 (Lib.countB s sep) s).map Value.string).toArray 9) := Any.strings_Split_shaped Tryd.laysM146 s sep w h hs h1
def Tryd.lays197_ren : Go.Shelf.Ren := ⟨fun | 197 => 88 | 260 => 92 | n => n, fun | 9 => 9 | 21 => 21 | 3 => 3 | 4 => 4 | 5 => 5 | 105 => 148 | 119 => 158 | 0 => 0 | 46 => 72 | 139 => 161 | 138 => 160 | n => n, fun | 3 => 1 | 4 => 2 | n => n⟩
theorem Tryd.lays197 : Go.Proofs.Lays.n197 Tryd.prog Tryd.lays197_ren := {
  mixed := by kernel_rfl
  f197 := Tryd.func88.trans (congrArg some (by kernel_rfl))
  f260 := Tryd.func92.trans (congrArg some (by kernel_rfl))
  t0 := Tryd.underlying0
  a0 := Tryd.isAgg0
  z0 := Tryd.sizeOf0
  v0 := Tryd.zeroValue0
  t3 := Tryd.underlying3
  a3 := Tryd.isAgg3
  z3 := Tryd.sizeOf3
  v3 := Tryd.zeroValue3
  t4 := Tryd.underlying4
  a4 := Tryd.isAgg4
  z4 := Tryd.sizeOf4
  v4 := Tryd.zeroValue4
  t5 := Tryd.underlying5
  a5 := Tryd.isAgg5
  z5 := Tryd.sizeOf5
  v5 := Tryd.zeroValue5
  t9 := Tryd.underlying9
  a9 := Tryd.isAgg9
  z9 := Tryd.sizeOf9
  v9 := Tryd.zeroValue9
  t21 := Tryd.underlying21
  a21 := Tryd.isAgg21
  z21 := Tryd.sizeOf21
  v21 := Tryd.zeroValue21
  t46 := Tryd.underlying72
  a46 := Tryd.isAgg72
  z46 := Tryd.sizeOf72
  v46 := Tryd.zeroValue72
  t105 := Tryd.underlying148
  a105 := Tryd.isAgg148
  z105 := Tryd.sizeOf148
  v105 := Tryd.zeroValue148
  t119 := Tryd.underlying158
  a119 := Tryd.isAgg158
  z119 := Tryd.sizeOf158
  t138 := Tryd.underlying160
  a138 := Tryd.isAgg160
  z138 := Tryd.sizeOf160
  v138 := Tryd.zeroValue160
  t139 := Tryd.underlying161
  a139 := Tryd.isAgg161
  z139 := Tryd.sizeOf161
  v139 := Tryd.zeroValue161
  g3 := by kernel_rfl
  g4 := by kernel_rfl }
open Go.RowKit Go.Lib in
theorem Tryd.utf8_DecodeRuneInString_ascii (s : ByteArray) (x : UInt8) (w : World) (h0 : s.data.toList[0]? = some x) (hx : x.toNat < 128) :
    Calls Tryd.prog 88 #[.string s] w fun e w' => e = .returned (.tuple #[.int .i32 x.toNat, .int .i64 1]) ∧ w' = w := Any.utf8_DecodeRuneInString_ascii Tryd.lays197 s x w h0 hx
def Tryd.lays152_ren : Go.Shelf.Ren := ⟨fun | 152 => 103 | 137 => 15 | 119 => 105 | 224 => 76 | 225 => 75 | 217 => 34 | 266 => 60 | n => n, fun | 9 => 9 | 21 => 21 | 3 => 3 | 4 => 4 | 5 => 5 | 0 => 0 | 46 => 72 | n => n, fun | n => n⟩
theorem Tryd.lays152 : Go.Proofs.Lays.n152 Tryd.prog Tryd.lays152_ren := {
  mixed := by kernel_rfl
  f119 := Tryd.func105.trans (congrArg some (by kernel_rfl))
  f137 := Tryd.func15.trans (congrArg some (by kernel_rfl))
  f152 := Tryd.func103.trans (congrArg some (by kernel_rfl))
  f217 := Tryd.func34.trans (congrArg some (by kernel_rfl))
  f224 := Tryd.func76.trans (congrArg some (by kernel_rfl))
  f225 := Tryd.func75.trans (congrArg some (by kernel_rfl))
  f266 := Tryd.func60.trans (congrArg some (by kernel_rfl))
  t0 := Tryd.underlying0
  a0 := Tryd.isAgg0
  z0 := Tryd.sizeOf0
  v0 := Tryd.zeroValue0
  t3 := Tryd.underlying3
  a3 := Tryd.isAgg3
  z3 := Tryd.sizeOf3
  v3 := Tryd.zeroValue3
  t4 := Tryd.underlying4
  a4 := Tryd.isAgg4
  z4 := Tryd.sizeOf4
  v4 := Tryd.zeroValue4
  t5 := Tryd.underlying5
  a5 := Tryd.isAgg5
  z5 := Tryd.sizeOf5
  v5 := Tryd.zeroValue5
  t9 := Tryd.underlying9
  a9 := Tryd.isAgg9
  z9 := Tryd.sizeOf9
  v9 := Tryd.zeroValue9
  t21 := Tryd.underlying21
  a21 := Tryd.isAgg21
  z21 := Tryd.sizeOf21
  v21 := Tryd.zeroValue21
  t46 := Tryd.underlying72
  a46 := Tryd.isAgg72
  z46 := Tryd.sizeOf72
  v46 := Tryd.zeroValue72 }
open Go.RowKit Go.Lib in
theorem Tryd.strings_IndexRune_ascii (s : ByteArray) (r : Int) (w : World) (h0 : 0 ≤ r) (h1 : r < 128) :
    Calls Tryd.prog 103 #[.string s, .int .i32 r] w fun e w' => e = .returned (.int .i64 (Lib.indexByte s.data.toList r.toNat.toUInt8)) ∧ w' = w := Any.strings_IndexRune_ascii Tryd.lays152 s r w h0 h1
def Tryd.lays151_ren : Go.Shelf.Ren := ⟨fun | 151 => 101 | 152 => 103 | 137 => 15 | 119 => 105 | 224 => 76 | 225 => 75 | 217 => 34 | 266 => 60 | n => n, fun | 9 => 9 | 21 => 21 | 4 => 4 | 3 => 3 | 5 => 5 | 0 => 0 | 46 => 72 | n => n, fun | n => n⟩
theorem Tryd.lays151 : Go.Proofs.Lays.n151 Tryd.prog Tryd.lays151_ren := {
  mixed := by kernel_rfl
  f119 := Tryd.func105.trans (congrArg some (by kernel_rfl))
  f137 := Tryd.func15.trans (congrArg some (by kernel_rfl))
  f151 := Tryd.func101.trans (congrArg some (by kernel_rfl))
  f152 := Tryd.func103.trans (congrArg some (by kernel_rfl))
  f217 := Tryd.func34.trans (congrArg some (by kernel_rfl))
  f224 := Tryd.func76.trans (congrArg some (by kernel_rfl))
  f225 := Tryd.func75.trans (congrArg some (by kernel_rfl))
  f266 := Tryd.func60.trans (congrArg some (by kernel_rfl))
  t0 := Tryd.underlying0
  a0 := Tryd.isAgg0
  z0 := Tryd.sizeOf0
  v0 := Tryd.zeroValue0
  t3 := Tryd.underlying3
  a3 := Tryd.isAgg3
  z3 := Tryd.sizeOf3
  v3 := Tryd.zeroValue3
  t4 := Tryd.underlying4
  a4 := Tryd.isAgg4
  z4 := Tryd.sizeOf4
  v4 := Tryd.zeroValue4
  t5 := Tryd.underlying5
  a5 := Tryd.isAgg5
  z5 := Tryd.sizeOf5
  v5 := Tryd.zeroValue5
  t9 := Tryd.underlying9
  a9 := Tryd.isAgg9
  z9 := Tryd.sizeOf9
  v9 := Tryd.zeroValue9
  t21 := Tryd.underlying21
  a21 := Tryd.isAgg21
  z21 := Tryd.sizeOf21
  v21 := Tryd.zeroValue21
  t46 := Tryd.underlying72
  a46 := Tryd.isAgg72
  z46 := Tryd.sizeOf72
  v46 := Tryd.zeroValue72 }
open Go.RowKit Go.Lib in
theorem Tryd.strings_ContainsRune_ascii (s : ByteArray) (r : Int) (w : World) (h0 : 0 ≤ r) (h1 : r < 128) :
    Calls Tryd.prog 101 #[.string s, .int .i32 r] w fun e w' => e = .returned (.bool (decide (0 ≤ Lib.indexByte s.data.toList r.toNat.toUInt8))) ∧ w' = w := Any.strings_ContainsRune_ascii Tryd.lays151 s r w h0 h1
open Go.RowKit Go.Lib in
theorem Tryd.utf8_RuneCountInString_ascii (s : ByteArray) (w : World) (hs : s.size < 4294967281) (hascii : ∀ (j : Nat) b, s.data.toList[j]? = some b → b.toNat < 128) :
    Calls Tryd.prog 87 #[.string s] w fun e w' => e = .returned (.int .i64 s.size) ∧ w' = w.iter s s.size := Any.utf8_RuneCountInString_ascii Tryd.lays195 s w hs hascii
def Tryd.lays227_ren : Go.Shelf.Ren := ⟨fun | 227 => 95 | n => n, fun | 9 => 9 | 116 => 153 | 4 => 4 | 0 => 0 | 3 => 3 | 5 => 5 | n => n, fun | n => n⟩
theorem Tryd.lays227 : Go.Proofs.Lays.n227 Tryd.prog Tryd.lays227_ren := {
  mixed := by kernel_rfl
  f227 := Tryd.func95.trans (congrArg some (by kernel_rfl))
  t0 := Tryd.underlying0
  a0 := Tryd.isAgg0
  z0 := Tryd.sizeOf0
  v0 := Tryd.zeroValue0
  t3 := Tryd.underlying3
  a3 := Tryd.isAgg3
  z3 := Tryd.sizeOf3
  v3 := Tryd.zeroValue3
  t4 := Tryd.underlying4
  a4 := Tryd.isAgg4
  z4 := Tryd.sizeOf4
  v4 := Tryd.zeroValue4
  t5 := Tryd.underlying5
  a5 := Tryd.isAgg5
  z5 := Tryd.sizeOf5
  v5 := Tryd.zeroValue5
  t9 := Tryd.underlying9
  a9 := Tryd.isAgg9
  z9 := Tryd.sizeOf9
  v9 := Tryd.zeroValue9
  t116 := Tryd.underlying153
  a116 := Tryd.isAgg153
  z116 := Tryd.sizeOf153 }
open Go.RowKit Go.Lib in
theorem Tryd.strings_makeASCIISet (hv116 : ∀ w, (zeroValue 153).run Tryd.prog w = .ok (.agg (Array.replicate 256 (.bool false))) w) (chars : ByteArray) (w : World) (hs : chars.size < 4294967281) (hascii : ∀ (j : Nat) b, chars.data.toList[j]? = some b → b.toNat < 128) :
    Calls Tryd.prog 95 #[.string chars] w fun e w' => e = .returned (.tuple #[.agg (Lib.setCells chars.data.toList), .bool true]) ∧ w' = w.alloc (.cells (Lib.setCells chars.data.toList) 153) := Any.strings_makeASCIISet Tryd.lays227 hv116 (by kernel_rfl) chars w hs hascii
def Tryd.lays228_ren : Go.Shelf.Ren := ⟨fun | 228 => 100 | n => n, fun | 124 => 157 | 5 => 5 | 4 => 4 | 0 => 0 | 116 => 153 | n => n, fun | n => n⟩
theorem Tryd.lays228 : Go.Proofs.Lays.n228 Tryd.prog Tryd.lays228_ren := {
  mixed := by kernel_rfl
  f228 := Tryd.func100.trans (congrArg some (by kernel_rfl))
  t0 := Tryd.underlying0
  a0 := Tryd.isAgg0
  z0 := Tryd.sizeOf0
  v0 := Tryd.zeroValue0
  t4 := Tryd.underlying4
  a4 := Tryd.isAgg4
  z4 := Tryd.sizeOf4
  v4 := Tryd.zeroValue4
  t5 := Tryd.underlying5
  a5 := Tryd.isAgg5
  z5 := Tryd.sizeOf5
  v5 := Tryd.zeroValue5
  t116 := Tryd.underlying153
  a116 := Tryd.isAgg153
  z116 := Tryd.sizeOf153
  t124 := Tryd.underlying157
  a124 := Tryd.isAgg157
  z124 := Tryd.sizeOf157
  v124 := Tryd.zeroValue157 }
open Go.RowKit Go.Lib in
theorem Tryd.asciiSet_contains (b : Nat) (x : UInt8) (v : Bool) (w : World) (hc : w.cell? ⟨b, x.toNat, none⟩ = some (.bool v)) :
    Calls Tryd.prog 100 #[.pointer (some ⟨b, 0, none⟩), .int .u8 x.toNat] w fun e w' => e = .returned (.bool v) ∧ w' = w := Any.asciiSet_contains Tryd.lays228 b x v w hc
def Tryd.lays268_ren : Go.Shelf.Ren := ⟨fun | 268 => 80 | 195 => 87 | 197 => 88 | 260 => 92 | n => n, fun | 9 => 9 | 3 => 3 | 31 => 27 | 4 => 4 | 105 => 148 | 21 => 21 | 0 => 0 | 5 => 5 | 119 => 158 | 46 => 72 | 139 => 161 | 138 => 160 | n => n, fun | 3 => 1 | 4 => 2 | n => n⟩
theorem Tryd.lays268 : Go.Proofs.Lays.n268 Tryd.prog Tryd.lays268_ren := {
  mixed := by kernel_rfl
  f195 := Tryd.func87.trans (congrArg some (by kernel_rfl))
  f197 := Tryd.func88.trans (congrArg some (by kernel_rfl))
  f260 := Tryd.func92.trans (congrArg some (by kernel_rfl))
  f268 := Tryd.func80.trans (congrArg some (by kernel_rfl))
  t0 := Tryd.underlying0
  a0 := Tryd.isAgg0
  z0 := Tryd.sizeOf0
  v0 := Tryd.zeroValue0
  t3 := Tryd.underlying3
  a3 := Tryd.isAgg3
  z3 := Tryd.sizeOf3
  v3 := Tryd.zeroValue3
  t4 := Tryd.underlying4
  a4 := Tryd.isAgg4
  z4 := Tryd.sizeOf4
  v4 := Tryd.zeroValue4
  t5 := Tryd.underlying5
  a5 := Tryd.isAgg5
  z5 := Tryd.sizeOf5
  v5 := Tryd.zeroValue5
  t9 := Tryd.underlying9
  a9 := Tryd.isAgg9
  z9 := Tryd.sizeOf9
  v9 := Tryd.zeroValue9
  t21 := Tryd.underlying21
  a21 := Tryd.isAgg21
  z21 := Tryd.sizeOf21
  v21 := Tryd.zeroValue21
  t31 := Tryd.underlying27
  a31 := Tryd.isAgg27
  z31 := Tryd.sizeOf27
  v31 := Tryd.zeroValue27
  t46 := Tryd.underlying72
  a46 := Tryd.isAgg72
  z46 := Tryd.sizeOf72
  v46 := Tryd.zeroValue72
  t105 := Tryd.underlying148
  a105 := Tryd.isAgg148
  z105 := Tryd.sizeOf148
  v105 := Tryd.zeroValue148
  t119 := Tryd.underlying158
  a119 := Tryd.isAgg158
  z119 := Tryd.sizeOf158
  t138 := Tryd.underlying160
  a138 := Tryd.isAgg160
  z138 := Tryd.sizeOf160
  v138 := Tryd.zeroValue160
  t139 := Tryd.underlying161
  a139 := Tryd.isAgg161
  z139 := Tryd.sizeOf161
  v139 := Tryd.zeroValue161
  g3 := by kernel_rfl
  g4 := by kernel_rfl }
open Go.RowKit Go.Lib in
theorem Tryd.strings_explode_all (s : ByteArray) (n : Int) (w : World) (hn : n < 0) (hs : s.size < 4294967281) (hascii : ∀ (j : Nat) b, s.data.toList[j]? = some b → b.toNat < 128) :
    Calls Tryd.prog 80 #[.string s, .int .i64 n] w fun e w' =>
      e = .returned (.slice (some ⟨(w.iter s s.size).heap.size, 0, none⟩) s.size s.size) ∧ w' = (w.iter s s.size).alloc (.cells ((Lib.charsB s).map Value.string).toArray 9) := Any.strings_explode_all Tryd.lays268 (by kernel_rfl) s n w hn hs hascii
open Go.RowKit Go.Lib in
theorem Tryd.strings_genSplit_chars (s sep : ByteArray) (sv n : Int) (w : World) (h0 : sep.size = 0) (hn : n < 0) (hs : s.size < 4294967281) (hascii : ∀ (j : Nat) b, s.data.toList[j]? = some b → b.toNat < 128) :
    Calls Tryd.prog 67 #[.string s, .string sep, .int .i64 sv, .int .i64 n] w fun e w' =>
      e = .returned (.slice (some ⟨(w.iter s s.size).heap.size, 0, none⟩) s.size s.size) ∧ w' = (w.iter s s.size).alloc (.cells ((Lib.charsB s).map Value.string).toArray 9) := Any.strings_genSplit_chars Tryd.lays221 (by kernel_rfl) s sep sv n w h0 hn hs hascii
open Go.RowKit Go.Lib in
theorem Tryd.strings_Split_chars (s sep : ByteArray) (w : World) (h0 : sep.size = 0) (hs : s.size < 4294967281) (hascii : ∀ (j : Nat) b, s.data.toList[j]? = some b → b.toNat < 128) :
    Calls Tryd.prog 46 #[.string s, .string sep] w fun e w' =>
      e = .returned (.slice (some ⟨(w.iter s s.size).heap.size, 0, none⟩) s.size s.size) ∧ w' = (w.iter s s.size).alloc (.cells ((Lib.charsB s).map Value.string).toArray 9) := Any.strings_Split_chars Tryd.lays146 (by kernel_rfl) s sep w h0 hs hascii
def Tryd.lays264_ren : Go.Shelf.Ren := ⟨fun | 264 => 66 | n => n, fun | 53 => 37 | 46 => 72 | n => n, fun | n => n⟩
theorem Tryd.lays264 : Go.Proofs.Lays.n264 Tryd.prog Tryd.lays264_ren := {
  mixed := by kernel_rfl
  f264 := Tryd.func66.trans (congrArg some (by kernel_rfl))
  t46 := Tryd.underlying72
  a46 := Tryd.isAgg72
  z46 := Tryd.sizeOf72
  v46 := Tryd.zeroValue72
  t53 := Tryd.underlying37
  a53 := Tryd.isAgg37
  z53 := Tryd.sizeOf37
  v53 := Tryd.zeroValue37 }
open Go.RowKit Go.Lib in
theorem Tryd.bits_Mul64 (x y : Nat) (hx : x < 18446744073709551616) (hy : y < 18446744073709551616) (w : World) :
    Calls Tryd.prog 66 #[.int .u64 x, .int .u64 y] w fun e w' => e = .returned (.tuple #[.int .u64 ((x * y / 18446744073709551616 : Nat) : Int), .int .u64 ((x * y % 18446744073709551616 : Nat) : Int)]) ∧ w' = w := Any.bits_Mul64 Tryd.lays264 x y hx hy w
def Tryd.lays212_ren : Go.Shelf.Ren := ⟨fun | 212 => 44 | 263 => 65 | 264 => 66 | n => n, fun | 46 => 72 | 51 => 107 | 146 => 108 | 53 => 37 | 148 => 110 | n => n, fun | n => n⟩
theorem Tryd.lays212 : Go.Proofs.Lays.n212 Tryd.prog Tryd.lays212_ren := {
  mixed := by kernel_rfl
  f212 := Tryd.func44.trans (congrArg some (by kernel_rfl))
  f263 := Tryd.func65.trans (congrArg some (by kernel_rfl))
  f264 := Tryd.func66.trans (congrArg some (by kernel_rfl))
  t46 := Tryd.underlying72
  a46 := Tryd.isAgg72
  z46 := Tryd.sizeOf72
  v46 := Tryd.zeroValue72
  t51 := Tryd.underlying107
  a51 := Tryd.isAgg107
  z51 := Tryd.sizeOf107
  v51 := Tryd.zeroValue107
  t53 := Tryd.underlying37
  a53 := Tryd.isAgg37
  z53 := Tryd.sizeOf37
  v53 := Tryd.zeroValue37
  t146 := Tryd.underlying108
  a146 := Tryd.isAgg108
  z146 := Tryd.sizeOf108
  v146 := Tryd.zeroValue108
  t148 := Tryd.underlying110
  a148 := Tryd.isAgg110
  z148 := Tryd.sizeOf110
  v148 := Tryd.zeroValue110 }
open Go.RowKit Go.Lib in
theorem Tryd.bits_Mul (x y : Nat) (hx : x < 18446744073709551616) (hy : y < 18446744073709551616) (w : World) :
    Calls Tryd.prog 44 #[.int .u64 x, .int .u64 y] w fun e w' => e = .returned (.tuple #[.int .u64 ((x * y / 18446744073709551616 : Nat) : Int), .int .u64 ((x * y % 18446744073709551616 : Nat) : Int)]) ∧ w' = w := Any.bits_Mul Tryd.lays212 x y hx hy w
def Tryd.lays105_ren : Go.Shelf.Ren := ⟨fun | 105 => 22 | 212 => 44 | 99 => 16 | 165 => 41 | 166 => 42 | 170 => 45 | 169 => 43 | 263 => 65 | 264 => 66 | 206 => 35 | 240 => 63 | 241 => 64 | 276 => 78 | 277 => 79 | n => n, fun | 9 => 9 | 3 => 3 | 4 => 4 | 20 => 20 | 0 => 0 | 46 => 72 | 109 => 73 | 5 => 5 | 72 => 65 | 76 => 69 | 51 => 107 | 146 => 108 | 53 => 37 | 148 => 110 | 70 => 63 | 37 => 24 | 75 => 68 | 127 => 106 | 164 => 126 | 80 => 71 | n => n, fun | n => n⟩
theorem Tryd.lays105 : Go.Proofs.Lays.n105 Tryd.prog Tryd.lays105_ren := {
  mixed := by kernel_rfl
  f99 := Tryd.func16.trans (congrArg some (by kernel_rfl))
  f105 := Tryd.func22.trans (congrArg some (by kernel_rfl))
  f165 := Tryd.func41.trans (congrArg some (by kernel_rfl))
  f166 := Tryd.func42.trans (congrArg some (by kernel_rfl))
  f169 := Tryd.func43.trans (congrArg some (by kernel_rfl))
  f170 := Tryd.func45.trans (congrArg some (by kernel_rfl))
  f206 := Tryd.func35.trans (congrArg some (by kernel_rfl))
  f212 := Tryd.func44.trans (congrArg some (by kernel_rfl))
  f240 := Tryd.func63.trans (congrArg some (by kernel_rfl))
  f241 := Tryd.func64.trans (congrArg some (by kernel_rfl))
  f263 := Tryd.func65.trans (congrArg some (by kernel_rfl))
  f264 := Tryd.func66.trans (congrArg some (by kernel_rfl))
  f276 := Tryd.func78.trans (congrArg some (by kernel_rfl))
  f277 := Tryd.func79.trans (congrArg some (by kernel_rfl))
  t0 := Tryd.underlying0
  a0 := Tryd.isAgg0
  z0 := Tryd.sizeOf0
  v0 := Tryd.zeroValue0
  t3 := Tryd.underlying3
  a3 := Tryd.isAgg3
  z3 := Tryd.sizeOf3
  v3 := Tryd.zeroValue3
  t4 := Tryd.underlying4
  a4 := Tryd.isAgg4
  z4 := Tryd.sizeOf4
  v4 := Tryd.zeroValue4
  t5 := Tryd.underlying5
  a5 := Tryd.isAgg5
  z5 := Tryd.sizeOf5
  v5 := Tryd.zeroValue5
  t9 := Tryd.underlying9
  a9 := Tryd.isAgg9
  z9 := Tryd.sizeOf9
  v9 := Tryd.zeroValue9
  t20 := Tryd.underlying20
  a20 := Tryd.isAgg20
  z20 := Tryd.sizeOf20
  v20 := Tryd.zeroValue20
  t37 := Tryd.underlying24
  a37 := Tryd.isAgg24
  z37 := Tryd.sizeOf24
  v37 := Tryd.zeroValue24
  t46 := Tryd.underlying72
  a46 := Tryd.isAgg72
  z46 := Tryd.sizeOf72
  v46 := Tryd.zeroValue72
  t51 := Tryd.underlying107
  a51 := Tryd.isAgg107
  z51 := Tryd.sizeOf107
  v51 := Tryd.zeroValue107
  t53 := Tryd.underlying37
  a53 := Tryd.isAgg37
  z53 := Tryd.sizeOf37
  v53 := Tryd.zeroValue37
  t70 := Tryd.underlying63
  a70 := Tryd.isAgg63
  z70 := Tryd.sizeOf63
  v70 := Tryd.zeroValue63
  t72 := Tryd.underlying65
  a72 := Tryd.isAgg65
  z72 := Tryd.sizeOf65
  v72 := Tryd.zeroValue65
  t75 := Tryd.underlying68
  a75 := Tryd.isAgg68
  z75 := Tryd.sizeOf68
  v75 := Tryd.zeroValue68
  t76 := Tryd.underlying69
  a76 := Tryd.isAgg69
  z76 := Tryd.sizeOf69
  v76 := Tryd.zeroValue69
  t109 := Tryd.underlying73
  a109 := Tryd.isAgg73
  z109 := Tryd.sizeOf73
  v109 := Tryd.zeroValue73
  t127 := Tryd.underlying106
  a127 := Tryd.isAgg106
  z127 := Tryd.sizeOf106
  v127 := Tryd.zeroValue106
  t146 := Tryd.underlying108
  a146 := Tryd.isAgg108
  z146 := Tryd.sizeOf108
  v146 := Tryd.zeroValue108
  t148 := Tryd.underlying110
  a148 := Tryd.isAgg110
  z148 := Tryd.sizeOf110
  v148 := Tryd.zeroValue110
  t164 := Tryd.underlying126
  a164 := Tryd.isAgg126
  z164 := Tryd.sizeOf126
  v164 := Tryd.zeroValue126 }
theorem Tryd.Builder_Extra_105 : Builder.Extra Tryd.prog Tryd.lays105_ren := {
  sizeBuilder := by kernel_rfl
  liesBuilder := by kernel_rfl
  t5 := Tryd.underlying5
  a5 := Tryd.isAgg5
  z5 := Tryd.sizeOf5
  v5 := Tryd.zeroValue5
  infoByte := by kernel_rfl
  cellsByte := by kernel_rfl
  sizeByte := by kernel_rfl
  neB5 := by decide }
open Go.RowKit Go.Lib in
theorem Tryd.strings_Repeat_main (s : ByteArray) (c : Nat) (w : World) (hc2 : 2 ≤ c) (hc : c ≤ 9223372036854775807) (hlen : s.size * c ≤ 140737488355328) (h0 : 0 < s.size) :
    Calls Tryd.prog 22 #[.string s, .int .i64 c] w fun e w' => e = .returned (.string ⟨(Lib.repeatL s.data.toList c).toArray⟩) ∧ Below w.heap.size w w' := Any.strings_Repeat_main Tryd.lays105 Tryd.Builder_Extra_105 s c w hc2 hc hlen h0
open Go.RowKit Go.Lib in
theorem Tryd.strings_Repeat_zero (s : ByteArray) (w : World) :
    Calls Tryd.prog 22 #[.string s, .int .i64 0] w fun e w' => e = .returned (.string ⟨#[]⟩) ∧ w' = w := Any.strings_Repeat_zero Tryd.lays105 s w
open Go.RowKit Go.Lib in
theorem Tryd.strings_Repeat_one (s : ByteArray) (w : World) :
    Calls Tryd.prog 22 #[.string s, .int .i64 1] w fun e w' => e = .returned (.string s) ∧ w' = w := Any.strings_Repeat_one Tryd.lays105 s w
open Go.RowKit Go.Lib in
theorem Tryd.strings_Repeat_empty (s : ByteArray) (c : Nat) (w : World) (hc2 : 2 ≤ c) (hc : c ≤ 9223372036854775807) (h0 : s.size = 0) :
    Calls Tryd.prog 22 #[.string s, .int .i64 c] w fun e w' => e = .returned (.string ⟨#[]⟩) ∧ w' = w := Any.strings_Repeat_empty Tryd.lays105 s c w hc2 hc h0
open Go.RowKit Go.Lib in
theorem Tryd.strings_Repeat_negative (s : ByteArray) (c : Int) (w : World) (hc : c < 0) :
    Calls Tryd.prog 22 #[.string s, .int .i64 c] w fun e w' => e = .panicked [{ v := repeatPanic Tryd.lays105_ren "strings: negative Repeat count", recovered := false }] ∧ w' = w := Any.strings_Repeat_negative Tryd.lays105 s c w hc
open Go.RowKit Go.Lib in
theorem Tryd.strings_Repeat_overflow (s : ByteArray) (c : Nat) (w : World) (hc : c ≤ 9223372036854775807) (hs : s.size ≤ 9223372036854775807) (hbig : 9223372036854775807 < s.size * c) :
    Calls Tryd.prog 22 #[.string s, .int .i64 c] w fun e w' => e = .panicked [{ v := repeatPanic Tryd.lays105_ren "strings: Repeat output length overflow", recovered := false }] ∧ w' = w := Any.strings_Repeat_overflow Tryd.lays105 s c w hc hs hbig
open Go.RowKit Go.Lib in
theorem Tryd.strings_Repeat (s : ByteArray) (c : Nat) (w : World) (hc : c ≤ 9223372036854775807) (hlen : s.size * c ≤ 140737488355328) :
    Calls Tryd.prog 22 #[.string s, .int .i64 c] w fun e w' => e = .returned (.string ⟨(Lib.repeatL s.data.toList c).toArray⟩) ∧ Below w.heap.size w w' := Any.strings_Repeat Tryd.lays105 Tryd.Builder_Extra_105 s c w hc hlen
def Tryd.lays260_ren : Go.Shelf.Ren := ⟨fun | 260 => 92 | n => n, fun | 9 => 9 | 21 => 21 | 3 => 3 | 4 => 4 | 5 => 5 | 119 => 158 | 0 => 0 | 46 => 72 | 139 => 161 | 138 => 160 | n => n, fun | 3 => 1 | 4 => 2 | n => n⟩
theorem Tryd.lays260 : Go.Proofs.Lays.n260 Tryd.prog Tryd.lays260_ren := {
  mixed := by kernel_rfl
  f260 := Tryd.func92.trans (congrArg some (by kernel_rfl))
  t0 := Tryd.underlying0
  a0 := Tryd.isAgg0
  z0 := Tryd.sizeOf0
  v0 := Tryd.zeroValue0
  t3 := Tryd.underlying3
  a3 := Tryd.isAgg3
  z3 := Tryd.sizeOf3
  v3 := Tryd.zeroValue3
  t4 := Tryd.underlying4
  a4 := Tryd.isAgg4
  z4 := Tryd.sizeOf4
  v4 := Tryd.zeroValue4
  t5 := Tryd.underlying5
  a5 := Tryd.isAgg5
  z5 := Tryd.sizeOf5
  v5 := Tryd.zeroValue5
  t9 := Tryd.underlying9
  a9 := Tryd.isAgg9
  z9 := Tryd.sizeOf9
  v9 := Tryd.zeroValue9
  t21 := Tryd.underlying21
  a21 := Tryd.isAgg21
  z21 := Tryd.sizeOf21
  v21 := Tryd.zeroValue21
  t46 := Tryd.underlying72
  a46 := Tryd.isAgg72
  z46 := Tryd.sizeOf72
  v46 := Tryd.zeroValue72
  t119 := Tryd.underlying158
  a119 := Tryd.isAgg158
  z119 := Tryd.sizeOf158
  t138 := Tryd.underlying160
  a138 := Tryd.isAgg160
  z138 := Tryd.sizeOf160
  v138 := Tryd.zeroValue160
  t139 := Tryd.underlying161
  a139 := Tryd.isAgg161
  z139 := Tryd.sizeOf161
  v139 := Tryd.zeroValue161
  g3 := by kernel_rfl
  g4 := by kernel_rfl }
open Go.RowKit Go.Lib in
theorem Tryd.utf8_decodeRuneInStringSlow (s : ByteArray) (w : World) (hT : Lib.Utf8Tabs 1 2 w) :
    Calls Tryd.prog 92 #[.string s] w fun e w' => e = .returned (.tuple #[.int .i32 (Lib.decodeGo s).1, .int .i64 (Lib.decodeGo s).2]) ∧ Below w.heap.size w w' := Any.utf8_decodeRuneInStringSlow Tryd.lays260 s w hT
open Go.RowKit Go.Lib in
theorem Tryd.utf8_DecodeRuneInString (s : ByteArray) (w : World) (hT : Lib.Utf8Tabs 1 2 w) :
    Calls Tryd.prog 88 #[.string s] w fun e w' => e = .returned (.tuple #[.int .i32 (Lib.decodeGo s).1, .int .i64 (Lib.decodeGo s).2]) ∧ Below w.heap.size w w' := Any.utf8_DecodeRuneInString Tryd.lays197 s w hT
def Tryd.lays271_ren : Go.Shelf.Ren := ⟨fun | 271 => 102 | 120 => 104 | 197 => 88 | 260 => 92 | n => n, fun | 9 => 9 | 21 => 21 | 3 => 3 | 4 => 4 | 5 => 5 | 105 => 148 | 119 => 158 | 0 => 0 | 46 => 72 | 139 => 161 | 138 => 160 | n => n, fun | 3 => 1 | 4 => 2 | n => n⟩
theorem Tryd.lays271 : Go.Proofs.Lays.n271 Tryd.prog Tryd.lays271_ren := {
  mixed := by kernel_rfl
  f120 := Tryd.func104.trans (congrArg some (by kernel_rfl))
  f197 := Tryd.func88.trans (congrArg some (by kernel_rfl))
  f260 := Tryd.func92.trans (congrArg some (by kernel_rfl))
  f271 := Tryd.func102.trans (congrArg some (by kernel_rfl))
  t0 := Tryd.underlying0
  a0 := Tryd.isAgg0
  z0 := Tryd.sizeOf0
  v0 := Tryd.zeroValue0
  t3 := Tryd.underlying3
  a3 := Tryd.isAgg3
  z3 := Tryd.sizeOf3
  v3 := Tryd.zeroValue3
  t4 := Tryd.underlying4
  a4 := Tryd.isAgg4
  z4 := Tryd.sizeOf4
  v4 := Tryd.zeroValue4
  t5 := Tryd.underlying5
  a5 := Tryd.isAgg5
  z5 := Tryd.sizeOf5
  v5 := Tryd.zeroValue5
  t9 := Tryd.underlying9
  a9 := Tryd.isAgg9
  z9 := Tryd.sizeOf9
  v9 := Tryd.zeroValue9
  t21 := Tryd.underlying21
  a21 := Tryd.isAgg21
  z21 := Tryd.sizeOf21
  v21 := Tryd.zeroValue21
  t46 := Tryd.underlying72
  a46 := Tryd.isAgg72
  z46 := Tryd.sizeOf72
  v46 := Tryd.zeroValue72
  t105 := Tryd.underlying148
  a105 := Tryd.isAgg148
  z105 := Tryd.sizeOf148
  v105 := Tryd.zeroValue148
  t119 := Tryd.underlying158
  a119 := Tryd.isAgg158
  z119 := Tryd.sizeOf158
  t138 := Tryd.underlying160
  a138 := Tryd.isAgg160
  z138 := Tryd.sizeOf160
  v138 := Tryd.zeroValue160
  t139 := Tryd.underlying161
  a139 := Tryd.isAgg161
  z139 := Tryd.sizeOf161
  v139 := Tryd.zeroValue161
  g3 := by kernel_rfl
  g4 := by kernel_rfl }
open Go.RowKit Go.Lib in
theorem Tryd.utf8_DecodeLastRuneInString (s : ByteArray) (w : World) (hs : s.size ≤ 9223372036854775807) (hT : Lib.Utf8Tabs 1 2 w) :
    Calls Tryd.prog 102 #[.string s] w fun e w' => e = .returned (.tuple #[.int .i32 (Lib.decodeLastL s.data.toList).1, .int .i64 (Lib.decodeLastL s.data.toList).2]) ∧ Below w.heap.size w w' := Any.utf8_DecodeLastRuneInString Tryd.lays271 s w hs hT
def Tryd.lays108_ren : Go.Shelf.Ren := ⟨fun | 108 => 127 | n => n, fun | 28 => 90 | 3 => 3 | 0 => 0 | 4 => 4 | n => n, fun | n => n⟩
theorem Tryd.lays108 : Go.Proofs.Lays.n108 Tryd.prog Tryd.lays108_ren := {
  mixed := by kernel_rfl
  f108 := Tryd.func127.trans (congrArg some (by kernel_rfl))
  t0 := Tryd.underlying0
  a0 := Tryd.isAgg0
  z0 := Tryd.sizeOf0
  v0 := Tryd.zeroValue0
  t3 := Tryd.underlying3
  a3 := Tryd.isAgg3
  z3 := Tryd.sizeOf3
  v3 := Tryd.zeroValue3
  t4 := Tryd.underlying4
  a4 := Tryd.isAgg4
  z4 := Tryd.sizeOf4
  v4 := Tryd.zeroValue4
  t28 := Tryd.underlying90
  a28 := Tryd.isAgg90
  z28 := Tryd.sizeOf90
  v28 := Tryd.zeroValue90 }
open Go.Lib in
theorem Tryd.slices_Index_int (b off n c : Nat) (zs : List Int) (x : Int) (w : World) (hz : n ≤ zs.length) (hbig : n ≤ 9223372036854775807) (hc : ∀ j, j < zs.length → w.cell? ⟨b, off + j, none⟩ = some (.int .i64 (zs.getD j 0))) :
    Calls Tryd.prog 127 #[.slice (some ⟨b, off, none⟩) n c, .int .i64 x] w fun e w' => e = .returned (.int .i64 (Lib.idxOf (zs.take n) x)) ∧ w' = w := Any.slices_Index_int Tryd.lays108 b off n c zs x w hz hbig hc
open Go.Lib in
theorem Tryd.slices_Index_int_empty (a : Option Addr) (c : Nat) (x : Int) (w : World) :
    Calls Tryd.prog 127 #[.slice a 0 c, .int .i64 x] w fun e w' => e = .returned (.int .i64 (Lib.idxOf [] x)) ∧ w' = w := Any.slices_Index_int_empty Tryd.lays108 a c x w
def Tryd.lays107_ren : Go.Shelf.Ren := ⟨fun | 107 => 126 | 108 => 127 | n => n, fun | 28 => 90 | 3 => 3 | 4 => 4 | 0 => 0 | n => n, fun | n => n⟩
theorem Tryd.lays107 : Go.Proofs.Lays.n107 Tryd.prog Tryd.lays107_ren := {
  mixed := by kernel_rfl
  f107 := Tryd.func126.trans (congrArg some (by kernel_rfl))
  f108 := Tryd.func127.trans (congrArg some (by kernel_rfl))
  t0 := Tryd.underlying0
  a0 := Tryd.isAgg0
  z0 := Tryd.sizeOf0
  v0 := Tryd.zeroValue0
  t3 := Tryd.underlying3
  a3 := Tryd.isAgg3
  z3 := Tryd.sizeOf3
  v3 := Tryd.zeroValue3
  t4 := Tryd.underlying4
  a4 := Tryd.isAgg4
  z4 := Tryd.sizeOf4
  v4 := Tryd.zeroValue4
  t28 := Tryd.underlying90
  a28 := Tryd.isAgg90
  z28 := Tryd.sizeOf90
  v28 := Tryd.zeroValue90 }
open Go.Lib in
theorem Tryd.slices_Contains_int (b off n c : Nat) (zs : List Int) (x : Int) (w : World) (hz : n ≤ zs.length) (hbig : n ≤ 9223372036854775807) (hc : ∀ j, j < zs.length → w.cell? ⟨b, off + j, none⟩ = some (.int .i64 (zs.getD j 0))) :
    Calls Tryd.prog 126 #[.slice (some ⟨b, off, none⟩) n c, .int .i64 x] w fun e w' => e = .returned (.bool ((zs.take n).contains x)) ∧ w' = w := Any.slices_Contains_int Tryd.lays107 b off n c zs x w hz hbig hc
open Go.Lib in
theorem Tryd.slices_Contains_int_empty (a : Option Addr) (c : Nat) (x : Int) (w : World) :
    Calls Tryd.prog 126 #[.slice a 0 c, .int .i64 x] w fun e w' => e = .returned (.bool false) ∧ w' = w := Any.slices_Contains_int_empty Tryd.lays107 a c x w
end Go.Proofs
end

section
/- Package variables that hold rows of numbers, as the rows tell; a law whose function reads them. -/
namespace Go.Proofs.YthcngbbceahdlaaDoor.V
open Go Go.RowKit
set_option linter.unusedVariables false
set_option linter.unusedSimpArgs false
theorem laid_ints {P : Program} {w : World} {nm : String} {g t e n base fuel : Nat} {k : IntKind} {l : List Int} {cs : Array Value} {H : Type} {enc : TypeId × Value → H} {spare : Nat → Bool} {held : Bool} {ps : List MemPlace} (hg : P.globalNamed nm = some g) (hu : P.underlying t = some (.array n e)) (hi : P.underlying e = some (.int k)) (hc : P.cellsOf e = 1) (hv : w.var? P nm = some cs)
    (hd : DataW.trod enc P w base spare held fuel t cs.toList = some (.agg (l.map fun x => .lit (.int k x)), ps)) : ∀ (j : Nat) x, l[j]? = some x → w.cell? ⟨g, j, none⟩ = some (.int k x) := by
  obtain ⟨xs, m, rfl, hx, hl, hn, hel⟩ := DataW.trod_array hu hd
  simp only [Prod.mk.injEq, DataW.agg.injEq] at hx
  intro j x hj
  have h1 : (xs.map (·.1))[j]? = some (.lit (.int k x)) := by rw [← hx.1, List.getElem?_map, hj]; rfl
  rw [List.getElem?_map, Option.map_eq_some_iff] at h1
  obtain ⟨y, hy, hy2⟩ := h1
  have hjn : j < n := by rw [← hn]; exact (List.getElem?_eq_some_iff.1 hy).1
  have h2 := hel j hjn
  rw [hy, hc] at h2
  obtain ⟨q, hq, hq2, _⟩ := DataW.trod_int hi h2
  rw [hq2] at hy2
  simp only [DataW.lit.injEq, Lit.int.injEq, true_and] at hy2
  subst hy2
  have h3 : cs.toList[j]? = some (.int k q) := by
    have h4 : ((cs.toList.drop (j * 1)).take 1)[0]? = some (.int k q) := by rw [hq]; rfl
    simpa using h4
  rw [World.var?_cell hg hv j]
  simpa using h3
theorem flat_eI (k : IntKind) (l : List Int) : (l.map (eI k)).flatten = l.map (Sc.int k) := by
  induction l with
  | nil => rfl
  | cons x l ih => rw [List.map_cons, List.flatten_cons, ih]; rfl
theorem glrep {w : World} {g : Nat} {k : IntKind} {l : List Int} (h : ∀ (j : Nat) (x : Int), l[j]? = some x → w.cell? ⟨g, j, none⟩ = some (.int k x)) (hne : l ≠ []) : RepD w (fun b => b < w.heap.size) (.ref ((l.map (eI k)).flatten) 0) (.pointer (some ⟨g, 0, none⟩)) := by
  have key : ∀ (j : Nat) (sc : Sc), ((l.map (eI k)).flatten)[j]? = some sc → ∃ x : Int, l[j]? = some x ∧ sc = Sc.int k x := by
    intro j sc hj
    rw [flat_eI, List.getElem?_map, Option.map_eq_some_iff] at hj
    obtain ⟨x, hx, rfl⟩ := hj
    exact ⟨x, hx, rfl⟩
  have hb : g < w.heap.size := by
    cases l with
    | nil => exact absurd rfl hne
    | cons x l => exact cell?_lt (h 0 x rfl)
  refine .ref _ 0 g 0 (fun j => (w.cell? ⟨g, j, none⟩).getD undef) hb (fun j sc hj => ?_) (fun j sc hj => ?_)
  · obtain ⟨x, hx, rfl⟩ := key j sc hj
    rw [Nat.zero_add, h j x hx]; rfl
  · obtain ⟨x, hx, rfl⟩ := key j sc hj
    simp only [h j x hx, Option.getD_some]
    exact .int k x
/-- A law whose function reads package variables, out of what is shown of its function. -/
theorem Fun.lawG {P : Program} {gl : Gl} {f : FuncId} {xs : List Vb} {b : Bool} {vs : List Value} {w : World} (h : Fun P gl f (xs.map Va.b) (.bo b)) (hg : GlOk gl w (fun k => k < w.heap.size)) (hx : AtAll w xs vs) : Calls P f vs.toArray w fun e w1 => e = .returned (.bool b) ∧ Below w.heap.size w w1 := by
  obtain ⟨hl, hg2⟩ := hx.get
  refine (h.2 w (fun k => k < w.heap.size) vs.toArray (fun _ h => h) hg ⟨by simpa using hl, fun j x hj => ?_⟩).mono fun e w1 => ?_
  · rw [List.getElem?_map, Option.map_eq_some_iff] at hj
    obtain ⟨y, hj, rfl⟩ := hj
    have := hg2 j y hj
    show At w y _
    simpa [Array.getD_eq_getD_getElem?, List.getD] using this
  · rintro ⟨u, S1, rfl, _, _, hr, hb⟩
    refine ⟨?_, hb⟩
    cases hr with
    | d _ _ h => cases h with | bool _ => rfl
end Go.Proofs.YthcngbbceahdlaaDoor.V
end

section
/- A range over a function whose iterator turns blocks of its own: the statement, by what the iterator says and what a round keeps. -/
namespace Go.Proofs.YthcngbbceahdlaaDoor.V
open Go Go.RowKit
set_option linter.unusedVariables false
set_option linter.unusedSimpArgs false
/-- From one world to a later one: blocks of S lie as they lay. -/
structure Kp (S : Nat → Prop) (w w1 : World) : Prop where
  os : w1.os = w.os
  tape : w1.tape = w.tape
  output : w1.output = w.output
  size : w.heap.size ≤ w1.heap.size
  block : ∀ b, S b → b < w.heap.size → w1.heap[b]? = w.heap[b]?
theorem Kp.refl (S : Nat → Prop) (w : World) : Kp S w w := ⟨rfl, rfl, rfl, Nat.le_refl _, fun _ _ _ => rfl⟩
theorem Kp.trans {S : Nat → Prop} {w w1 w2 : World} (h : Kp S w w1) (h2 : Kp S w1 w2) : Kp S w w2 :=
  ⟨h2.os.trans h.os, h2.tape.trans h.tape, h2.output.trans h.output, Nat.le_trans h.size h2.size, fun b hb hl => (h2.block b hb (Nat.lt_of_lt_of_le hl h.size)).trans (h.block b hb hl)⟩
theorem Kp.mono {S S1 : Nat → Prop} {w w1 : World} (h : Kp S w w1) (hs : ∀ b, S1 b → b < w.heap.size → S b) : Kp S1 w w1 := ⟨h.os, h.tape, h.output, h.size, fun b hb hl => h.block b (hs b hb hl) hl⟩
theorem Kp.of_below {S : Nat → Prop} {w w1 : World} (h : Below w.heap.size w w1) : Kp S w w1 := ⟨h.os, h.tape, h.output, h.size, fun b _ hl => h.block b hl⟩
theorem Kp.below {S : Nat → Prop} {B : Nat} {w w1 : World} (h : Kp S w w1) (hs : ∀ b, b < B → S b) (hB : B ≤ w.heap.size) : Below B w w1 := ⟨h.os, h.tape, h.output, h.size, fun b hb => h.block b (hs b hb) (Nat.lt_of_lt_of_le hb hB)⟩
theorem Kp.alloc (S : Nat → Prop) (w : World) (o : Obj) : Kp S w (w.alloc o) := ⟨rfl, rfl, rfl, by simp, fun b _ hl => Below.heap_alloc w o b hl⟩
theorem Kp.putObj {S : Nat → Prop} (w : World) (l : Nat) (o : Obj) (h : ¬ S l) : Kp S w (w.putObj l o) := ⟨rfl, rfl, rfl, by rw [World.putObj_size]; exact Nat.le_refl _, fun b hb _ => World.putObj_heap_other (by rintro rfl; exact h hb)⟩
theorem Kp.setCell {S : Nat → Prop} (w : World) (b o : Nat) (v : Value) (h : ¬ S b) : Kp S w (w.setCell ⟨b, o, none⟩ v) := by
  refine ⟨rfl, rfl, rfl, by show w.heap.size ≤ (w.heap.modify _ _).size; rw [Array.size_modify]; exact Nat.le_refl _, fun k hk hl => ?_⟩
  exact Below.heap_setCell w ⟨b, o, none⟩ v k (by rintro rfl; exact h hk)
/-- What an iterator says: it hands over just these, one by one; between two rounds it turns the blocks of T alone, and lays new ones. -/
def Hands (P : Program) (k : FuncId) (lb : Array Value) (T : Nat → Prop) (xs : List Str) (enc : Str → Array Value) (w : World) : Prop :=
  ∀ (l : Nat) (J Jx : List Str → World → Prop) (W : World), Kp (fun _ => True) w W →
    (∀ pre W W', J pre W → Kp (fun b => ¬ T b) W W' → J pre W') →
    (∀ pre W W', Jx pre W → Kp (fun b => ¬ T b) W W' → Jx pre W') →
    (∀ pre x W, J pre W → pre ++ [x] <+: xs → YieldAt Fence.wide 0 P l (enc x) W fun e W' =>
      (e = .returned (.bool true) ∧ J (pre ++ [x]) W' ∧ Kp T W W') ∨ (e = .returned (.bool false) ∧ Jx (pre ++ [x]) W')) →
    J [] W →
    Calls P k (#[.func (.yield l) #[] #[]] ++ lb) W fun e W' => (∃ v, e = .returned v) ∧ (J xs W' ∨ ∃ pre, pre <+: xs ∧ Jx pre W')
/-- How a round's body may be left. -/
def handsPost (B : Nat) (I : List Str → World → Prop) (Ix : Code → List Str → World → Prop) (xs : List Str) (W : World) : Exit → Act → World → Prop
  | .normal, _, W' => Kp (fun b => B ≤ b) W W' ∧ I xs W'
  | .ret, _, W' => Kp (fun b => B ≤ b) W W' ∧ Ix .ret xs W'
  | .exit id, _, W' => Kp (fun b => B ≤ b) W W' ∧ Ix (.exit id) xs W'
  | _, _, _ => False
variable {P : Program}
theorem yieldAt_any {m n : Nat} {l : Nat} {args : Array Value} {W : World} {R : Ending → World → Prop} (h : YieldAt Fence.wide m P l args W R) : YieldAt Fence.wide n P l args W R := by
  obtain ⟨fn, tmps, assign, body, h1, h2, h3⟩ := h
  exact ⟨fn, tmps, assign, body, h1, h2, fun c cs _ => h3 c cs (room_wide _)⟩
set_option maxHeartbeats 1000000 in
/-- **The statement.** B: the heap's size where the loop begins, less what is the iterator's own: its blocks T lie from B on. -/
theorem wp_range {g : Operand} {ps : Array Tmp} {assign body : Code} {Q : Exit → Act → World → Prop} {a : Act} {w : World} {n B : Nat}
    {gf : Nat} {lb : Array Value} (hg : a.eval g = .func (.func gf) #[] lb) (eg : ∀ args w, (callFunc gf args).run P w = .ok (.enter gf args) w)
    {T : Nat → Prop} {xs : List Str} {enc : Str → Array Value} (hit : Hands P gf lb T xs enc w) (hT : ∀ b, T b → B ≤ b ∧ b < w.heap.size) (hps : ∀ x, (enc x).size = ps.size)
    (I : List Str → World → Prop) (Ix : Code → List Str → World → Prop)
    (hI : ∀ pre W W', I pre W → Kp (fun b => b < B) W W' → I pre W')
    (hIx : ∀ c pre W W', Ix c pre W → Kp (fun b => b < B) W W' → Ix c pre W')
    (hBw : B ≤ w.heap.size) (h0 : I [] w) (a₁ : Str → Act)
    (hassign : ∀ (l : Nat) (x : Str) (W : World) (K : Act → World → Prop), K (a₁ x) W →
      assign.wpIn (Fence.wide.inRound l) n P (Exit.then K (fun _ _ _ => False)) { tmps := (ps.zip (enc x)).foldl (fun t (p, v) => t.setIfInBounds p v) a.tmps, defers := [] } W)
    (hbody : ∀ (l : Nat) (pre : List Str) (x : Str) (W : World), I pre W → B ≤ W.heap.size → pre ++ [x] <+: xs → body.wpIn (Fence.wide.inRound l) n P (handsPost B I Ix (pre ++ [x]) W) (a₁ x) W)
    (hdone : ∀ (D : Nat) (W : World), I xs W → B ≤ D → W.heap[D]? = some (.deferred (some [])) → Q .normal { a with defers := { target := .collected D, args := #[] } :: a.defers } W)
    (hstop : ∀ (D : Nat) (c : Code) (pre : List Str) (W : World), Ix c pre W → pre <+: xs → B ≤ D → W.heap[D]? = some (.deferred (some [])) → c.wpIn Fence.wide n P Q { a with defers := { target := .collected D, args := #[] } :: a.defers } W) :
    (Code.rangeFunc g ps assign body).wpIn Fence.wide n P Q a w := by
  refine wpIn_rangeFunc ?_
  intro fn hfn
  obtain ⟨rec, hrec⟩ : ∃ rec : LoopState → Option Code → Loop, rec = fun st pe => { state := st, pending := pe, fn, tmps := a.tmps, params := ps, assign, body, defers := w.heap.size } := ⟨_, rfl⟩
  obtain ⟨W1, hW1⟩ : ∃ W1, (w.alloc (.deferred (some []))).alloc (.loop (rec .ready none)) = W1 := ⟨_, rfl⟩
  have k1 : Kp (fun _ => True) w W1 := by rw [← hW1]; exact (Kp.alloc _ _ _).trans (Kp.alloc _ _ _)
  have s1 : W1.heap.size = w.heap.size + 2 := by rw [← hW1]; simp
  have l1 : W1.heap[w.heap.size + 1]? = some (.loop (rec .ready none)) := by
    rw [← hW1]; have := World.alloc_heap_new (w.alloc (.deferred (some []))) (.loop (rec .ready none)); rwa [World.size_alloc] at this
  have d1 : W1.heap[w.heap.size]? = some (.deferred (some [])) := by
    rw [← hW1]; exact (Below.heap_alloc _ _ _ (by simp)).trans (World.alloc_heap_new w _)
  have i1 : I [] W1 := hI _ _ _ h0 (k1.mono fun _ _ _ => trivial)
  refine ⟨w.heap.size + 1, [{ target := .collected w.heap.size, args := #[] }], W1, { target := .fn (.func gf) lb, args := #[.func (.yield (w.heap.size + 1)) #[] #[]] }, W1, gf, #[.func (.yield (w.heap.size + 1)) #[] #[]] ++ lb, W1, ?_, ?_, ?_, ?_, (fun h => absurd h (by decide)), ?_⟩
  · rw [← hW1, hrec]; exact run_enterLoop_outer _ _ _ _ _
  · simp only [resolve, hg]
    simp [go_sem]
  · intro f' hf'; trivial
  · simp [invoke, go_sem, eg]
  · rw [callsIn_wide]
    have pb : ∀ (W : World) (o : Obj), Kp (fun b => b < B) W (W.putObj (w.heap.size + 1) o) := fun W o => .putObj _ _ _ (by omega)
    have nT : ∀ b, w.heap.size ≤ b → ¬ T b := fun b hb ht => by have := (hT b ht).2; omega
    have sub : ∀ b, b < B → ¬ T b := fun b hb ht => by have := (hT b ht).1; omega
    refine (hit (w.heap.size + 1)
      (fun pre W => I pre W ∧ W.heap[w.heap.size + 1]? = some (.loop (rec .ready none)) ∧ W.heap[w.heap.size]? = some (.deferred (some [])))
      (fun pre W => ∃ c, Ix c pre W ∧ W.heap[w.heap.size + 1]? = some (.loop (rec .done (some c))) ∧ W.heap[w.heap.size]? = some (.deferred (some [])))
      W1 k1 ?_ ?_ ?_ ⟨i1, l1, d1⟩).mono ?_
    · rintro pre W W' ⟨h1, h2, h3⟩ hk
      have q2 := (Array.getElem?_eq_some_iff.1 h2).1
      exact ⟨hI _ _ _ h1 (hk.mono fun b hb _ => sub b hb), (hk.block _ (nT _ (by omega)) q2).trans h2, (hk.block _ (nT _ (Nat.le_refl _)) (by omega)).trans h3⟩
    · rintro pre W W' ⟨c, h1, h2, h3⟩ hk
      have q2 := (Array.getElem?_eq_some_iff.1 h2).1
      exact ⟨c, hIx _ _ _ _ h1 (hk.mono fun b hb _ => sub b hb), (hk.block _ (nT _ (by omega)) q2).trans h2, (hk.block _ (nT _ (Nat.le_refl _)) (by omega)).trans h3⟩
    · rintro pre x W ⟨hi, hl, hk⟩ hpre
      have hlt : w.heap.size + 1 < W.heap.size := (Array.getElem?_eq_some_iff.1 hl).1
      have hy := run_yield (P := P) (args := enc x) hl (by rw [hrec]; exact hps x)
      rw [hrec] at hy
      refine yieldAt_any (m := n) ⟨fn, _, assign, body, hy, roundIn_of_wpIn hfn (hassign _ x W _ ⟨_, run_beginRound hl (by rw [hrec]), ?_⟩)⟩
      obtain ⟨W2, hW2⟩ : ∃ W2, W.putObj (w.heap.size + 1) (.loop { rec .ready none with state := .busy }) = W2 := ⟨_, rfl⟩
      have p2 : Kp (fun b => b ≠ w.heap.size + 1) W W2 := by rw [← hW2]; exact .putObj _ _ _ (fun h => h rfl)
      have z2 : W2.heap.size = W.heap.size := by rw [← hW2]; exact World.putObj_size
      have l2 : W2.heap[w.heap.size + 1]? = some (.loop { rec .ready none with state := .busy }) := by rw [← hW2]; exact World.putObj_heap_same hlt
      have d2 : W2.heap[w.heap.size]? = some (.deferred (some [])) := (p2.block _ (by omega) (by omega)).trans hk
      have i2 : I pre W2 := hI _ _ _ hi (p2.mono fun b hb _ => by omega)
      rw [hW2]
      refine wpIn_mono (hbody _ pre x _ i2 (by omega) hpre) ?_
      have fin : ∀ (jump : Option Code) (W3 : World), Kp (fun b => B ≤ b) W2 W3 →
          (Instr.endRound (w.heap.size + 1) jump).run P W3 = .ok (.bool jump.isNone) (W3.putObj (w.heap.size + 1) (.loop (rec (if jump.isNone then .ready else .done) jump))) ∧
          (W3.putObj (w.heap.size + 1) (.loop (rec (if jump.isNone then .ready else .done) jump))).heap[w.heap.size + 1]? = some (.loop (rec (if jump.isNone then .ready else .done) jump)) ∧
          (W3.putObj (w.heap.size + 1) (.loop (rec (if jump.isNone then .ready else .done) jump))).heap[w.heap.size]? = some (.deferred (some [])) ∧
          Kp T W (W3.putObj (w.heap.size + 1) (.loop (rec (if jump.isNone then .ready else .done) jump))) := fun jump W3 hk3 => by
        have hl3 := (hk3.block _ (by omega) (by omega)).trans l2
        have hd3 := (hk3.block _ hBw (by omega)).trans d2
        have := run_endRound (P := P) jump hl3
        rw [hrec] at this ⊢
        refine ⟨this, World.putObj_heap_same (Array.getElem?_eq_some_iff.1 hl3).1, (World.putObj_heap_other (by omega)).trans hd3, ((p2.mono fun b hb _ => ?_).trans (hk3.mono fun b hb _ => (hT b hb).1)).trans (.putObj _ _ _ fun hb => ?_)⟩
        · have := (hT b hb).2; omega
        · have := (hT _ hb).2; omega
      rintro e a3 W3 hp
      cases e with
      | normal =>
        obtain ⟨hk3, hi3⟩ := hp
        obtain ⟨hr, hl4, hk4, ht4⟩ := fin none W3 hk3
        exact ⟨_, _, hr, .inl ⟨rfl, ⟨hI _ _ _ hi3 (pb _ _), hl4, hk4⟩, ht4⟩⟩
      | ret =>
        obtain ⟨hk3, hi3⟩ := hp
        obtain ⟨hr, hl4, hk4, ht4⟩ := fin (some .ret) W3 hk3
        exact ⟨_, _, hr, .inr ⟨rfl, .ret, hIx _ _ _ _ hi3 (pb _ _), hl4, hk4⟩⟩
      | exit id =>
        obtain ⟨hk3, hi3⟩ := hp
        obtain ⟨hr, hl4, hk4, ht4⟩ := fin (some (.exit id)) W3 hk3
        exact ⟨_, _, hr, .inr ⟨rfl, .exit id, hIx _ _ _ _ hi3 (pb _ _), hl4, hk4⟩⟩
      | goto t => exact hp.elim
      | panic ch => exact hp.elim
      | outgrown => exact hp.elim
    · rintro e W2 ⟨⟨v, rfl⟩, (⟨hi, hl, hk⟩ | ⟨pre, hp, c, hi, hl, hk⟩)⟩
      · have := run_endLoop (P := P) hl (by rw [hrec]; simp)
        rw [hrec] at this
        exact ⟨none, _, this, hdone _ _ (hI _ _ _ hi (pb _ _)) hBw ((World.putObj_heap_other (by omega)).trans hk)⟩
      · have := run_endLoop (P := P) hl (by rw [hrec]; simp)
        rw [hrec] at this
        exact ⟨some c, _, this, hstop _ c pre _ (hIx _ _ _ _ hi (pb _ _)) hp hBw ((World.putObj_heap_other (by omega)).trans hk)⟩
/-- A contract of one's own typing whose function calls printed ones. -/
theorem Fun.flatG {gl : Gl} {f : FuncId} {xs : List Va} {y : Va} {v : Value} (hc : callable P f = true) (hy : ∀ w S, RepV w S (fun _ => none) (fun _ => none) y v) (h : ∀ w (S : Nat → Prop) vs, (∀ k, S k → k < w.heap.size) → GlOk gl w S → RepA w S xs vs → Calls P f vs w fun e w1 => e = .returned v ∧ Below w.heap.size w w1) : Fun P gl f xs y := by
  refine ⟨hc, fun w S vs hS hgl hA => (h w S vs hS hgl hA).mono fun e w1 => ?_⟩
  rintro ⟨rfl, hb⟩
  exact ⟨v, S, rfl, fun _ h => h, fun k hk => ⟨.inl hk, Nat.lt_of_lt_of_le (hS k hk) hb.size⟩, hy _ _, hb⟩
/-- A new row, as one that nobody changes. -/
theorem FunO.frozen {gl : Gl} {f : FuncId} {xs : List Va} {st : Nat} {rows : List (List Sc)} (h : FunO P gl f xs st rows) : Fun P gl f xs (.b (.s (.d (.sl rows)))) := by
  refine ⟨h.1, fun w S vs hS hgl hA => (h.2 w S vs hS hgl hA).mono fun e w1 => ?_⟩
  rintro ⟨u, S1, ρ1, rfl, k1, k2, k3, k5, k4⟩
  have hbk := k3.blk 0 ⟨st, rows.map (fun r => r.map Lc.d), false⟩ (by simp [updG])
  refine ⟨u, fun k => S1 k ∨ ρ1 0 = some k, rfl, fun k hk => .inl (k1 k hk), fun k hk => ?_, ?_, k4⟩
  · rcases hk with hk | hk
    · exact k2 k hk
    · exact ⟨.inr (k3.own 0 k hk), k3.bound hk⟩
  · refine .d _ _ ?_
    cases k5 with
    | own _ _ e0 _ hG0 hn hone hh =>
      simp only [updG, if_true, Option.some.injEq] at hG0
      subst hG0
      obtain ⟨a, c, rfl, hd⟩ := hh (by simp)
      have hrl : ∀ r, r ∈ rows → r.length = st := fun r hr => by have := hbk.1 (r.map Lc.d) (List.mem_map.2 ⟨r, hr, rfl⟩); simpa using this
      rcases hd with ⟨h0, rfl⟩ | ⟨b, arr, ty, fz, h1, rfl, h3, h4, h5⟩
      · obtain rfl : rows = [] := List.length_eq_zero_iff.1 h0
        exact .sl [] a 0 0 0 0 (fun _ => undef) (by simp) (fun _ => rfl) (fun r hr => by cases hr) (fun h => absurd rfl h) (fun j sc h => by simp at h) (fun j sc h => by simp at h)
      · rcases hbk.2 with ⟨g1, _⟩ | ⟨b1, arr1, ty1, fz1, g1, g2, g3, g4, g5⟩
        · rw [h1] at g1; cases g1
        · rw [h1] at g1; cases g1
          rw [h4] at g3; cases g3
          have key : ∀ (j : Nat) sc, rows.flatten[j]? = some sc → ∃ v, arr[j]? = some v ∧ RepD w1 S1 sc v := by
            intro j sc hj
            obtain ⟨v, q1, q2⟩ := g5 j (.d sc) (by rw [map_d_flatten, List.getElem?_map, hj]; rfl)
            cases q2 with | d _ _ q2 => exact ⟨v, q1, q2⟩
          refine .sl rows _ c st b 0 (fun j => arr.getD j undef) h3 (fun h => by cases h) hrl (fun _ => ⟨rfl, .inr h1⟩) (fun j sc hj => ?_) (fun j sc hj => ?_)
          · obtain ⟨v, q1, q2⟩ := key j sc hj
            rw [Nat.zero_add]
            simp [World.cell?, h4, q1, Array.getD_eq_getD_getElem?]
          · obtain ⟨v, q1, q2⟩ := key j sc hj
            rw [Array.getD_eq_getD_getElem?, q1]
            exact q2.mono (fun k hk => .inl hk) (fun _ _ => rfl)
theorem GlOk.later {gl : Gl} {w w1 : World} {S : Nat → Prop} (hS : ∀ k, S k → k < w.heap.size) (hG : GlOk gl w S) (hb : Below w.heap.size w w1) : GlOk gl w1 S := fun g cs hg => (hG g cs hg).mono (fun _ h => h) (fun k hk => hb.block k (hS k hk))
theorem Fun.boolAt {gl : Gl} {f : FuncId} {xs : List Va} {b : Bool} {w w1 : World} {S : Nat → Prop} {vs : Array Value} (h : Fun P gl f xs (.bo b)) (hS : ∀ k, S k → k < w.heap.size) (hG : GlOk gl w S) (hb : Below w.heap.size w w1) (hA : RepA w1 S xs vs) : Calls P f vs w1 fun e w' => e = .returned (.bool b) ∧ Below w1.heap.size w1 w' :=
  (h.2 w1 S vs (fun k hk => Nat.lt_of_lt_of_le (hS k hk) hb.size) (hG.later hS hb) hA).mono fun e w' => by
    rintro ⟨u, S1, rfl, _, _, hr, hb⟩
    refine ⟨?_, hb⟩
    cases hr with
    | d _ _ h => cases h with | bool _ => rfl
theorem repA_str {w : World} {S : Nat → Prop} (x : List UInt8) : RepA w S [.b (.s (.d (.str x)))] #[strV x] := by
  refine ⟨rfl, fun j y hj => ?_⟩
  cases j with
  | zero => simp only [List.getElem?_cons_zero, Option.some.injEq] at hj; subst hj; exact .d _ _ (.str _)
  | succ j => simp at hj
/-- A package variable that holds a type's handle. -/
theorem ifa_one {w : World} {S : Nat → Prop} {t : TypeId} {x : Sc} {u : Value} (h : RepD w S (.ifc t true [x]) u) : ∃ v, u = .iface t (.agg #[v]) ∧ RepD w S x v := by
  cases h with
  | ifa _ _ vs hl hu =>
    obtain ⟨vs⟩ := vs
    match vs, hl with
    | [v], _ => exact ⟨v, rfl, hu 0 x rfl⟩
theorem ifa_two {w : World} {S : Nat → Prop} {t : TypeId} {x y : Sc} {u : Value} (h : RepD w S (.ifc t true [x, y]) u) : ∃ v v2, u = .iface t (.agg #[v, v2]) ∧ RepD w S x v ∧ RepD w S y v2 := by
  cases h with
  | ifa _ _ vs hl hu =>
    obtain ⟨vs⟩ := vs
    match vs, hl with
    | [v, v2], _ => exact ⟨v, v2, rfl, hu 0 x rfl, hu 1 y rfl⟩
theorem ifa_none {w : World} {S : Nat → Prop} {t : TypeId} {u : Value} (h : RepD w S (.ifc t true []) u) : u = .iface t (.agg #[]) := by
  cases h with
  | ifa _ _ vs hl hu =>
    obtain ⟨vs⟩ := vs
    match vs, hl with
    | [], _ => rfl
theorem repD_int {w : World} {S : Nat → Prop} {k : IntKind} {n : Int} {u : Value} (h : RepD w S (.int k n) u) : u = .int k n := by cases h; rfl
theorem gl_handle {gl : Gl} {w : World} {S : Nat → Prop} {g t b o : Nat} (hG : GlOk gl w S) (h : gl g = some [.ifc t true [.z (.hnd b o)]]) : w.cell? ⟨g, 0, none⟩ = some (.iface t (.agg #[.pointer (some ⟨b, o, none⟩)])) := by
  have h1 := hG g _ h
  cases h1 with
  | ref _ _ b1 o1 us hS hcell hu =>
    have h2 := hu 0 _ rfl
    obtain ⟨v, h3, h4⟩ := ifa_one h2
    have h5 := hcell 0 _ rfl
    rw [h3] at h5
    cases h4 with
    | z _ => exact h5
/-- Two plain values, handed back, or handed in. -/
theorem repV_two {w : World} {S : Nat → Prop} {x y : Sc} {u v : Value} (h1 : RepD w S x u) (h2 : RepD w S y v) : RepV w S (fun _ => none) (fun _ => none) (.tup [.s (.d x), .s (.d y)]) (.tuple #[u, v]) := by
  refine ⟨_, rfl, rfl, fun j z hj => ?_⟩
  match j, hj with
  | 0, hj => cases hj; exact .d _ _ h1
  | 1, hj => cases hj; exact .d _ _ h2
theorem repA_two {w : World} {S : Nat → Prop} {x y : Va} {u v : Value} (h1 : RepV w S (fun _ => none) (fun _ => none) x u) (h2 : RepV w S (fun _ => none) (fun _ => none) y v) : RepA w S [x, y] #[u, v] := by
  refine ⟨rfl, fun j z hj => ?_⟩
  match j, hj with
  | 0, hj => cases hj; exact h1
  | 1, hj => cases hj; exact h2
theorem Fun.strInt {gl : Gl} {f : FuncId} {xs : List Va} {s : List UInt8} {k : IntKind} {n : Int} {w w1 : World} {S : Nat → Prop} {vs : Array Value} (h : Fun P gl f xs (.tup [.s (.d (.str s)), .s (.d (.int k n))])) (hS : ∀ k, S k → k < w.heap.size) (hG : GlOk gl w S) (hb : Below w.heap.size w w1) (hA : RepA w1 S xs vs) : Calls P f vs w1 fun e w' => e = .returned (.tuple #[strV s, .int k n]) ∧ Below w1.heap.size w1 w' :=
  (h.2 w1 S vs (fun k hk => Nat.lt_of_lt_of_le (hS k hk) hb.size) (hG.later hS hb) hA).mono fun e w' => by
    rintro ⟨u, S1, rfl, _, _, hr, hb⟩
    refine ⟨?_, hb⟩
    obtain ⟨vs, rfl, hl, hr⟩ := hr
    obtain ⟨vs⟩ := vs
    match vs, hl with
    | [a, b], _ =>
      have h1 := hr 0 _ rfl
      have h2 := hr 1 _ rfl
      cases h1 with
      | d _ _ h1 => cases h2 with
        | d _ _ h2 => cases h1; cases h2; rfl
/-- A row of texts that is handed in. -/
theorem rep_strs {w : World} {S : Nat → Prop} {l : List (List UInt8)} {v : Value} (hS : ∀ k, S k → k < w.heap.size) (h : RepV w S (fun _ => none) (fun _ => none) (.b (.s (.d (.sl (l.map eS))))) v) :
    ∃ A b o c, v = .slice A l.length c ∧ (l ≠ [] → A = some ⟨b, o, none⟩) ∧ (∀ (j : Nat) x, l[j]? = some x → w.cell? ⟨b, o + j, none⟩ = some (strV x)) ∧ (l ≠ [] → b < w.heap.size) ∧ l.length ≤ c := by
  have hfl : (l.map eS).flatten = l.map Sc.str := by
    clear h
    induction l with
    | nil => rfl
    | cons x l ih => rw [List.map_cons, List.flatten_cons, ih]; rfl
  cases h with
  | d _ _ h =>
    cases h with
    | sl _ a c st b o us hc h0 hst ha hcell hu =>
      rw [List.length_map] at hc
      refine ⟨a, b, o, c, by rw [List.length_map], fun hne => (ha (by simpa using hne)).1, fun j x hj => ?_, fun hne => hS _ (ha (by simpa using hne)).2, hc⟩
      have hj2 : (l.map eS).flatten[j]? = some (.str x) := by rw [hfl, List.getElem?_map, hj]; rfl
      rw [hcell j _ hj2]
      have := hu j _ hj2
      generalize us j = q at this
      cases this; rfl
end Go.Proofs.YthcngbbceahdlaaDoor.V
end
