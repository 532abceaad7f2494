/- Go functions compute what Lean functions do. -/
import Derived.Test.YtdcokepmblcdmaaDoorQNameMarksB
import Derived.Lib.Bytealg
import Derived.Shelf.Strings.Builder1
import Derived.Shelf.Strings.Builder2
import Derived.Shelf.Strings.OnBuilder
import Derived.Shelf.Small.Strs
import Derived.Shelf.Small.Wraps
import Derived.Shelf.Strings.BuilderF
import Derived.Shelf.Strings.BuilderK
import Derived.Shelf.Strings.Builder2Cap
import Derived.Shelf.Strings.Search1
import Derived.Shelf.Strings.Search2
import Derived.Shelf.Strings.Search3
import Derived.Shelf.Strings.Cut
import Derived.Shelf.LaysM
import Derived.Shelf.Strings.Shaped
import Derived.Shelf.Strings.Prefix
import Derived.Shelf.Unicode.Decode
import Derived.Shelf.Unicode.DecodeSlow
import Derived.Shelf.Strings.BuilderCap
import Derived.Test.YtdcokepmblcdmaaDoorProg
import Derived.Below
import Derived.OwnWalk
import Derived.Orders
import Derived.WalkKit
import Derived.Laws.Slices
import Derived.OpenShut
import Derived.FnData
import Derived.LaidMore
import Derived.MakeChecks
import Derived.RangeFuncKeeps
import Derived.RangeFuncCalls
import Derived.RangeFuncLeaves
import Derived.LoopNIn
import Derived.LoopIn
import Derived.OwnWalkIn
import Derived.TacticsInMore
import Derived.Deep.Draws
import Derived.Laws.BytesArg
import Derived.Laws.MakeOwn
import Derived.Laws.OwnMore
import Derived.Deep.OwnRows
import Derived.Tactics
import Derived.Lib.ConvBytes
import Derived.KernelRfl
import Derived.RowKit3
import Derived.Deep.LoopGhost
import Derived.Deep.QuietTactic
import Derived.BigQuiet
import Derived.WideLaws
import Derived.Deep.DeepCutAuto
import Derived.Deep.CutBlock
import Derived.Deep.RegionHeld3
import Derived.Laws.Rows
import Derived.Lib.AppendStr
import Derived.ArgAppend
import Derived.Laws.BitsLemmas
import Derived.RowKit
section
/- What Go functions compute, as Lean functions. -/
namespace Go.Proofs.YtdcokepmblcdmaaDoor.V
open Go Go.RowKit
set_option linter.unusedVariables false
set_option linter.unusedSimpArgs false
set_option maxHeartbeats 1000000
abbrev glP : Gl := fun _ => none
structure api_Ref where
  Repo : Str
  Tag : Str
  Digest : Str
deriving DecidableEq, Inhabited
def e_api_Ref (x : api_Ref) : List Sc := [(.str x.Repo), (.str x.Tag), (.str x.Digest)]
theorem e_api_Ref_len (x : api_Ref) : (e_api_Ref x).length = 3 := rfl
def W_api_Ref (x : api_Ref) : Prop := x.Repo.length ≤ 9223372036854775807 ∧ x.Tag.length ≤ 9223372036854775807 ∧ x.Digest.length ≤ 9223372036854775807
def f_internal_stringslite_Index (s sub : Str) : Option Int := match sub with
  | [c] => some (Lib.indexByte s c)
  | _ => none
def f_internal_stringslite_IndexByte (s : Str) (c : Int) : Option Int := some (Lib.indexByte s c.toNat.toUInt8)
def f_law03_short (s : Str) : Option (Str) :=
  gd (0 ≤ (if 220 < (s.length : Int) then 220 else (s.length : Int)) ∧ (if 220 < (s.length : Int) then 220 else (s.length : Int)) ≤ (s.length : Int)) <|
  some (cut s 0 (if 220 < (s.length : Int) then 220 else (s.length : Int)))
def f_internal_stringslite_HasPrefix (s : Str) (prefixv : Str) : Option (Bool) :=
  gd ((decide ((s.length : Int) ≥ (prefixv.length : Int))) = true → 0 ≤ (prefixv.length : Int) ∧ (prefixv.length : Int) ≤ (s.length : Int)) <|
  some ((decide ((s.length : Int) ≥ (prefixv.length : Int))) && ((cut s 0 (prefixv.length : Int)) == prefixv))
def f_internal_stringslite_CutPrefix (s : Str) (prefixv : Str) : Option (Str × Bool) :=
  (f_internal_stringslite_HasPrefix s prefixv).bind fun t =>
  if (!t) then
    some (s, false)
  else
    gd (0 ≤ (prefixv.length : Int) ∧ (prefixv.length : Int) ≤ (s.length : Int)) <|
    some ((cut s (prefixv.length : Int) (s.length : Int)), true)
def f_strings_CutPrefix (s : Str) (prefixv : Str) : Option (Str × Bool) :=
  (f_internal_stringslite_CutPrefix s prefixv).bind fun t =>
  some (t.1, t.2)
def f_strings_IndexByte (s : Str) (c : Int) : Option (Int) :=
  (f_internal_stringslite_IndexByte s c).bind fun t =>
  some t
def f_octet_Bytes_l12 (s : Str) : Nat → Int → (List Int) → Option ((Int × (List Int)) ⊕ (Str × Int))
  | 0, _, _ => none
  | m_ + 1, v18, out =>
    if (decide (v18 < ((List.replicate (IntKind.i64.wrap ((s.length : Int).tdiv 2)).toNat 0).length : Int))) then
      (ix s (IntKind.i64.wrap (2 * v18))).bind fun c =>
      (f_strings_IndexByte ([48, 49, 50, 51, 52, 53, 54, 55, 56, 57, 97, 98, 99, 100, 101, 102] : Str) (bn c)).bind fun t =>
      (ix s (IntKind.i64.wrap ((IntKind.i64.wrap (2 * v18)) + 1))).bind fun c2 =>
      (f_strings_IndexByte ([48, 49, 50, 51, 52, 53, 54, 55, 56, 57, 97, 98, 99, 100, 101, 102] : Str) (bn c2)).bind fun t2 =>
      if ((decide (t < 0)) || (decide (t2 < 0))) then
        some (.inr (([] : Str), 4))
      else
        (ix out v18).bind fun x =>
        f_octet_Bytes_l12 s m_ (IntKind.i64.wrap (v18 + 1)) (out.set v18.toNat (IntKind.u8.wrap (IntKind.i64.wrap ((IntKind.i64.wrap (t * 16)) + t2))))
    else
      some (.inl (v18, out))
def f_octet_Bytes (s : Str) : Option (Str × Int) :=
  if (((s.length : Int).tmod 2) != 0) then
    some (([] : Str), 4)
  else
    gd (0 ≤ (IntKind.i64.wrap ((s.length : Int).tdiv 2)) ∧ (IntKind.i64.wrap ((s.length : Int).tdiv 2)) ≤ (IntKind.i64.wrap ((s.length : Int).tdiv 2)) ∧ (IntKind.i64.wrap ((s.length : Int).tdiv 2)) * 1 ≤ 140737488355328 ∧ (IntKind.i64.wrap ((s.length : Int).tdiv 2)) < 9223372036854775808) <|
    Option.bind (f_octet_Bytes_l12 s (((((List.replicate (IntKind.i64.wrap ((s.length : Int).tdiv 2)).toNat 0).length : Int) : Int) - 0).toNat + 1) 0 (List.replicate (IntKind.i64.wrap ((s.length : Int).tdiv 2)).toNat 0)) fun s2 : (Int × (List Int)) ⊕ (Str × Int) => match s2 with
    | .inr z => some z
    | .inl s3 =>
      some ((s3.2.map nb), 0)
def f_digest_Parse (s : Str) : Option (Str × Int) :=
  (f_strings_CutPrefix s ([115, 104, 97, 50, 53, 54, 58] : Str)).bind fun t =>
  (f_octet_Bytes t.1).bind fun t2 =>
  if (((!t.2) || (t2.2 != 0)) || ((t2.1.length : Int) != 32)) then
    some (([] : Str), 6)
  else
    some (t2.1, 0)
def f_name_small (c : Int) : Option (Bool) :=
  some (((decide (c ≥ 97)) && (decide (c ≤ 122))) || ((decide (c ≥ 48)) && (decide (c ≤ 57))))
def f_name_part_l21 (s : Str) : Nat → Int → Int → Option ((Int × Int) ⊕ (Bool))
  | 0, _, _ => none
  | m_ + 1, run, v8 =>
    if (decide (v8 < (s.length : Int))) then
      (ix s v8).bind fun c =>
      (f_name_small (bn c)).bind fun t =>
      if t then
        f_name_part_l21 s m_ 0 (IntKind.i64.wrap (v8 + 1))
      else
        if ((bn c) == 45) then
          gd ((decide (run > 0)) = true → 0 ≤ (IntKind.i64.wrap (v8 - 1)) ∧ (IntKind.i64.wrap (v8 - 1)) < (s.length : Int)) <|
          if ((decide (run > 0)) && ((bn (s.getD (IntKind.i64.wrap (v8 - 1)).toNat 0)) != 45)) then
            some (.inr false)
          else
            if (v8 == 0) then
              some (.inr false)
            else
              f_name_part_l21 s m_ (IntKind.i64.wrap (run + 1)) (IntKind.i64.wrap (v8 + 1))
        else
          gd ((((bn c) == 95) && (run == 1)) = true → 0 ≤ (IntKind.i64.wrap (v8 - 1)) ∧ (IntKind.i64.wrap (v8 - 1)) < (s.length : Int)) <|
          if ((((bn c) == 95) && (run == 1)) && ((bn (s.getD (IntKind.i64.wrap (v8 - 1)).toNat 0)) == 95)) then
            if (v8 == 0) then
              some (.inr false)
            else
              f_name_part_l21 s m_ (IntKind.i64.wrap (run + 1)) (IntKind.i64.wrap (v8 + 1))
          else
            if ((bn c) == 95) then
              if (decide (run > 0)) then
                some (.inr false)
              else
                if (v8 == 0) then
                  some (.inr false)
                else
                  f_name_part_l21 s m_ (IntKind.i64.wrap (run + 1)) (IntKind.i64.wrap (v8 + 1))
            else
              if ((bn c) == 46) then
                if (decide (run > 0)) then
                  some (.inr false)
                else
                  if (v8 == 0) then
                    some (.inr false)
                  else
                    f_name_part_l21 s m_ (IntKind.i64.wrap (run + 1)) (IntKind.i64.wrap (v8 + 1))
              else
                some (.inr false)
    else
      some (.inl (run, v8))
def f_name_part (s : Str) : Option (Bool) :=
  Option.bind (f_name_part_l21 s ((((s.length : Int) : Int) - 0).toNat + 1) 0 0) fun s2 : (Int × Int) ⊕ (Bool) => match s2 with
  | .inr z => some z
  | .inl s3 =>
    some ((!(s == ([] : Str))) && (s3.1 == 0))
def f_name_Repo (s : Str) : Option Bool := repoOf f_name_part s

def f_name_Tag_l8 (s : Str) : Nat → Int → Option ((Int) ⊕ (Bool))
  | 0, _ => none
  | m_ + 1, v7 =>
    if (decide (v7 < (s.length : Int))) then
      (ix s v7).bind fun c =>
      (f_name_small (bn c)).bind fun t =>
      if (((t || ((decide ((bn c) ≥ 65)) && (decide ((bn c) ≤ 90)))) || ((bn c) == 95)) || ((decide (v7 > 0)) && (((bn c) == 46) || ((bn c) == 45)))) then
        f_name_Tag_l8 s m_ (IntKind.i64.wrap (v7 + 1))
      else
        some (.inr false)
    else
      some (.inl v7)
def f_name_Tag (s : Str) : Option (Bool) :=
  Option.bind (f_name_Tag_l8 s ((((s.length : Int) : Int) - 0).toNat + 1) 0) fun s2 : (Int) ⊕ (Bool) => match s2 with
  | .inr z => some z
  | .inl s3 =>
    some ((!(s == ([] : Str))) && (decide ((s.length : Int) ≤ 128)))
def f_name_Print (rv : api_Ref) : Option (Str × Int) :=
  (f_digest_Parse rv.Digest).bind fun t =>
  (f_name_Repo rv.Repo).bind fun t2 =>
  if (!t2) then
    some (([] : Str), 1)
  else
    (gx (rv.Digest == ([] : Str)) (f_name_Tag rv.Tag) default).bind fun t3 =>
    if ((rv.Digest == ([] : Str)) && t3) then
      gd (rv.Repo.length + 1 ≤ 9223372036854775807) <|
      gd ((rv.Repo ++ ([58] : Str)).length + rv.Tag.length ≤ 9223372036854775807) <|
      some (((rv.Repo ++ ([58] : Str)) ++ rv.Tag), 0)
    else
      if ((rv.Tag == ([] : Str)) && (t.2 == 0)) then
        gd (rv.Repo.length + 1 ≤ 9223372036854775807) <|
        gd ((rv.Repo ++ ([64] : Str)).length + rv.Digest.length ≤ 9223372036854775807) <|
        some (((rv.Repo ++ ([64] : Str)) ++ rv.Digest), 0)
      else
        some (([] : Str), 1)
def f_ref03_Split_l10 (s : Str) (byv : Int) : Nat → Str → Int → (List Str) → Option (Str × Int × (List Str))
  | 0, _, _, _ => none
  | m_ + 1, now, i, out =>
    if (decide (i < (s.length : Int))) then
      (ix s i).bind fun c =>
      if ((bn c) == byv) then
        gd ((out.length + 1) * 16 ≤ 140737488355328) <|
        f_ref03_Split_l10 s byv m_ ([] : Str) (IntKind.i64.wrap (i + 1)) (out ++ ([now] : List Str))
      else
        gd (0 ≤ i ∧ i ≤ (IntKind.i64.wrap (i + 1)) ∧ (IntKind.i64.wrap (i + 1)) ≤ (s.length : Int)) <|
        gd (now.length + (cut s i (IntKind.i64.wrap (i + 1))).length ≤ 9223372036854775807) <|
        f_ref03_Split_l10 s byv m_ (now ++ (cut s i (IntKind.i64.wrap (i + 1)))) (IntKind.i64.wrap (i + 1)) out
    else
      some (now, i, out)
def f_ref03_Split (s : Str) (byv : Int) : Option ((List Str)) :=
  Option.bind (f_ref03_Split_l10 s byv ((((s.length : Int) : Int) - 0).toNat + 1) ([] : Str) 0 ([] : List Str)) fun s2 : Str × Int × (List Str) =>
  gd ((s2.2.2.length + 1) * 16 ≤ 140737488355328) <|
  some (s2.2.2 ++ ([s2.1] : List Str))
def f_ref03_small (c : Int) : Option (Bool) :=
  some (((decide (c ≥ 97)) && (decide (c ≤ 122))) || ((decide (c ≥ 48)) && (decide (c ≤ 57))))
def f_ref03_mark_l8 (s : Str) : Nat → Int → Option ((Int) ⊕ (Bool))
  | 0, _ => none
  | m_ + 1, i =>
    if (decide (i < (s.length : Int))) then
      (ix s i).bind fun c =>
      if ((bn c) != 45) then
        some (.inr false)
      else
        f_ref03_mark_l8 s m_ (IntKind.i64.wrap (i + 1))
    else
      some (.inl i)
def f_ref03_mark (s : Str) : Option (Bool) :=
  if (((s == ([46] : Str)) || (s == ([95] : Str))) || (s == ([95, 95] : Str))) then
    some true
  else
    Option.bind (f_ref03_mark_l8 s ((((s.length : Int) : Int) - 0).toNat + 1) 0) fun s2 : (Int) ⊕ (Bool) => match s2 with
    | .inr z => some z
    | .inl s3 =>
      some (decide ((s.length : Int) > 0))
def f_ref03_Part_l12 (s : Str) : Nat → Str → Int → Option ((Str × Int) ⊕ (Bool))
  | 0, _, _ => none
  | m_ + 1, now, i =>
    if (decide (i < (s.length : Int))) then
      (ix s i).bind fun c =>
      (f_ref03_small (bn c)).bind fun t3 =>
      if (!t3) then
        gd (0 ≤ i ∧ i ≤ (IntKind.i64.wrap (i + 1)) ∧ (IntKind.i64.wrap (i + 1)) ≤ (s.length : Int)) <|
        gd (now.length + (cut s i (IntKind.i64.wrap (i + 1))).length ≤ 9223372036854775807) <|
        f_ref03_Part_l12 s m_ (now ++ (cut s i (IntKind.i64.wrap (i + 1)))) (IntKind.i64.wrap (i + 1))
      else
        (gx (!(now == ([] : Str))) (f_ref03_mark now) default).bind fun t4 =>
        if ((!(now == ([] : Str))) && (!t4)) then
          some (.inr false)
        else
          f_ref03_Part_l12 s m_ ([] : Str) (IntKind.i64.wrap (i + 1))
    else
      some (.inl (now, i))
def f_ref03_Part (s : Str) : Option (Bool) :=
  gd ((!(s == ([] : Str))) = true → 0 < (s.length : Int)) <|
  (gx (!(s == ([] : Str))) (f_ref03_small (bn (s.getD 0 0))) default).bind fun t =>
  gd ((!((s == ([] : Str)) || (!t))) = true → 0 ≤ (IntKind.i64.wrap ((s.length : Int) - 1)) ∧ (IntKind.i64.wrap ((s.length : Int) - 1)) < (s.length : Int)) <|
  (gx (!((s == ([] : Str)) || (!t))) (f_ref03_small (bn (s.getD (IntKind.i64.wrap ((s.length : Int) - 1)).toNat 0))) default).bind fun t2 =>
  if (((s == ([] : Str)) || (!t)) || (!t2)) then
    some false
  else
    Option.bind (f_ref03_Part_l12 s ((((s.length : Int) : Int) - 0).toNat + 1) ([] : Str) 0) fun s2 : (Str × Int) ⊕ (Bool) => match s2 with
    | .inr z => some z
    | .inl s3 =>
      some true
def f_ref03_Repo_l7 (s : Str) (t : (List Str)) : Nat → Int → Option ((Int) ⊕ (Bool))
  | 0, _ => none
  | m_ + 1, v8 =>
    if (decide (v8 < (t.length : Int))) then
      (ix t v8).bind fun x =>
      (f_ref03_Part x).bind fun t2 =>
      if (!t2) then
        some (.inr false)
      else
        f_ref03_Repo_l7 s t m_ (IntKind.i64.wrap (v8 + 1))
    else
      some (.inl v8)
def f_ref03_Repo (s : Str) : Option (Bool) :=
  (f_ref03_Split s 47).bind fun t =>
  Option.bind (f_ref03_Repo_l7 s t ((((t.length : Int) : Int) - 0).toNat + 1) 0) fun s2 : (Int) ⊕ (Bool) => match s2 with
  | .inr z => some z
  | .inl s3 =>
    some (decide ((s.length : Int) ≤ 128))
def f_ref03_Tag_l7 (s : Str) : Nat → Int → Option ((Int) ⊕ (Bool))
  | 0, _ => none
  | m_ + 1, i =>
    if (decide (i < (s.length : Int))) then
      (ix s i).bind fun c =>
      (f_ref03_small (bn c)).bind fun t =>
      if (((((!t) && ((decide ((bn c) < 65)) || (decide ((bn c) > 90)))) && ((bn c) != 95)) && ((bn c) != 46)) && ((bn c) != 45)) then
        some (.inr false)
      else
        f_ref03_Tag_l7 s m_ (IntKind.i64.wrap (i + 1))
    else
      some (.inl i)
def f_ref03_Tag (s : Str) : Option (Bool) :=
  Option.bind (f_ref03_Tag_l7 s ((((s.length : Int) : Int) - 0).toNat + 1) 0) fun s2 : (Int) ⊕ (Bool) => match s2 with
  | .inr z => some z
  | .inl s3 =>
    gd (((decide ((s.length : Int) > 0)) && (decide ((s.length : Int) ≤ 128))) = true → 0 < (s.length : Int)) <|
    gd ((((decide ((s.length : Int) > 0)) && (decide ((s.length : Int) ≤ 128))) && ((bn (s.getD 0 0)) != 46)) = true → 0 < (s.length : Int)) <|
    some ((((decide ((s.length : Int) > 0)) && (decide ((s.length : Int) ≤ 128))) && ((bn (s.getD 0 0)) != 46)) && ((bn (s.getD 0 0)) != 45))
def f_internal_stringslite_Cut (s : Str) (sep : Str) : Option (Str × Str × Bool) :=
  (f_internal_stringslite_Index s sep).bind fun t =>
  if (decide (t ≥ 0)) then
    gd (0 ≤ t ∧ t ≤ (s.length : Int)) <|
    gd (0 ≤ (IntKind.i64.wrap (t + (sep.length : Int))) ∧ (IntKind.i64.wrap (t + (sep.length : Int))) ≤ (s.length : Int)) <|
    some ((cut s 0 t), (cut s (IntKind.i64.wrap (t + (sep.length : Int))) (s.length : Int)), true)
  else
    some (s, ([] : Str), false)
def f_strings_Cut (s : Str) (sep : Str) : Option (Str × Str × Bool) :=
  (f_internal_stringslite_Cut s sep).bind fun t =>
  some (t.1, t.2.1, t.2.2)
def f_name_Parse (s : Str) : Option (api_Ref × Int) :=
  Option.bind (
    (f_strings_Cut s ([64] : Str)).bind fun t =>
    if t.2.2 then
      some (t.1, ([] : Str), t.2.1)
    else
      (f_strings_Cut s ([58] : Str)).bind fun t2 =>
      some (t2.1, t2.2.1, ([] : Str))) fun s2 : Str × Str × Str =>
  (f_name_Print (api_Ref.mk s2.1 s2.2.1 s2.2.2)).bind fun t =>
  if ((t.2 != 0) || (!(t.1 == s))) then
    some ((api_Ref.mk ([] : Str) ([] : Str) ([] : Str)), 5)
  else
    some ((api_Ref.mk s2.1 s2.2.1 s2.2.2), 0)
def f_law03_alive : Option (Bool) :=
  (f_name_Parse ([108, 105, 98, 47, 103, 111, 95, 95, 120, 58, 49, 46, 48] : Str)).bind fun t =>
  (gx ((t.2 == 0) && ((t.1.Repo == ([108, 105, 98, 47, 103, 111, 95, 95, 120] : Str)) && ((t.1.Tag == ([49, 46, 48] : Str)) && (t.1.Digest == ([] : Str))))) (f_name_Repo ([97] : Str)) default).bind fun t2 =>
  some (((t.2 == 0) && ((t.1.Repo == ([108, 105, 98, 47, 103, 111, 95, 95, 120] : Str)) && ((t.1.Tag == ([49, 46, 48] : Str)) && (t.1.Digest == ([] : Str))))) && t2)
def f_ref01_half (c : Int) : Option (Int) :=
  if ((decide (c ≥ 48)) && (decide (c ≤ 57))) then
    some (IntKind.i64.wrap (IntKind.u8.wrap (c - 48)))
  else
    if ((decide (c ≥ 97)) && (decide (c ≤ 102))) then
      some (IntKind.i64.wrap ((IntKind.i64.wrap (IntKind.u8.wrap (c - 97))) + 10))
    else
      some 16
def f_ref01_Bytes_l8 (s : Str) : Nat → Int → (List Int) → Option ((Int × (List Int)) ⊕ (Str × Bool))
  | 0, _, _ => none
  | m_ + 1, i, b =>
    if (decide ((IntKind.i64.wrap (i + 1)) < (s.length : Int))) then
      (ix s i).bind fun c =>
      (f_ref01_half (bn c)).bind fun t =>
      gd ((!(decide (t > 15))) = true → 0 ≤ (IntKind.i64.wrap (i + 1)) ∧ (IntKind.i64.wrap (i + 1)) < (s.length : Int)) <|
      (gx (!(decide (t > 15))) (f_ref01_half (bn (s.getD (IntKind.i64.wrap (i + 1)).toNat 0))) default).bind fun t2 =>
      if ((decide (t > 15)) || (decide (t2 > 15))) then
        some (.inr (([] : Str), false))
      else
        (ix s i).bind fun c2 =>
        (f_ref01_half (bn c2)).bind fun t3 =>
        (ix s (IntKind.i64.wrap (i + 1))).bind fun c3 =>
        (f_ref01_half (bn c3)).bind fun t4 =>
        gd ((b.length + 1) * 1 ≤ 140737488355328) <|
        f_ref01_Bytes_l8 s m_ (IntKind.i64.wrap (i + 2)) (b ++ ([(IntKind.u8.wrap (IntKind.i64.wrap ((IntKind.i64.wrap (16 * t3)) + t4)))] : List Int))
    else
      some (.inl (i, b))
def f_ref01_Bytes (s : Str) : Option (Str × Bool) :=
  Option.bind (f_ref01_Bytes_l8 s ((((s.length : Int) : Int) - (IntKind.i64.wrap (0 + 1))).toNat + 1) 0 ([] : List Int)) fun s2 : (Int × (List Int)) ⊕ (Str × Bool) => match s2 with
  | .inr z => some z
  | .inl s3 =>
    some ((s3.2.map nb), (((s.length : Int).tmod 2) == 0))
def f_ref02_Parse (s : Str) : Option (Str × Bool) :=
  gd ((!((s.length : Int) != 71)) = true → 7 ≤ (s.length : Int)) <|
  if (((s.length : Int) != 71) || (!((cut s 0 7) == ([115, 104, 97, 50, 53, 54, 58] : Str)))) then
    some (([] : Str), false)
  else
    gd (7 ≤ (s.length : Int)) <|
    (f_ref01_Bytes (cut s 7 (s.length : Int))).bind fun t =>
    some (t.1, t.2)
def f_ref03_Right (rv : api_Ref) : Option (Bool) :=
  (f_ref02_Parse rv.Digest).bind fun t =>
  (f_ref03_Repo rv.Repo).bind fun t2 =>
  (gx (t2 && (rv.Digest == ([] : Str))) (f_ref03_Tag rv.Tag) default).bind fun t3 =>
  some (t2 && (((rv.Digest == ([] : Str)) && t3) || ((rv.Tag == ([] : Str)) && t.2)))
def f_ref03_Text (rv : api_Ref) : Option (Str) :=
  if (rv.Digest == ([] : Str)) then
    gd (rv.Repo.length + 1 ≤ 9223372036854775807) <|
    gd ((rv.Repo ++ ([58] : Str)).length + rv.Tag.length ≤ 9223372036854775807) <|
    some ((rv.Repo ++ ([58] : Str)) ++ rv.Tag)
  else
    gd (rv.Repo.length + 1 ≤ 9223372036854775807) <|
    gd ((rv.Repo ++ ([64] : Str)).length + rv.Digest.length ≤ 9223372036854775807) <|
    some ((rv.Repo ++ ([64] : Str)) ++ rv.Digest)
def f_law03_NameMay (s : Str) (rv : api_Ref) : Option (Bool) :=
  (f_law03_short s).bind fun t =>
  (f_law03_short rv.Repo).bind fun t2 =>
  (f_law03_short rv.Tag).bind fun t3 =>
  (f_law03_short rv.Digest).bind fun t4 =>
  (f_name_Print (api_Ref.mk t2 t3 t4)).bind fun t5 =>
  (f_name_Repo t).bind fun t6 =>
  (f_ref03_Repo t).bind fun t7 =>
  (gx (!(!(t6 == t7))) (f_name_Tag t) default).bind fun t8 =>
  (gx (!(!(t6 == t7))) (f_ref03_Tag t) default).bind fun t9 =>
  (gx (!((!(t6 == t7)) || (!(t8 == t9)))) (f_law03_alive) default).bind fun t10 =>
  if (((!(t6 == t7)) || (!(t8 == t9))) || (!t10)) then
    some false
  else
    (f_ref03_Right (api_Ref.mk t2 t3 t4)).bind fun t11 =>
    if (!t11) then
      some ((t5.2 == 1) && (t5.1 == ([] : Str)))
    else
      (gx (t5.2 == 0) (f_ref03_Text (api_Ref.mk t2 t3 t4)) default).bind fun t12 =>
      some ((t5.2 == 0) && (t5.1 == t12))
def f_ref03_Parse_l9 (s : Str) : Nat → Int → Option ((Int) ⊕ (api_Ref × Bool))
  | 0, _ => none
  | m_ + 1, i =>
    if (decide (i < (s.length : Int))) then
      gd (0 ≤ i ∧ i ≤ (s.length : Int)) <|
      gd (0 ≤ (IntKind.i64.wrap (i + 1)) ∧ (IntKind.i64.wrap (i + 1)) ≤ (s.length : Int)) <|
      Option.bind (
        (ix s i).bind fun c =>
        if ((bn c) == 64) then
          gd (0 ≤ i ∧ i ≤ (s.length : Int)) <|
          gd (0 ≤ (IntKind.i64.wrap (i + 1)) ∧ (IntKind.i64.wrap (i + 1)) ≤ (s.length : Int)) <|
          some (([] : Str), (cut s (IntKind.i64.wrap (i + 1)) (s.length : Int)))
        else
          some ((cut s (IntKind.i64.wrap (i + 1)) (s.length : Int)), ([] : Str))) fun s2 : Str × Str =>
      (f_ref03_Right (api_Ref.mk (cut s 0 i) s2.1 s2.2)).bind fun t =>
      (gx t (f_ref03_Text (api_Ref.mk (cut s 0 i) s2.1 s2.2)) default).bind fun t2 =>
      if (t && (t2 == s)) then
        some (.inr ((api_Ref.mk (cut s 0 i) s2.1 s2.2), true))
      else
        f_ref03_Parse_l9 s m_ (IntKind.i64.wrap (i + 1))
    else
      some (.inl i)
def f_ref03_Parse (s : Str) : Option (api_Ref × Bool) :=
  Option.bind (f_ref03_Parse_l9 s ((((s.length : Int) : Int) - 0).toNat + 1) 0) fun s2 : (Int) ⊕ (api_Ref × Bool) => match s2 with
  | .inr z => some z
  | .inl s3 =>
    some ((api_Ref.mk ([] : Str) ([] : Str) ([] : Str)), false)
def f_law03_NameParses (s : Str) : Option (Bool) :=
  (f_law03_short s).bind fun t =>
  (f_name_Parse t).bind fun t2 =>
  (f_ref03_Parse t).bind fun t3 =>
  (f_law03_alive).bind fun t4 =>
  some (((t4 && ((t2.1.Repo == t3.1.Repo) && ((t2.1.Tag == t3.1.Tag) && (t2.1.Digest == t3.1.Digest)))) && ((t2.2 == 0) == t3.2)) && (t3.2 || (t2.2 == 5)))
def f_law03_NameBack (rv : api_Ref) (s : Str) : Option (Bool) :=
  (f_law03_short rv.Repo).bind fun t =>
  (f_law03_short rv.Tag).bind fun t2 =>
  (f_law03_short rv.Digest).bind fun t3 =>
  Option.bind (
    (f_name_Print (api_Ref.mk t t2 t3)).bind fun t4 =>
    if (t4.2 == 0) then
      (f_name_Parse t4.1).bind fun t5 =>
      if ((t5.2 != 0) || (!((t5.1.Repo == t) && ((t5.1.Tag == t2) && (t5.1.Digest == t3))))) then
        some (.inr false)
      else
        some (.inl ())
    else
      some (.inl ())) fun s2 : (Unit) ⊕ (Bool) => match s2 with
  | .inr z => some z
  | .inl s3 =>
    (f_law03_short s).bind fun t4 =>
    (f_name_Parse t4).bind fun t5 =>
    if (t5.2 != 0) then
      (f_law03_alive).bind fun t6 =>
      some (t6 && ((t5.1.Repo == ([] : Str)) && ((t5.1.Tag == ([] : Str)) && (t5.1.Digest == ([] : Str)))))
    else
      (f_name_Print t5.1).bind fun t6 =>
      (f_law03_alive).bind fun t7 =>
      (gx (t7 && (t6.2 == 0)) (f_law03_short s) default).bind fun t8 =>
      some ((t7 && (t6.2 == 0)) && (t6.1 == t8))
def f_law03_NameParts (a : Str) (b : Str) : Option (Bool) :=
  (f_law03_short a).bind fun t =>
  (f_law03_short b).bind fun t2 =>
  (f_name_Repo t).bind fun t3 =>
  (gx t3 (f_name_Repo t2) default).bind fun t4 =>
  (f_law03_alive).bind fun t5 =>
  gd (t5 = true → t.length + 1 ≤ 9223372036854775807) <|
  gd (t5 = true → (t ++ ([47] : Str)).length + t2.length ≤ 9223372036854775807) <|
  (gx t5 (f_name_Repo ((t ++ ([47] : Str)) ++ t2)) default).bind fun t6 =>
  gd ((t5 && (t6 == ((t3 && t4) && (decide ((IntKind.i64.wrap ((IntKind.i64.wrap ((t.length : Int) + (t2.length : Int))) + 1)) ≤ 128))))) = true → t.length + 2 ≤ 9223372036854775807) <|
  gd ((t5 && (t6 == ((t3 && t4) && (decide ((IntKind.i64.wrap ((IntKind.i64.wrap ((t.length : Int) + (t2.length : Int))) + 1)) ≤ 128))))) = true → (t ++ ([47, 47] : Str)).length + t2.length ≤ 9223372036854775807) <|
  (gx (t5 && (t6 == ((t3 && t4) && (decide ((IntKind.i64.wrap ((IntKind.i64.wrap ((t.length : Int) + (t2.length : Int))) + 1)) ≤ 128))))) (f_name_Repo ((t ++ ([47, 47] : Str)) ++ t2)) default).bind fun t7 =>
  gd (((t5 && (t6 == ((t3 && t4) && (decide ((IntKind.i64.wrap ((IntKind.i64.wrap ((t.length : Int) + (t2.length : Int))) + 1)) ≤ 128))))) && (!t7)) = true → 1 + t.length ≤ 9223372036854775807) <|
  (gx ((t5 && (t6 == ((t3 && t4) && (decide ((IntKind.i64.wrap ((IntKind.i64.wrap ((t.length : Int) + (t2.length : Int))) + 1)) ≤ 128))))) && (!t7)) (f_name_Repo (([47] : Str) ++ t)) default).bind fun t8 =>
  gd ((((t5 && (t6 == ((t3 && t4) && (decide ((IntKind.i64.wrap ((IntKind.i64.wrap ((t.length : Int) + (t2.length : Int))) + 1)) ≤ 128))))) && (!t7)) && (!t8)) = true → t.length + 1 ≤ 9223372036854775807) <|
  (gx (((t5 && (t6 == ((t3 && t4) && (decide ((IntKind.i64.wrap ((IntKind.i64.wrap ((t.length : Int) + (t2.length : Int))) + 1)) ≤ 128))))) && (!t7)) && (!t8)) (f_name_Repo (t ++ ([47] : Str))) default).bind fun t9 =>
  some ((((t5 && (t6 == ((t3 && t4) && (decide ((IntKind.i64.wrap ((IntKind.i64.wrap ((t.length : Int) + (t2.length : Int))) + 1)) ≤ 128))))) && (!t7)) && (!t8)) && (!t9))
def f_law03_NameMarks_l9 (a : Int) (b : Int) (many : Int) : Nat → Str → Int → Option (Str × Int)
  | 0, _, _ => none
  | m_ + 1, dashes, v30 =>
    if (decide (v30 < (IntKind.i64.wrap (1 + ((IntKind.i64.wrap ((many.tmod 6) + 6)).tmod 6))))) then
      gd (dashes.length + 1 ≤ 9223372036854775807) <|
      f_law03_NameMarks_l9 a b many m_ (dashes ++ ([45] : Str)) (IntKind.i64.wrap (v30 + 1))
    else
      some (dashes, v30)
def f_law03_NameMarks (a : Int) (b : Int) (many : Int) : Option (Bool) :=
  Option.bind (f_law03_NameMarks_l9 a b many ((((IntKind.i64.wrap (1 + ((IntKind.i64.wrap ((many.tmod 6) + 6)).tmod 6))) : Int) - 0).toNat + 1) ([] : Str) 0) fun s : Str × Int =>
  (ix ([([46] : Str), ([95] : Str), ([95, 95] : Str), ([45] : Str)] : List Str) ((IntKind.i64.wrap ((a.tmod 4) + 4)).tmod 4)).bind fun x =>
  (ix ([([46] : Str), ([95] : Str), ([95, 95] : Str), ([45] : Str)] : List Str) ((IntKind.i64.wrap ((b.tmod 4) + 4)).tmod 4)).bind fun x2 =>
  gd (x.length + x2.length ≤ 9223372036854775807) <|
  (f_law03_alive).bind fun t =>
  gd (t = true → 1 + x.length ≤ 9223372036854775807) <|
  gd (t = true → (([97] : Str) ++ x).length + 2 ≤ 9223372036854775807) <|
  (gx t (f_name_Repo ((([97] : Str) ++ x) ++ ([98, 49] : Str))) default).bind fun t2 =>
  gd ((t && t2) = true → 1 + s.1.length ≤ 9223372036854775807) <|
  gd ((t && t2) = true → (([97] : Str) ++ s.1).length + 2 ≤ 9223372036854775807) <|
  (gx (t && t2) (f_name_Repo ((([97] : Str) ++ s.1) ++ ([98, 49] : Str))) default).bind fun t3 =>
  gd (((t && t2) && t3) = true → 1 + (x ++ x2).length ≤ 9223372036854775807) <|
  gd (((t && t2) && t3) = true → (([97] : Str) ++ (x ++ x2)).length + 2 ≤ 9223372036854775807) <|
  (gx ((t && t2) && t3) (f_name_Repo ((([97] : Str) ++ (x ++ x2)) ++ ([98, 49] : Str))) default).bind fun t4 =>
  gd ((((t && t2) && t3) && (t4 == (((x ++ x2) == ([95, 95] : Str)) || ((x ++ x2) == ([45, 45] : Str))))) = true → x.length + 2 ≤ 9223372036854775807) <|
  (gx (((t && t2) && t3) && (t4 == (((x ++ x2) == ([95, 95] : Str)) || ((x ++ x2) == ([45, 45] : Str))))) (f_name_Repo (x ++ ([98, 49] : Str))) default).bind fun t5 =>
  gd (((((t && t2) && t3) && (t4 == (((x ++ x2) == ([95, 95] : Str)) || ((x ++ x2) == ([45, 45] : Str))))) && (!t5)) = true → 1 + x.length ≤ 9223372036854775807) <|
  (gx ((((t && t2) && t3) && (t4 == (((x ++ x2) == ([95, 95] : Str)) || ((x ++ x2) == ([45, 45] : Str))))) && (!t5)) (f_name_Repo (([97] : Str) ++ x)) default).bind fun t6 =>
  gd ((((((t && t2) && t3) && (t4 == (((x ++ x2) == ([95, 95] : Str)) || ((x ++ x2) == ([45, 45] : Str))))) && (!t5)) && (!t6)) = true → 1 + x.length ≤ 9223372036854775807) <|
  gd ((((((t && t2) && t3) && (t4 == (((x ++ x2) == ([95, 95] : Str)) || ((x ++ x2) == ([45, 45] : Str))))) && (!t5)) && (!t6)) = true → (([97] : Str) ++ x).length + 2 ≤ 9223372036854775807) <|
  gd ((((((t && t2) && t3) && (t4 == (((x ++ x2) == ([95, 95] : Str)) || ((x ++ x2) == ([45, 45] : Str))))) && (!t5)) && (!t6)) = true → ((([97] : Str) ++ x) ++ ([98, 49] : Str)).length + x2.length ≤ 9223372036854775807) <|
  gd ((((((t && t2) && t3) && (t4 == (((x ++ x2) == ([95, 95] : Str)) || ((x ++ x2) == ([45, 45] : Str))))) && (!t5)) && (!t6)) = true → (((([97] : Str) ++ x) ++ ([98, 49] : Str)) ++ x2).length + 1 ≤ 9223372036854775807) <|
  (gx (((((t && t2) && t3) && (t4 == (((x ++ x2) == ([95, 95] : Str)) || ((x ++ x2) == ([45, 45] : Str))))) && (!t5)) && (!t6)) (f_name_Repo ((((([97] : Str) ++ x) ++ ([98, 49] : Str)) ++ x2) ++ ([97] : Str))) default).bind fun t7 =>
  some ((((((t && t2) && t3) && (t4 == (((x ++ x2) == ([95, 95] : Str)) || ((x ++ x2) == ([45, 45] : Str))))) && (!t5)) && (!t6)) && t7)
end Go.Proofs.YtdcokepmblcdmaaDoor.V
end

section
/- The shelf contracts that this seat uses, in plain words. -/
namespace Go.Proofs
open Go.Shelf
def Tryd.lays169_ren : Go.Shelf.Ren := ⟨fun | 169 => 39 | n => n, fun | 70 => 55 | 9 => 9 | 0 => 0 | 72 => 58 | 37 => 56 | 127 => 75 | 3 => 3 | 5 => 5 | n => n, fun | n => n⟩
theorem Tryd.lays169 : Go.Proofs.Lays.n169 Tryd.prog Tryd.lays169_ren := {
  mixed := by kernel_rfl
  f169 := Tryd.func39.trans (congrArg some (by kernel_rfl))
  t0 := Tryd.underlying0
  a0 := Tryd.isAgg0
  z0 := Tryd.sizeOf0
  v0 := Tryd.zeroValue0
  t3 := Tryd.underlying3
  a3 := Tryd.isAgg3
  z3 := Tryd.sizeOf3
  v3 := Tryd.zeroValue3
  t9 := Tryd.underlying9
  a9 := Tryd.isAgg9
  z9 := Tryd.sizeOf9
  v9 := Tryd.zeroValue9
  t37 := Tryd.underlying56
  a37 := Tryd.isAgg56
  z37 := Tryd.sizeOf56
  v37 := Tryd.zeroValue56
  t70 := Tryd.underlying55
  a70 := Tryd.isAgg55
  z70 := Tryd.sizeOf55
  v70 := Tryd.zeroValue55
  t72 := Tryd.underlying58
  a72 := Tryd.isAgg58
  z72 := Tryd.sizeOf58
  v72 := Tryd.zeroValue58
  t127 := Tryd.underlying75
  a127 := Tryd.isAgg75
  z127 := Tryd.sizeOf75
  v127 := Tryd.zeroValue75 }
theorem Tryd.Builder_Extra_169 : Builder.Extra Tryd.prog Tryd.lays169_ren := {
  sizeBuilder := by kernel_rfl
  liesBuilder := by kernel_rfl
  t5 := Tryd.underlying5
  a5 := Tryd.isAgg5
  z5 := Tryd.sizeOf5
  v5 := Tryd.zeroValue5
  infoByte := by kernel_rfl
  cellsByte := by kernel_rfl
  sizeByte := by kernel_rfl
  neB5 := by decide }
open Go.RowKit in
theorem Tryd.Builder_String (B b : Nat) (l : List UInt8) (w : World) (h : Lib.IsBuilder 58 5 B b (Lib.byteCells l) w) (h0 : l ≠ []) :
    Calls Tryd.prog 39 #[.pointer (some ⟨b, 0, none⟩)] w fun e w' => e = .returned (.string ⟨l.toArray⟩) ∧ Below B w w' := Any.Builder_String Tryd.lays169 Tryd.Builder_Extra_169 B b l w h h0
open Go.RowKit in
theorem Tryd.Builder_String_empty (B b : Nat) (w : World) (h : Lib.IsBuilder 58 5 B b [] w) (hBw : B ≤ w.heap.size) :
    Calls Tryd.prog 39 #[.pointer (some ⟨b, 0, none⟩)] w fun e w' => e = .returned (.string ⟨#[]⟩) ∧ Below B w w' := Any.Builder_String_empty Tryd.lays169 Tryd.Builder_Extra_169 B b w h hBw
open Go.RowKit in
theorem Tryd.Builder_String_any (B b : Nat) (l : List UInt8) (w : World) (h : Lib.IsBuilder 58 5 B b (Lib.byteCells l) w) (hBw : B ≤ w.heap.size) :
    Calls Tryd.prog 39 #[.pointer (some ⟨b, 0, none⟩)] w fun e w' => e = .returned (.string ⟨l.toArray⟩) ∧ Below B w w' := Any.Builder_String_any Tryd.lays169 Tryd.Builder_Extra_169 B b l w h hBw
def Tryd.lays241_ren : Go.Shelf.Ren := ⟨fun | 241 => 62 | 277 => 66 | n => n, fun | 70 => 55 | 3 => 3 | 0 => 0 | 72 => 58 | 37 => 56 | 5 => 5 | n => n, fun | n => n⟩
theorem Tryd.lays241 : Go.Proofs.Lays.n241 Tryd.prog Tryd.lays241_ren := {
  mixed := by kernel_rfl
  f241 := Tryd.func62.trans (congrArg some (by kernel_rfl))
  f277 := Tryd.func66.trans (congrArg some (by kernel_rfl))
  t0 := Tryd.underlying0
  a0 := Tryd.isAgg0
  z0 := Tryd.sizeOf0
  v0 := Tryd.zeroValue0
  t3 := Tryd.underlying3
  a3 := Tryd.isAgg3
  z3 := Tryd.sizeOf3
  v3 := Tryd.zeroValue3
  t37 := Tryd.underlying56
  a37 := Tryd.isAgg56
  z37 := Tryd.sizeOf56
  v37 := Tryd.zeroValue56
  t70 := Tryd.underlying55
  a70 := Tryd.isAgg55
  z70 := Tryd.sizeOf55
  v70 := Tryd.zeroValue55
  t72 := Tryd.underlying58
  a72 := Tryd.isAgg58
  z72 := Tryd.sizeOf58
  v72 := Tryd.zeroValue58 }
theorem Tryd.Builder_Extra_241 : Builder.Extra Tryd.prog Tryd.lays241_ren := {
  sizeBuilder := by kernel_rfl
  liesBuilder := by kernel_rfl
  t5 := Tryd.underlying5
  a5 := Tryd.isAgg5
  z5 := Tryd.sizeOf5
  v5 := Tryd.zeroValue5
  infoByte := by kernel_rfl
  cellsByte := by kernel_rfl
  sizeByte := by kernel_rfl
  neB5 := by decide }
open Go.RowKit in
theorem Tryd.Builder_grow_fresh (B b n : Nat) (w : World) (hB : B ≤ b) (hbk : w.heap[b]? = some (.cells #[.pointer (some ⟨b, 0, none⟩), .slice none 0 0] 58 (0, 0))) (hBw : B ≤ w.heap.size) (hn : n ≤ 281474976710656) :
    Calls Tryd.prog 62 #[.pointer (some ⟨b, 0, none⟩), .int .i64 n] w fun e w' => e = .returned (.tuple #[]) ∧ (Lib.BuilderAt 58 5 B b (.pointer (some ⟨b, 0, none⟩)) [] w' ∧ Below B w w') := Any.Builder_grow_fresh Tryd.lays241 Tryd.Builder_Extra_241 B b n w hB hbk hBw hn
def Tryd.lays165_ren : Go.Shelf.Ren := ⟨fun | 165 => 51 | 240 => 50 | 241 => 62 | 276 => 61 | 277 => 66 | n => n, fun | 70 => 55 | 3 => 3 | 0 => 0 | 4 => 4 | 9 => 9 | 20 => 20 | 72 => 58 | 37 => 56 | 164 => 83 | 5 => 5 | n => n, fun | n => n⟩
theorem Tryd.lays165 : Go.Proofs.Lays.n165 Tryd.prog Tryd.lays165_ren := {
  mixed := by kernel_rfl
  f165 := Tryd.func51.trans (congrArg some (by kernel_rfl))
  f240 := Tryd.func50.trans (congrArg some (by kernel_rfl))
  f241 := Tryd.func62.trans (congrArg some (by kernel_rfl))
  f276 := Tryd.func61.trans (congrArg some (by kernel_rfl))
  f277 := Tryd.func66.trans (congrArg some (by kernel_rfl))
  t0 := Tryd.underlying0
  a0 := Tryd.isAgg0
  z0 := Tryd.sizeOf0
  v0 := Tryd.zeroValue0
  t3 := Tryd.underlying3
  a3 := Tryd.isAgg3
  z3 := Tryd.sizeOf3
  v3 := Tryd.zeroValue3
  t4 := Tryd.underlying4
  a4 := Tryd.isAgg4
  z4 := Tryd.sizeOf4
  v4 := Tryd.zeroValue4
  t9 := Tryd.underlying9
  a9 := Tryd.isAgg9
  z9 := Tryd.sizeOf9
  v9 := Tryd.zeroValue9
  t20 := Tryd.underlying20
  a20 := Tryd.isAgg20
  z20 := Tryd.sizeOf20
  v20 := Tryd.zeroValue20
  t37 := Tryd.underlying56
  a37 := Tryd.isAgg56
  z37 := Tryd.sizeOf56
  v37 := Tryd.zeroValue56
  t70 := Tryd.underlying55
  a70 := Tryd.isAgg55
  z70 := Tryd.sizeOf55
  v70 := Tryd.zeroValue55
  t72 := Tryd.underlying58
  a72 := Tryd.isAgg58
  z72 := Tryd.sizeOf58
  v72 := Tryd.zeroValue58
  t164 := Tryd.underlying83
  a164 := Tryd.isAgg83
  z164 := Tryd.sizeOf83
  v164 := Tryd.zeroValue83 }
theorem Tryd.Builder_Extra_165 : Builder.Extra Tryd.prog Tryd.lays165_ren := {
  sizeBuilder := by kernel_rfl
  liesBuilder := by kernel_rfl
  t5 := Tryd.underlying5
  a5 := Tryd.isAgg5
  z5 := Tryd.sizeOf5
  v5 := Tryd.zeroValue5
  infoByte := by kernel_rfl
  cellsByte := by kernel_rfl
  sizeByte := by kernel_rfl
  neB5 := by decide }
open Go.RowKit in
theorem Tryd.Builder_Grow_fresh (B b n : Nat) (w : World) (hB : B ≤ b) (hbk : w.heap[b]? = some (.cells #[.pointer none, .slice none 0 0] 58 (0, 0))) (hBw : B ≤ w.heap.size) (hn : n ≤ 281474976710656) :
    Calls Tryd.prog 51 #[.pointer (some ⟨b, 0, none⟩), .int .i64 n] w fun e w' => e = .returned (.tuple #[]) ∧ (Lib.BuilderAt 58 5 B b (.pointer (some ⟨b, 0, none⟩)) [] w' ∧ Below B w w') := Any.Builder_Grow_fresh Tryd.lays165 Tryd.Builder_Extra_165 B b n w hB hbk hBw hn
def Tryd.lays156_ren : Go.Shelf.Ren := ⟨fun | 156 => 40 | 165 => 51 | 166 => 52 | 169 => 39 | 240 => 50 | 241 => 62 | 276 => 61 | 277 => 66 | n => n, fun | 31 => 39 | 9 => 9 | 3 => 3 | 4 => 4 | 0 => 0 | 20 => 20 | 72 => 58 | 76 => 77 | 70 => 55 | 37 => 56 | 75 => 60 | 127 => 75 | 164 => 83 | 5 => 5 | 80 => 62 | n => n, fun | n => n⟩
theorem Tryd.lays156 : Go.Proofs.Lays.n156 Tryd.prog Tryd.lays156_ren := {
  mixed := by kernel_rfl
  f156 := Tryd.func40.trans (congrArg some (by kernel_rfl))
  f165 := Tryd.func51.trans (congrArg some (by kernel_rfl))
  f166 := Tryd.func52.trans (congrArg some (by kernel_rfl))
  f169 := Tryd.func39.trans (congrArg some (by kernel_rfl))
  f240 := Tryd.func50.trans (congrArg some (by kernel_rfl))
  f241 := Tryd.func62.trans (congrArg some (by kernel_rfl))
  f276 := Tryd.func61.trans (congrArg some (by kernel_rfl))
  f277 := Tryd.func66.trans (congrArg some (by kernel_rfl))
  t0 := Tryd.underlying0
  a0 := Tryd.isAgg0
  z0 := Tryd.sizeOf0
  v0 := Tryd.zeroValue0
  t3 := Tryd.underlying3
  a3 := Tryd.isAgg3
  z3 := Tryd.sizeOf3
  v3 := Tryd.zeroValue3
  t4 := Tryd.underlying4
  a4 := Tryd.isAgg4
  z4 := Tryd.sizeOf4
  v4 := Tryd.zeroValue4
  t9 := Tryd.underlying9
  a9 := Tryd.isAgg9
  z9 := Tryd.sizeOf9
  v9 := Tryd.zeroValue9
  t20 := Tryd.underlying20
  a20 := Tryd.isAgg20
  z20 := Tryd.sizeOf20
  v20 := Tryd.zeroValue20
  t31 := Tryd.underlying39
  a31 := Tryd.isAgg39
  z31 := Tryd.sizeOf39
  v31 := Tryd.zeroValue39
  t37 := Tryd.underlying56
  a37 := Tryd.isAgg56
  z37 := Tryd.sizeOf56
  v37 := Tryd.zeroValue56
  t70 := Tryd.underlying55
  a70 := Tryd.isAgg55
  z70 := Tryd.sizeOf55
  v70 := Tryd.zeroValue55
  t72 := Tryd.underlying58
  a72 := Tryd.isAgg58
  z72 := Tryd.sizeOf58
  v72 := Tryd.zeroValue58
  t75 := Tryd.underlying60
  a75 := Tryd.isAgg60
  z75 := Tryd.sizeOf60
  v75 := Tryd.zeroValue60
  t76 := Tryd.underlying77
  a76 := Tryd.isAgg77
  z76 := Tryd.sizeOf77
  v76 := Tryd.zeroValue77
  t127 := Tryd.underlying75
  a127 := Tryd.isAgg75
  z127 := Tryd.sizeOf75
  v127 := Tryd.zeroValue75
  t164 := Tryd.underlying83
  a164 := Tryd.isAgg83
  z164 := Tryd.sizeOf83
  v164 := Tryd.zeroValue83 }
theorem Tryd.Builder_Extra_156 : Builder.Extra Tryd.prog Tryd.lays156_ren := {
  sizeBuilder := by kernel_rfl
  liesBuilder := by kernel_rfl
  t5 := Tryd.underlying5
  a5 := Tryd.isAgg5
  z5 := Tryd.sizeOf5
  v5 := Tryd.zeroValue5
  infoByte := by kernel_rfl
  cellsByte := by kernel_rfl
  sizeByte := by kernel_rfl
  neB5 := by decide }
open Go.RowKit in
theorem Tryd.strings_Join_none (a : Option Addr) (c : Nat) (sep : ByteArray) (w : World) :
    Calls Tryd.prog 40 #[.slice a 0 c, .string sep] w fun e w' => e = .returned (.string ⟨#[]⟩) ∧ w' = w := Any.strings_Join_none Tryd.lays156 Tryd.Builder_Extra_156 a c sep w
open Go.RowKit in
theorem Tryd.strings_Join (bk o c : Nat) (xs : List ByteArray) (sep : ByteArray) (w : World) (hcells : ∀ (j : Nat) x, xs[j]? = some x → w.cell? ⟨bk, o + j, none⟩ = some (.string x)) (hbk : bk < w.heap.size) (hN : xs.length ≤ 140737488355328) (hcap : xs.length ≤ c) (hlen : (Lib.join (xs.map (·.data.toList)) sep.data.toList).length ≤ 140737488355328) :
    Calls Tryd.prog 40 #[.slice (some ⟨bk, o, none⟩) xs.length c, .string sep] w fun e w' => e = .returned (.string ⟨(Lib.join (xs.map (·.data.toList)) sep.data.toList).toArray⟩) ∧ Below w.heap.size w w' := Any.strings_Join Tryd.lays156 Tryd.Builder_Extra_156 bk o c xs sep w hcells hbk hN hcap hlen
def Tryd.lays137_ren : Go.Shelf.Ren := ⟨fun | 137 => 44 | 217 => 56 | 266 => 64 | n => n, fun | 9 => 9 | 5 => 5 | 3 => 3 | n => n, fun | n => n⟩
theorem Tryd.lays137 : Go.Proofs.Lays.n137 Tryd.prog Tryd.lays137_ren := {
  mixed := by kernel_rfl
  f137 := Tryd.func44.trans (congrArg some (by kernel_rfl))
  f217 := Tryd.func56.trans (congrArg some (by kernel_rfl))
  f266 := Tryd.func64.trans (congrArg some (by kernel_rfl))
  t3 := Tryd.underlying3
  a3 := Tryd.isAgg3
  z3 := Tryd.sizeOf3
  v3 := Tryd.zeroValue3
  t5 := Tryd.underlying5
  a5 := Tryd.isAgg5
  z5 := Tryd.sizeOf5
  v5 := Tryd.zeroValue5
  t9 := Tryd.underlying9
  a9 := Tryd.isAgg9
  z9 := Tryd.sizeOf9
  v9 := Tryd.zeroValue9 }
open Go.RowKit in
theorem Tryd.strings_IndexByte (s : ByteArray) (c : Int) (w : World) :
    Calls Tryd.prog 44 #[.string s, .int .u8 c] w fun e w' => e = .returned (.int .i64 (Lib.indexByte s.data.toList c.toNat.toUInt8)) ∧ w' = w := Any.strings_IndexByte Tryd.lays137 s c w
def Tryd.lays210_ren : Go.Shelf.Ren := ⟨fun | 210 => 43 | 206 => 55 | n => n, fun | 9 => 9 | 4 => 4 | 3 => 3 | n => n, fun | n => n⟩
theorem Tryd.lays210 : Go.Proofs.Lays.n210 Tryd.prog Tryd.lays210_ren := {
  mixed := by kernel_rfl
  f206 := Tryd.func55.trans (congrArg some (by kernel_rfl))
  f210 := Tryd.func43.trans (congrArg some (by kernel_rfl))
  t3 := Tryd.underlying3
  a3 := Tryd.isAgg3
  z3 := Tryd.sizeOf3
  v3 := Tryd.zeroValue3
  t4 := Tryd.underlying4
  a4 := Tryd.isAgg4
  z4 := Tryd.sizeOf4
  v4 := Tryd.zeroValue4
  t9 := Tryd.underlying9
  a9 := Tryd.isAgg9
  z9 := Tryd.sizeOf9
  v9 := Tryd.zeroValue9 }
open Go.RowKit in
theorem Tryd.stringslite_CutPrefix (s p : ByteArray) (w : World) :
    Calls Tryd.prog 43 #[.string s, .string p] w fun e w' => e = .returned (.tuple #[.string ⟨(Lib.trimPrefix s.data.toList p.data.toList).toArray⟩, .bool (Lib.hasPrefix s.data.toList p.data.toList)]) ∧ w' = w := Any.stringslite_CutPrefix Tryd.lays210 s p w
def Tryd.lays103_ren : Go.Shelf.Ren := ⟨fun | 103 => 32 | 210 => 43 | 206 => 55 | n => n, fun | 9 => 9 | 4 => 4 | 24 => 48 | 3 => 3 | n => n, fun | n => n⟩
theorem Tryd.lays103 : Go.Proofs.Lays.n103 Tryd.prog Tryd.lays103_ren := {
  mixed := by kernel_rfl
  f103 := Tryd.func32.trans (congrArg some (by kernel_rfl))
  f206 := Tryd.func55.trans (congrArg some (by kernel_rfl))
  f210 := Tryd.func43.trans (congrArg some (by kernel_rfl))
  t3 := Tryd.underlying3
  a3 := Tryd.isAgg3
  z3 := Tryd.sizeOf3
  v3 := Tryd.zeroValue3
  t4 := Tryd.underlying4
  a4 := Tryd.isAgg4
  z4 := Tryd.sizeOf4
  v4 := Tryd.zeroValue4
  t9 := Tryd.underlying9
  a9 := Tryd.isAgg9
  z9 := Tryd.sizeOf9
  v9 := Tryd.zeroValue9
  t24 := Tryd.underlying48
  a24 := Tryd.isAgg48
  z24 := Tryd.sizeOf48
  v24 := Tryd.zeroValue48 }
open Go.RowKit in
theorem Tryd.strings_CutPrefix (s p : ByteArray) (w : World) :
    Calls Tryd.prog 32 #[.string s, .string p] w fun e w' => e = .returned (.tuple #[.string ⟨(Lib.trimPrefix s.data.toList p.data.toList).toArray⟩, .bool (Lib.hasPrefix s.data.toList p.data.toList)]) ∧ w' = w := Any.strings_CutPrefix Tryd.lays103 s p w
open Go.RowKit in
theorem Tryd.Builder_String_f (B b : Nat) (l : List UInt8) (w : World) (h : Lib.IsBuilderF 58 5 B b (Lib.byteCells l) w) (h0 : l ≠ []) :
    Calls Tryd.prog 39 #[.pointer (some ⟨b, 0, none⟩)] w fun e w' => e = .returned (.string ⟨l.toArray⟩) ∧ (Lib.IsBuilderF 58 5 B b (Lib.byteCells l) w' ∧ Below B w w') := Any.Builder_String_f Tryd.lays169 Tryd.Builder_Extra_169 B b l w h h0
open Go.RowKit in
theorem Tryd.Builder_String_empty_f (B b : Nat) (w : World) (h : Lib.IsBuilderF 58 5 B b [] w) (hBw : B ≤ w.heap.size) :
    Calls Tryd.prog 39 #[.pointer (some ⟨b, 0, none⟩)] w fun e w' => e = .returned (.string ⟨#[]⟩) ∧ (Lib.IsBuilderF 58 5 B b [] w' ∧ Below B w w') := Any.Builder_String_empty_f Tryd.lays169 Tryd.Builder_Extra_169 B b w h hBw
open Go.RowKit in
theorem Tryd.Builder_String_any_f (B b : Nat) (l : List UInt8) (w : World) (h : Lib.IsBuilderF 58 5 B b (Lib.byteCells l) w) (hBw : B ≤ w.heap.size) :
    Calls Tryd.prog 39 #[.pointer (some ⟨b, 0, none⟩)] w fun e w' => e = .returned (.string ⟨l.toArray⟩) ∧ (Lib.IsBuilderF 58 5 B b (Lib.byteCells l) w' ∧ Below B w w') := Any.Builder_String_any_f Tryd.lays169 Tryd.Builder_Extra_169 B b l w h hBw
open Go.RowKit in
theorem Tryd.Builder_String_k (B b : Nat) (l : List UInt8) (w : World) (h : Lib.IsBuilderF 58 5 B b (Lib.byteCells l) w) (h0 : l ≠ []) :
    Calls Tryd.prog 39 #[.pointer (some ⟨b, 0, none⟩)] w fun e w' => e = .returned (.string ⟨l.toArray⟩) ∧ (Lib.IsBuilderF 58 5 B b (Lib.byteCells l) w' ∧ Below B w w' ∧ Lib.OthersKept 5 (some b) w w') := Any.Builder_String_k Tryd.lays169 Tryd.Builder_Extra_169 B b l w h h0
open Go.RowKit in
theorem Tryd.Builder_String_empty_k (B b : Nat) (w : World) (h : Lib.IsBuilderF 58 5 B b [] w) (hBw : B ≤ w.heap.size) :
    Calls Tryd.prog 39 #[.pointer (some ⟨b, 0, none⟩)] w fun e w' => e = .returned (.string ⟨#[]⟩) ∧ (Lib.IsBuilderF 58 5 B b [] w' ∧ Below B w w' ∧ Lib.OthersKept 5 (some b) w w') := Any.Builder_String_empty_k Tryd.lays169 Tryd.Builder_Extra_169 B b w h hBw
open Go.RowKit in
theorem Tryd.Builder_String_any_k (B b : Nat) (l : List UInt8) (w : World) (h : Lib.IsBuilderF 58 5 B b (Lib.byteCells l) w) (hBw : B ≤ w.heap.size) :
    Calls Tryd.prog 39 #[.pointer (some ⟨b, 0, none⟩)] w fun e w' => e = .returned (.string ⟨l.toArray⟩) ∧ (Lib.IsBuilderF 58 5 B b (Lib.byteCells l) w' ∧ Below B w w' ∧ Lib.OthersKept 5 (some b) w w') := Any.Builder_String_any_k Tryd.lays169 Tryd.Builder_Extra_169 B b l w h hBw
open Go.RowKit in
theorem Tryd.Builder_grow_fresh_cap (B b n : Nat) (w : World) (hB : B ≤ b) (hbk : w.heap[b]? = some (.cells #[.pointer (some ⟨b, 0, none⟩), .slice none 0 0] 58 (0, 0))) (hBw : B ≤ w.heap.size) (hn : n ≤ 281474976710656) :
    Calls Tryd.prog 62 #[.pointer (some ⟨b, 0, none⟩), .int .i64 n] w fun e w' => e = .returned (.tuple #[]) ∧ (Lib.BuilderAt 58 5 B b (.pointer (some ⟨b, 0, none⟩)) [] w' ∧ Below B w w') ∧ ∃ p cap, w'.cell? ⟨b, 1, none⟩ = some (.slice p 0 cap) ∧ n ≤ cap := Any.Builder_grow_fresh_cap Tryd.lays241 Tryd.Builder_Extra_241 B b n w hB hbk hBw hn
open Go.RowKit in
theorem Tryd.Builder_Grow_fresh_cap (B b n : Nat) (w : World) (hB : B ≤ b) (hbk : w.heap[b]? = some (.cells #[.pointer none, .slice none 0 0] 58 (0, 0))) (hBw : B ≤ w.heap.size) (hn : n ≤ 281474976710656) :
    Calls Tryd.prog 51 #[.pointer (some ⟨b, 0, none⟩), .int .i64 n] w fun e w' => e = .returned (.tuple #[]) ∧ (Lib.BuilderAt 58 5 B b (.pointer (some ⟨b, 0, none⟩)) [] w' ∧ Below B w w') ∧ ∃ p cap, w'.cell? ⟨b, 1, none⟩ = some (.slice p 0 cap) ∧ n ≤ cap := Any.Builder_Grow_fresh_cap Tryd.lays165 Tryd.Builder_Extra_165 B b n w hB hbk hBw hn
def Tryd.lays217_ren : Go.Shelf.Ren := ⟨fun | 217 => 56 | 266 => 64 | n => n, fun | 9 => 9 | 5 => 5 | 3 => 3 | n => n, fun | n => n⟩
theorem Tryd.lays217 : Go.Proofs.Lays.n217 Tryd.prog Tryd.lays217_ren := {
  mixed := by kernel_rfl
  f217 := Tryd.func56.trans (congrArg some (by kernel_rfl))
  f266 := Tryd.func64.trans (congrArg some (by kernel_rfl))
  t3 := Tryd.underlying3
  a3 := Tryd.isAgg3
  z3 := Tryd.sizeOf3
  v3 := Tryd.zeroValue3
  t5 := Tryd.underlying5
  a5 := Tryd.isAgg5
  z5 := Tryd.sizeOf5
  v5 := Tryd.zeroValue5
  t9 := Tryd.underlying9
  a9 := Tryd.isAgg9
  z9 := Tryd.sizeOf9
  v9 := Tryd.zeroValue9 }
open Go.RowKit Go.Lib in
theorem Tryd.stringslite_IndexByte (s : ByteArray) (c : Int) (w : World) :
    Calls Tryd.prog 56 #[.string s, .int .u8 c] w fun e w' => e = .returned (.int .i64 (Lib.indexByte s.data.toList c.toNat.toUInt8)) ∧ w' = w := Any.stringslite_IndexByte Tryd.lays217 s c w
def Tryd.lays224_ren : Go.Shelf.Ren := ⟨fun | 224 => 59 | n => n, fun | 3 => 3 | n => n, fun | n => n⟩
theorem Tryd.lays224 : Go.Proofs.Lays.n224 Tryd.prog Tryd.lays224_ren := {
  mixed := by kernel_rfl
  f224 := Tryd.func59.trans (congrArg some (by kernel_rfl))
  t3 := Tryd.underlying3
  a3 := Tryd.isAgg3
  z3 := Tryd.sizeOf3
  v3 := Tryd.zeroValue3 }
open Go.RowKit Go.Lib in
theorem Tryd.bytealg_Cutover (n : Int) (h0 : 0 ≤ n) (h1 : n < 4611686018427387904) (w : World) :
    Calls Tryd.prog 59 #[.int .i64 n] w fun e w' => e = .returned (.int .i64 ((n + 16) / 8)) ∧ w' = w := Any.bytealg_Cutover Tryd.lays224 n h0 h1 w
def Tryd.lays314_ren : Go.Shelf.Ren := ⟨fun | 314 => 65 | n => n, fun | 9 => 9 | 51 => 65 | 3 => 3 | 4 => 4 | 5 => 5 | 46 => 69 | n => n, fun | n => n⟩
theorem Tryd.lays314 : Go.Proofs.Lays.n314 Tryd.prog Tryd.lays314_ren := {
  mixed := by kernel_rfl
  f314 := Tryd.func65.trans (congrArg some (by kernel_rfl))
  t3 := Tryd.underlying3
  a3 := Tryd.isAgg3
  z3 := Tryd.sizeOf3
  v3 := Tryd.zeroValue3
  t4 := Tryd.underlying4
  a4 := Tryd.isAgg4
  z4 := Tryd.sizeOf4
  v4 := Tryd.zeroValue4
  t5 := Tryd.underlying5
  a5 := Tryd.isAgg5
  z5 := Tryd.sizeOf5
  v5 := Tryd.zeroValue5
  t9 := Tryd.underlying9
  a9 := Tryd.isAgg9
  z9 := Tryd.sizeOf9
  v9 := Tryd.zeroValue9
  t46 := Tryd.underlying69
  a46 := Tryd.isAgg69
  z46 := Tryd.sizeOf69
  v46 := Tryd.zeroValue69
  t51 := Tryd.underlying65
  a51 := Tryd.isAgg65
  z51 := Tryd.sizeOf65
  v51 := Tryd.zeroValue65 }
open Go.RowKit Go.Lib in
theorem Tryd.bytealg_hashStr (sep : ByteArray) (hs : sep.size < 4294967281) (w : World) :
    Calls Tryd.prog 65 #[.string sep] w fun e w' => e = .returned (.tuple #[.int .u32 (RK.H sep.data.toList % 4294967296), .int .u32 (16777619 ^ sep.size % 4294967296)]) ∧ w' = w := Any.bytealg_hashStr Tryd.lays314 sep hs w
def Tryd.lays267_ren : Go.Shelf.Ren := ⟨fun | 267 => 60 | 314 => 65 | n => n, fun | 9 => 9 | 3 => 3 | 146 => 90 | 51 => 65 | 4 => 4 | 5 => 5 | 46 => 69 | n => n, fun | n => n⟩
theorem Tryd.lays267 : Go.Proofs.Lays.n267 Tryd.prog Tryd.lays267_ren := {
  mixed := by kernel_rfl
  f267 := Tryd.func60.trans (congrArg some (by kernel_rfl))
  f314 := Tryd.func65.trans (congrArg some (by kernel_rfl))
  t3 := Tryd.underlying3
  a3 := Tryd.isAgg3
  z3 := Tryd.sizeOf3
  v3 := Tryd.zeroValue3
  t4 := Tryd.underlying4
  a4 := Tryd.isAgg4
  z4 := Tryd.sizeOf4
  v4 := Tryd.zeroValue4
  t5 := Tryd.underlying5
  a5 := Tryd.isAgg5
  z5 := Tryd.sizeOf5
  v5 := Tryd.zeroValue5
  t9 := Tryd.underlying9
  a9 := Tryd.isAgg9
  z9 := Tryd.sizeOf9
  v9 := Tryd.zeroValue9
  t46 := Tryd.underlying69
  a46 := Tryd.isAgg69
  z46 := Tryd.sizeOf69
  v46 := Tryd.zeroValue69
  t51 := Tryd.underlying65
  a51 := Tryd.isAgg65
  z51 := Tryd.sizeOf65
  v51 := Tryd.zeroValue65
  t146 := Tryd.underlying90
  a146 := Tryd.isAgg90
  z146 := Tryd.sizeOf90
  v146 := Tryd.zeroValue90 }
open Go.RowKit Go.Lib in
theorem Tryd.bytealg_IndexRabinKarp (s sep : ByteArray) (h1 : 1 ≤ sep.size) (h2 : sep.size ≤ s.size) (hs : s.size < 4294967281) (w : World) :
    Calls Tryd.prog 60 #[.string s, .string sep] w fun e w' => e = .returned (.int .i64 (Lib.index s.data.toList sep.data.toList)) ∧ w' = w := Any.bytealg_IndexRabinKarp Tryd.lays267 s sep h1 h2 hs w
def Tryd.lays219_ren : Go.Shelf.Ren := ⟨fun | 219 => 49 | 217 => 56 | 225 => 58 | 224 => 59 | 267 => 60 | 266 => 64 | 314 => 65 | n => n, fun | 9 => 9 | 3 => 3 | 4 => 4 | 5 => 5 | 46 => 69 | 146 => 90 | 51 => 65 | n => n, fun | 1 => 1 | n => n⟩
theorem Tryd.lays219 : Go.Proofs.Lays.n219 Tryd.prog Tryd.lays219_ren := {
  mixed := by kernel_rfl
  f217 := Tryd.func56.trans (congrArg some (by kernel_rfl))
  f219 := Tryd.func49.trans (congrArg some (by kernel_rfl))
  f224 := Tryd.func59.trans (congrArg some (by kernel_rfl))
  f225 := Tryd.func58.trans (congrArg some (by kernel_rfl))
  f266 := Tryd.func64.trans (congrArg some (by kernel_rfl))
  f267 := Tryd.func60.trans (congrArg some (by kernel_rfl))
  f314 := Tryd.func65.trans (congrArg some (by kernel_rfl))
  t3 := Tryd.underlying3
  a3 := Tryd.isAgg3
  z3 := Tryd.sizeOf3
  v3 := Tryd.zeroValue3
  t4 := Tryd.underlying4
  a4 := Tryd.isAgg4
  z4 := Tryd.sizeOf4
  v4 := Tryd.zeroValue4
  t5 := Tryd.underlying5
  a5 := Tryd.isAgg5
  z5 := Tryd.sizeOf5
  v5 := Tryd.zeroValue5
  t9 := Tryd.underlying9
  a9 := Tryd.isAgg9
  z9 := Tryd.sizeOf9
  v9 := Tryd.zeroValue9
  t46 := Tryd.underlying69
  a46 := Tryd.isAgg69
  z46 := Tryd.sizeOf69
  v46 := Tryd.zeroValue69
  t51 := Tryd.underlying65
  a51 := Tryd.isAgg65
  z51 := Tryd.sizeOf65
  v51 := Tryd.zeroValue65
  t146 := Tryd.underlying90
  a146 := Tryd.isAgg90
  z146 := Tryd.sizeOf90
  v146 := Tryd.zeroValue90
  g1 := by kernel_rfl }
open Go.RowKit Go.Lib in
theorem Tryd.stringslite_Index_one (s : ByteArray) (c : UInt8) (w : World) :
    Calls Tryd.prog 49 #[.string s, .string ⟨#[c]⟩] w fun e w' => e = .returned (.int .i64 (Lib.indexByte s.data.toList c)) ∧ w' = w := Any.stringslite_Index_one Tryd.lays219 s c w
open Go.RowKit Go.Lib in
theorem Tryd.stringslite_Index (s sub : ByteArray) (m : Int) (w : World) (hs : s.size < 4294967281) (hm : w.cell? ⟨1, 0, none⟩ = some (.int .i64 m)) :
    Calls Tryd.prog 49 #[.string s, .string sub] w fun e w' => e = .returned (.int .i64 (Lib.index s.data.toList sub.data.toList)) ∧ w' = w := Any.stringslite_Index Tryd.lays219 s sub m w hs hm
def Tryd.lays143_ren : Go.Shelf.Ren := ⟨fun | 143 => 47 | 219 => 49 | 217 => 56 | 225 => 58 | 224 => 59 | 267 => 60 | 266 => 64 | 314 => 65 | n => n, fun | 9 => 9 | 3 => 3 | 4 => 4 | 5 => 5 | 46 => 69 | 146 => 90 | 51 => 65 | n => n, fun | 1 => 1 | n => n⟩
theorem Tryd.lays143 : Go.Proofs.Lays.n143 Tryd.prog Tryd.lays143_ren := {
  mixed := by kernel_rfl
  f143 := Tryd.func47.trans (congrArg some (by kernel_rfl))
  f217 := Tryd.func56.trans (congrArg some (by kernel_rfl))
  f219 := Tryd.func49.trans (congrArg some (by kernel_rfl))
  f224 := Tryd.func59.trans (congrArg some (by kernel_rfl))
  f225 := Tryd.func58.trans (congrArg some (by kernel_rfl))
  f266 := Tryd.func64.trans (congrArg some (by kernel_rfl))
  f267 := Tryd.func60.trans (congrArg some (by kernel_rfl))
  f314 := Tryd.func65.trans (congrArg some (by kernel_rfl))
  t3 := Tryd.underlying3
  a3 := Tryd.isAgg3
  z3 := Tryd.sizeOf3
  v3 := Tryd.zeroValue3
  t4 := Tryd.underlying4
  a4 := Tryd.isAgg4
  z4 := Tryd.sizeOf4
  v4 := Tryd.zeroValue4
  t5 := Tryd.underlying5
  a5 := Tryd.isAgg5
  z5 := Tryd.sizeOf5
  v5 := Tryd.zeroValue5
  t9 := Tryd.underlying9
  a9 := Tryd.isAgg9
  z9 := Tryd.sizeOf9
  v9 := Tryd.zeroValue9
  t46 := Tryd.underlying69
  a46 := Tryd.isAgg69
  z46 := Tryd.sizeOf69
  v46 := Tryd.zeroValue69
  t51 := Tryd.underlying65
  a51 := Tryd.isAgg65
  z51 := Tryd.sizeOf65
  v51 := Tryd.zeroValue65
  t146 := Tryd.underlying90
  a146 := Tryd.isAgg90
  z146 := Tryd.sizeOf90
  v146 := Tryd.zeroValue90
  g1 := by kernel_rfl }
open Go.RowKit Go.Lib in
theorem Tryd.strings_Index_one (s : ByteArray) (c : UInt8) (w : World) :
    Calls Tryd.prog 47 #[.string s, .string ⟨#[c]⟩] w fun e w' => e = .returned (.int .i64 (Lib.indexByte s.data.toList c)) ∧ w' = w := Any.strings_Index_one Tryd.lays143 s c w
open Go.RowKit Go.Lib in
theorem Tryd.strings_Index (s sub : ByteArray) (m : Int) (w : World) (hs : s.size < 4294967281) (hm : w.cell? ⟨1, 0, none⟩ = some (.int .i64 m)) :
    Calls Tryd.prog 47 #[.string s, .string sub] w fun e w' => e = .returned (.int .i64 (Lib.index s.data.toList sub.data.toList)) ∧ w' = w := Any.strings_Index Tryd.lays143 s sub m w hs hm
def Tryd.lays220_ren : Go.Shelf.Ren := ⟨fun | 220 => 37 | 219 => 49 | 217 => 56 | 225 => 58 | 224 => 59 | 267 => 60 | 266 => 64 | 314 => 65 | n => n, fun | 9 => 9 | 4 => 4 | 3 => 3 | 5 => 5 | 46 => 69 | 146 => 90 | 51 => 65 | n => n, fun | 1 => 1 | n => n⟩
theorem Tryd.lays220 : Go.Proofs.Lays.n220 Tryd.prog Tryd.lays220_ren := {
  mixed := by kernel_rfl
  f217 := Tryd.func56.trans (congrArg some (by kernel_rfl))
  f219 := Tryd.func49.trans (congrArg some (by kernel_rfl))
  f220 := Tryd.func37.trans (congrArg some (by kernel_rfl))
  f224 := Tryd.func59.trans (congrArg some (by kernel_rfl))
  f225 := Tryd.func58.trans (congrArg some (by kernel_rfl))
  f266 := Tryd.func64.trans (congrArg some (by kernel_rfl))
  f267 := Tryd.func60.trans (congrArg some (by kernel_rfl))
  f314 := Tryd.func65.trans (congrArg some (by kernel_rfl))
  t3 := Tryd.underlying3
  a3 := Tryd.isAgg3
  z3 := Tryd.sizeOf3
  v3 := Tryd.zeroValue3
  t4 := Tryd.underlying4
  a4 := Tryd.isAgg4
  z4 := Tryd.sizeOf4
  v4 := Tryd.zeroValue4
  t5 := Tryd.underlying5
  a5 := Tryd.isAgg5
  z5 := Tryd.sizeOf5
  v5 := Tryd.zeroValue5
  t9 := Tryd.underlying9
  a9 := Tryd.isAgg9
  z9 := Tryd.sizeOf9
  v9 := Tryd.zeroValue9
  t46 := Tryd.underlying69
  a46 := Tryd.isAgg69
  z46 := Tryd.sizeOf69
  v46 := Tryd.zeroValue69
  t51 := Tryd.underlying65
  a51 := Tryd.isAgg65
  z51 := Tryd.sizeOf65
  v51 := Tryd.zeroValue65
  t146 := Tryd.underlying90
  a146 := Tryd.isAgg90
  z146 := Tryd.sizeOf90
  v146 := Tryd.zeroValue90
  g1 := by kernel_rfl }
open Go.RowKit Go.Lib in
theorem Tryd.stringslite_Cut (s sep : ByteArray) (m : Int) (w : World) (hs : s.size < 4294967281) (hm : w.cell? ⟨1, 0, none⟩ = some (.int .i64 m)) :
    Calls Tryd.prog 37 #[.string s, .string sep] w fun e w' => e = .returned (.tuple #[.string ⟨(Lib.cut s.data.toList sep.data.toList).1.toArray⟩, .string ⟨(Lib.cut s.data.toList sep.data.toList).2.1.toArray⟩, .bool (Lib.cut s.data.toList sep.data.toList).2.2]) ∧ ∃ n, w' = w.drewN n := Any.stringslite_Cut Tryd.lays220 s sep m w hs hm
def Tryd.lays145_ren : Go.Shelf.Ren := ⟨fun | 145 => 29 | 220 => 37 | 219 => 49 | 217 => 56 | 225 => 58 | 224 => 59 | 267 => 60 | 266 => 64 | 314 => 65 | n => n, fun | 9 => 9 | 4 => 4 | 59 => 50 | 3 => 3 | 5 => 5 | 46 => 69 | 146 => 90 | 51 => 65 | n => n, fun | 1 => 1 | n => n⟩
theorem Tryd.lays145 : Go.Proofs.Lays.n145 Tryd.prog Tryd.lays145_ren := {
  mixed := by kernel_rfl
  f145 := Tryd.func29.trans (congrArg some (by kernel_rfl))
  f217 := Tryd.func56.trans (congrArg some (by kernel_rfl))
  f219 := Tryd.func49.trans (congrArg some (by kernel_rfl))
  f220 := Tryd.func37.trans (congrArg some (by kernel_rfl))
  f224 := Tryd.func59.trans (congrArg some (by kernel_rfl))
  f225 := Tryd.func58.trans (congrArg some (by kernel_rfl))
  f266 := Tryd.func64.trans (congrArg some (by kernel_rfl))
  f267 := Tryd.func60.trans (congrArg some (by kernel_rfl))
  f314 := Tryd.func65.trans (congrArg some (by kernel_rfl))
  t3 := Tryd.underlying3
  a3 := Tryd.isAgg3
  z3 := Tryd.sizeOf3
  v3 := Tryd.zeroValue3
  t4 := Tryd.underlying4
  a4 := Tryd.isAgg4
  z4 := Tryd.sizeOf4
  v4 := Tryd.zeroValue4
  t5 := Tryd.underlying5
  a5 := Tryd.isAgg5
  z5 := Tryd.sizeOf5
  v5 := Tryd.zeroValue5
  t9 := Tryd.underlying9
  a9 := Tryd.isAgg9
  z9 := Tryd.sizeOf9
  v9 := Tryd.zeroValue9
  t46 := Tryd.underlying69
  a46 := Tryd.isAgg69
  z46 := Tryd.sizeOf69
  v46 := Tryd.zeroValue69
  t51 := Tryd.underlying65
  a51 := Tryd.isAgg65
  z51 := Tryd.sizeOf65
  v51 := Tryd.zeroValue65
  t59 := Tryd.underlying50
  a59 := Tryd.isAgg50
  z59 := Tryd.sizeOf50
  v59 := Tryd.zeroValue50
  t146 := Tryd.underlying90
  a146 := Tryd.isAgg90
  z146 := Tryd.sizeOf90
  v146 := Tryd.zeroValue90
  g1 := by kernel_rfl }
open Go.RowKit Go.Lib in
theorem Tryd.strings_Cut (s sep : ByteArray) (m : Int) (w : World) (hs : s.size < 4294967281) (hm : w.cell? ⟨1, 0, none⟩ = some (.int .i64 m)) :
    Calls Tryd.prog 29 #[.string s, .string sep] w fun e w' => e = .returned (.tuple #[.string ⟨(Lib.cut s.data.toList sep.data.toList).1.toArray⟩, .string ⟨(Lib.cut s.data.toList sep.data.toList).2.1.toArray⟩, .bool (Lib.cut s.data.toList sep.data.toList).2.2]) ∧ ∃ n, w' = w.drewN n := Any.strings_Cut Tryd.lays145 s sep m w hs hm
def Tryd.laysM219_ren : Go.Shelf.Ren := ⟨fun | 219 => 49 | 217 => 56 | 225 => 58 | 224 => 59 | 267 => 60 | 266 => 64 | 314 => 65 | n => n, fun | 9 => 9 | 3 => 3 | 4 => 4 | 5 => 5 | 46 => 69 | 146 => 90 | 51 => 65 | n => n, fun | 1 => 1 | n => n⟩
theorem Tryd.laysM219 : Go.Proofs.LaysM.n219 Tryd.prog Tryd.laysM219_ren := {
  mixed := by kernel_rfl
  f217 := Tryd.func56.trans (congrArg some (by kernel_rfl))
  f219 := Tryd.func49.trans (congrArg some (by kernel_rfl))
  f224 := Tryd.func59.trans (congrArg some (by kernel_rfl))
  f225 := Tryd.func58.trans (congrArg some (by kernel_rfl))
  f266 := Tryd.func64.trans (congrArg some (by kernel_rfl))
  f267 := Tryd.func60.trans (congrArg some (by kernel_rfl))
  f314 := Tryd.func65.trans (congrArg some (by kernel_rfl))
  t3 := Tryd.underlying3
  a3 := Tryd.isAgg3
  z3 := Tryd.sizeOf3
  v3 := Tryd.zeroValue3
  t4 := Tryd.underlying4
  a4 := Tryd.isAgg4
  z4 := Tryd.sizeOf4
  v4 := Tryd.zeroValue4
  t5 := Tryd.underlying5
  a5 := Tryd.isAgg5
  z5 := Tryd.sizeOf5
  v5 := Tryd.zeroValue5
  t9 := Tryd.underlying9
  a9 := Tryd.isAgg9
  z9 := Tryd.sizeOf9
  v9 := Tryd.zeroValue9
  t46 := Tryd.underlying69
  a46 := Tryd.isAgg69
  z46 := Tryd.sizeOf69
  v46 := Tryd.zeroValue69
  t51 := Tryd.underlying65
  a51 := Tryd.isAgg65
  z51 := Tryd.sizeOf65
  v51 := Tryd.zeroValue65
  t146 := Tryd.underlying90
  a146 := Tryd.isAgg90
  z146 := Tryd.sizeOf90
  v146 := Tryd.zeroValue90
  g1 := by kernel_rfl
  i3 := by kernel_rfl
  i4 := by kernel_rfl
  i5 := by kernel_rfl
  i9 := by kernel_rfl
  i46 := by kernel_rfl
  i51 := by kernel_rfl
  i146 := by kernel_rfl
  m1 := by kernel_rfl
  s1_3 := fun w h => Go.Proofs.cell_of_shapedOpen_int (zero := #[.int .i64 0]) (t := 3) h (of_decide_eq_true (by kernel_rfl)) (by kernel_rfl) rfl (by kernel_rfl) (by kernel_rfl) Tryd.underlying3 }
open Go.RowKit Go.Lib in
theorem Tryd.stringslite_Index_shaped (s sub : ByteArray) (w : World) (h : w.ShapedOpen Tryd.prog) (hs : s.size < 4294967281) :
    Calls Tryd.prog 49 #[.string s, .string sub] w fun e w' => e = .returned (.int .i64 (Lib.index s.data.toList sub.data.toList)) ∧ w' = w := Any.stringslite_Index_shaped Tryd.laysM219 s sub w h hs
def Tryd.laysM143_ren : Go.Shelf.Ren := ⟨fun | 143 => 47 | 219 => 49 | 217 => 56 | 225 => 58 | 224 => 59 | 267 => 60 | 266 => 64 | 314 => 65 | n => n, fun | 9 => 9 | 3 => 3 | 4 => 4 | 5 => 5 | 46 => 69 | 146 => 90 | 51 => 65 | n => n, fun | 1 => 1 | n => n⟩
theorem Tryd.laysM143 : Go.Proofs.LaysM.n143 Tryd.prog Tryd.laysM143_ren := {
  mixed := by kernel_rfl
  f143 := Tryd.func47.trans (congrArg some (by kernel_rfl))
  f217 := Tryd.func56.trans (congrArg some (by kernel_rfl))
  f219 := Tryd.func49.trans (congrArg some (by kernel_rfl))
  f224 := Tryd.func59.trans (congrArg some (by kernel_rfl))
  f225 := Tryd.func58.trans (congrArg some (by kernel_rfl))
  f266 := Tryd.func64.trans (congrArg some (by kernel_rfl))
  f267 := Tryd.func60.trans (congrArg some (by kernel_rfl))
  f314 := Tryd.func65.trans (congrArg some (by kernel_rfl))
  t3 := Tryd.underlying3
  a3 := Tryd.isAgg3
  z3 := Tryd.sizeOf3
  v3 := Tryd.zeroValue3
  t4 := Tryd.underlying4
  a4 := Tryd.isAgg4
  z4 := Tryd.sizeOf4
  v4 := Tryd.zeroValue4
  t5 := Tryd.underlying5
  a5 := Tryd.isAgg5
  z5 := Tryd.sizeOf5
  v5 := Tryd.zeroValue5
  t9 := Tryd.underlying9
  a9 := Tryd.isAgg9
  z9 := Tryd.sizeOf9
  v9 := Tryd.zeroValue9
  t46 := Tryd.underlying69
  a46 := Tryd.isAgg69
  z46 := Tryd.sizeOf69
  v46 := Tryd.zeroValue69
  t51 := Tryd.underlying65
  a51 := Tryd.isAgg65
  z51 := Tryd.sizeOf65
  v51 := Tryd.zeroValue65
  t146 := Tryd.underlying90
  a146 := Tryd.isAgg90
  z146 := Tryd.sizeOf90
  v146 := Tryd.zeroValue90
  g1 := by kernel_rfl
  i3 := by kernel_rfl
  i4 := by kernel_rfl
  i5 := by kernel_rfl
  i9 := by kernel_rfl
  i46 := by kernel_rfl
  i51 := by kernel_rfl
  i146 := by kernel_rfl
  m1 := by kernel_rfl
  s1_3 := fun w h => Go.Proofs.cell_of_shapedOpen_int (zero := #[.int .i64 0]) (t := 3) h (of_decide_eq_true (by kernel_rfl)) (by kernel_rfl) rfl (by kernel_rfl) (by kernel_rfl) Tryd.underlying3 }
open Go.RowKit Go.Lib in
theorem Tryd.strings_Index_shaped (s sub : ByteArray) (w : World) (h : w.ShapedOpen Tryd.prog) (hs : s.size < 4294967281) :
    Calls Tryd.prog 47 #[.string s, .string sub] w fun e w' => e = .returned (.int .i64 (Lib.index s.data.toList sub.data.toList)) ∧ w' = w := Any.strings_Index_shaped Tryd.laysM143 s sub w h hs
def Tryd.laysM220_ren : Go.Shelf.Ren := ⟨fun | 220 => 37 | 219 => 49 | 217 => 56 | 225 => 58 | 224 => 59 | 267 => 60 | 266 => 64 | 314 => 65 | n => n, fun | 9 => 9 | 4 => 4 | 3 => 3 | 5 => 5 | 46 => 69 | 146 => 90 | 51 => 65 | n => n, fun | 1 => 1 | n => n⟩
theorem Tryd.laysM220 : Go.Proofs.LaysM.n220 Tryd.prog Tryd.laysM220_ren := {
  mixed := by kernel_rfl
  f217 := Tryd.func56.trans (congrArg some (by kernel_rfl))
  f219 := Tryd.func49.trans (congrArg some (by kernel_rfl))
  f220 := Tryd.func37.trans (congrArg some (by kernel_rfl))
  f224 := Tryd.func59.trans (congrArg some (by kernel_rfl))
  f225 := Tryd.func58.trans (congrArg some (by kernel_rfl))
  f266 := Tryd.func64.trans (congrArg some (by kernel_rfl))
  f267 := Tryd.func60.trans (congrArg some (by kernel_rfl))
  f314 := Tryd.func65.trans (congrArg some (by kernel_rfl))
  t3 := Tryd.underlying3
  a3 := Tryd.isAgg3
  z3 := Tryd.sizeOf3
  v3 := Tryd.zeroValue3
  t4 := Tryd.underlying4
  a4 := Tryd.isAgg4
  z4 := Tryd.sizeOf4
  v4 := Tryd.zeroValue4
  t5 := Tryd.underlying5
  a5 := Tryd.isAgg5
  z5 := Tryd.sizeOf5
  v5 := Tryd.zeroValue5
  t9 := Tryd.underlying9
  a9 := Tryd.isAgg9
  z9 := Tryd.sizeOf9
  v9 := Tryd.zeroValue9
  t46 := Tryd.underlying69
  a46 := Tryd.isAgg69
  z46 := Tryd.sizeOf69
  v46 := Tryd.zeroValue69
  t51 := Tryd.underlying65
  a51 := Tryd.isAgg65
  z51 := Tryd.sizeOf65
  v51 := Tryd.zeroValue65
  t146 := Tryd.underlying90
  a146 := Tryd.isAgg90
  z146 := Tryd.sizeOf90
  v146 := Tryd.zeroValue90
  g1 := by kernel_rfl
  i3 := by kernel_rfl
  i4 := by kernel_rfl
  i5 := by kernel_rfl
  i9 := by kernel_rfl
  i46 := by kernel_rfl
  i51 := by kernel_rfl
  i146 := by kernel_rfl
  m1 := by kernel_rfl
  s1_3 := fun w h => Go.Proofs.cell_of_shapedOpen_int (zero := #[.int .i64 0]) (t := 3) h (of_decide_eq_true (by kernel_rfl)) (by kernel_rfl) rfl (by kernel_rfl) (by kernel_rfl) Tryd.underlying3 }
open Go.RowKit Go.Lib in
theorem Tryd.stringslite_Cut_shaped (s sep : ByteArray) (w : World) (h : w.ShapedOpen Tryd.prog) (hs : s.size < 4294967281) :
    Calls Tryd.prog 37 #[.string s, .string sep] w fun e w' => e = .returned (.tuple #[.string ⟨(Lib.cut s.data.toList sep.data.toList).1.toArray⟩, .string ⟨(Lib.cut s.data.toList sep.data.toList).2.1.toArray⟩, .bool (Lib.cut s.data.toList sep.data.toList).2.2]) ∧ ∃ n, w' = w.drewN n := Any.stringslite_Cut_shaped Tryd.laysM220 s sep w h hs
def Tryd.laysM145_ren : Go.Shelf.Ren := ⟨fun | 145 => 29 | 220 => 37 | 219 => 49 | 217 => 56 | 225 => 58 | 224 => 59 | 267 => 60 | 266 => 64 | 314 => 65 | n => n, fun | 9 => 9 | 4 => 4 | 59 => 50 | 3 => 3 | 5 => 5 | 46 => 69 | 146 => 90 | 51 => 65 | n => n, fun | 1 => 1 | n => n⟩
theorem Tryd.laysM145 : Go.Proofs.LaysM.n145 Tryd.prog Tryd.laysM145_ren := {
  mixed := by kernel_rfl
  f145 := Tryd.func29.trans (congrArg some (by kernel_rfl))
  f217 := Tryd.func56.trans (congrArg some (by kernel_rfl))
  f219 := Tryd.func49.trans (congrArg some (by kernel_rfl))
  f220 := Tryd.func37.trans (congrArg some (by kernel_rfl))
  f224 := Tryd.func59.trans (congrArg some (by kernel_rfl))
  f225 := Tryd.func58.trans (congrArg some (by kernel_rfl))
  f266 := Tryd.func64.trans (congrArg some (by kernel_rfl))
  f267 := Tryd.func60.trans (congrArg some (by kernel_rfl))
  f314 := Tryd.func65.trans (congrArg some (by kernel_rfl))
  t3 := Tryd.underlying3
  a3 := Tryd.isAgg3
  z3 := Tryd.sizeOf3
  v3 := Tryd.zeroValue3
  t4 := Tryd.underlying4
  a4 := Tryd.isAgg4
  z4 := Tryd.sizeOf4
  v4 := Tryd.zeroValue4
  t5 := Tryd.underlying5
  a5 := Tryd.isAgg5
  z5 := Tryd.sizeOf5
  v5 := Tryd.zeroValue5
  t9 := Tryd.underlying9
  a9 := Tryd.isAgg9
  z9 := Tryd.sizeOf9
  v9 := Tryd.zeroValue9
  t46 := Tryd.underlying69
  a46 := Tryd.isAgg69
  z46 := Tryd.sizeOf69
  v46 := Tryd.zeroValue69
  t51 := Tryd.underlying65
  a51 := Tryd.isAgg65
  z51 := Tryd.sizeOf65
  v51 := Tryd.zeroValue65
  t59 := Tryd.underlying50
  a59 := Tryd.isAgg50
  z59 := Tryd.sizeOf50
  v59 := Tryd.zeroValue50
  t146 := Tryd.underlying90
  a146 := Tryd.isAgg90
  z146 := Tryd.sizeOf90
  v146 := Tryd.zeroValue90
  g1 := by kernel_rfl
  i3 := by kernel_rfl
  i4 := by kernel_rfl
  i5 := by kernel_rfl
  i9 := by kernel_rfl
  i46 := by kernel_rfl
  i51 := by kernel_rfl
  i59 := by kernel_rfl
  i146 := by kernel_rfl
  m1 := by kernel_rfl
  s1_3 := fun w h => Go.Proofs.cell_of_shapedOpen_int (zero := #[.int .i64 0]) (t := 3) h (of_decide_eq_true (by kernel_rfl)) (by kernel_rfl) rfl (by kernel_rfl) (by kernel_rfl) Tryd.underlying3 }
open Go.RowKit Go.Lib in
theorem Tryd.strings_Cut_shaped (s sep : ByteArray) (w : World) (h : w.ShapedOpen Tryd.prog) (hs : s.size < 4294967281) :
    Calls Tryd.prog 29 #[.string s, .string sep] w fun e w' => e = .returned (.tuple #[.string ⟨(Lib.cut s.data.toList sep.data.toList).1.toArray⟩, .string ⟨(Lib.cut s.data.toList sep.data.toList).2.1.toArray⟩, .bool (Lib.cut s.data.toList sep.data.toList).2.2]) ∧ ∃ n, w' = w.drewN n := Any.strings_Cut_shaped Tryd.laysM145 s sep w h hs
def Tryd.lays206_ren : Go.Shelf.Ren := ⟨fun | 206 => 55 | n => n, fun | 9 => 9 | 4 => 4 | 3 => 3 | n => n, fun | n => n⟩
theorem Tryd.lays206 : Go.Proofs.Lays.n206 Tryd.prog Tryd.lays206_ren := {
  mixed := by kernel_rfl
  f206 := Tryd.func55.trans (congrArg some (by kernel_rfl))
  t3 := Tryd.underlying3
  a3 := Tryd.isAgg3
  z3 := Tryd.sizeOf3
  v3 := Tryd.zeroValue3
  t4 := Tryd.underlying4
  a4 := Tryd.isAgg4
  z4 := Tryd.sizeOf4
  v4 := Tryd.zeroValue4
  t9 := Tryd.underlying9
  a9 := Tryd.isAgg9
  z9 := Tryd.sizeOf9
  v9 := Tryd.zeroValue9 }
open Go.RowKit Go.Lib in
theorem Tryd.stringslite_HasPrefix (s p : ByteArray) (w : World) :
    Calls Tryd.prog 55 #[.string s, .string p] w fun e w' => e = .returned (.bool (Lib.hasPrefix s.data.toList p.data.toList)) ∧ w' = w := Any.stringslite_HasPrefix Tryd.lays206 s p w
def Tryd.lays197_ren : Go.Shelf.Ren := ⟨fun | 197 => 46 | 260 => 57 | n => n, fun | 9 => 9 | 21 => 21 | 3 => 3 | 4 => 4 | 5 => 5 | 105 => 71 | 119 => 86 | 0 => 0 | 46 => 69 | 139 => 89 | 138 => 88 | n => n, fun | 3 => 2 | 4 => 3 | n => n⟩
theorem Tryd.lays197 : Go.Proofs.Lays.n197 Tryd.prog Tryd.lays197_ren := {
  mixed := by kernel_rfl
  f197 := Tryd.func46.trans (congrArg some (by kernel_rfl))
  f260 := Tryd.func57.trans (congrArg some (by kernel_rfl))
  t0 := Tryd.underlying0
  a0 := Tryd.isAgg0
  z0 := Tryd.sizeOf0
  v0 := Tryd.zeroValue0
  t3 := Tryd.underlying3
  a3 := Tryd.isAgg3
  z3 := Tryd.sizeOf3
  v3 := Tryd.zeroValue3
  t4 := Tryd.underlying4
  a4 := Tryd.isAgg4
  z4 := Tryd.sizeOf4
  v4 := Tryd.zeroValue4
  t5 := Tryd.underlying5
  a5 := Tryd.isAgg5
  z5 := Tryd.sizeOf5
  v5 := Tryd.zeroValue5
  t9 := Tryd.underlying9
  a9 := Tryd.isAgg9
  z9 := Tryd.sizeOf9
  v9 := Tryd.zeroValue9
  t21 := Tryd.underlying21
  a21 := Tryd.isAgg21
  z21 := Tryd.sizeOf21
  v21 := Tryd.zeroValue21
  t46 := Tryd.underlying69
  a46 := Tryd.isAgg69
  z46 := Tryd.sizeOf69
  v46 := Tryd.zeroValue69
  t105 := Tryd.underlying71
  a105 := Tryd.isAgg71
  z105 := Tryd.sizeOf71
  v105 := Tryd.zeroValue71
  t119 := Tryd.underlying86
  a119 := Tryd.isAgg86
  z119 := Tryd.sizeOf86
  t138 := Tryd.underlying88
  a138 := Tryd.isAgg88
  z138 := Tryd.sizeOf88
  v138 := Tryd.zeroValue88
  t139 := Tryd.underlying89
  a139 := Tryd.isAgg89
  z139 := Tryd.sizeOf89
  v139 := Tryd.zeroValue89
  g3 := by kernel_rfl
  g4 := by kernel_rfl }
open Go.RowKit Go.Lib in
theorem Tryd.utf8_DecodeRuneInString_ascii (s : ByteArray) (x : UInt8) (w : World) (h0 : s.data.toList[0]? = some x) (hx : x.toNat < 128) :
    Calls Tryd.prog 46 #[.string s] w fun e w' => e = .returned (.tuple #[.int .i32 x.toNat, .int .i64 1]) ∧ w' = w := Any.utf8_DecodeRuneInString_ascii Tryd.lays197 s x w h0 hx
def Tryd.lays260_ren : Go.Shelf.Ren := ⟨fun | 260 => 57 | n => n, fun | 9 => 9 | 21 => 21 | 3 => 3 | 4 => 4 | 5 => 5 | 119 => 86 | 0 => 0 | 46 => 69 | 139 => 89 | 138 => 88 | n => n, fun | 3 => 2 | 4 => 3 | n => n⟩
theorem Tryd.lays260 : Go.Proofs.Lays.n260 Tryd.prog Tryd.lays260_ren := {
  mixed := by kernel_rfl
  f260 := Tryd.func57.trans (congrArg some (by kernel_rfl))
  t0 := Tryd.underlying0
  a0 := Tryd.isAgg0
  z0 := Tryd.sizeOf0
  v0 := Tryd.zeroValue0
  t3 := Tryd.underlying3
  a3 := Tryd.isAgg3
  z3 := Tryd.sizeOf3
  v3 := Tryd.zeroValue3
  t4 := Tryd.underlying4
  a4 := Tryd.isAgg4
  z4 := Tryd.sizeOf4
  v4 := Tryd.zeroValue4
  t5 := Tryd.underlying5
  a5 := Tryd.isAgg5
  z5 := Tryd.sizeOf5
  v5 := Tryd.zeroValue5
  t9 := Tryd.underlying9
  a9 := Tryd.isAgg9
  z9 := Tryd.sizeOf9
  v9 := Tryd.zeroValue9
  t21 := Tryd.underlying21
  a21 := Tryd.isAgg21
  z21 := Tryd.sizeOf21
  v21 := Tryd.zeroValue21
  t46 := Tryd.underlying69
  a46 := Tryd.isAgg69
  z46 := Tryd.sizeOf69
  v46 := Tryd.zeroValue69
  t119 := Tryd.underlying86
  a119 := Tryd.isAgg86
  z119 := Tryd.sizeOf86
  t138 := Tryd.underlying88
  a138 := Tryd.isAgg88
  z138 := Tryd.sizeOf88
  v138 := Tryd.zeroValue88
  t139 := Tryd.underlying89
  a139 := Tryd.isAgg89
  z139 := Tryd.sizeOf89
  v139 := Tryd.zeroValue89
  g3 := by kernel_rfl
  g4 := by kernel_rfl }
open Go.RowKit Go.Lib in
theorem Tryd.utf8_decodeRuneInStringSlow (s : ByteArray) (w : World) (hT : Lib.Utf8Tabs 2 3 w) :
    Calls Tryd.prog 57 #[.string s] w fun e w' => e = .returned (.tuple #[.int .i32 (Lib.decodeGo s).1, .int .i64 (Lib.decodeGo s).2]) ∧ Below w.heap.size w w' := Any.utf8_decodeRuneInStringSlow Tryd.lays260 s w hT
end Go.Proofs
end

section
/- Package variables that hold rows of numbers, as the rows tell; a law whose function reads them. -/
namespace Go.Proofs.YtdcokepmblcdmaaDoor.V
open Go Go.RowKit
set_option linter.unusedVariables false
set_option linter.unusedSimpArgs false
theorem laid_ints {P : Program} {w : World} {nm : String} {g t e n base fuel : Nat} {k : IntKind} {l : List Int} {cs : Array Value} {H : Type} {enc : TypeId × Value → H} {spare : Nat → Bool} {held : Bool} {ps : List MemPlace} (hg : P.globalNamed nm = some g) (hu : P.underlying t = some (.array n e)) (hi : P.underlying e = some (.int k)) (hc : P.cellsOf e = 1) (hv : w.var? P nm = some cs)
    (hd : DataW.trod enc P w base spare held fuel t cs.toList = some (.agg (l.map fun x => .lit (.int k x)), ps)) : ∀ (j : Nat) x, l[j]? = some x → w.cell? ⟨g, j, none⟩ = some (.int k x) := by
  obtain ⟨xs, m, rfl, hx, hl, hn, hel⟩ := DataW.trod_array hu hd
  simp only [Prod.mk.injEq, DataW.agg.injEq] at hx
  intro j x hj
  have h1 : (xs.map (·.1))[j]? = some (.lit (.int k x)) := by rw [← hx.1, List.getElem?_map, hj]; rfl
  rw [List.getElem?_map, Option.map_eq_some_iff] at h1
  obtain ⟨y, hy, hy2⟩ := h1
  have hjn : j < n := by rw [← hn]; exact (List.getElem?_eq_some_iff.1 hy).1
  have h2 := hel j hjn
  rw [hy, hc] at h2
  obtain ⟨q, hq, hq2, _⟩ := DataW.trod_int hi h2
  rw [hq2] at hy2
  simp only [DataW.lit.injEq, Lit.int.injEq, true_and] at hy2
  subst hy2
  have h3 : cs.toList[j]? = some (.int k q) := by
    have h4 : ((cs.toList.drop (j * 1)).take 1)[0]? = some (.int k q) := by rw [hq]; rfl
    simpa using h4
  rw [World.var?_cell hg hv j]
  simpa using h3
theorem flat_eI (k : IntKind) (l : List Int) : (l.map (eI k)).flatten = l.map (Sc.int k) := by
  induction l with
  | nil => rfl
  | cons x l ih => rw [List.map_cons, List.flatten_cons, ih]; rfl
theorem glrep {w : World} {g : Nat} {k : IntKind} {l : List Int} (h : ∀ (j : Nat) (x : Int), l[j]? = some x → w.cell? ⟨g, j, none⟩ = some (.int k x)) (hne : l ≠ []) : RepD w (fun b => b < w.heap.size) (.ref ((l.map (eI k)).flatten) 0) (.pointer (some ⟨g, 0, none⟩)) := by
  have key : ∀ (j : Nat) (sc : Sc), ((l.map (eI k)).flatten)[j]? = some sc → ∃ x : Int, l[j]? = some x ∧ sc = Sc.int k x := by
    intro j sc hj
    rw [flat_eI, List.getElem?_map, Option.map_eq_some_iff] at hj
    obtain ⟨x, hx, rfl⟩ := hj
    exact ⟨x, hx, rfl⟩
  have hb : g < w.heap.size := by
    cases l with
    | nil => exact absurd rfl hne
    | cons x l => exact cell?_lt (h 0 x rfl)
  refine .ref _ 0 g 0 (fun j => (w.cell? ⟨g, j, none⟩).getD undef) hb (fun j sc hj => ?_) (fun j sc hj => ?_)
  · obtain ⟨x, hx, rfl⟩ := key j sc hj
    rw [Nat.zero_add, h j x hx]; rfl
  · obtain ⟨x, hx, rfl⟩ := key j sc hj
    simp only [h j x hx, Option.getD_some]
    exact .int k x
/-- A law whose function reads package variables, out of what is shown of its function. -/
theorem Fun.lawG {P : Program} {gl : Gl} {f : FuncId} {xs : List Vb} {b : Bool} {vs : List Value} {w : World} (h : Fun P gl f (xs.map Va.b) (.bo b)) (hg : GlOk gl w (fun k => k < w.heap.size)) (hx : AtAll w xs vs) : Calls P f vs.toArray w fun e w1 => e = .returned (.bool b) ∧ Below w.heap.size w w1 := by
  obtain ⟨hl, hg2⟩ := hx.get
  refine (h.2 w (fun k => k < w.heap.size) vs.toArray (fun _ h => h) hg ⟨by simpa using hl, fun j x hj => ?_⟩).mono fun e w1 => ?_
  · rw [List.getElem?_map, Option.map_eq_some_iff] at hj
    obtain ⟨y, hj, rfl⟩ := hj
    have := hg2 j y hj
    show At w y _
    simpa [Array.getD_eq_getD_getElem?, List.getD] using this
  · rintro ⟨u, S1, rfl, _, _, hr, hb⟩
    refine ⟨?_, hb⟩
    cases hr with
    | d _ _ h => cases h with | bool _ => rfl
end Go.Proofs.YtdcokepmblcdmaaDoor.V
end

section
/- A range over a function whose iterator turns blocks of its own: the statement, by what the iterator says and what a round keeps. -/
namespace Go.Proofs.YtdcokepmblcdmaaDoor.V
open Go Go.RowKit
set_option linter.unusedVariables false
set_option linter.unusedSimpArgs false
/-- From one world to a later one: blocks of S lie as they lay. -/
structure Kp (S : Nat → Prop) (w w1 : World) : Prop where
  os : w1.os = w.os
  tape : w1.tape = w.tape
  output : w1.output = w.output
  size : w.heap.size ≤ w1.heap.size
  block : ∀ b, S b → b < w.heap.size → w1.heap[b]? = w.heap[b]?
theorem Kp.refl (S : Nat → Prop) (w : World) : Kp S w w := ⟨rfl, rfl, rfl, Nat.le_refl _, fun _ _ _ => rfl⟩
theorem Kp.trans {S : Nat → Prop} {w w1 w2 : World} (h : Kp S w w1) (h2 : Kp S w1 w2) : Kp S w w2 :=
  ⟨h2.os.trans h.os, h2.tape.trans h.tape, h2.output.trans h.output, Nat.le_trans h.size h2.size, fun b hb hl => (h2.block b hb (Nat.lt_of_lt_of_le hl h.size)).trans (h.block b hb hl)⟩
theorem Kp.mono {S S1 : Nat → Prop} {w w1 : World} (h : Kp S w w1) (hs : ∀ b, S1 b → b < w.heap.size → S b) : Kp S1 w w1 := ⟨h.os, h.tape, h.output, h.size, fun b hb hl => h.block b (hs b hb hl) hl⟩
theorem Kp.of_below {S : Nat → Prop} {w w1 : World} (h : Below w.heap.size w w1) : Kp S w w1 := ⟨h.os, h.tape, h.output, h.size, fun b _ hl => h.block b hl⟩
theorem Kp.below {S : Nat → Prop} {B : Nat} {w w1 : World} (h : Kp S w w1) (hs : ∀ b, b < B → S b) (hB : B ≤ w.heap.size) : Below B w w1 := ⟨h.os, h.tape, h.output, h.size, fun b hb => h.block b (hs b hb) (Nat.lt_of_lt_of_le hb hB)⟩
theorem Kp.alloc (S : Nat → Prop) (w : World) (o : Obj) : Kp S w (w.alloc o) := ⟨rfl, rfl, rfl, by simp, fun b _ hl => Below.heap_alloc w o b hl⟩
theorem Kp.putObj {S : Nat → Prop} (w : World) (l : Nat) (o : Obj) (h : ¬ S l) : Kp S w (w.putObj l o) := ⟨rfl, rfl, rfl, by rw [World.putObj_size]; exact Nat.le_refl _, fun b hb _ => World.putObj_heap_other (by rintro rfl; exact h hb)⟩
theorem Kp.setCell {S : Nat → Prop} (w : World) (b o : Nat) (v : Value) (h : ¬ S b) : Kp S w (w.setCell ⟨b, o, none⟩ v) := by
  refine ⟨rfl, rfl, rfl, by show w.heap.size ≤ (w.heap.modify _ _).size; rw [Array.size_modify]; exact Nat.le_refl _, fun k hk hl => ?_⟩
  exact Below.heap_setCell w ⟨b, o, none⟩ v k (by rintro rfl; exact h hk)
/-- What an iterator says: it hands over just these, one by one; between two rounds it turns the blocks of T alone, and lays new ones. -/
def Hands (P : Program) (k : FuncId) (lb : Array Value) (T : Nat → Prop) (xs : List Str) (enc : Str → Array Value) (w : World) : Prop :=
  ∀ (l : Nat) (J Jx : List Str → World → Prop) (W : World), Kp (fun _ => True) w W →
    (∀ pre W W', J pre W → Kp (fun b => ¬ T b) W W' → J pre W') →
    (∀ pre W W', Jx pre W → Kp (fun b => ¬ T b) W W' → Jx pre W') →
    (∀ pre x W, J pre W → pre ++ [x] <+: xs → YieldAt Fence.wide 0 P l (enc x) W fun e W' =>
      (e = .returned (.bool true) ∧ J (pre ++ [x]) W' ∧ Kp T W W') ∨ (e = .returned (.bool false) ∧ Jx (pre ++ [x]) W')) →
    J [] W →
    Calls P k (#[.func (.yield l) #[] #[]] ++ lb) W fun e W' => (∃ v, e = .returned v) ∧ (J xs W' ∨ ∃ pre, pre <+: xs ∧ Jx pre W')
/-- How a round's body may be left. -/
def handsPost (B : Nat) (I : List Str → World → Prop) (Ix : Code → List Str → World → Prop) (xs : List Str) (W : World) : Exit → Act → World → Prop
  | .normal, _, W' => Kp (fun b => B ≤ b) W W' ∧ I xs W'
  | .ret, _, W' => Kp (fun b => B ≤ b) W W' ∧ Ix .ret xs W'
  | .exit id, _, W' => Kp (fun b => B ≤ b) W W' ∧ Ix (.exit id) xs W'
  | _, _, _ => False
variable {P : Program}
theorem yieldAt_any {m n : Nat} {l : Nat} {args : Array Value} {W : World} {R : Ending → World → Prop} (h : YieldAt Fence.wide m P l args W R) : YieldAt Fence.wide n P l args W R := by
  obtain ⟨fn, tmps, assign, body, h1, h2, h3⟩ := h
  exact ⟨fn, tmps, assign, body, h1, h2, fun c cs _ => h3 c cs (room_wide _)⟩
set_option maxHeartbeats 1000000 in
/-- **The statement.** B: the heap's size where the loop begins, less what is the iterator's own: its blocks T lie from B on. -/
theorem wp_range {g : Operand} {ps : Array Tmp} {assign body : Code} {Q : Exit → Act → World → Prop} {a : Act} {w : World} {n B : Nat}
    {gf : Nat} {lb : Array Value} (hg : a.eval g = .func (.func gf) #[] lb) (eg : ∀ args w, (callFunc gf args).run P w = .ok (.enter gf args) w)
    {T : Nat → Prop} {xs : List Str} {enc : Str → Array Value} (hit : Hands P gf lb T xs enc w) (hT : ∀ b, T b → B ≤ b ∧ b < w.heap.size) (hps : ∀ x, (enc x).size = ps.size)
    (I : List Str → World → Prop) (Ix : Code → List Str → World → Prop)
    (hI : ∀ pre W W', I pre W → Kp (fun b => b < B) W W' → I pre W')
    (hIx : ∀ c pre W W', Ix c pre W → Kp (fun b => b < B) W W' → Ix c pre W')
    (hBw : B ≤ w.heap.size) (h0 : I [] w) (a₁ : Str → Act)
    (hassign : ∀ (l : Nat) (x : Str) (W : World) (K : Act → World → Prop), K (a₁ x) W →
      assign.wpIn (Fence.wide.inRound l) n P (Exit.then K (fun _ _ _ => False)) { tmps := (ps.zip (enc x)).foldl (fun t (p, v) => t.setIfInBounds p v) a.tmps, defers := [] } W)
    (hbody : ∀ (l : Nat) (pre : List Str) (x : Str) (W : World), I pre W → B ≤ W.heap.size → pre ++ [x] <+: xs → body.wpIn (Fence.wide.inRound l) n P (handsPost B I Ix (pre ++ [x]) W) (a₁ x) W)
    (hdone : ∀ (D : Nat) (W : World), I xs W → B ≤ D → W.heap[D]? = some (.deferred (some [])) → Q .normal { a with defers := { target := .collected D, args := #[] } :: a.defers } W)
    (hstop : ∀ (D : Nat) (c : Code) (pre : List Str) (W : World), Ix c pre W → pre <+: xs → B ≤ D → W.heap[D]? = some (.deferred (some [])) → c.wpIn Fence.wide n P Q { a with defers := { target := .collected D, args := #[] } :: a.defers } W) :
    (Code.rangeFunc g ps assign body).wpIn Fence.wide n P Q a w := by
  refine wpIn_rangeFunc ?_
  intro fn hfn
  obtain ⟨rec, hrec⟩ : ∃ rec : LoopState → Option Code → Loop, rec = fun st pe => { state := st, pending := pe, fn, tmps := a.tmps, params := ps, assign, body, defers := w.heap.size } := ⟨_, rfl⟩
  obtain ⟨W1, hW1⟩ : ∃ W1, (w.alloc (.deferred (some []))).alloc (.loop (rec .ready none)) = W1 := ⟨_, rfl⟩
  have k1 : Kp (fun _ => True) w W1 := by rw [← hW1]; exact (Kp.alloc _ _ _).trans (Kp.alloc _ _ _)
  have s1 : W1.heap.size = w.heap.size + 2 := by rw [← hW1]; simp
  have l1 : W1.heap[w.heap.size + 1]? = some (.loop (rec .ready none)) := by
    rw [← hW1]; have := World.alloc_heap_new (w.alloc (.deferred (some []))) (.loop (rec .ready none)); rwa [World.size_alloc] at this
  have d1 : W1.heap[w.heap.size]? = some (.deferred (some [])) := by
    rw [← hW1]; exact (Below.heap_alloc _ _ _ (by simp)).trans (World.alloc_heap_new w _)
  have i1 : I [] W1 := hI _ _ _ h0 (k1.mono fun _ _ _ => trivial)
  refine ⟨w.heap.size + 1, [{ target := .collected w.heap.size, args := #[] }], W1, { target := .fn (.func gf) lb, args := #[.func (.yield (w.heap.size + 1)) #[] #[]] }, W1, gf, #[.func (.yield (w.heap.size + 1)) #[] #[]] ++ lb, W1, ?_, ?_, ?_, ?_, (fun h => absurd h (by decide)), ?_⟩
  · rw [← hW1, hrec]; exact run_enterLoop_outer _ _ _ _ _
  · simp only [resolve, hg]
    simp [go_sem]
  · intro f' hf'; trivial
  · simp [invoke, go_sem, eg]
  · rw [callsIn_wide]
    have pb : ∀ (W : World) (o : Obj), Kp (fun b => b < B) W (W.putObj (w.heap.size + 1) o) := fun W o => .putObj _ _ _ (by omega)
    have nT : ∀ b, w.heap.size ≤ b → ¬ T b := fun b hb ht => by have := (hT b ht).2; omega
    have sub : ∀ b, b < B → ¬ T b := fun b hb ht => by have := (hT b ht).1; omega
    refine (hit (w.heap.size + 1)
      (fun pre W => I pre W ∧ W.heap[w.heap.size + 1]? = some (.loop (rec .ready none)) ∧ W.heap[w.heap.size]? = some (.deferred (some [])))
      (fun pre W => ∃ c, Ix c pre W ∧ W.heap[w.heap.size + 1]? = some (.loop (rec .done (some c))) ∧ W.heap[w.heap.size]? = some (.deferred (some [])))
      W1 k1 ?_ ?_ ?_ ⟨i1, l1, d1⟩).mono ?_
    · rintro pre W W' ⟨h1, h2, h3⟩ hk
      have q2 := (Array.getElem?_eq_some_iff.1 h2).1
      exact ⟨hI _ _ _ h1 (hk.mono fun b hb _ => sub b hb), (hk.block _ (nT _ (by omega)) q2).trans h2, (hk.block _ (nT _ (Nat.le_refl _)) (by omega)).trans h3⟩
    · rintro pre W W' ⟨c, h1, h2, h3⟩ hk
      have q2 := (Array.getElem?_eq_some_iff.1 h2).1
      exact ⟨c, hIx _ _ _ _ h1 (hk.mono fun b hb _ => sub b hb), (hk.block _ (nT _ (by omega)) q2).trans h2, (hk.block _ (nT _ (Nat.le_refl _)) (by omega)).trans h3⟩
    · rintro pre x W ⟨hi, hl, hk⟩ hpre
      have hlt : w.heap.size + 1 < W.heap.size := (Array.getElem?_eq_some_iff.1 hl).1
      have hy := run_yield (P := P) (args := enc x) hl (by rw [hrec]; exact hps x)
      rw [hrec] at hy
      refine yieldAt_any (m := n) ⟨fn, _, assign, body, hy, roundIn_of_wpIn hfn (hassign _ x W _ ⟨_, run_beginRound hl (by rw [hrec]), ?_⟩)⟩
      obtain ⟨W2, hW2⟩ : ∃ W2, W.putObj (w.heap.size + 1) (.loop { rec .ready none with state := .busy }) = W2 := ⟨_, rfl⟩
      have p2 : Kp (fun b => b ≠ w.heap.size + 1) W W2 := by rw [← hW2]; exact .putObj _ _ _ (fun h => h rfl)
      have z2 : W2.heap.size = W.heap.size := by rw [← hW2]; exact World.putObj_size
      have l2 : W2.heap[w.heap.size + 1]? = some (.loop { rec .ready none with state := .busy }) := by rw [← hW2]; exact World.putObj_heap_same hlt
      have d2 : W2.heap[w.heap.size]? = some (.deferred (some [])) := (p2.block _ (by omega) (by omega)).trans hk
      have i2 : I pre W2 := hI _ _ _ hi (p2.mono fun b hb _ => by omega)
      rw [hW2]
      refine wpIn_mono (hbody _ pre x _ i2 (by omega) hpre) ?_
      have fin : ∀ (jump : Option Code) (W3 : World), Kp (fun b => B ≤ b) W2 W3 →
          (Instr.endRound (w.heap.size + 1) jump).run P W3 = .ok (.bool jump.isNone) (W3.putObj (w.heap.size + 1) (.loop (rec (if jump.isNone then .ready else .done) jump))) ∧
          (W3.putObj (w.heap.size + 1) (.loop (rec (if jump.isNone then .ready else .done) jump))).heap[w.heap.size + 1]? = some (.loop (rec (if jump.isNone then .ready else .done) jump)) ∧
          (W3.putObj (w.heap.size + 1) (.loop (rec (if jump.isNone then .ready else .done) jump))).heap[w.heap.size]? = some (.deferred (some [])) ∧
          Kp T W (W3.putObj (w.heap.size + 1) (.loop (rec (if jump.isNone then .ready else .done) jump))) := fun jump W3 hk3 => by
        have hl3 := (hk3.block _ (by omega) (by omega)).trans l2
        have hd3 := (hk3.block _ hBw (by omega)).trans d2
        have := run_endRound (P := P) jump hl3
        rw [hrec] at this ⊢
        refine ⟨this, World.putObj_heap_same (Array.getElem?_eq_some_iff.1 hl3).1, (World.putObj_heap_other (by omega)).trans hd3, ((p2.mono fun b hb _ => ?_).trans (hk3.mono fun b hb _ => (hT b hb).1)).trans (.putObj _ _ _ fun hb => ?_)⟩
        · have := (hT b hb).2; omega
        · have := (hT _ hb).2; omega
      rintro e a3 W3 hp
      cases e with
      | normal =>
        obtain ⟨hk3, hi3⟩ := hp
        obtain ⟨hr, hl4, hk4, ht4⟩ := fin none W3 hk3
        exact ⟨_, _, hr, .inl ⟨rfl, ⟨hI _ _ _ hi3 (pb _ _), hl4, hk4⟩, ht4⟩⟩
      | ret =>
        obtain ⟨hk3, hi3⟩ := hp
        obtain ⟨hr, hl4, hk4, ht4⟩ := fin (some .ret) W3 hk3
        exact ⟨_, _, hr, .inr ⟨rfl, .ret, hIx _ _ _ _ hi3 (pb _ _), hl4, hk4⟩⟩
      | exit id =>
        obtain ⟨hk3, hi3⟩ := hp
        obtain ⟨hr, hl4, hk4, ht4⟩ := fin (some (.exit id)) W3 hk3
        exact ⟨_, _, hr, .inr ⟨rfl, .exit id, hIx _ _ _ _ hi3 (pb _ _), hl4, hk4⟩⟩
      | goto t => exact hp.elim
      | panic ch => exact hp.elim
      | outgrown => exact hp.elim
    · rintro e W2 ⟨⟨v, rfl⟩, (⟨hi, hl, hk⟩ | ⟨pre, hp, c, hi, hl, hk⟩)⟩
      · have := run_endLoop (P := P) hl (by rw [hrec]; simp)
        rw [hrec] at this
        exact ⟨none, _, this, hdone _ _ (hI _ _ _ hi (pb _ _)) hBw ((World.putObj_heap_other (by omega)).trans hk)⟩
      · have := run_endLoop (P := P) hl (by rw [hrec]; simp)
        rw [hrec] at this
        exact ⟨some c, _, this, hstop _ c pre _ (hIx _ _ _ _ hi (pb _ _)) hp hBw ((World.putObj_heap_other (by omega)).trans hk)⟩
/-- A contract of one's own typing whose function calls printed ones. -/
theorem Fun.flatG {gl : Gl} {f : FuncId} {xs : List Va} {y : Va} {v : Value} (hc : callable P f = true) (hy : ∀ w S, RepV w S (fun _ => none) (fun _ => none) y v) (h : ∀ w (S : Nat → Prop) vs, (∀ k, S k → k < w.heap.size) → GlOk gl w S → RepA w S xs vs → Calls P f vs w fun e w1 => e = .returned v ∧ Below w.heap.size w w1) : Fun P gl f xs y := by
  refine ⟨hc, fun w S vs hS hgl hA => (h w S vs hS hgl hA).mono fun e w1 => ?_⟩
  rintro ⟨rfl, hb⟩
  exact ⟨v, S, rfl, fun _ h => h, fun k hk => ⟨.inl hk, Nat.lt_of_lt_of_le (hS k hk) hb.size⟩, hy _ _, hb⟩
theorem GlOk.later {gl : Gl} {w w1 : World} {S : Nat → Prop} (hS : ∀ k, S k → k < w.heap.size) (hG : GlOk gl w S) (hb : Below w.heap.size w w1) : GlOk gl w1 S := fun g cs hg => (hG g cs hg).mono (fun _ h => h) (fun k hk => hb.block k (hS k hk))
theorem Fun.boolAt {gl : Gl} {f : FuncId} {xs : List Va} {b : Bool} {w w1 : World} {S : Nat → Prop} {vs : Array Value} (h : Fun P gl f xs (.bo b)) (hS : ∀ k, S k → k < w.heap.size) (hG : GlOk gl w S) (hb : Below w.heap.size w w1) (hA : RepA w1 S xs vs) : Calls P f vs w1 fun e w' => e = .returned (.bool b) ∧ Below w1.heap.size w1 w' :=
  (h.2 w1 S vs (fun k hk => Nat.lt_of_lt_of_le (hS k hk) hb.size) (hG.later hS hb) hA).mono fun e w' => by
    rintro ⟨u, S1, rfl, _, _, hr, hb⟩
    refine ⟨?_, hb⟩
    cases hr with
    | d _ _ h => cases h with | bool _ => rfl
theorem repA_str {w : World} {S : Nat → Prop} (x : List UInt8) : RepA w S [.b (.s (.d (.str x)))] #[strV x] := by
  refine ⟨rfl, fun j y hj => ?_⟩
  cases j with
  | zero => simp only [List.getElem?_cons_zero, Option.some.injEq] at hj; subst hj; exact .d _ _ (.str _)
  | succ j => simp at hj
end Go.Proofs.YtdcokepmblcdmaaDoor.V
end

section
/- The iterator of strings.SplitSeq at a separator of one byte. -/
namespace Go.Proofs.YtdcokepmblcdmaaDoor
open Go.RowKit
set_option linter.unusedVariables false
set_option linter.unusedSimpArgs false
open V
attribute [local go_sem] Oper.semAt_some
theorem cell_of_block {w w1 : World} {b : Nat} (h : w1.heap[b]? = w.heap[b]?) (o : Nat) : w1.cell? ⟨b, o, none⟩ = w.cell? ⟨b, o, none⟩ := World.cell?_of_block (w := w) h
theorem frozen_of_block {w w1 : World} {b : Nat} (h : w1.heap[b]? = w.heap[b]?) (o : Nat) : w1.frozen? ⟨b, o, none⟩ = w.frozen? ⟨b, o, none⟩ := by simp [World.frozen?, h]
def strLen (w : World) (a : Addr) : Nat := match w.cell? a with
  | some (.string l) => l.size
  | _ => 0
theorem ext_drop (l : List UInt8) (k : Nat) : (⟨⟨l⟩⟩ : ByteArray).extract k l.length = ⟨⟨l.drop k⟩⟩ := by
  apply ByteArray.ext; simp [List.take_of_length_le]
set_option maxHeartbeats 4000000 in
theorem splitSeq_hands (c : UInt8) (s : List UInt8) (bp bs bz : Nat) (w : World) (hlen : s.length ≤ 140737488355328) (hp : w.cell? ⟨bp, 0, none⟩ = some (strV [c])) (hs : w.cell? ⟨bs, 0, none⟩ = some (strV s)) (hz : w.cell? ⟨bz, 0, none⟩ = some (.int .i64 0)) (hf : w.frozen? ⟨bs, 0, none⟩ = false) (n1 : bp ≠ bs) (n2 : bz ≠ bs) :
    Hands Tryd.prog 45 #[.pointer (some ⟨bp, 0, none⟩), .pointer (some ⟨bs, 0, none⟩), .pointer (some ⟨bz, 0, none⟩)] (fun b => b = bp ∨ b = bs ∨ b = bz) (splitOnB c s) (fun x => #[strV x]) w := by
  intro l J Jx W hW hJ hJx hY h0
  have hp0 := (cell_of_block (hW.block bp trivial (cell?_lt hp)) 0).trans hp
  have hs0 := (cell_of_block (hW.block bs trivial (cell?_lt hs)) 0).trans hs
  have hz0 := (cell_of_block (hW.block bz trivial (cell?_lt hz)) 0).trans hz
  have hf0 := (frozen_of_block (hW.block bs trivial (cell?_lt hs)) 0).trans hf
  refine (callsIn_wide (n := 3)).1 ?_
  refine callsIn_of_wp Tryd.func45 rfl trivial ?_ rfl
  simp only [Tryd.ntmps45, List.size_toArray, List.length_cons, List.length_nil, Nat.reduceAdd, Nat.reduceSub, Array.replicate_succ, Array.replicate_zero, List.push_toArray, List.append_toArray, List.nil_append, List.cons_append]
  have hidx : ∀ (x : List UInt8) (W : World), Calls Tryd.prog 47 #[.string ⟨⟨x⟩⟩, .string ⟨#[c]⟩] W fun e W' => e = .returned (.int .i64 (Lib.indexByte x c)) ∧ W' = W := by
    intro x W
    go_enter Tryd.func47, Tryd.ntmps47
    go_wp2_with (go_at_call 49; refine (Tryd.stringslite_Index_one ⟨⟨x⟩⟩ c W).mono ?_; rintro e W' ⟨rfl, rfl⟩)
    go_ret
    exact ⟨rfl, rfl⟩
  have hsv : ∀ x : List UInt8, strV x = .string ⟨⟨x⟩⟩ := fun _ => rfl
  have hsc : strV [c] = .string ⟨#[c]⟩ := rfl
  rw [hsc] at hp0
  rw [hsv] at hs0
  gi_wp2
  gi_loopw [7] (fun i wr => ∃ (pre : List (List UInt8)) (rest : List UInt8), splitOnB c s = pre ++ splitOnB c rest ∧ rest.length ≤ 140737488355328 ∧ wr.cell? ⟨bs, 0, none⟩ = some (.string ⟨⟨rest⟩⟩) ∧ wr.frozen? ⟨bs, 0, none⟩ = false ∧ wr.cell? ⟨bp, 0, none⟩ = some (.string ⟨#[c]⟩) ∧ wr.cell? ⟨bz, 0, none⟩ = some (.int .i64 0) ∧ J pre wr) (fun i wr => strLen wr ⟨bs, 0, none⟩)
  case atStart =>
    exact ⟨[], s, rfl, hlen, hs0, hf0, hp0, hz0, h0⟩
  case round =>
    obtain ⟨pre, rest, hx, hl, hc1, hc2, hc3, hc4, hJ1⟩ := hrel
    gi_wp2
    refine ⟨trivial, ?_⟩
    refine (callsIn_wide.2 (hidx rest wr)).mono ?_
    rintro e W2 ⟨rfl, rfl⟩
    dsimp only
    by_cases hneg : Lib.indexByte rest c < 0
    · have h1 := splitOnB_none hneg
      obtain ⟨fn, tmps, assign, body, hy, hR⟩ := yieldAt_any (n := 2) (hY pre rest W2 hJ1 (by rw [hx, h1]; exact List.prefix_refl _))
      rw [hsv] at hy
      gi_wp2
      refine hR.mono ?_
      rintro e W3 (⟨rfl, hJ3, hk3⟩ | ⟨rfl, hJx3⟩)
      · gi_wp2
        go_end0
        exact ⟨⟨_, rfl⟩, .inl (by rw [hx, h1]; exact hJ3)⟩
      · gi_wp2
        go_end0
        exact ⟨⟨_, rfl⟩, .inr ⟨_, by rw [hx, h1]; exact List.prefix_refl _, hJx3⟩⟩
    · obtain ⟨i, hi, hil, h1⟩ := splitOnB_some hneg
      have hex : (⟨⟨rest⟩⟩ : ByteArray).extract 0 i = ⟨⟨rest.take i⟩⟩ := by
        apply ByteArray.ext; simp
      obtain ⟨fn, tmps, assign, body, hy, hR⟩ := yieldAt_any (n := 2) (hY pre (rest.take i) W2 hJ1 (by rw [hx, h1]; exact ⟨splitOnB c (rest.drop (i + 1)), by simp⟩))
      rw [hsv] at hy
      rw [hi] at hneg ⊢
      gi_wp2
      refine hR.mono ?_
      rintro e W3 (⟨rfl, hJ3, hk3⟩ | ⟨rfl, hJx3⟩)
      · have q1 := (cell_of_block (hk3.block bs (.inr (.inl rfl)) (cell?_lt hc1)) 0).trans hc1
        have q2 := (frozen_of_block (hk3.block bs (.inr (.inl rfl)) (cell?_lt hc1)) 0).trans hc2
        have q3 := (cell_of_block (hk3.block bp (.inl rfl) (cell?_lt hc3)) 0).trans hc3
        have q4 := (cell_of_block (hk3.block bz (.inr (.inr rfl)) (cell?_lt hc4)) 0).trans hc4
        gi_wp2
        go_roundw
        case rel =>
          refine ⟨pre ++ [rest.take i], rest.drop (i + 1), by rw [hx, h1]; simp, by simp; omega, ?_, ?_, ?_, ?_, ?_⟩
          · rw [World.cell?_setCell_same' _ _ _ (by rw [q1]; rfl), ext_drop]
          · rw [World.frozen?_setCell]; exact q2
          · exact (World.cell?_setCell_other _ _ _ _ (by intro e; injection e with e; exact n1 e.symm)).trans q3
          · exact (World.cell?_setCell_other _ _ _ _ (by intro e; injection e with e; exact n2 e.symm)).trans q4
          · exact hJ _ _ _ hJ3 (.setCell _ _ _ _ (by simp))
        case measure =>
          have e1 : strLen (W3.setCell ⟨bs, 0, none⟩ (.string ((⟨⟨rest⟩⟩ : ByteArray).extract (i + 1) rest.length))) ⟨bs, 0, none⟩ = rest.length - (i + 1) := by
            rw [strLen, World.cell?_setCell_same' _ _ _ (by rw [q1]; rfl), ext_drop]
            show (rest.drop (i + 1)).length = _
            simp
          have e2 : strLen W2 ⟨bs, 0, none⟩ = rest.length := by rw [strLen, hc1]; rfl
          omega
      · gi_wp2
        refine bodyPost_ret (results_none rfl _ _ _) rfl ?_
        exact ⟨⟨_, rfl⟩, .inr ⟨_, by rw [hx, h1]; exact ⟨splitOnB c (rest.drop (i + 1)), by simp⟩, hJx3⟩⟩
end Go.Proofs.YtdcokepmblcdmaaDoor
end

section
/- The contract of name.Repo, over what is known of name.part. -/
namespace Go.Proofs.YtdcokepmblcdmaaDoor
open Go.RowKit
set_option linter.unusedVariables false
set_option linter.unusedSimpArgs false
open V
attribute [local go_sem] Oper.semAt_some
theorem splitSeq_new (s : List UInt8) (c : UInt8) (w : World) : Calls Tryd.prog 22 #[.string ⟨⟨s⟩⟩, .string ⟨#[c]⟩] w fun e w' => e = .returned (.func (.func 45) #[] #[.pointer (some ⟨w.heap.size + 1, 0, none⟩), .pointer (some ⟨w.heap.size, 0, none⟩), .pointer (some ⟨w.heap.size + 1 + 1, 0, none⟩)]) ∧
    Below w.heap.size w w' ∧ w'.heap.size = w.heap.size + 3 ∧ w'.cell? ⟨w.heap.size + 1, 0, none⟩ = some (strV [c]) ∧ w'.cell? ⟨w.heap.size, 0, none⟩ = some (strV s) ∧ w'.cell? ⟨w.heap.size + 1 + 1, 0, none⟩ = some (.int .i64 0) ∧ w'.frozen? ⟨w.heap.size, 0, none⟩ = false := by
  go_enter Tryd.func22, Tryd.ntmps22
  go_wp2
  go_ret
  have b1 := (((Below.refl w.heap.size w).alloc (Nat.le_refl _) (.cells #[.string ⟨⟨s⟩⟩] 9)).alloc (by simp) (.cells #[.string ⟨#[c]⟩] 9)).alloc (by simp; omega) (.cells #[.int .i64 0] 3)
  refine ⟨rfl, b1, by simp, ?_, ?_, ?_, ?_⟩
  · rw [World.cell?_alloc_past _ _ _ (by simp), World.cell?_alloc_at _ _ _ _ (by simp)]; rfl
  · rw [World.cell?_alloc_past _ _ _ (by simp; omega), World.cell?_alloc_past _ _ _ (by simp), World.cell?_alloc_at _ _ _ _ (by simp)]; rfl
  · rw [World.cell?_alloc_at _ _ _ _ (by simp)]; rfl
  · rw [World.frozen?_alloc_past _ _ _ (by simp; omega), World.frozen?_alloc_past _ _ _ (by simp), World.frozen?_alloc_at _ _ _ _ rfl]
theorem allO_pre {α : Type} {f : α → Option Bool} : ∀ {pre : List α} {l : List α} {y : Bool}, (∀ x ∈ pre, f x = some true) → allO f (pre ++ l) = some y → allO f l = some y
  | [], _, _, _, h => h
  | x :: pre, l, y, h, h1 => by
    rw [List.cons_append, allO, h x (List.mem_cons_self ..)] at h1
    exact allO_pre (fun z hz => h z (List.mem_cons_of_mem _ hz)) h1
def flatDesc : TypeDesc → Bool
  | .struct _ => false
  | .array _ _ => false
  | _ => true
theorem run_loadVar_flat {P : Program} {w : World} {ty : TypeId} {a : Addr} {v : Value} {d : TypeDesc} (hu : P.underlying ty = some d) (hd : flatDesc d = true) (hc : w.cell? a = some v) : (loadVar ty a).run P w = .ok v w := by
  cases d <;> first | (cases hd; done) | simp [loadVar, isAgg, underlying, hu, hc, Result.andThen, Sem.run_bind]
theorem results_cell1 {P : Program} {w : World} {fn : Func} {p : Tmp} {ty : TypeId} {a : Addr} {v : Value} {d : TypeDesc} (h : fn.results = #[.cell p ty]) (tmps : Array Value) (hp : tmps.getD p undef = .pointer (some a)) (hu : P.underlying ty = some d) (hd : flatDesc d = true) (hc : w.cell? a = some v) : (results fn tmps).run P w = .ok v w := by
  have hp' : tmps[p]?.getD undef = .pointer (some a) := by simpa using hp
  simp [results, h, hp', asAddr, run_loadVar_flat hu hd hc]
set_option maxHeartbeats 2000000 in
theorem name_Repo_spec (f : List UInt8 → Option Bool) (s : List UInt8) (y : Bool) (h : repoOf f s = some y) (w : World) (hf : ∀ x b, f x = some b → ∀ W : World, Below w.heap.size w W → Calls Tryd.prog 23 #[.string ⟨⟨x⟩⟩] W fun e w' => e = .returned (.bool b) ∧ Below W.heap.size W w') : Calls Tryd.prog 11 #[.string ⟨⟨s⟩⟩] w fun e w' => e = .returned (.bool y) ∧ Below w.heap.size w w' := by
  refine (callsIn_wide (n := 3)).1 ?_
  refine callsIn_of_wp_marks Tryd.func11 rfl trivial ?_ rfl
  simp only [Tryd.ntmps11, List.size_toArray, List.length_cons, List.length_nil, Nat.reduceAdd, Nat.reduceSub, Array.replicate_succ, Array.replicate_zero, List.push_toArray, List.append_toArray, List.nil_append, List.cons_append]
  unfold repoOf at h
  by_cases hl : 128 < s.length
  · rw [if_pos hl] at h
    obtain rfl := Option.some.inj h
    have bw := (Below.refl w.heap.size w).alloc (Nat.le_refl _) (.cells #[.bool false] 4)
    gi_wp2
    exact ⟨_, results_cell1 rfl _ rfl Tryd.underlying4 rfl (by rw [World.cell?_alloc_at _ _ _ _ rfl]; rfl), rfl, bw⟩
  · rw [if_neg hl] at h
    have bw := (Below.refl w.heap.size w).alloc (Nat.le_refl _) (.cells #[.bool false] 4)
    gi_wp2
    refine ⟨trivial, ?_⟩
    refine (callsIn_wide.2 (splitSeq_new s 47 _)).mono ?_
    rintro e W1 ⟨rfl, b1, z1, c1, c2, c3, f1⟩
    dsimp only
    simp only [World.size_alloc] at z1 c1 c2 c3 f1 b1 ⊢
    have r1 : W1.cell? ⟨w.heap.size, 0, none⟩ = some (.bool false) := by
      rw [b1.cell (p := ⟨w.heap.size, 0, none⟩) (by simp), World.cell?_alloc_at _ _ _ _ (by simp)]; rfl
    have r2 : W1.frozen? ⟨w.heap.size, 0, none⟩ = false := by
      rw [b1.frozen (p := ⟨w.heap.size, 0, none⟩) (by simp), World.frozen?_alloc_at _ _ _ _ (by simp)]
    have r3 : Below w.heap.size w W1 := bw.trans (b1.mono (by omega))
    gi_wp2
    refine wp_range (B := w.heap.size + 1) rfl (enters_of Tryd.func45 (by kernel_rfl) rfl) (splitSeq_hands 47 s _ _ _ W1 (by omega) c1 c2 c3 f1 (by omega) (by omega)) (by rintro b (rfl | rfl | rfl) <;> omega) (fun _ => rfl)
      (fun pre W => (∀ x ∈ pre, f x = some true) ∧ W.cell? ⟨w.heap.size, 0, none⟩ = some (.bool false) ∧ W.frozen? ⟨w.heap.size, 0, none⟩ = false ∧ Below w.heap.size w W)
      (fun c pre W => c = .ret ∧ (∃ p x, pre = p ++ [x] ∧ (∀ x ∈ p, f x = some true) ∧ f x = some false) ∧ W.cell? ⟨w.heap.size, 0, none⟩ = some (.bool false) ∧ Below w.heap.size w W)
      ?_ ?_ (by omega) ⟨(fun x hx => by cases hx), r1, r2, r3⟩ (fun x => { tmps := #[.string ⟨⟨s⟩⟩, undef, .pointer (some ⟨w.heap.size, 0, none⟩), .string ⟨⟨x⟩⟩, .string ⟨⟨s⟩⟩, .int .i64 s.length, .bool (decide (128 < (s.length : Int))), .string ⟨⟨s⟩⟩, .func (.func 45) #[] #[.pointer (some ⟨w.heap.size + 1 + 1, 0, none⟩), .pointer (some ⟨w.heap.size + 1, 0, none⟩), .pointer (some ⟨w.heap.size + 1 + 1 + 1, 0, none⟩)], .string ⟨⟨x⟩⟩, undef, undef, undef], defers := [] }) ?assign ?body ?done ?stop
    · rintro pre W W' ⟨h1, h2, h3, h4⟩ hk
      have q := hk.block w.heap.size (by simp) (cell?_lt h2)
      exact ⟨h1, (cell_of_block q 0).trans h2, (frozen_of_block q 0).trans h3, h4.trans (hk.below (fun b hb => Nat.lt_succ_of_lt hb) h4.size)⟩
    · rintro c pre W W' ⟨h0, h1, h2, h4⟩ hk
      have q := hk.block w.heap.size (by simp) (cell?_lt h2)
      exact ⟨h0, h1, (cell_of_block q 0).trans h2, h4.trans (hk.below (fun b hb => Nat.lt_succ_of_lt hb) h4.size)⟩
    case assign =>
      intro l x W K hK
      gi_wp2
      exact hK
    case body =>
      rintro l pre x W ⟨h1, h2, h3, h4⟩ hB ⟨t, ht⟩
      rw [← ht, List.append_assoc] at h
      have h5 := allO_pre h1 h
      rw [List.singleton_append, allO] at h5
      obtain ⟨b, hb, h6⟩ := Option.bind_eq_some_iff.1 h5
      gi_wp2
      refine ⟨trivial, ?_⟩
      refine (CallsIn.inRound l (callsIn_wide.2 (hf x b hb W h4))).mono ?_
      rintro e W2 ⟨rfl, k2⟩
      have g2 := (k2.cell (p := ⟨w.heap.size, 0, none⟩) (by simp; omega)).trans h2
      have g3 := (k2.frozen (p := ⟨w.heap.size, 0, none⟩) (by simp; omega)).trans h3
      have g4 := h4.trans (k2.mono (by omega))
      cases b with
      | true =>
        gi_wp2
        exact ⟨.of_below k2, fun z hz => by
          rcases List.mem_append.1 hz with hz | hz
          · exact h1 z hz
          · rw [List.mem_singleton.1 hz]; exact hb, g2, g3, g4⟩
      | false =>
        gi_wp2
        exact ⟨(Kp.of_below k2).trans (.setCell _ _ _ _ (by simp)), rfl, ⟨pre, x, rfl, h1, hb⟩, World.cell?_setCell_same' _ _ _ (by rw [g2]; rfl), g4.setCell (p := ⟨w.heap.size, 0, none⟩) (Nat.le_refl _) _⟩
    case done =>
      rintro D W ⟨h1, h2, h3, h4⟩ hD hK
      obtain rfl : y = true := by
        have := allO_pre (pre := splitOnB 47 s) (l := []) h1 (by rw [List.append_nil]; exact h)
        exact (Option.some.inj this).symm
      gi_wp2
      have hK' : (W.setCell ⟨w.heap.size, 0, none⟩ (.bool true)).heap[D]? = some (.deferred (some [])) := (Below.heap_setCell W ⟨w.heap.size, 0, none⟩ _ D (by simp; omega)).trans hK
      refine ⟨by simp, .inl ⟨_, _, rfl, run_takeDeferred hK', ?_⟩⟩
      refine ⟨_, results_cell1 rfl _ rfl Tryd.underlying4 rfl ((cell_of_block (World.putObj_heap_other (by omega)) 0).trans (World.cell?_setCell_same' _ _ _ (by rw [h2]; rfl))), rfl, ?_⟩
      exact (h4.setCell (p := ⟨w.heap.size, 0, none⟩) (Nat.le_refl _) _).trans ((Kp.putObj (S := fun b => b < w.heap.size) _ _ _ (by omega)).below (fun _ h => h) (by have := h4.size; simp; omega))
    case stop =>
      rintro D c pre W ⟨rfl, ⟨p, x, rfl, h1, hx⟩, h2, h4⟩ ⟨t, ht⟩ hD hK
      obtain rfl : y = false := by
        rw [← ht, List.append_assoc] at h
        have h5 := allO_pre h1 h
        rw [List.singleton_append, allO, hx] at h5
        exact (Option.some.inj h5).symm
      gi_wp2
      refine ⟨by simp, .inl ⟨_, _, rfl, run_takeDeferred hK, ?_⟩⟩
      refine ⟨_, results_cell1 rfl _ rfl Tryd.underlying4 rfl ((cell_of_block (World.putObj_heap_other (by omega)) 0).trans h2), rfl, ?_⟩
      exact h4.trans ((Kp.putObj (S := fun b => b < w.heap.size) _ _ _ (by omega)).below (fun _ h => h) h4.size)
end Go.Proofs.YtdcokepmblcdmaaDoor
end

section
/- Go functions compute what Lean functions do. -/
namespace Go.Proofs.YtdcokepmblcdmaaDoor.V
open Go Go.RowKit
set_option linter.unusedVariables false
set_option linter.unusedSimpArgs false
set_option maxHeartbeats 1000000
theorem f_internal_stringslite_Index_ok (s sub : Str) (y_ : Int) (h : f_internal_stringslite_Index s sub = some y_) : Fun Tryd.prog glP 49 [.b (.s (.d (.str s))), .b (.s (.d (.str sub)))] (.b (.s (.d (.int .i64 y_)))) := by
  unfold f_internal_stringslite_Index at h
  split at h
  · rename_i c
    obtain rfl := Option.some.inj h
    refine Fun.flat (by kernel_rfl) (of_int _ _) fun w S vs hA => ?_
    obtain ⟨v, u, rfl, h1, h2⟩ := args2 hA
    obtain rfl := repv_str (l := s) h1
    obtain rfl := repv_str (l := [c]) h2
    refine (Tryd.stringslite_Index_one ⟨⟨s⟩⟩ c w).mono fun e w' => ?_
    rintro ⟨rfl, rfl⟩
    exact ⟨rfl, Below.refl _ _⟩
  · cases h
theorem f_internal_stringslite_IndexByte_ok (s : Str) (c : Int) (y_ : Int) (h : f_internal_stringslite_IndexByte s c = some y_) : Fun Tryd.prog glP 56 [.b (.s (.d (.str s))), .b (.s (.d (.int .u8 c)))] (.b (.s (.d (.int .i64 y_)))) := by
  obtain rfl := Option.some.inj h
  refine Fun.flat (by kernel_rfl) (of_int _ _) fun w S vs hA => ?_
  obtain ⟨v, u, rfl, h1, h2⟩ := args2 hA
  obtain rfl := repv_str (l := s) h1
  obtain rfl := repv_int (n := c) h2
  refine (Tryd.stringslite_IndexByte ⟨⟨s⟩⟩ c w).mono fun e w' => ?_
  rintro ⟨rfl, rfl⟩
  exact ⟨rfl, Below.refl _ _⟩
-- 9 consignor/consignorlaw03.short
def c9r0 : List Opn := [
  ⟨(some 2), none, .mv (.c (.s (.d (.str []))))⟩]
def c9r1 : List Opn := [
  ⟨(some 3), none, .mv (.t 0)⟩, 
  ⟨(some 4), none, .mv (.t 0)⟩, 
  ⟨(some 5), none, .len .str (.t 4)⟩, 
  ⟨(some 6), none, .mm false (.t 5) (.c (.s (.d (.int .i64 220))))⟩, 
  ⟨(some 7), none, .slc .str (.t 3) none (some (.t 6)) none⟩, 
  ⟨(some 2), none, .mv (.t 7)⟩]
def c9 : C := .seq (.reg c9r0 none [0]) (.seq (.reg c9r1 none [2]) (.ret))
def k9 : List (Nat × List Nat) := [(1, [2]), (0, [0])]
theorem cc9 : (Tryd.f9.body).bind (cC Tryd.prog 8 k9) = some c9 := by kernel_rfl
def rv9 : List RV := [.t 2]
theorem cr9 : cRVs Tryd.prog Tryd.f9.results.toList = some rv9 := by kernel_rfl
theorem f_law03_short_ok (s : Str) (y_ : Str) (h : f_law03_short s = some y_) : Fun Tryd.prog glP 9 [.b (.s (.d (.str s)))] (.b (.s (.d (.str y_)))) := by
  refine fun_walk [] Tryd.func9 Tryd.ntmps9 cc9 cr9 (by kernel_rfl) (by simp only [List.length_cons, List.length_nil]; decide) ?_
  generalize hR : Ret _ _ _ _ _ = R_
  simp only [wz, wd, ws, Nat.reduceAdd, Nat.reduceSub, Nat.reduceMul, Nat.reduceLeDiff, Nat.reduceEqDiff, Nat.reduceLT, Nat.reduceBEq, reduceIte, reduceCtorEq, Int.reduceToNat, Nat.reduceShiftRight, Nat.reduceAnd, Nat.reduceBneDiff, Nat.reduceBNe]
  unfold f_law03_short at h; unfold c9
  refine .seq ?_
  refine Rw.walk ?_
  simp only [wz, wd, ws, Nat.reduceAdd, Nat.reduceSub, Nat.reduceMul, Nat.reduceLeDiff, Nat.reduceEqDiff, Nat.reduceLT, Nat.reduceBEq, reduceIte, reduceCtorEq, Int.reduceToNat, Nat.reduceShiftRight, Nat.reduceAnd, Nat.reduceBneDiff, Nat.reduceBNe, c9r0, semI.eq_10, semI.eq_11, semI.eq_3, semI.eq_5, semI.eq_7]
  refine .seq ?_
  refine Rw.walk ?_
  obtain ⟨g1, h⟩ := gd_iff.1 h
  simp only [wz, wd, ws, Nat.reduceAdd, Nat.reduceSub, Nat.reduceMul, Nat.reduceLeDiff, Nat.reduceEqDiff, Nat.reduceLT, Nat.reduceBEq, reduceIte, reduceCtorEq, Int.reduceToNat, Nat.reduceShiftRight, Nat.reduceAnd, Nat.reduceBneDiff, Nat.reduceBNe, c9r1, semI.eq_10, semI.eq_11, semI.eq_3, semI.eq_5, semI.eq_7]
  repeat (refine And.intro ?_ ?_; · first | omega | (intro q; simp only [wz, wd, ws, Nat.reduceAdd, Nat.reduceSub, Nat.reduceMul, Nat.reduceLeDiff, Nat.reduceEqDiff, Nat.reduceLT, Nat.reduceBEq, reduceIte, reduceCtorEq, Int.reduceToNat, Nat.reduceShiftRight, Nat.reduceAnd, Nat.reduceBneDiff, Nat.reduceBNe, q]; done))
  obtain rfl := Option.some.inj h
  refine .ret ?_
  rw [← hR]
  simp only [wz, wd, ws, Nat.reduceAdd, Nat.reduceSub, Nat.reduceMul, Nat.reduceLeDiff, Nat.reduceEqDiff, Nat.reduceLT, Nat.reduceBEq, reduceIte, reduceCtorEq, Int.reduceToNat, Nat.reduceShiftRight, Nat.reduceAnd, Nat.reduceBneDiff, Nat.reduceBNe, rv9]
-- 55 internal/stringslite.HasPrefix
def c55r0 : List Opn := [
  ⟨(some 4), none, .mv (.c (.s (.d (.bool false))))⟩]
def c55r1 : List Opn := [
  ⟨(some 5), none, .mv (.t 0)⟩, 
  ⟨(some 6), none, .len .str (.t 5)⟩, 
  ⟨(some 7), none, .mv (.t 1)⟩, 
  ⟨(some 8), none, .len .str (.t 7)⟩, 
  ⟨(some 9), none, .bin .geq (.t 6) (.t 8)⟩, 
  ⟨(some 10), none, .mv (.t 9)⟩, 
  ⟨(some 11), some (10, true), .mv (.t 0)⟩, 
  ⟨(some 12), some (10, true), .mv (.t 1)⟩, 
  ⟨(some 13), some (10, true), .len .str (.t 12)⟩, 
  ⟨(some 14), some (10, true), .slc .str (.t 11) none (some (.t 13)) none⟩, 
  ⟨(some 15), some (10, true), .mv (.t 1)⟩, 
  ⟨(some 16), some (10, true), .bin .eql (.t 14) (.t 15)⟩, 
  ⟨(some 17), none, .pick (.t 10) (.t 16) (.c (.s (.d (.bool false))))⟩, 
  ⟨(some 4), none, .mv (.t 17)⟩]
def c55 : C := .seq (.reg c55r0 none [0, 1]) (.seq (.reg c55r1 none [4]) (.ret))
def k55 : List (Nat × List Nat) := [(1, [4]), (0, [0, 1])]
theorem cc55 : (Tryd.f55.body).bind (cC Tryd.prog 18 k55) = some c55 := by kernel_rfl
def rv55 : List RV := [.t 4]
theorem cr55 : cRVs Tryd.prog Tryd.f55.results.toList = some rv55 := by kernel_rfl
theorem f_internal_stringslite_HasPrefix_ok (s : Str) (prefixv : Str) (y_ : Bool) (h : f_internal_stringslite_HasPrefix s prefixv = some y_) : Fun Tryd.prog glP 55 [.b (.s (.d (.str s))), .b (.s (.d (.str prefixv)))] (.b (.s (.d (.bool y_)))) := by
  refine fun_walk [] Tryd.func55 Tryd.ntmps55 cc55 cr55 (by kernel_rfl) (by simp only [List.length_cons, List.length_nil]; decide) ?_
  generalize hR : Ret _ _ _ _ _ = R_
  simp only [wz, wd, ws, Nat.reduceAdd, Nat.reduceSub, Nat.reduceMul, Nat.reduceLeDiff, Nat.reduceEqDiff, Nat.reduceLT, Nat.reduceBEq, reduceIte, reduceCtorEq, Int.reduceToNat, Nat.reduceShiftRight, Nat.reduceAnd, Nat.reduceBneDiff, Nat.reduceBNe]
  unfold f_internal_stringslite_HasPrefix at h; unfold c55
  refine .seq ?_
  refine Rw.walk ?_
  simp only [wz, wd, ws, Nat.reduceAdd, Nat.reduceSub, Nat.reduceMul, Nat.reduceLeDiff, Nat.reduceEqDiff, Nat.reduceLT, Nat.reduceBEq, reduceIte, reduceCtorEq, Int.reduceToNat, Nat.reduceShiftRight, Nat.reduceAnd, Nat.reduceBneDiff, Nat.reduceBNe, c55r0, semI.eq_10, semI.eq_11, semI.eq_3, semI.eq_5, semI.eq_7]
  refine .seq ?_
  refine Rw.walk ?_
  obtain ⟨g1, h⟩ := gd_iff.1 h
  simp only [wz, wd, ws, Nat.reduceAdd, Nat.reduceSub, Nat.reduceMul, Nat.reduceLeDiff, Nat.reduceEqDiff, Nat.reduceLT, Nat.reduceBEq, reduceIte, reduceCtorEq, Int.reduceToNat, Nat.reduceShiftRight, Nat.reduceAnd, Nat.reduceBneDiff, Nat.reduceBNe, c55r1, semI.eq_10, semI.eq_11, semI.eq_3, semI.eq_5, semI.eq_7]
  repeat (refine And.intro ?_ ?_; · first | omega | exact g1 | (intro q; first | omega | (have q2 := g1 (by simpa using q); omega) | (have q2 := g1 q; omega) | (have q2 := g1 (by simpa using q); simp only [List.length_append, List.length_cons, List.length_nil] at q2 ⊢; omega)) | (intro q; simp only [wz, wd, ws, Nat.reduceAdd, Nat.reduceSub, Nat.reduceMul, Nat.reduceLeDiff, Nat.reduceEqDiff, Nat.reduceLT, Nat.reduceBEq, reduceIte, reduceCtorEq, Int.reduceToNat, Nat.reduceShiftRight, Nat.reduceAnd, Nat.reduceBneDiff, Nat.reduceBNe, q]; done))
  obtain rfl := Option.some.inj h
  refine .ret ?_
  rw [← hR]
  simp only [wz, wd, ws, Nat.reduceAdd, Nat.reduceSub, Nat.reduceMul, Nat.reduceLeDiff, Nat.reduceEqDiff, Nat.reduceLT, Nat.reduceBEq, reduceIte, reduceCtorEq, Int.reduceToNat, Nat.reduceShiftRight, Nat.reduceAnd, Nat.reduceBneDiff, Nat.reduceBNe, rv55]
-- 43 internal/stringslite.CutPrefix
def c43r0 : List Opn := [
  ⟨(some 4), none, .mv (.c (.s (.d (.str []))))⟩, 
  ⟨(some 5), none, .mv (.c (.s (.d (.bool false))))⟩]
def c43r1 : List Opn := [
  ⟨(some 6), none, .mv (.t 0)⟩, 
  ⟨(some 7), none, .mv (.t 1)⟩, 
  ⟨(some 8), none, .call (.fn 55) [(.t 6), (.t 7)]⟩, 
  ⟨(some 9), none, .un .not (.t 8)⟩]
def c43r2 : List Opn := [
  ⟨(some 10), none, .mv (.t 0)⟩, 
  ⟨(some 4), none, .mv (.t 10)⟩, 
  ⟨(some 5), none, .mv (.c (.s (.d (.bool false))))⟩]
def c43r3 : List Opn := [
  ⟨(some 11), none, .mv (.t 0)⟩, 
  ⟨(some 12), none, .mv (.t 1)⟩, 
  ⟨(some 13), none, .len .str (.t 12)⟩, 
  ⟨(some 14), none, .slc .str (.t 11) (some (.t 13)) none none⟩, 
  ⟨(some 4), none, .mv (.t 14)⟩, 
  ⟨(some 5), none, .mv (.c (.s (.d (.bool true))))⟩]
def c43 : C := .seq (.reg c43r0 none [0, 1]) (.seq (.seq (.reg c43r1 none [0, 1, 9]) (.cond (.t 9) (.seq (.reg c43r2 none [4, 5]) (.ret)) (.skip))) (.seq (.reg c43r3 none [4, 5]) (.ret)))
def k43 : List (Nat × List Nat) := [(3, [4, 5]), (2, [4, 5]), (1, [0, 1, 9]), (0, [0, 1])]
theorem cc43 : (Tryd.f43.body).bind (cC Tryd.prog 15 k43) = some c43 := by kernel_rfl
def rv43 : List RV := [.t 4, .t 5]
theorem cr43 : cRVs Tryd.prog Tryd.f43.results.toList = some rv43 := by kernel_rfl
theorem f_internal_stringslite_CutPrefix_ok (s : Str) (prefixv : Str) (y_ : Str × Bool) (h : f_internal_stringslite_CutPrefix s prefixv = some y_) : Fun Tryd.prog glP 43 [.b (.s (.d (.str s))), .b (.s (.d (.str prefixv)))] (.tup [.s (.d (.str y_.1)), .s (.d (.bool y_.2))]) := by
  refine fun_walk [] Tryd.func43 Tryd.ntmps43 cc43 cr43 (by kernel_rfl) (by simp only [List.length_cons, List.length_nil]; decide) ?_
  generalize hR : Ret _ _ _ _ _ = R_
  simp only [wz, wd, ws, Nat.reduceAdd, Nat.reduceSub, Nat.reduceMul, Nat.reduceLeDiff, Nat.reduceEqDiff, Nat.reduceLT, Nat.reduceBEq, reduceIte, reduceCtorEq, Int.reduceToNat, Nat.reduceShiftRight, Nat.reduceAnd, Nat.reduceBneDiff, Nat.reduceBNe]
  unfold f_internal_stringslite_CutPrefix at h; unfold c43
  refine .seq ?_
  refine Rw.walk ?_
  simp only [wz, wd, ws, Nat.reduceAdd, Nat.reduceSub, Nat.reduceMul, Nat.reduceLeDiff, Nat.reduceEqDiff, Nat.reduceLT, Nat.reduceBEq, reduceIte, reduceCtorEq, Int.reduceToNat, Nat.reduceShiftRight, Nat.reduceAnd, Nat.reduceBneDiff, Nat.reduceBNe, c43r0, semI.eq_10, semI.eq_11, semI.eq_3, semI.eq_5, semI.eq_7]
  refine .seq ?_
  refine .seq ?_
  refine Rw.walk ?_
  simp only [wz, wd, ws, Nat.reduceAdd, Nat.reduceSub, Nat.reduceMul, Nat.reduceLeDiff, Nat.reduceEqDiff, Nat.reduceLT, Nat.reduceBEq, reduceIte, reduceCtorEq, Int.reduceToNat, Nat.reduceShiftRight, Nat.reduceAnd, Nat.reduceBneDiff, Nat.reduceBNe, c43r1, semI.eq_10, semI.eq_11, semI.eq_3, semI.eq_5, semI.eq_7]
  obtain ⟨t, e1, h⟩ := Option.bind_eq_some_iff.1 h
  refine call_fun [] false ⟨trivial, trivial, trivial, trivial⟩ rfl ?_ (f_internal_stringslite_HasPrefix_ok _ _ _ e1) (fun _ => rfl) (fun i hi => by cases hi) ?_
  · simp only [wz, wd, ws, Nat.reduceAdd, Nat.reduceSub, Nat.reduceMul, Nat.reduceLeDiff, Nat.reduceEqDiff, Nat.reduceLT, Nat.reduceBEq, reduceIte, reduceCtorEq, Int.reduceToNat, Nat.reduceShiftRight, Nat.reduceAnd, Nat.reduceBneDiff, Nat.reduceBNe]
  simp only [wz, wd, ws, Nat.reduceAdd, Nat.reduceSub, Nat.reduceMul, Nat.reduceLeDiff, Nat.reduceEqDiff, Nat.reduceLT, Nat.reduceBEq, reduceIte, reduceCtorEq, Int.reduceToNat, Nat.reduceShiftRight, Nat.reduceAnd, Nat.reduceBneDiff, Nat.reduceBNe, c43r1, semI.eq_10, semI.eq_11, semI.eq_3, semI.eq_5, semI.eq_7]
  refine .cond (p := (!t)) (by first | rfl | simp only [wz, wd, ws, Nat.reduceAdd, Nat.reduceSub, Nat.reduceMul, Nat.reduceLeDiff, Nat.reduceEqDiff, Nat.reduceLT, Nat.reduceBEq, reduceIte, reduceCtorEq, Int.reduceToNat, Nat.reduceShiftRight, Nat.reduceAnd, Nat.reduceBneDiff, Nat.reduceBNe]) (fun h1 => ?_) (fun h1 => ?_)
  · rw [ite_t h1] at h
    refine .seq ?_
    refine Rw.walk ?_
    simp only [wz, wd, ws, Nat.reduceAdd, Nat.reduceSub, Nat.reduceMul, Nat.reduceLeDiff, Nat.reduceEqDiff, Nat.reduceLT, Nat.reduceBEq, reduceIte, reduceCtorEq, Int.reduceToNat, Nat.reduceShiftRight, Nat.reduceAnd, Nat.reduceBneDiff, Nat.reduceBNe, c43r2, semI.eq_10, semI.eq_11, semI.eq_3, semI.eq_5, semI.eq_7]
    obtain rfl := Option.some.inj h
    refine .ret ?_
    rw [← hR]
    simp only [wz, wd, ws, Nat.reduceAdd, Nat.reduceSub, Nat.reduceMul, Nat.reduceLeDiff, Nat.reduceEqDiff, Nat.reduceLT, Nat.reduceBEq, reduceIte, reduceCtorEq, Int.reduceToNat, Nat.reduceShiftRight, Nat.reduceAnd, Nat.reduceBneDiff, Nat.reduceBNe, rv43]
  · rw [ite_f h1] at h
    refine .skip ?_
    refine .seq ?_
    refine Rw.walk ?_
    obtain ⟨g2, h⟩ := gd_iff.1 h
    simp only [wz, wd, ws, Nat.reduceAdd, Nat.reduceSub, Nat.reduceMul, Nat.reduceLeDiff, Nat.reduceEqDiff, Nat.reduceLT, Nat.reduceBEq, reduceIte, reduceCtorEq, Int.reduceToNat, Nat.reduceShiftRight, Nat.reduceAnd, Nat.reduceBneDiff, Nat.reduceBNe, c43r3, semI.eq_10, semI.eq_11, semI.eq_3, semI.eq_5, semI.eq_7]
    repeat (refine And.intro ?_ ?_; · first | omega | (intro q; simp only [wz, wd, ws, Nat.reduceAdd, Nat.reduceSub, Nat.reduceMul, Nat.reduceLeDiff, Nat.reduceEqDiff, Nat.reduceLT, Nat.reduceBEq, reduceIte, reduceCtorEq, Int.reduceToNat, Nat.reduceShiftRight, Nat.reduceAnd, Nat.reduceBneDiff, Nat.reduceBNe, q]; done))
    obtain rfl := Option.some.inj h
    refine .ret ?_
    rw [← hR]
    simp only [wz, wd, ws, Nat.reduceAdd, Nat.reduceSub, Nat.reduceMul, Nat.reduceLeDiff, Nat.reduceEqDiff, Nat.reduceLT, Nat.reduceBEq, reduceIte, reduceCtorEq, Int.reduceToNat, Nat.reduceShiftRight, Nat.reduceAnd, Nat.reduceBneDiff, Nat.reduceBNe, rv43]
-- 32 strings.CutPrefix
def c32r0 : List Opn := [
  ⟨(some 4), none, .mv (.c (.s (.d (.str []))))⟩, 
  ⟨(some 5), none, .mv (.c (.s (.d (.bool false))))⟩]
def c32r1 : List Opn := [
  ⟨(some 6), none, .mv (.t 0)⟩, 
  ⟨(some 7), none, .mv (.t 1)⟩, 
  ⟨(some 8), none, .call (.fn 43) [(.t 6), (.t 7)]⟩, 
  ⟨(some 9), none, .ext (.t 8) 0⟩, 
  ⟨(some 10), none, .ext (.t 8) 1⟩, 
  ⟨(some 4), none, .mv (.t 9)⟩, 
  ⟨(some 5), none, .mv (.t 10)⟩]
def c32 : C := .seq (.reg c32r0 none [0, 1]) (.seq (.reg c32r1 none [4, 5]) (.ret))
def k32 : List (Nat × List Nat) := [(1, [4, 5]), (0, [0, 1])]
theorem cc32 : (Tryd.f32.body).bind (cC Tryd.prog 11 k32) = some c32 := by kernel_rfl
def rv32 : List RV := [.t 4, .t 5]
theorem cr32 : cRVs Tryd.prog Tryd.f32.results.toList = some rv32 := by kernel_rfl
theorem f_strings_CutPrefix_ok (s : Str) (prefixv : Str) (y_ : Str × Bool) (h : f_strings_CutPrefix s prefixv = some y_) : Fun Tryd.prog glP 32 [.b (.s (.d (.str s))), .b (.s (.d (.str prefixv)))] (.tup [.s (.d (.str y_.1)), .s (.d (.bool y_.2))]) := by
  refine fun_walk [] Tryd.func32 Tryd.ntmps32 cc32 cr32 (by kernel_rfl) (by simp only [List.length_cons, List.length_nil]; decide) ?_
  generalize hR : Ret _ _ _ _ _ = R_
  simp only [wz, wd, ws, Nat.reduceAdd, Nat.reduceSub, Nat.reduceMul, Nat.reduceLeDiff, Nat.reduceEqDiff, Nat.reduceLT, Nat.reduceBEq, reduceIte, reduceCtorEq, Int.reduceToNat, Nat.reduceShiftRight, Nat.reduceAnd, Nat.reduceBneDiff, Nat.reduceBNe]
  unfold f_strings_CutPrefix at h; unfold c32
  refine .seq ?_
  refine Rw.walk ?_
  simp only [wz, wd, ws, Nat.reduceAdd, Nat.reduceSub, Nat.reduceMul, Nat.reduceLeDiff, Nat.reduceEqDiff, Nat.reduceLT, Nat.reduceBEq, reduceIte, reduceCtorEq, Int.reduceToNat, Nat.reduceShiftRight, Nat.reduceAnd, Nat.reduceBneDiff, Nat.reduceBNe, c32r0, semI.eq_10, semI.eq_11, semI.eq_3, semI.eq_5, semI.eq_7]
  refine .seq ?_
  refine Rw.walk ?_
  simp only [wz, wd, ws, Nat.reduceAdd, Nat.reduceSub, Nat.reduceMul, Nat.reduceLeDiff, Nat.reduceEqDiff, Nat.reduceLT, Nat.reduceBEq, reduceIte, reduceCtorEq, Int.reduceToNat, Nat.reduceShiftRight, Nat.reduceAnd, Nat.reduceBneDiff, Nat.reduceBNe, c32r1, semI.eq_10, semI.eq_11, semI.eq_3, semI.eq_5, semI.eq_7]
  obtain ⟨t, e1, h⟩ := Option.bind_eq_some_iff.1 h
  refine call_fun [] false ⟨trivial, trivial, trivial, trivial⟩ rfl ?_ (f_internal_stringslite_CutPrefix_ok _ _ _ e1) (fun _ => rfl) (fun i hi => by cases hi) ?_
  · simp only [wz, wd, ws, Nat.reduceAdd, Nat.reduceSub, Nat.reduceMul, Nat.reduceLeDiff, Nat.reduceEqDiff, Nat.reduceLT, Nat.reduceBEq, reduceIte, reduceCtorEq, Int.reduceToNat, Nat.reduceShiftRight, Nat.reduceAnd, Nat.reduceBneDiff, Nat.reduceBNe]
  simp only [wz, wd, ws, Nat.reduceAdd, Nat.reduceSub, Nat.reduceMul, Nat.reduceLeDiff, Nat.reduceEqDiff, Nat.reduceLT, Nat.reduceBEq, reduceIte, reduceCtorEq, Int.reduceToNat, Nat.reduceShiftRight, Nat.reduceAnd, Nat.reduceBneDiff, Nat.reduceBNe, c32r1, semI.eq_10, semI.eq_11, semI.eq_3, semI.eq_5, semI.eq_7]
  obtain rfl := Option.some.inj h
  refine .ret ?_
  rw [← hR]
  simp only [wz, wd, ws, Nat.reduceAdd, Nat.reduceSub, Nat.reduceMul, Nat.reduceLeDiff, Nat.reduceEqDiff, Nat.reduceLT, Nat.reduceBEq, reduceIte, reduceCtorEq, Int.reduceToNat, Nat.reduceShiftRight, Nat.reduceAnd, Nat.reduceBneDiff, Nat.reduceBNe, rv32]
-- 44 strings.IndexByte
def c44r0 : List Opn := [
  ⟨(some 4), none, .mv (.c (.s (.d (.int .i64 0))))⟩]
def c44r1 : List Opn := [
  ⟨(some 5), none, .mv (.t 0)⟩, 
  ⟨(some 6), none, .mv (.t 1)⟩, 
  ⟨(some 7), none, .call (.fn 56) [(.t 5), (.t 6)]⟩, 
  ⟨(some 4), none, .mv (.t 7)⟩]
def c44 : C := .seq (.reg c44r0 none [0, 1]) (.seq (.reg c44r1 none [4]) (.ret))
def k44 : List (Nat × List Nat) := [(1, [4]), (0, [0, 1])]
theorem cc44 : (Tryd.f44.body).bind (cC Tryd.prog 8 k44) = some c44 := by kernel_rfl
def rv44 : List RV := [.t 4]
theorem cr44 : cRVs Tryd.prog Tryd.f44.results.toList = some rv44 := by kernel_rfl
theorem f_strings_IndexByte_ok (s : Str) (c : Int) (y_ : Int) (h : f_strings_IndexByte s c = some y_) : Fun Tryd.prog glP 44 [.b (.s (.d (.str s))), .b (.s (.d (.int .u8 c)))] (.b (.s (.d (.int .i64 y_)))) := by
  refine fun_walk [] Tryd.func44 Tryd.ntmps44 cc44 cr44 (by kernel_rfl) (by simp only [List.length_cons, List.length_nil]; decide) ?_
  generalize hR : Ret _ _ _ _ _ = R_
  simp only [wz, wd, ws, Nat.reduceAdd, Nat.reduceSub, Nat.reduceMul, Nat.reduceLeDiff, Nat.reduceEqDiff, Nat.reduceLT, Nat.reduceBEq, reduceIte, reduceCtorEq, Int.reduceToNat, Nat.reduceShiftRight, Nat.reduceAnd, Nat.reduceBneDiff, Nat.reduceBNe]
  unfold f_strings_IndexByte at h; unfold c44
  refine .seq ?_
  refine Rw.walk ?_
  simp only [wz, wd, ws, Nat.reduceAdd, Nat.reduceSub, Nat.reduceMul, Nat.reduceLeDiff, Nat.reduceEqDiff, Nat.reduceLT, Nat.reduceBEq, reduceIte, reduceCtorEq, Int.reduceToNat, Nat.reduceShiftRight, Nat.reduceAnd, Nat.reduceBneDiff, Nat.reduceBNe, c44r0, semI.eq_10, semI.eq_11, semI.eq_3, semI.eq_5, semI.eq_7]
  refine .seq ?_
  refine Rw.walk ?_
  simp only [wz, wd, ws, Nat.reduceAdd, Nat.reduceSub, Nat.reduceMul, Nat.reduceLeDiff, Nat.reduceEqDiff, Nat.reduceLT, Nat.reduceBEq, reduceIte, reduceCtorEq, Int.reduceToNat, Nat.reduceShiftRight, Nat.reduceAnd, Nat.reduceBneDiff, Nat.reduceBNe, c44r1, semI.eq_10, semI.eq_11, semI.eq_3, semI.eq_5, semI.eq_7]
  obtain ⟨t, e1, h⟩ := Option.bind_eq_some_iff.1 h
  refine call_fun [] false ⟨trivial, trivial, trivial, trivial⟩ rfl ?_ (f_internal_stringslite_IndexByte_ok _ _ _ e1) (fun _ => rfl) (fun i hi => by cases hi) ?_
  · simp only [wz, wd, ws, Nat.reduceAdd, Nat.reduceSub, Nat.reduceMul, Nat.reduceLeDiff, Nat.reduceEqDiff, Nat.reduceLT, Nat.reduceBEq, reduceIte, reduceCtorEq, Int.reduceToNat, Nat.reduceShiftRight, Nat.reduceAnd, Nat.reduceBneDiff, Nat.reduceBNe]
  simp only [wz, wd, ws, Nat.reduceAdd, Nat.reduceSub, Nat.reduceMul, Nat.reduceLeDiff, Nat.reduceEqDiff, Nat.reduceLT, Nat.reduceBEq, reduceIte, reduceCtorEq, Int.reduceToNat, Nat.reduceShiftRight, Nat.reduceAnd, Nat.reduceBneDiff, Nat.reduceBNe, c44r1, semI.eq_10, semI.eq_11, semI.eq_3, semI.eq_5, semI.eq_7]
  obtain rfl := Option.some.inj h
  refine .ret ?_
  rw [← hR]
  simp only [wz, wd, ws, Nat.reduceAdd, Nat.reduceSub, Nat.reduceMul, Nat.reduceLeDiff, Nat.reduceEqDiff, Nat.reduceLT, Nat.reduceBEq, reduceIte, reduceCtorEq, Int.reduceToNat, Nat.reduceShiftRight, Nat.reduceAnd, Nat.reduceBneDiff, Nat.reduceBNe, rv44]
-- 33 consignor/octet.Bytes
def c33r0 : List Opn := [
  ⟨(some 2), none, .mv (.c (.s (.d (.str []))))⟩, 
  ⟨(some 3), none, .mv (.c (.s (.d (.int .i64 0))))⟩]
def c33r1 : List Opn := [
  ⟨(some 8), none, .mv (.t 0)⟩, 
  ⟨(some 9), none, .len .str (.t 8)⟩, 
  ⟨(some 10), none, .bin .rem (.t 9) (.c (.s (.d (.int .i64 2))))⟩, 
  ⟨(some 11), none, .bin .neq (.t 10) (.c (.s (.d (.int .i64 0))))⟩]
def c33r2 : List Opn := [
  ⟨(some 2), none, .mv (.c (.s (.d (.str []))))⟩, 
  ⟨(some 3), none, .mv (.c (.s (.d (.int .i64 4))))⟩]
def c33r3 : List Opn := [
  ⟨(some 12), none, .mv (.t 0)⟩, 
  ⟨(some 13), none, .len .str (.t 12)⟩, 
  ⟨(some 14), none, .bin .quo (.t 13) (.c (.s (.d (.int .i64 2))))⟩, 
  ⟨(some 15), none, .mksl 1 1 [(.d (.int .u8 0))] (.t 14) (.t 14)⟩, 
  ⟨(some 4), none, .mv (.t 15)⟩]
def c33r4 : List Opn := [
  ⟨(some 16), none, .mv (.t 4)⟩, 
  ⟨(some 17), none, .len (.sl 0) (.t 16)⟩, 
  ⟨(some 18), none, .mv (.c (.s (.d (.int .i64 0))))⟩]
def c33r5 : List Opn := [
  ⟨(some 19), none, .bin .lss (.t 18) (.t 17)⟩]
def c33r6 : List Opn := [
  ⟨(some 20), none, .mv (.t 18)⟩, 
  ⟨(some 5), none, .mv (.t 20)⟩]
def c33r7 : List Opn := [
  ⟨(some 21), none, .mv (.t 0)⟩, 
  ⟨(some 22), none, .mv (.t 5)⟩, 
  ⟨(some 23), none, .bin .mul (.c (.s (.d (.int .i64 2)))) (.t 22)⟩, 
  ⟨(some 24), none, .idx .str (.t 21) (.t 23)⟩, 
  ⟨(some 25), none, .call (.fn 44) [(.c (.s (.d (.str [48, 49, 50, 51, 52, 53, 54, 55, 56, 57, 97, 98, 99, 100, 101, 102])))), (.t 24)]⟩, 
  ⟨(some 26), none, .mv (.t 0)⟩, 
  ⟨(some 27), none, .mv (.t 5)⟩, 
  ⟨(some 28), none, .bin .mul (.c (.s (.d (.int .i64 2)))) (.t 27)⟩, 
  ⟨(some 29), none, .bin .add (.t 28) (.c (.s (.d (.int .i64 1))))⟩, 
  ⟨(some 30), none, .idx .str (.t 26) (.t 29)⟩, 
  ⟨(some 31), none, .call (.fn 44) [(.c (.s (.d (.str [48, 49, 50, 51, 52, 53, 54, 55, 56, 57, 97, 98, 99, 100, 101, 102])))), (.t 30)]⟩, 
  ⟨(some 6), none, .mv (.t 25)⟩, 
  ⟨(some 7), none, .mv (.t 31)⟩]
def c33r8 : List Opn := [
  ⟨(some 32), none, .mv (.t 6)⟩, 
  ⟨(some 33), none, .bin .lss (.t 32) (.c (.s (.d (.int .i64 0))))⟩, 
  ⟨(some 34), none, .mv (.t 33)⟩, 
  ⟨(some 35), some (34, false), .mv (.t 7)⟩, 
  ⟨(some 36), some (34, false), .bin .lss (.t 35) (.c (.s (.d (.int .i64 0))))⟩, 
  ⟨(some 37), none, .pick (.t 34) (.c (.s (.d (.bool true)))) (.t 36)⟩]
def c33r9 : List Opn := [
  ⟨(some 2), none, .mv (.c (.s (.d (.str []))))⟩, 
  ⟨(some 3), none, .mv (.c (.s (.d (.int .i64 4))))⟩]
def c33r10 : List Opn := [
  ⟨(some 38), none, .mv (.t 4)⟩, 
  ⟨(some 39), none, .mv (.t 5)⟩, 
  ⟨(some 40), none, .mv (.t 6)⟩, 
  ⟨(some 41), none, .bin .mul (.t 40) (.c (.s (.d (.int .i64 16))))⟩, 
  ⟨(some 42), none, .mv (.t 7)⟩, 
  ⟨(some 43), none, .bin .add (.t 41) (.t 42)⟩, 
  ⟨(some 44), none, .cv (.toInt .u8) (.t 43)⟩, 
  ⟨(some 45), none, .iadr (.sl 1) (.t 38) (.t 39)⟩, 
  ⟨none, none, .store 1 (.t 45) (.t 44)⟩]
def c33r11 : List Opn := [
  ⟨(some 46), none, .bin .add (.t 18) (.c (.s (.d (.int .i64 1))))⟩, 
  ⟨(some 18), none, .mv (.t 46)⟩]
def c33l12 : C := .seq (.reg c33r5 none [0, 4, 17, 18, 19]) (.seq (.cond (.t 19) (.skip) (.exit 0)) (.seq (.blk 1 (.seq (.reg c33r6 none [0, 4, 5, 17, 18]) (.seq (.reg c33r7 (some [0, 0, 2, 7, 15, 0, 0, 64, 192, 480, 1023, 2047, 4095]) [0, 4, 5, 6, 7, 17, 18]) (.seq (.seq (.reg c33r8 none [0, 4, 5, 6, 7, 17, 18, 37]) (.cond (.t 37) (.seq (.reg c33r9 none [2, 3]) (.ret)) (.skip))) (.reg c33r10 none [0, 4, 17, 18]))))) (.reg c33r11 none [0, 4, 17, 18])))
def c33r12 : List Opn := [
  ⟨(some 47), none, .mv (.t 4)⟩, 
  ⟨(some 48), none, .cv .b2s (.t 47)⟩, 
  ⟨(some 2), none, .mv (.t 48)⟩, 
  ⟨(some 3), none, .mv (.c (.s (.d (.int .i64 0))))⟩]
def c33 : C := .seq (.reg c33r0 none [0]) (.seq (.seq (.reg c33r1 none [0, 11]) (.cond (.t 11) (.seq (.reg c33r2 none [2, 3]) (.ret)) (.skip))) (.seq (.reg c33r3 none [0, 4]) (.seq (.seq (.reg c33r4 none [0, 4, 17, 18]) (.blk 0 (.loop c33l12))) (.seq (.reg c33r12 none [2, 3]) (.ret)))))
def k33 : List (Nat × List Nat) := [(12, [2, 3]), (11, [0, 4, 17, 18]), (10, [0, 4, 17, 18]), (9, [2, 3]), (8, [0, 4, 5, 6, 7, 17, 18, 37]), (7, [0, 4, 5, 6, 7, 17, 18]), (6, [0, 4, 5, 17, 18]), (5, [0, 4, 17, 18, 19]), (4, [0, 4, 17, 18]), (3, [0, 4]), (2, [2, 3]), (1, [0, 11]), (0, [0])]
theorem cc33 : (Tryd.f33.body).bind (cC Tryd.prog 49 k33) = some c33 := by kernel_rfl
def rv33 : List RV := [.t 2, .t 3]
theorem cr33 : cRVs Tryd.prog Tryd.f33.results.toList = some rv33 := by kernel_rfl
theorem f_octet_Bytes_l12_ok (s : Str) (y_ : Str × Int) (R_ : St → Prop) (hR : (Ret Tryd.prog glP [] rv33 (.tup [.s (.d (.str y_.1)), .s (.d (.int .i64 y_.2))])) = R_) : ∀ (m_ : Nat) (v18 : Int) (out : (List Int)) (res_ : (Int × (List Int)) ⊕ (Str × Int)) (h : f_octet_Bytes_l12 s m_ v18 out = some res_) (k_ : List It) (hx : ∀ s_ : Int × (List Int), res_ = .inl s_ → W Tryd.prog glP 49 k_ ⟨lkT [(0, .b (.s (.d (.str s)))), (4, .b (.s (.own 15 s_.2.length))), (17, .b (.s (.d (.int .i64 ((List.replicate (IntKind.i64.wrap ((s.length : Int).tdiv 2)).toNat 0).length : Int))))), (18, .b (.s (.d (.int .i64 s_.1))))], lkG [(15, ⟨1, er (eI .u8) s_.2, false⟩)]⟩ R_) (hr : ∀ z_ : Str × Int, res_ = .inr z_ → z_ = y_), W Tryd.prog glP 49 (.c c33l12 :: .lp c33l12 :: .blk 0 :: k_) ⟨lkT [(0, .b (.s (.d (.str s)))), (4, .b (.s (.own 15 out.length))), (17, .b (.s (.d (.int .i64 ((List.replicate (IntKind.i64.wrap ((s.length : Int).tdiv 2)).toNat 0).length : Int))))), (18, .b (.s (.d (.int .i64 v18))))], lkG [(15, ⟨1, er (eI .u8) out, false⟩)]⟩ R_ := by
  intro m_; induction m_ with
  | zero => intro v18 out res_ h; rw [f_octet_Bytes_l12.eq_1] at h; cases h
  | succ m_ ih =>
    intro v18 out res_ h k_ hx hr; rw [f_octet_Bytes_l12.eq_2] at h; refine W.cdef c33l12.eq_1 ?_
    refine .seq ?_
    refine Rw.walk ?_
    simp only [wz, wd, ws, Nat.reduceAdd, Nat.reduceSub, Nat.reduceMul, Nat.reduceLeDiff, Nat.reduceEqDiff, Nat.reduceLT, Nat.reduceBEq, reduceIte, reduceCtorEq, Int.reduceToNat, Nat.reduceShiftRight, Nat.reduceAnd, Nat.reduceBneDiff, Nat.reduceBNe, c33r5, semI.eq_10, semI.eq_11, semI.eq_3, semI.eq_5, semI.eq_7]
    refine .seq ?_
    refine .cond (p := (decide (v18 < ((List.replicate (IntKind.i64.wrap ((s.length : Int).tdiv 2)).toNat 0).length : Int)))) (by first | rfl | simp only [wz, wd, ws, Nat.reduceAdd, Nat.reduceSub, Nat.reduceMul, Nat.reduceLeDiff, Nat.reduceEqDiff, Nat.reduceLT, Nat.reduceBEq, reduceIte, reduceCtorEq, Int.reduceToNat, Nat.reduceShiftRight, Nat.reduceAnd, Nat.reduceBneDiff, Nat.reduceBNe]) (fun h1 => ?_) (fun h1 => ?_)
    · rw [ite_t h1] at h
      refine .skip ?_
      refine .seq ?_
      refine .blk ?_
      refine .seq ?_
      refine Rw.walk ?_
      simp only [wz, wd, ws, Nat.reduceAdd, Nat.reduceSub, Nat.reduceMul, Nat.reduceLeDiff, Nat.reduceEqDiff, Nat.reduceLT, Nat.reduceBEq, reduceIte, reduceCtorEq, Int.reduceToNat, Nat.reduceShiftRight, Nat.reduceAnd, Nat.reduceBneDiff, Nat.reduceBNe, c33r6, semI.eq_10, semI.eq_11, semI.eq_3, semI.eq_5, semI.eq_7]
      refine .seq ?_
      refine RwD.walk ?_
      simp only [wz, wd, ws, Nat.reduceAdd, Nat.reduceSub, Nat.reduceMul, Nat.reduceLeDiff, Nat.reduceEqDiff, Nat.reduceLT, Nat.reduceBEq, reduceIte, reduceCtorEq, Int.reduceToNat, Nat.reduceShiftRight, Nat.reduceAnd, Nat.reduceBneDiff, Nat.reduceBNe, c33r7, semI.eq_10, semI.eq_11, semI.eq_3, semI.eq_5, semI.eq_7]
      obtain ⟨c, e2, h⟩ := Option.bind_eq_some_iff.1 h
      refine GoD1.of (sem_idx e2 (by rfl) (by rfl)) ?_
      simp only [wz, wd, ws, Nat.reduceAdd, Nat.reduceSub, Nat.reduceMul, Nat.reduceLeDiff, Nat.reduceEqDiff, Nat.reduceLT, Nat.reduceBEq, reduceIte, reduceCtorEq, Int.reduceToNat, Nat.reduceShiftRight, Nat.reduceAnd, Nat.reduceBneDiff, Nat.reduceBNe, c33r7, semI.eq_10, semI.eq_11, semI.eq_3, semI.eq_5, semI.eq_7]
      obtain ⟨t, e3, h⟩ := Option.bind_eq_some_iff.1 h
      refine call_fun [] false ⟨trivial, trivial, trivial, trivial⟩ rfl ?_ (f_strings_IndexByte_ok _ _ _ e3) (fun _ => rfl) (fun i hi => by cases hi) ?_
      · simp only [wz, wd, ws, Nat.reduceAdd, Nat.reduceSub, Nat.reduceMul, Nat.reduceLeDiff, Nat.reduceEqDiff, Nat.reduceLT, Nat.reduceBEq, reduceIte, reduceCtorEq, Int.reduceToNat, Nat.reduceShiftRight, Nat.reduceAnd, Nat.reduceBneDiff, Nat.reduceBNe]
      simp only [wz, wd, ws, Nat.reduceAdd, Nat.reduceSub, Nat.reduceMul, Nat.reduceLeDiff, Nat.reduceEqDiff, Nat.reduceLT, Nat.reduceBEq, reduceIte, reduceCtorEq, Int.reduceToNat, Nat.reduceShiftRight, Nat.reduceAnd, Nat.reduceBneDiff, Nat.reduceBNe, c33r7, semI.eq_10, semI.eq_11, semI.eq_3, semI.eq_5, semI.eq_7]
      obtain ⟨c2, e4, h⟩ := Option.bind_eq_some_iff.1 h
      refine GoD1.of (sem_idx e4 (by rfl) (by rfl)) ?_
      simp only [wz, wd, ws, Nat.reduceAdd, Nat.reduceSub, Nat.reduceMul, Nat.reduceLeDiff, Nat.reduceEqDiff, Nat.reduceLT, Nat.reduceBEq, reduceIte, reduceCtorEq, Int.reduceToNat, Nat.reduceShiftRight, Nat.reduceAnd, Nat.reduceBneDiff, Nat.reduceBNe, c33r7, semI.eq_10, semI.eq_11, semI.eq_3, semI.eq_5, semI.eq_7]
      obtain ⟨t2, e5, h⟩ := Option.bind_eq_some_iff.1 h
      refine call_fun [] false ⟨trivial, trivial, trivial, trivial⟩ rfl ?_ (f_strings_IndexByte_ok _ _ _ e5) (fun _ => rfl) (fun i hi => by cases hi) ?_
      · simp only [wz, wd, ws, Nat.reduceAdd, Nat.reduceSub, Nat.reduceMul, Nat.reduceLeDiff, Nat.reduceEqDiff, Nat.reduceLT, Nat.reduceBEq, reduceIte, reduceCtorEq, Int.reduceToNat, Nat.reduceShiftRight, Nat.reduceAnd, Nat.reduceBneDiff, Nat.reduceBNe]
      simp only [wz, wd, ws, Nat.reduceAdd, Nat.reduceSub, Nat.reduceMul, Nat.reduceLeDiff, Nat.reduceEqDiff, Nat.reduceLT, Nat.reduceBEq, reduceIte, reduceCtorEq, Int.reduceToNat, Nat.reduceShiftRight, Nat.reduceAnd, Nat.reduceBneDiff, Nat.reduceBNe, c33r7, semI.eq_10, semI.eq_11, semI.eq_3, semI.eq_5, semI.eq_7]
      refine .seq ?_
      refine .seq ?_
      refine Rw.walk ?_
      simp only [wz, wd, ws, Nat.reduceAdd, Nat.reduceSub, Nat.reduceMul, Nat.reduceLeDiff, Nat.reduceEqDiff, Nat.reduceLT, Nat.reduceBEq, reduceIte, reduceCtorEq, Int.reduceToNat, Nat.reduceShiftRight, Nat.reduceAnd, Nat.reduceBneDiff, Nat.reduceBNe, c33r8, semI.eq_10, semI.eq_11, semI.eq_3, semI.eq_5, semI.eq_7]
      repeat (refine And.intro ?_ ?_; · first | omega | (intro q; simp only [wz, wd, ws, Nat.reduceAdd, Nat.reduceSub, Nat.reduceMul, Nat.reduceLeDiff, Nat.reduceEqDiff, Nat.reduceLT, Nat.reduceBEq, reduceIte, reduceCtorEq, Int.reduceToNat, Nat.reduceShiftRight, Nat.reduceAnd, Nat.reduceBneDiff, Nat.reduceBNe, q]; done))
      refine .cond (p := ((decide (t < 0)) || (decide (t2 < 0)))) (by first | rfl | simp only [wz, wd, ws, Nat.reduceAdd, Nat.reduceSub, Nat.reduceMul, Nat.reduceLeDiff, Nat.reduceEqDiff, Nat.reduceLT, Nat.reduceBEq, reduceIte, reduceCtorEq, Int.reduceToNat, Nat.reduceShiftRight, Nat.reduceAnd, Nat.reduceBneDiff, Nat.reduceBNe]) (fun h1 => ?_) (fun h1 => ?_)
      · rw [ite_t h1] at h
        refine .seq ?_
        refine Rw.walk ?_
        simp only [wz, wd, ws, Nat.reduceAdd, Nat.reduceSub, Nat.reduceMul, Nat.reduceLeDiff, Nat.reduceEqDiff, Nat.reduceLT, Nat.reduceBEq, reduceIte, reduceCtorEq, Int.reduceToNat, Nat.reduceShiftRight, Nat.reduceAnd, Nat.reduceBneDiff, Nat.reduceBNe, c33r9, semI.eq_10, semI.eq_11, semI.eq_3, semI.eq_5, semI.eq_7]
        obtain rfl := Option.some.inj h; obtain rfl := hr _ rfl
        refine .ret ?_
        rw [← hR]
        simp only [wz, wd, ws, Nat.reduceAdd, Nat.reduceSub, Nat.reduceMul, Nat.reduceLeDiff, Nat.reduceEqDiff, Nat.reduceLT, Nat.reduceBEq, reduceIte, reduceCtorEq, Int.reduceToNat, Nat.reduceShiftRight, Nat.reduceAnd, Nat.reduceBneDiff, Nat.reduceBNe, rv33]
      · rw [ite_f h1] at h
        refine .skip ?_
        refine Rw.walk ?_
        simp only [wz, wd, ws, Nat.reduceAdd, Nat.reduceSub, Nat.reduceMul, Nat.reduceLeDiff, Nat.reduceEqDiff, Nat.reduceLT, Nat.reduceBEq, reduceIte, reduceCtorEq, Int.reduceToNat, Nat.reduceShiftRight, Nat.reduceAnd, Nat.reduceBneDiff, Nat.reduceBNe, c33r10, semI.eq_3, semI.eq_5, semI.eq_7]
        obtain ⟨x, e6, h⟩ := Option.bind_eq_some_iff.1 h
        refine Go1.of (sem_iadrO (l := out) e6 (by rfl) (by rfl) (by rfl)) ?_
        simp only [wz, wd, ws, Nat.reduceAdd, Nat.reduceSub, Nat.reduceMul, Nat.reduceLeDiff, Nat.reduceEqDiff, Nat.reduceLT, Nat.reduceBEq, reduceIte, reduceCtorEq, Int.reduceToNat, Nat.reduceShiftRight, Nat.reduceAnd, Nat.reduceBneDiff, Nat.reduceBNe, c33r10, semI.eq_3, semI.eq_5, semI.eq_7, er_get e6]
        refine Go1.of (sem_store (enc := (eI .u8)) (l := out) (a := x) (a' := (IntKind.u8.wrap (IntKind.i64.wrap ((IntKind.i64.wrap (t * 16)) + t2)))) (v := .b (.s (.d (.int .u8 (IntKind.u8.wrap (IntKind.i64.wrap ((IntKind.i64.wrap (t * 16)) + t2))))))) (by rfl) (by rfl) (er_get e6) (by rfl) (by trivial) (by rfl) (Nat.le_of_ble_eq_true (by rfl)) (by rfl)) ?_
        simp only [wz, wd, ws, Nat.reduceAdd, Nat.reduceSub, Nat.reduceMul, Nat.reduceLeDiff, Nat.reduceEqDiff, Nat.reduceLT, Nat.reduceBEq, reduceIte, reduceCtorEq, Int.reduceToNat, Nat.reduceShiftRight, Nat.reduceAnd, Nat.reduceBneDiff, Nat.reduceBNe, c33r10, semI.eq_3, semI.eq_5, semI.eq_7, er_get e6]
        refine .eblk ?_
        refine Rw.walk ?_
        simp only [wz, wd, ws, Nat.reduceAdd, Nat.reduceSub, Nat.reduceMul, Nat.reduceLeDiff, Nat.reduceEqDiff, Nat.reduceLT, Nat.reduceBEq, reduceIte, reduceCtorEq, Int.reduceToNat, Nat.reduceShiftRight, Nat.reduceAnd, Nat.reduceBneDiff, Nat.reduceBNe, c33r11, semI.eq_10, semI.eq_11, semI.eq_3, semI.eq_5, semI.eq_7, er_get e6]
        refine .lp ?_
        refine .weak (Imp.co [] _ _ ?_ ?_ ?_ ?_ ?_) (ih (IntKind.i64.wrap (v18 + 1)) (out.set v18.toNat (IntKind.u8.wrap (IntKind.i64.wrap ((IntKind.i64.wrap (t * 16)) + t2)))) _ h k_ hx hr) <;> simp only [wz, wd, ws, Nat.reduceAdd, Nat.reduceSub, Nat.reduceMul, Nat.reduceLeDiff, Nat.reduceEqDiff, Nat.reduceLT, Nat.reduceBEq, reduceIte, reduceCtorEq, Int.reduceToNat, Nat.reduceShiftRight, Nat.reduceAnd, Nat.reduceBneDiff, Nat.reduceBNe, wi, er_nil]
    · rw [ite_f h1] at h
      refine .exit rfl ?_
      obtain rfl := Option.some.inj h
      refine .weak (Imp.co [] _ _ ?_ ?_ ?_ ?_ ?_) (hx _ rfl) <;> simp only [wz, wd, ws, Nat.reduceAdd, Nat.reduceSub, Nat.reduceMul, Nat.reduceLeDiff, Nat.reduceEqDiff, Nat.reduceLT, Nat.reduceBEq, reduceIte, reduceCtorEq, Int.reduceToNat, Nat.reduceShiftRight, Nat.reduceAnd, Nat.reduceBneDiff, Nat.reduceBNe, wi, er_nil]
theorem f_octet_Bytes_ok (s : Str) (y_ : Str × Int) (h : f_octet_Bytes s = some y_) : Fun Tryd.prog glP 33 [.b (.s (.d (.str s)))] (.tup [.s (.d (.str y_.1)), .s (.d (.int .i64 y_.2))]) := by
  refine fun_walk [] Tryd.func33 Tryd.ntmps33 cc33 cr33 (by kernel_rfl) (by simp only [List.length_cons, List.length_nil]; decide) ?_
  generalize hR : Ret _ _ _ _ _ = R_
  simp only [wz, wd, ws, Nat.reduceAdd, Nat.reduceSub, Nat.reduceMul, Nat.reduceLeDiff, Nat.reduceEqDiff, Nat.reduceLT, Nat.reduceBEq, reduceIte, reduceCtorEq, Int.reduceToNat, Nat.reduceShiftRight, Nat.reduceAnd, Nat.reduceBneDiff, Nat.reduceBNe]
  unfold f_octet_Bytes at h; unfold c33
  refine .seq ?_
  refine Rw.walk ?_
  simp only [wz, wd, ws, Nat.reduceAdd, Nat.reduceSub, Nat.reduceMul, Nat.reduceLeDiff, Nat.reduceEqDiff, Nat.reduceLT, Nat.reduceBEq, reduceIte, reduceCtorEq, Int.reduceToNat, Nat.reduceShiftRight, Nat.reduceAnd, Nat.reduceBneDiff, Nat.reduceBNe, c33r0, semI.eq_10, semI.eq_11, semI.eq_3, semI.eq_5, semI.eq_7]
  refine .seq ?_
  refine .seq ?_
  refine Rw.walk ?_
  simp only [wz, wd, ws, Nat.reduceAdd, Nat.reduceSub, Nat.reduceMul, Nat.reduceLeDiff, Nat.reduceEqDiff, Nat.reduceLT, Nat.reduceBEq, reduceIte, reduceCtorEq, Int.reduceToNat, Nat.reduceShiftRight, Nat.reduceAnd, Nat.reduceBneDiff, Nat.reduceBNe, c33r1, semI.eq_10, semI.eq_11, semI.eq_3, semI.eq_5, semI.eq_7]
  repeat (refine And.intro ?_ ?_; · first | omega | (intro q; simp only [wz, wd, ws, Nat.reduceAdd, Nat.reduceSub, Nat.reduceMul, Nat.reduceLeDiff, Nat.reduceEqDiff, Nat.reduceLT, Nat.reduceBEq, reduceIte, reduceCtorEq, Int.reduceToNat, Nat.reduceShiftRight, Nat.reduceAnd, Nat.reduceBneDiff, Nat.reduceBNe, q]; done))
  refine .cond (p := (((s.length : Int).tmod 2) != 0)) (by first | rfl | simp only [wz, wd, ws, Nat.reduceAdd, Nat.reduceSub, Nat.reduceMul, Nat.reduceLeDiff, Nat.reduceEqDiff, Nat.reduceLT, Nat.reduceBEq, reduceIte, reduceCtorEq, Int.reduceToNat, Nat.reduceShiftRight, Nat.reduceAnd, Nat.reduceBneDiff, Nat.reduceBNe]) (fun h1 => ?_) (fun h1 => ?_)
  · rw [ite_t h1] at h
    refine .seq ?_
    refine Rw.walk ?_
    simp only [wz, wd, ws, Nat.reduceAdd, Nat.reduceSub, Nat.reduceMul, Nat.reduceLeDiff, Nat.reduceEqDiff, Nat.reduceLT, Nat.reduceBEq, reduceIte, reduceCtorEq, Int.reduceToNat, Nat.reduceShiftRight, Nat.reduceAnd, Nat.reduceBneDiff, Nat.reduceBNe, c33r2, semI.eq_10, semI.eq_11, semI.eq_3, semI.eq_5, semI.eq_7]
    obtain rfl := Option.some.inj h
    refine .ret ?_
    rw [← hR]
    simp only [wz, wd, ws, Nat.reduceAdd, Nat.reduceSub, Nat.reduceMul, Nat.reduceLeDiff, Nat.reduceEqDiff, Nat.reduceLT, Nat.reduceBEq, reduceIte, reduceCtorEq, Int.reduceToNat, Nat.reduceShiftRight, Nat.reduceAnd, Nat.reduceBneDiff, Nat.reduceBNe, rv33]
  · rw [ite_f h1] at h
    refine .skip ?_
    refine .seq ?_
    refine Rw.walk ?_
    simp only [wz, wd, ws, Nat.reduceAdd, Nat.reduceSub, Nat.reduceMul, Nat.reduceLeDiff, Nat.reduceEqDiff, Nat.reduceLT, Nat.reduceBEq, reduceIte, reduceCtorEq, Int.reduceToNat, Nat.reduceShiftRight, Nat.reduceAnd, Nat.reduceBneDiff, Nat.reduceBNe, c33r3, semI.eq_10, semI.eq_11, semI.eq_3, semI.eq_5, semI.eq_7]
    obtain ⟨g1, h⟩ := gd_iff.1 h
    repeat (refine And.intro ?_ ?_; · first | omega | (intro q; simp only [wz, wd, ws, Nat.reduceAdd, Nat.reduceSub, Nat.reduceMul, Nat.reduceLeDiff, Nat.reduceEqDiff, Nat.reduceLT, Nat.reduceBEq, reduceIte, reduceCtorEq, Int.reduceToNat, Nat.reduceShiftRight, Nat.reduceAnd, Nat.reduceBneDiff, Nat.reduceBNe, q]; done))
    refine Go1.of (sem_mksl (enc := (eI .u8)) (z1 := 0) (p := (IntKind.i64.wrap ((s.length : Int).tdiv 2))) (q := (IntKind.i64.wrap ((s.length : Int).tdiv 2))) (by rfl) (by rfl) (by rfl) (by rfl) (by rfl)) ?_
    simp only [wz, wd, ws, Nat.reduceAdd, Nat.reduceSub, Nat.reduceMul, Nat.reduceLeDiff, Nat.reduceEqDiff, Nat.reduceLT, Nat.reduceBEq, reduceIte, reduceCtorEq, Int.reduceToNat, Nat.reduceShiftRight, Nat.reduceAnd, Nat.reduceBneDiff, Nat.reduceBNe, c33r3, semI.eq_10, semI.eq_11, semI.eq_3, semI.eq_5, semI.eq_7]
    repeat (refine And.intro ?_ ?_; · first | omega | (intro q; simp only [wz, wd, ws, Nat.reduceAdd, Nat.reduceSub, Nat.reduceMul, Nat.reduceLeDiff, Nat.reduceEqDiff, Nat.reduceLT, Nat.reduceBEq, reduceIte, reduceCtorEq, Int.reduceToNat, Nat.reduceShiftRight, Nat.reduceAnd, Nat.reduceBneDiff, Nat.reduceBNe, q]; done))
    refine .seq ?_
    refine .seq ?_
    refine Rw.walk ?_
    simp only [wz, wd, ws, Nat.reduceAdd, Nat.reduceSub, Nat.reduceMul, Nat.reduceLeDiff, Nat.reduceEqDiff, Nat.reduceLT, Nat.reduceBEq, reduceIte, reduceCtorEq, Int.reduceToNat, Nat.reduceShiftRight, Nat.reduceAnd, Nat.reduceBneDiff, Nat.reduceBNe, c33r4, semI.eq_10, semI.eq_11, semI.eq_3, semI.eq_5, semI.eq_7]
    refine .blk ?_
    obtain ⟨s2, hf, h⟩ := Option.bind_eq_some_iff.1 h
    refine .loop (.weak (Imp.co [] _ _ ?c1 ?c2 ?c3 ?c4 ?c5) (f_octet_Bytes_l12_ok s _ _ hR _ _ _ _ hf _ ?_ ?_))
    case c1 | c2 | c3 | c4 | c5 => simp only [wz, wd, ws, Nat.reduceAdd, Nat.reduceSub, Nat.reduceMul, Nat.reduceLeDiff, Nat.reduceEqDiff, Nat.reduceLT, Nat.reduceBEq, reduceIte, reduceCtorEq, Int.reduceToNat, Nat.reduceShiftRight, Nat.reduceAnd, Nat.reduceBneDiff, Nat.reduceBNe, wi, er_nil]
    · intro s3 hs; subst hs; dsimp only at h
      refine .seq ?_
      refine Rw.walk ?_
      simp only [wz, wd, ws, Nat.reduceAdd, Nat.reduceSub, Nat.reduceMul, Nat.reduceLeDiff, Nat.reduceEqDiff, Nat.reduceLT, Nat.reduceBEq, reduceIte, reduceCtorEq, Int.reduceToNat, Nat.reduceShiftRight, Nat.reduceAnd, Nat.reduceBneDiff, Nat.reduceBNe, c33r12, semI.eq_10, semI.eq_11, semI.eq_3, semI.eq_5, semI.eq_7]
      refine Go1.of (sem_b2s (n := s3.2) (rowsV_own (m := s3.2) (by rfl) (by rfl))) ?_
      simp only [wz, wd, ws, Nat.reduceAdd, Nat.reduceSub, Nat.reduceMul, Nat.reduceLeDiff, Nat.reduceEqDiff, Nat.reduceLT, Nat.reduceBEq, reduceIte, reduceCtorEq, Int.reduceToNat, Nat.reduceShiftRight, Nat.reduceAnd, Nat.reduceBneDiff, Nat.reduceBNe, c33r12, semI.eq_10, semI.eq_11, semI.eq_3, semI.eq_5, semI.eq_7]
      obtain rfl := Option.some.inj h
      refine .ret ?_
      rw [← hR]
      simp only [wz, wd, ws, Nat.reduceAdd, Nat.reduceSub, Nat.reduceMul, Nat.reduceLeDiff, Nat.reduceEqDiff, Nat.reduceLT, Nat.reduceBEq, reduceIte, reduceCtorEq, Int.reduceToNat, Nat.reduceShiftRight, Nat.reduceAnd, Nat.reduceBneDiff, Nat.reduceBNe, rv33]
    · intro z hz; subst hz; dsimp only at h
      exact Option.some.inj h
-- 21 consignor/digest.Parse
def c21r0 : List Opn := [
  ⟨(some 2), none, .mv (.c (.s (.d (.str []))))⟩, 
  ⟨(some 3), none, .mv (.c (.s (.d (.int .i64 0))))⟩]
def c21r1 : List Opn := [
  ⟨(some 9), none, .mv (.t 0)⟩, 
  ⟨(some 10), none, .call (.fn 32) [(.t 9), (.c (.s (.d (.str [115, 104, 97, 50, 53, 54, 58]))))]⟩, 
  ⟨(some 8), none, .mv (.t 10)⟩, 
  ⟨(some 11), none, .ext (.t 8) 0⟩, 
  ⟨(some 12), none, .ext (.t 8) 1⟩, 
  ⟨(some 4), none, .mv (.t 11)⟩, 
  ⟨(some 5), none, .mv (.t 12)⟩]
def c21r2 : List Opn := [
  ⟨(some 14), none, .mv (.t 4)⟩, 
  ⟨(some 15), none, .call (.fn 33) [(.t 14)]⟩, 
  ⟨(some 13), none, .mv (.t 15)⟩, 
  ⟨(some 16), none, .ext (.t 13) 0⟩, 
  ⟨(some 17), none, .ext (.t 13) 1⟩, 
  ⟨(some 6), none, .mv (.t 16)⟩, 
  ⟨(some 7), none, .mv (.t 17)⟩]
def c21r3 : List Opn := [
  ⟨(some 18), none, .mv (.t 5)⟩, 
  ⟨(some 19), none, .un .not (.t 18)⟩, 
  ⟨(some 20), none, .mv (.t 19)⟩, 
  ⟨(some 21), some (20, false), .mv (.t 7)⟩, 
  ⟨(some 22), some (20, false), .bin .neq (.t 21) (.c (.s (.d (.int .i64 0))))⟩, 
  ⟨(some 23), none, .pick (.t 20) (.c (.s (.d (.bool true)))) (.t 22)⟩, 
  ⟨(some 24), none, .mv (.t 23)⟩, 
  ⟨(some 25), some (24, false), .mv (.t 6)⟩, 
  ⟨(some 26), some (24, false), .len .str (.t 25)⟩, 
  ⟨(some 27), some (24, false), .bin .neq (.t 26) (.c (.s (.d (.int .i64 32))))⟩, 
  ⟨(some 28), none, .pick (.t 24) (.c (.s (.d (.bool true)))) (.t 27)⟩]
def c21r4 : List Opn := [
  ⟨(some 2), none, .mv (.c (.s (.d (.str []))))⟩, 
  ⟨(some 3), none, .mv (.c (.s (.d (.int .i64 6))))⟩]
def c21r5 : List Opn := [
  ⟨(some 29), none, .mv (.t 6)⟩, 
  ⟨(some 2), none, .mv (.t 29)⟩, 
  ⟨(some 3), none, .mv (.c (.s (.d (.int .i64 0))))⟩]
def c21 : C := .seq (.reg c21r0 none [0]) (.seq (.reg c21r1 none [4, 5]) (.seq (.reg c21r2 none [5, 6, 7]) (.seq (.seq (.reg c21r3 none [6, 28]) (.cond (.t 28) (.seq (.reg c21r4 none [2, 3]) (.ret)) (.skip))) (.seq (.reg c21r5 none [2, 3]) (.ret)))))
def k21 : List (Nat × List Nat) := [(5, [2, 3]), (4, [2, 3]), (3, [6, 28]), (2, [5, 6, 7]), (1, [4, 5]), (0, [0])]
theorem cc21 : (Tryd.f21.body).bind (cC Tryd.prog 30 k21) = some c21 := by kernel_rfl
def rv21 : List RV := [.t 2, .t 3]
theorem cr21 : cRVs Tryd.prog Tryd.f21.results.toList = some rv21 := by kernel_rfl
theorem f_digest_Parse_ok (s : Str) (y_ : Str × Int) (h : f_digest_Parse s = some y_) : Fun Tryd.prog glP 21 [.b (.s (.d (.str s)))] (.tup [.s (.d (.str y_.1)), .s (.d (.int .i64 y_.2))]) := by
  refine fun_walk [] Tryd.func21 Tryd.ntmps21 cc21 cr21 (by kernel_rfl) (by simp only [List.length_cons, List.length_nil]; decide) ?_
  generalize hR : Ret _ _ _ _ _ = R_
  simp only [wz, wd, ws, Nat.reduceAdd, Nat.reduceSub, Nat.reduceMul, Nat.reduceLeDiff, Nat.reduceEqDiff, Nat.reduceLT, Nat.reduceBEq, reduceIte, reduceCtorEq, Int.reduceToNat, Nat.reduceShiftRight, Nat.reduceAnd, Nat.reduceBneDiff, Nat.reduceBNe]
  unfold f_digest_Parse at h; unfold c21
  refine .seq ?_
  refine Rw.walk ?_
  simp only [wz, wd, ws, Nat.reduceAdd, Nat.reduceSub, Nat.reduceMul, Nat.reduceLeDiff, Nat.reduceEqDiff, Nat.reduceLT, Nat.reduceBEq, reduceIte, reduceCtorEq, Int.reduceToNat, Nat.reduceShiftRight, Nat.reduceAnd, Nat.reduceBneDiff, Nat.reduceBNe, c21r0, semI.eq_10, semI.eq_11, semI.eq_3, semI.eq_5, semI.eq_7]
  refine .seq ?_
  refine Rw.walk ?_
  simp only [wz, wd, ws, Nat.reduceAdd, Nat.reduceSub, Nat.reduceMul, Nat.reduceLeDiff, Nat.reduceEqDiff, Nat.reduceLT, Nat.reduceBEq, reduceIte, reduceCtorEq, Int.reduceToNat, Nat.reduceShiftRight, Nat.reduceAnd, Nat.reduceBneDiff, Nat.reduceBNe, c21r1, semI.eq_10, semI.eq_11, semI.eq_3, semI.eq_5, semI.eq_7]
  obtain ⟨t, e1, h⟩ := Option.bind_eq_some_iff.1 h
  refine call_fun [] false ⟨trivial, trivial, trivial, trivial⟩ rfl ?_ (f_strings_CutPrefix_ok _ _ _ e1) (fun _ => rfl) (fun i hi => by cases hi) ?_
  · simp only [wz, wd, ws, Nat.reduceAdd, Nat.reduceSub, Nat.reduceMul, Nat.reduceLeDiff, Nat.reduceEqDiff, Nat.reduceLT, Nat.reduceBEq, reduceIte, reduceCtorEq, Int.reduceToNat, Nat.reduceShiftRight, Nat.reduceAnd, Nat.reduceBneDiff, Nat.reduceBNe]
  simp only [wz, wd, ws, Nat.reduceAdd, Nat.reduceSub, Nat.reduceMul, Nat.reduceLeDiff, Nat.reduceEqDiff, Nat.reduceLT, Nat.reduceBEq, reduceIte, reduceCtorEq, Int.reduceToNat, Nat.reduceShiftRight, Nat.reduceAnd, Nat.reduceBneDiff, Nat.reduceBNe, c21r1, semI.eq_10, semI.eq_11, semI.eq_3, semI.eq_5, semI.eq_7]
  refine .seq ?_
  refine Rw.walk ?_
  simp only [wz, wd, ws, Nat.reduceAdd, Nat.reduceSub, Nat.reduceMul, Nat.reduceLeDiff, Nat.reduceEqDiff, Nat.reduceLT, Nat.reduceBEq, reduceIte, reduceCtorEq, Int.reduceToNat, Nat.reduceShiftRight, Nat.reduceAnd, Nat.reduceBneDiff, Nat.reduceBNe, c21r2, semI.eq_10, semI.eq_11, semI.eq_3, semI.eq_5, semI.eq_7]
  obtain ⟨t2, e2, h⟩ := Option.bind_eq_some_iff.1 h
  refine call_fun [] false ⟨trivial, trivial, trivial⟩ rfl ?_ (f_octet_Bytes_ok _ _ e2) (fun _ => rfl) (fun i hi => by cases hi) ?_
  · simp only [wz, wd, ws, Nat.reduceAdd, Nat.reduceSub, Nat.reduceMul, Nat.reduceLeDiff, Nat.reduceEqDiff, Nat.reduceLT, Nat.reduceBEq, reduceIte, reduceCtorEq, Int.reduceToNat, Nat.reduceShiftRight, Nat.reduceAnd, Nat.reduceBneDiff, Nat.reduceBNe]
  simp only [wz, wd, ws, Nat.reduceAdd, Nat.reduceSub, Nat.reduceMul, Nat.reduceLeDiff, Nat.reduceEqDiff, Nat.reduceLT, Nat.reduceBEq, reduceIte, reduceCtorEq, Int.reduceToNat, Nat.reduceShiftRight, Nat.reduceAnd, Nat.reduceBneDiff, Nat.reduceBNe, c21r2, semI.eq_10, semI.eq_11, semI.eq_3, semI.eq_5, semI.eq_7]
  refine .seq ?_
  refine .seq ?_
  refine Rw.walk ?_
  simp only [wz, wd, ws, Nat.reduceAdd, Nat.reduceSub, Nat.reduceMul, Nat.reduceLeDiff, Nat.reduceEqDiff, Nat.reduceLT, Nat.reduceBEq, reduceIte, reduceCtorEq, Int.reduceToNat, Nat.reduceShiftRight, Nat.reduceAnd, Nat.reduceBneDiff, Nat.reduceBNe, c21r3, semI.eq_10, semI.eq_11, semI.eq_3, semI.eq_5, semI.eq_7]
  repeat (refine And.intro ?_ ?_; · first | omega | (intro q; simp only [wz, wd, ws, Nat.reduceAdd, Nat.reduceSub, Nat.reduceMul, Nat.reduceLeDiff, Nat.reduceEqDiff, Nat.reduceLT, Nat.reduceBEq, reduceIte, reduceCtorEq, Int.reduceToNat, Nat.reduceShiftRight, Nat.reduceAnd, Nat.reduceBneDiff, Nat.reduceBNe, q]; done))
  refine .cond (p := (((!t.2) || (t2.2 != 0)) || ((t2.1.length : Int) != 32))) (by first | rfl | simp only [wz, wd, ws, Nat.reduceAdd, Nat.reduceSub, Nat.reduceMul, Nat.reduceLeDiff, Nat.reduceEqDiff, Nat.reduceLT, Nat.reduceBEq, reduceIte, reduceCtorEq, Int.reduceToNat, Nat.reduceShiftRight, Nat.reduceAnd, Nat.reduceBneDiff, Nat.reduceBNe]) (fun h1 => ?_) (fun h1 => ?_)
  · rw [ite_t h1] at h
    refine .seq ?_
    refine Rw.walk ?_
    simp only [wz, wd, ws, Nat.reduceAdd, Nat.reduceSub, Nat.reduceMul, Nat.reduceLeDiff, Nat.reduceEqDiff, Nat.reduceLT, Nat.reduceBEq, reduceIte, reduceCtorEq, Int.reduceToNat, Nat.reduceShiftRight, Nat.reduceAnd, Nat.reduceBneDiff, Nat.reduceBNe, c21r4, semI.eq_10, semI.eq_11, semI.eq_3, semI.eq_5, semI.eq_7]
    obtain rfl := Option.some.inj h
    refine .ret ?_
    rw [← hR]
    simp only [wz, wd, ws, Nat.reduceAdd, Nat.reduceSub, Nat.reduceMul, Nat.reduceLeDiff, Nat.reduceEqDiff, Nat.reduceLT, Nat.reduceBEq, reduceIte, reduceCtorEq, Int.reduceToNat, Nat.reduceShiftRight, Nat.reduceAnd, Nat.reduceBneDiff, Nat.reduceBNe, rv21]
  · rw [ite_f h1] at h
    refine .skip ?_
    refine .seq ?_
    refine Rw.walk ?_
    simp only [wz, wd, ws, Nat.reduceAdd, Nat.reduceSub, Nat.reduceMul, Nat.reduceLeDiff, Nat.reduceEqDiff, Nat.reduceLT, Nat.reduceBEq, reduceIte, reduceCtorEq, Int.reduceToNat, Nat.reduceShiftRight, Nat.reduceAnd, Nat.reduceBneDiff, Nat.reduceBNe, c21r5, semI.eq_10, semI.eq_11, semI.eq_3, semI.eq_5, semI.eq_7]
    obtain rfl := Option.some.inj h
    refine .ret ?_
    rw [← hR]
    simp only [wz, wd, ws, Nat.reduceAdd, Nat.reduceSub, Nat.reduceMul, Nat.reduceLeDiff, Nat.reduceEqDiff, Nat.reduceLT, Nat.reduceBEq, reduceIte, reduceCtorEq, Int.reduceToNat, Nat.reduceShiftRight, Nat.reduceAnd, Nat.reduceBneDiff, Nat.reduceBNe, rv21]
-- 26 consignor/name.small
def c26r0 : List Opn := [
  ⟨(some 2), none, .mv (.c (.s (.d (.bool false))))⟩]
def c26r1 : List Opn := [
  ⟨(some 3), none, .mv (.t 0)⟩, 
  ⟨(some 4), none, .bin .geq (.t 3) (.c (.s (.d (.int .u8 97))))⟩, 
  ⟨(some 5), none, .mv (.t 4)⟩, 
  ⟨(some 6), some (5, true), .mv (.t 0)⟩, 
  ⟨(some 7), some (5, true), .bin .leq (.t 6) (.c (.s (.d (.int .u8 122))))⟩, 
  ⟨(some 8), none, .pick (.t 5) (.t 7) (.c (.s (.d (.bool false))))⟩, 
  ⟨(some 9), none, .mv (.t 8)⟩, 
  ⟨(some 10), some (9, false), .mv (.t 0)⟩, 
  ⟨(some 11), some (9, false), .bin .geq (.t 10) (.c (.s (.d (.int .u8 48))))⟩, 
  ⟨(some 12), some (9, false), .mv (.t 11)⟩, 
  ⟨(some 13), some (12, true), .mv (.t 0)⟩, 
  ⟨(some 14), some (12, true), .bin .leq (.t 13) (.c (.s (.d (.int .u8 57))))⟩, 
  ⟨(some 15), some (9, false), .pick (.t 12) (.t 14) (.c (.s (.d (.bool false))))⟩, 
  ⟨(some 16), none, .pick (.t 9) (.c (.s (.d (.bool true)))) (.t 15)⟩, 
  ⟨(some 2), none, .mv (.t 16)⟩]
def c26 : C := .seq (.reg c26r0 none [0]) (.seq (.reg c26r1 none [2]) (.ret))
def k26 : List (Nat × List Nat) := [(1, [2]), (0, [0])]
theorem cc26 : (Tryd.f26.body).bind (cC Tryd.prog 17 k26) = some c26 := by kernel_rfl
def rv26 : List RV := [.t 2]
theorem cr26 : cRVs Tryd.prog Tryd.f26.results.toList = some rv26 := by kernel_rfl
theorem f_name_small_ok (c : Int) (y_ : Bool) (h : f_name_small c = some y_) : Fun Tryd.prog glP 26 [.b (.s (.d (.int .u8 c)))] (.b (.s (.d (.bool y_)))) := by
  refine fun_walk [] Tryd.func26 Tryd.ntmps26 cc26 cr26 (by kernel_rfl) (by simp only [List.length_cons, List.length_nil]; decide) ?_
  generalize hR : Ret _ _ _ _ _ = R_
  simp only [wz, wd, ws, Nat.reduceAdd, Nat.reduceSub, Nat.reduceMul, Nat.reduceLeDiff, Nat.reduceEqDiff, Nat.reduceLT, Nat.reduceBEq, reduceIte, reduceCtorEq, Int.reduceToNat, Nat.reduceShiftRight, Nat.reduceAnd, Nat.reduceBneDiff, Nat.reduceBNe]
  unfold f_name_small at h; unfold c26
  refine .seq ?_
  refine Rw.walk ?_
  simp only [wz, wd, ws, Nat.reduceAdd, Nat.reduceSub, Nat.reduceMul, Nat.reduceLeDiff, Nat.reduceEqDiff, Nat.reduceLT, Nat.reduceBEq, reduceIte, reduceCtorEq, Int.reduceToNat, Nat.reduceShiftRight, Nat.reduceAnd, Nat.reduceBneDiff, Nat.reduceBNe, c26r0, semI.eq_10, semI.eq_11, semI.eq_3, semI.eq_5, semI.eq_7]
  refine .seq ?_
  refine Rw.walk ?_
  simp only [wz, wd, ws, Nat.reduceAdd, Nat.reduceSub, Nat.reduceMul, Nat.reduceLeDiff, Nat.reduceEqDiff, Nat.reduceLT, Nat.reduceBEq, reduceIte, reduceCtorEq, Int.reduceToNat, Nat.reduceShiftRight, Nat.reduceAnd, Nat.reduceBneDiff, Nat.reduceBNe, c26r1, semI.eq_10, semI.eq_11, semI.eq_3, semI.eq_5, semI.eq_7]
  repeat (refine And.intro ?_ ?_; · first | omega | (intro q; simp only [wz, wd, ws, Nat.reduceAdd, Nat.reduceSub, Nat.reduceMul, Nat.reduceLeDiff, Nat.reduceEqDiff, Nat.reduceLT, Nat.reduceBEq, reduceIte, reduceCtorEq, Int.reduceToNat, Nat.reduceShiftRight, Nat.reduceAnd, Nat.reduceBneDiff, Nat.reduceBNe, q]; done))
  obtain rfl := Option.some.inj h
  refine .ret ?_
  rw [← hR]
  simp only [wz, wd, ws, Nat.reduceAdd, Nat.reduceSub, Nat.reduceMul, Nat.reduceLeDiff, Nat.reduceEqDiff, Nat.reduceLT, Nat.reduceBEq, reduceIte, reduceCtorEq, Int.reduceToNat, Nat.reduceShiftRight, Nat.reduceAnd, Nat.reduceBneDiff, Nat.reduceBNe, rv26]
-- 23 consignor/name.part
def c23r0 : List Opn := [
  ⟨(some 2), none, .mv (.c (.s (.d (.bool false))))⟩]
def c23r1 : List Opn := [
  ⟨(some 3), none, .mv (.c (.s (.d (.int .i64 0))))⟩]
def c23r2 : List Opn := [
  ⟨(some 6), none, .mv (.t 0)⟩, 
  ⟨(some 7), none, .len .str (.t 6)⟩, 
  ⟨(some 8), none, .mv (.c (.s (.d (.int .i64 0))))⟩]
def c23r3 : List Opn := [
  ⟨(some 9), none, .bin .lss (.t 8) (.t 7)⟩]
def c23r4 : List Opn := [
  ⟨(some 10), none, .mv (.t 8)⟩, 
  ⟨(some 4), none, .mv (.t 10)⟩]
def c23r5 : List Opn := [
  ⟨(some 11), none, .mv (.t 0)⟩, 
  ⟨(some 12), none, .mv (.t 4)⟩, 
  ⟨(some 13), none, .idx .str (.t 11) (.t 12)⟩, 
  ⟨(some 5), none, .mv (.t 13)⟩]
def c23r6 : List Opn := [
  ⟨(some 15), none, .mv (.t 5)⟩, 
  ⟨(some 16), none, .call (.fn 26) [(.t 15)]⟩, 
  ⟨(some 14), none, .mv (.t 16)⟩]
def c23r7 : List Opn := [
  ⟨(some 18), none, .mv (.t 5)⟩, 
  ⟨(some 19), none, .bin .eql (.t 18) (.c (.s (.d (.int .u8 45))))⟩, 
  ⟨(some 17), none, .mv (.t 19)⟩]
def c23r8 : List Opn := [
  ⟨(some 21), none, .mv (.t 5)⟩, 
  ⟨(some 22), none, .bin .eql (.t 21) (.c (.s (.d (.int .u8 95))))⟩, 
  ⟨(some 23), none, .mv (.t 22)⟩, 
  ⟨(some 24), some (23, true), .mv (.t 3)⟩, 
  ⟨(some 25), some (23, true), .bin .eql (.t 24) (.c (.s (.d (.int .i64 1))))⟩, 
  ⟨(some 26), none, .pick (.t 23) (.t 25) (.c (.s (.d (.bool false))))⟩, 
  ⟨(some 27), none, .mv (.t 26)⟩, 
  ⟨(some 28), some (27, true), .mv (.t 0)⟩, 
  ⟨(some 29), some (27, true), .mv (.t 4)⟩, 
  ⟨(some 30), some (27, true), .bin .sub (.t 29) (.c (.s (.d (.int .i64 1))))⟩, 
  ⟨(some 31), some (27, true), .idx .str (.t 28) (.t 30)⟩, 
  ⟨(some 32), some (27, true), .bin .eql (.t 31) (.c (.s (.d (.int .u8 95))))⟩, 
  ⟨(some 33), none, .pick (.t 27) (.t 32) (.c (.s (.d (.bool false))))⟩, 
  ⟨(some 20), none, .mv (.t 33)⟩]
def c23r9 : List Opn := [
  ⟨(some 35), none, .mv (.t 5)⟩, 
  ⟨(some 36), none, .bin .eql (.t 35) (.c (.s (.d (.int .u8 95))))⟩, 
  ⟨(some 34), none, .mv (.t 36)⟩]
def c23r10 : List Opn := [
  ⟨(some 38), none, .mv (.t 5)⟩, 
  ⟨(some 39), none, .bin .eql (.t 38) (.c (.s (.d (.int .u8 46))))⟩, 
  ⟨(some 37), none, .mv (.t 39)⟩]
def c23r11 : List Opn := [
  ⟨(some 3), none, .mv (.c (.s (.d (.int .i64 0))))⟩]
def c23r12 : List Opn := [
  ⟨(some 40), none, .mv (.t 3)⟩, 
  ⟨(some 41), none, .bin .gtr (.t 40) (.c (.s (.d (.int .i64 0))))⟩, 
  ⟨(some 42), none, .mv (.t 41)⟩, 
  ⟨(some 43), some (42, true), .mv (.t 0)⟩, 
  ⟨(some 44), some (42, true), .mv (.t 4)⟩, 
  ⟨(some 45), some (42, true), .bin .sub (.t 44) (.c (.s (.d (.int .i64 1))))⟩, 
  ⟨(some 46), some (42, true), .idx .str (.t 43) (.t 45)⟩, 
  ⟨(some 47), some (42, true), .bin .neq (.t 46) (.c (.s (.d (.int .u8 45))))⟩, 
  ⟨(some 48), none, .pick (.t 42) (.t 47) (.c (.s (.d (.bool false))))⟩]
def c23r13 : List Opn := [
  ⟨(some 2), none, .mv (.c (.s (.d (.bool false))))⟩]
def c23r14 : List Opn := [
  ⟨(some 49), none, .mv (.t 3)⟩, 
  ⟨(some 50), none, .bin .gtr (.t 49) (.c (.s (.d (.int .i64 0))))⟩]
def c23r15 : List Opn := [
  ⟨(some 2), none, .mv (.c (.s (.d (.bool false))))⟩]
def c23r16 : List Opn := [
  ⟨(some 2), none, .mv (.c (.s (.d (.bool false))))⟩]
def c23r17 : List Opn := [
  ⟨(some 51), none, .mv (.t 3)⟩, 
  ⟨(some 52), none, .bin .add (.t 51) (.c (.s (.d (.int .i64 1))))⟩, 
  ⟨(some 3), none, .mv (.t 52)⟩]
def c23r18 : List Opn := [
  ⟨(some 53), none, .mv (.t 4)⟩, 
  ⟨(some 54), none, .bin .eql (.t 53) (.c (.s (.d (.int .i64 0))))⟩]
def c23r19 : List Opn := [
  ⟨(some 2), none, .mv (.c (.s (.d (.bool false))))⟩]
def c23r20 : List Opn := [
  ⟨(some 55), none, .bin .add (.t 8) (.c (.s (.d (.int .i64 1))))⟩, 
  ⟨(some 8), none, .mv (.t 55)⟩]
def c23l21 : C := .seq (.reg c23r3 none [0, 3, 7, 8, 9]) (.seq (.cond (.t 9) (.skip) (.exit 0)) (.seq (.blk 1 (.seq (.reg c23r4 none [0, 3, 4, 7, 8]) (.seq (.reg c23r5 none [0, 3, 4, 5, 7, 8]) (.seq (.blk 2 (.seq (.blk 8 (.seq (.blk 7 (.blk 6 (.seq (.blk 5 (.seq (.blk 4 (.seq (.blk 3 (.seq (.seq (.seq (.reg c23r6 none [0, 3, 4, 5, 7, 8, 14]) (.cond (.t 14) (.exit 3) (.skip))) (.seq (.seq (.reg c23r7 none [0, 3, 4, 5, 7, 8, 17]) (.cond (.t 17) (.exit 4) (.skip))) (.seq (.seq (.reg c23r8 none [0, 3, 4, 5, 7, 8, 20]) (.cond (.t 20) (.exit 5) (.skip))) (.seq (.seq (.reg c23r9 none [0, 3, 4, 5, 7, 8, 34]) (.cond (.t 34) (.exit 6) (.skip))) (.seq (.reg c23r10 none [0, 3, 4, 7, 8, 37]) (.cond (.t 37) (.exit 7) (.skip))))))) (.exit 8))) (.seq (.seq (.reg c23r11 none [0, 3, 7, 8]) (.exit 1)) (.exit 2)))) (.seq (.seq (.reg c23r12 none [0, 3, 4, 7, 8, 48]) (.cond (.t 48) (.seq (.reg c23r13 none [2]) (.ret)) (.skip))) (.exit 2)))) (.exit 2)))) (.seq (.seq (.reg c23r14 none [0, 3, 4, 7, 8, 50]) (.cond (.t 50) (.seq (.reg c23r15 none [2]) (.ret)) (.skip))) (.exit 2)))) (.seq (.seq (.reg c23r16 none [2]) (.ret)) (.exit 2)))) (.seq (.reg c23r17 none [0, 3, 4, 7, 8]) (.seq (.reg c23r18 none [0, 3, 7, 8, 54]) (.cond (.t 54) (.seq (.reg c23r19 none [2]) (.ret)) (.skip)))))))) (.reg c23r20 none [0, 3, 7, 8])))
def c23r21 : List Opn := [
  ⟨(some 56), none, .mv (.t 0)⟩, 
  ⟨(some 57), none, .bin .neq (.t 56) (.c (.s (.d (.str []))))⟩, 
  ⟨(some 58), none, .mv (.t 57)⟩, 
  ⟨(some 59), some (58, true), .mv (.t 3)⟩, 
  ⟨(some 60), some (58, true), .bin .eql (.t 59) (.c (.s (.d (.int .i64 0))))⟩, 
  ⟨(some 61), none, .pick (.t 58) (.t 60) (.c (.s (.d (.bool false))))⟩, 
  ⟨(some 2), none, .mv (.t 61)⟩]
def c23 : C := .seq (.reg c23r0 none [0]) (.seq (.reg c23r1 none [0, 3]) (.seq (.seq (.reg c23r2 none [0, 3, 7, 8]) (.blk 0 (.loop c23l21))) (.seq (.reg c23r21 none [2]) (.ret))))
def k23 : List (Nat × List Nat) := [(21, [2]), (20, [0, 3, 7, 8]), (19, [2]), (18, [0, 3, 7, 8, 54]), (17, [0, 3, 4, 7, 8]), (16, [2]), (15, [2]), (14, [0, 3, 4, 7, 8, 50]), (13, [2]), (12, [0, 3, 4, 7, 8, 48]), (11, [0, 3, 7, 8]), (10, [0, 3, 4, 7, 8, 37]), (9, [0, 3, 4, 5, 7, 8, 34]), (8, [0, 3, 4, 5, 7, 8, 20]), (7, [0, 3, 4, 5, 7, 8, 17]), (6, [0, 3, 4, 5, 7, 8, 14]), (5, [0, 3, 4, 5, 7, 8]), (4, [0, 3, 4, 7, 8]), (3, [0, 3, 7, 8, 9]), (2, [0, 3, 7, 8]), (1, [0, 3]), (0, [0])]
theorem cc23 : (Tryd.f23.body).bind (cC Tryd.prog 62 k23) = some c23 := by kernel_rfl
def rv23 : List RV := [.t 2]
theorem cr23 : cRVs Tryd.prog Tryd.f23.results.toList = some rv23 := by kernel_rfl
theorem f_name_part_l21_ok (s : Str) (y_ : Bool) (R_ : St → Prop) (hR : (Ret Tryd.prog glP [] rv23 (.b (.s (.d (.bool y_))))) = R_) : ∀ (m_ : Nat) (run : Int) (v8 : Int) (res_ : (Int × Int) ⊕ (Bool)) (h : f_name_part_l21 s m_ run v8 = some res_) (k_ : List It) (hx : ∀ s_ : Int × Int, res_ = .inl s_ → W Tryd.prog glP 62 k_ ⟨lkT [(0, .b (.s (.d (.str s)))), (3, .b (.s (.d (.int .i64 s_.1)))), (7, .b (.s (.d (.int .i64 (s.length : Int))))), (8, .b (.s (.d (.int .i64 s_.2))))], lkG []⟩ R_) (hr : ∀ z_ : Bool, res_ = .inr z_ → z_ = y_), W Tryd.prog glP 62 (.c c23l21 :: .lp c23l21 :: .blk 0 :: k_) ⟨lkT [(0, .b (.s (.d (.str s)))), (3, .b (.s (.d (.int .i64 run)))), (7, .b (.s (.d (.int .i64 (s.length : Int))))), (8, .b (.s (.d (.int .i64 v8))))], lkG []⟩ R_ := by
  intro m_; induction m_ with
  | zero => intro run v8 res_ h; rw [f_name_part_l21.eq_1] at h; cases h
  | succ m_ ih =>
    intro run v8 res_ h k_ hx hr; rw [f_name_part_l21.eq_2] at h; refine W.cdef c23l21.eq_1 ?_
    refine .seq ?_
    refine Rw.walk ?_
    simp only [wz, wd, ws, Nat.reduceAdd, Nat.reduceSub, Nat.reduceMul, Nat.reduceLeDiff, Nat.reduceEqDiff, Nat.reduceLT, Nat.reduceBEq, reduceIte, reduceCtorEq, Int.reduceToNat, Nat.reduceShiftRight, Nat.reduceAnd, Nat.reduceBneDiff, Nat.reduceBNe, c23r3, semI.eq_10, semI.eq_11, semI.eq_3, semI.eq_5, semI.eq_7]
    refine .seq ?_
    refine .cond (p := (decide (v8 < (s.length : Int)))) (by first | rfl | simp only [wz, wd, ws, Nat.reduceAdd, Nat.reduceSub, Nat.reduceMul, Nat.reduceLeDiff, Nat.reduceEqDiff, Nat.reduceLT, Nat.reduceBEq, reduceIte, reduceCtorEq, Int.reduceToNat, Nat.reduceShiftRight, Nat.reduceAnd, Nat.reduceBneDiff, Nat.reduceBNe]) (fun h1 => ?_) (fun h1 => ?_)
    · rw [ite_t h1] at h
      refine .skip ?_
      refine .seq ?_
      refine .blk ?_
      refine .seq ?_
      refine Rw.walk ?_
      simp only [wz, wd, ws, Nat.reduceAdd, Nat.reduceSub, Nat.reduceMul, Nat.reduceLeDiff, Nat.reduceEqDiff, Nat.reduceLT, Nat.reduceBEq, reduceIte, reduceCtorEq, Int.reduceToNat, Nat.reduceShiftRight, Nat.reduceAnd, Nat.reduceBneDiff, Nat.reduceBNe, c23r4, semI.eq_10, semI.eq_11, semI.eq_3, semI.eq_5, semI.eq_7]
      refine .seq ?_
      refine Rw.walk ?_
      simp only [wz, wd, ws, Nat.reduceAdd, Nat.reduceSub, Nat.reduceMul, Nat.reduceLeDiff, Nat.reduceEqDiff, Nat.reduceLT, Nat.reduceBEq, reduceIte, reduceCtorEq, Int.reduceToNat, Nat.reduceShiftRight, Nat.reduceAnd, Nat.reduceBneDiff, Nat.reduceBNe, c23r5, semI.eq_10, semI.eq_11, semI.eq_3, semI.eq_5, semI.eq_7]
      obtain ⟨c, e1, h⟩ := Option.bind_eq_some_iff.1 h
      refine Go1.of (sem_idx e1 (by rfl) (by rfl)) ?_
      simp only [wz, wd, ws, Nat.reduceAdd, Nat.reduceSub, Nat.reduceMul, Nat.reduceLeDiff, Nat.reduceEqDiff, Nat.reduceLT, Nat.reduceBEq, reduceIte, reduceCtorEq, Int.reduceToNat, Nat.reduceShiftRight, Nat.reduceAnd, Nat.reduceBneDiff, Nat.reduceBNe, c23r5, semI.eq_10, semI.eq_11, semI.eq_3, semI.eq_5, semI.eq_7]
      refine .seq ?_
      refine .blk ?_
      refine .seq ?_
      refine .blk ?_
      refine .seq ?_
      refine .blk ?_
      refine .blk ?_
      refine .seq ?_
      refine .blk ?_
      refine .seq ?_
      refine .blk ?_
      refine .seq ?_
      refine .blk ?_
      refine .seq ?_
      refine .seq ?_
      refine .seq ?_
      refine Rw.walk ?_
      simp only [wz, wd, ws, Nat.reduceAdd, Nat.reduceSub, Nat.reduceMul, Nat.reduceLeDiff, Nat.reduceEqDiff, Nat.reduceLT, Nat.reduceBEq, reduceIte, reduceCtorEq, Int.reduceToNat, Nat.reduceShiftRight, Nat.reduceAnd, Nat.reduceBneDiff, Nat.reduceBNe, c23r6, semI.eq_10, semI.eq_11, semI.eq_3, semI.eq_5, semI.eq_7]
      obtain ⟨t, e2, h⟩ := Option.bind_eq_some_iff.1 h
      refine call_fun [] false ⟨trivial, trivial, trivial⟩ rfl ?_ (f_name_small_ok _ _ e2) (fun _ => rfl) (fun i hi => by cases hi) ?_
      · simp only [wz, wd, ws, Nat.reduceAdd, Nat.reduceSub, Nat.reduceMul, Nat.reduceLeDiff, Nat.reduceEqDiff, Nat.reduceLT, Nat.reduceBEq, reduceIte, reduceCtorEq, Int.reduceToNat, Nat.reduceShiftRight, Nat.reduceAnd, Nat.reduceBneDiff, Nat.reduceBNe]
      simp only [wz, wd, ws, Nat.reduceAdd, Nat.reduceSub, Nat.reduceMul, Nat.reduceLeDiff, Nat.reduceEqDiff, Nat.reduceLT, Nat.reduceBEq, reduceIte, reduceCtorEq, Int.reduceToNat, Nat.reduceShiftRight, Nat.reduceAnd, Nat.reduceBneDiff, Nat.reduceBNe, c23r6, semI.eq_10, semI.eq_11, semI.eq_3, semI.eq_5, semI.eq_7]
      refine .cond (p := t) (by first | rfl | simp only [wz, wd, ws, Nat.reduceAdd, Nat.reduceSub, Nat.reduceMul, Nat.reduceLeDiff, Nat.reduceEqDiff, Nat.reduceLT, Nat.reduceBEq, reduceIte, reduceCtorEq, Int.reduceToNat, Nat.reduceShiftRight, Nat.reduceAnd, Nat.reduceBneDiff, Nat.reduceBNe]) (fun h1 => ?_) (fun h1 => ?_)
      · rw [ite_t h1] at h
        refine .exit rfl ?_
        refine .seq ?_
        refine .seq ?_
        refine Rw.walk ?_
        simp only [wz, wd, ws, Nat.reduceAdd, Nat.reduceSub, Nat.reduceMul, Nat.reduceLeDiff, Nat.reduceEqDiff, Nat.reduceLT, Nat.reduceBEq, reduceIte, reduceCtorEq, Int.reduceToNat, Nat.reduceShiftRight, Nat.reduceAnd, Nat.reduceBneDiff, Nat.reduceBNe, c23r11, semI.eq_10, semI.eq_11, semI.eq_3, semI.eq_5, semI.eq_7]
        refine .exit rfl ?_
        refine Rw.walk ?_
        simp only [wz, wd, ws, Nat.reduceAdd, Nat.reduceSub, Nat.reduceMul, Nat.reduceLeDiff, Nat.reduceEqDiff, Nat.reduceLT, Nat.reduceBEq, reduceIte, reduceCtorEq, Int.reduceToNat, Nat.reduceShiftRight, Nat.reduceAnd, Nat.reduceBneDiff, Nat.reduceBNe, c23r20, semI.eq_10, semI.eq_11, semI.eq_3, semI.eq_5, semI.eq_7]
        refine .lp ?_
        refine .weak (Imp.co [] _ _ ?_ ?_ ?_ ?_ ?_) (ih 0 (IntKind.i64.wrap (v8 + 1)) _ h k_ hx hr) <;> simp only [wz, wd, ws, Nat.reduceAdd, Nat.reduceSub, Nat.reduceMul, Nat.reduceLeDiff, Nat.reduceEqDiff, Nat.reduceLT, Nat.reduceBEq, reduceIte, reduceCtorEq, Int.reduceToNat, Nat.reduceShiftRight, Nat.reduceAnd, Nat.reduceBneDiff, Nat.reduceBNe, wi, er_nil]
      · rw [ite_f h1] at h
        refine .skip ?_
        refine .seq ?_
        refine .seq ?_
        refine Rw.walk ?_
        simp only [wz, wd, ws, Nat.reduceAdd, Nat.reduceSub, Nat.reduceMul, Nat.reduceLeDiff, Nat.reduceEqDiff, Nat.reduceLT, Nat.reduceBEq, reduceIte, reduceCtorEq, Int.reduceToNat, Nat.reduceShiftRight, Nat.reduceAnd, Nat.reduceBneDiff, Nat.reduceBNe, c23r7, semI.eq_10, semI.eq_11, semI.eq_3, semI.eq_5, semI.eq_7]
        refine .cond (p := ((bn c) == 45)) (by first | rfl | simp only [wz, wd, ws, Nat.reduceAdd, Nat.reduceSub, Nat.reduceMul, Nat.reduceLeDiff, Nat.reduceEqDiff, Nat.reduceLT, Nat.reduceBEq, reduceIte, reduceCtorEq, Int.reduceToNat, Nat.reduceShiftRight, Nat.reduceAnd, Nat.reduceBneDiff, Nat.reduceBNe]) (fun h1 => ?_) (fun h1 => ?_)
        · rw [ite_t h1] at h
          refine .exit rfl ?_
          refine .seq ?_
          refine .seq ?_
          refine Rw.walk ?_
          simp only [wz, wd, ws, Nat.reduceAdd, Nat.reduceSub, Nat.reduceMul, Nat.reduceLeDiff, Nat.reduceEqDiff, Nat.reduceLT, Nat.reduceBEq, reduceIte, reduceCtorEq, Int.reduceToNat, Nat.reduceShiftRight, Nat.reduceAnd, Nat.reduceBneDiff, Nat.reduceBNe, c23r12, semI.eq_10, semI.eq_11, semI.eq_3, semI.eq_5, semI.eq_7]
          obtain ⟨g3, h⟩ := gd_iff.1 h
          refine Go2.of (se_idxS) ?_
          simp only [wz, wd, ws, Nat.reduceAdd, Nat.reduceSub, Nat.reduceMul, Nat.reduceLeDiff, Nat.reduceEqDiff, Nat.reduceLT, Nat.reduceBEq, reduceIte, reduceCtorEq, Int.reduceToNat, Nat.reduceShiftRight, Nat.reduceAnd, Nat.reduceBneDiff, Nat.reduceBNe, c23r12, semI.eq_10, semI.eq_11, semI.eq_3, semI.eq_5, semI.eq_7]
          repeat (refine And.intro ?_ ?_; · first | omega | exact g3 | (intro q; first | omega | (have q2 := g3 (by simpa using q); omega) | (have q2 := g3 q; omega) | (have q2 := g3 (by simpa using q); simp only [List.length_append, List.length_cons, List.length_nil] at q2 ⊢; omega)) | (intro q; simp only [wz, wd, ws, Nat.reduceAdd, Nat.reduceSub, Nat.reduceMul, Nat.reduceLeDiff, Nat.reduceEqDiff, Nat.reduceLT, Nat.reduceBEq, reduceIte, reduceCtorEq, Int.reduceToNat, Nat.reduceShiftRight, Nat.reduceAnd, Nat.reduceBneDiff, Nat.reduceBNe, q]; done))
          refine .cond (p := ((decide (run > 0)) && ((bn (s.getD (IntKind.i64.wrap (v8 - 1)).toNat 0)) != 45))) (by first | rfl | simp only [wz, wd, ws, Nat.reduceAdd, Nat.reduceSub, Nat.reduceMul, Nat.reduceLeDiff, Nat.reduceEqDiff, Nat.reduceLT, Nat.reduceBEq, reduceIte, reduceCtorEq, Int.reduceToNat, Nat.reduceShiftRight, Nat.reduceAnd, Nat.reduceBneDiff, Nat.reduceBNe]) (fun h1 => ?_) (fun h1 => ?_)
          · rw [ite_t h1] at h
            refine .seq ?_
            refine Rw.walk ?_
            simp only [wz, wd, ws, Nat.reduceAdd, Nat.reduceSub, Nat.reduceMul, Nat.reduceLeDiff, Nat.reduceEqDiff, Nat.reduceLT, Nat.reduceBEq, reduceIte, reduceCtorEq, Int.reduceToNat, Nat.reduceShiftRight, Nat.reduceAnd, Nat.reduceBneDiff, Nat.reduceBNe, c23r13, semI.eq_10, semI.eq_11, semI.eq_3, semI.eq_5, semI.eq_7]
            obtain rfl := Option.some.inj h; obtain rfl := hr _ rfl
            refine .ret ?_
            rw [← hR]
            simp only [wz, wd, ws, Nat.reduceAdd, Nat.reduceSub, Nat.reduceMul, Nat.reduceLeDiff, Nat.reduceEqDiff, Nat.reduceLT, Nat.reduceBEq, reduceIte, reduceCtorEq, Int.reduceToNat, Nat.reduceShiftRight, Nat.reduceAnd, Nat.reduceBneDiff, Nat.reduceBNe, rv23]
          · rw [ite_f h1] at h
            refine .skip ?_
            refine .exit rfl ?_
            refine .seq ?_
            refine Rw.walk ?_
            simp only [wz, wd, ws, Nat.reduceAdd, Nat.reduceSub, Nat.reduceMul, Nat.reduceLeDiff, Nat.reduceEqDiff, Nat.reduceLT, Nat.reduceBEq, reduceIte, reduceCtorEq, Int.reduceToNat, Nat.reduceShiftRight, Nat.reduceAnd, Nat.reduceBneDiff, Nat.reduceBNe, c23r17, semI.eq_10, semI.eq_11, semI.eq_3, semI.eq_5, semI.eq_7]
            refine .seq ?_
            refine Rw.walk ?_
            simp only [wz, wd, ws, Nat.reduceAdd, Nat.reduceSub, Nat.reduceMul, Nat.reduceLeDiff, Nat.reduceEqDiff, Nat.reduceLT, Nat.reduceBEq, reduceIte, reduceCtorEq, Int.reduceToNat, Nat.reduceShiftRight, Nat.reduceAnd, Nat.reduceBneDiff, Nat.reduceBNe, c23r18, semI.eq_10, semI.eq_11, semI.eq_3, semI.eq_5, semI.eq_7]
            refine .cond (p := (v8 == 0)) (by first | rfl | simp only [wz, wd, ws, Nat.reduceAdd, Nat.reduceSub, Nat.reduceMul, Nat.reduceLeDiff, Nat.reduceEqDiff, Nat.reduceLT, Nat.reduceBEq, reduceIte, reduceCtorEq, Int.reduceToNat, Nat.reduceShiftRight, Nat.reduceAnd, Nat.reduceBneDiff, Nat.reduceBNe]) (fun h1 => ?_) (fun h1 => ?_)
            · rw [ite_t h1] at h
              refine .seq ?_
              refine Rw.walk ?_
              simp only [wz, wd, ws, Nat.reduceAdd, Nat.reduceSub, Nat.reduceMul, Nat.reduceLeDiff, Nat.reduceEqDiff, Nat.reduceLT, Nat.reduceBEq, reduceIte, reduceCtorEq, Int.reduceToNat, Nat.reduceShiftRight, Nat.reduceAnd, Nat.reduceBneDiff, Nat.reduceBNe, c23r19, semI.eq_10, semI.eq_11, semI.eq_3, semI.eq_5, semI.eq_7]
              obtain rfl := Option.some.inj h; obtain rfl := hr _ rfl
              refine .ret ?_
              rw [← hR]
              simp only [wz, wd, ws, Nat.reduceAdd, Nat.reduceSub, Nat.reduceMul, Nat.reduceLeDiff, Nat.reduceEqDiff, Nat.reduceLT, Nat.reduceBEq, reduceIte, reduceCtorEq, Int.reduceToNat, Nat.reduceShiftRight, Nat.reduceAnd, Nat.reduceBneDiff, Nat.reduceBNe, rv23]
            · rw [ite_f h1] at h
              refine .skip ?_
              refine .eblk ?_
              refine Rw.walk ?_
              simp only [wz, wd, ws, Nat.reduceAdd, Nat.reduceSub, Nat.reduceMul, Nat.reduceLeDiff, Nat.reduceEqDiff, Nat.reduceLT, Nat.reduceBEq, reduceIte, reduceCtorEq, Int.reduceToNat, Nat.reduceShiftRight, Nat.reduceAnd, Nat.reduceBneDiff, Nat.reduceBNe, c23r20, semI.eq_10, semI.eq_11, semI.eq_3, semI.eq_5, semI.eq_7]
              refine .lp ?_
              refine .weak (Imp.co [] _ _ ?_ ?_ ?_ ?_ ?_) (ih (IntKind.i64.wrap (run + 1)) (IntKind.i64.wrap (v8 + 1)) _ h k_ hx hr) <;> simp only [wz, wd, ws, Nat.reduceAdd, Nat.reduceSub, Nat.reduceMul, Nat.reduceLeDiff, Nat.reduceEqDiff, Nat.reduceLT, Nat.reduceBEq, reduceIte, reduceCtorEq, Int.reduceToNat, Nat.reduceShiftRight, Nat.reduceAnd, Nat.reduceBneDiff, Nat.reduceBNe, wi, er_nil]
        · rw [ite_f h1] at h
          refine .skip ?_
          refine .seq ?_
          refine .seq ?_
          refine Rw.walk ?_
          simp only [wz, wd, ws, Nat.reduceAdd, Nat.reduceSub, Nat.reduceMul, Nat.reduceLeDiff, Nat.reduceEqDiff, Nat.reduceLT, Nat.reduceBEq, reduceIte, reduceCtorEq, Int.reduceToNat, Nat.reduceShiftRight, Nat.reduceAnd, Nat.reduceBneDiff, Nat.reduceBNe, c23r8, semI.eq_10, semI.eq_11, semI.eq_3, semI.eq_5, semI.eq_7]
          repeat (refine And.intro ?_ ?_; · first | omega | (intro q; simp only [wz, wd, ws, Nat.reduceAdd, Nat.reduceSub, Nat.reduceMul, Nat.reduceLeDiff, Nat.reduceEqDiff, Nat.reduceLT, Nat.reduceBEq, reduceIte, reduceCtorEq, Int.reduceToNat, Nat.reduceShiftRight, Nat.reduceAnd, Nat.reduceBneDiff, Nat.reduceBNe, q]; done))
          obtain ⟨g4, h⟩ := gd_iff.1 h
          refine Go2.of (se_idxS) ?_
          simp only [wz, wd, ws, Nat.reduceAdd, Nat.reduceSub, Nat.reduceMul, Nat.reduceLeDiff, Nat.reduceEqDiff, Nat.reduceLT, Nat.reduceBEq, reduceIte, reduceCtorEq, Int.reduceToNat, Nat.reduceShiftRight, Nat.reduceAnd, Nat.reduceBneDiff, Nat.reduceBNe, c23r8, semI.eq_10, semI.eq_11, semI.eq_3, semI.eq_5, semI.eq_7]
          repeat (refine And.intro ?_ ?_; · first | omega | exact g4 | (intro q; first | omega | (have q2 := g4 (by simpa using q); omega) | (have q2 := g4 q; omega) | (have q2 := g4 (by simpa using q); simp only [List.length_append, List.length_cons, List.length_nil] at q2 ⊢; omega)) | (intro q; simp only [wz, wd, ws, Nat.reduceAdd, Nat.reduceSub, Nat.reduceMul, Nat.reduceLeDiff, Nat.reduceEqDiff, Nat.reduceLT, Nat.reduceBEq, reduceIte, reduceCtorEq, Int.reduceToNat, Nat.reduceShiftRight, Nat.reduceAnd, Nat.reduceBneDiff, Nat.reduceBNe, q]; done))
          refine .cond (p := ((((bn c) == 95) && (run == 1)) && ((bn (s.getD (IntKind.i64.wrap (v8 - 1)).toNat 0)) == 95))) (by first | rfl | simp only [wz, wd, ws, Nat.reduceAdd, Nat.reduceSub, Nat.reduceMul, Nat.reduceLeDiff, Nat.reduceEqDiff, Nat.reduceLT, Nat.reduceBEq, reduceIte, reduceCtorEq, Int.reduceToNat, Nat.reduceShiftRight, Nat.reduceAnd, Nat.reduceBneDiff, Nat.reduceBNe]) (fun h1 => ?_) (fun h1 => ?_)
          · rw [ite_t h1] at h
            refine .exit rfl ?_
            refine .exit rfl ?_
            refine .seq ?_
            refine Rw.walk ?_
            simp only [wz, wd, ws, Nat.reduceAdd, Nat.reduceSub, Nat.reduceMul, Nat.reduceLeDiff, Nat.reduceEqDiff, Nat.reduceLT, Nat.reduceBEq, reduceIte, reduceCtorEq, Int.reduceToNat, Nat.reduceShiftRight, Nat.reduceAnd, Nat.reduceBneDiff, Nat.reduceBNe, c23r17, semI.eq_10, semI.eq_11, semI.eq_3, semI.eq_5, semI.eq_7]
            refine .seq ?_
            refine Rw.walk ?_
            simp only [wz, wd, ws, Nat.reduceAdd, Nat.reduceSub, Nat.reduceMul, Nat.reduceLeDiff, Nat.reduceEqDiff, Nat.reduceLT, Nat.reduceBEq, reduceIte, reduceCtorEq, Int.reduceToNat, Nat.reduceShiftRight, Nat.reduceAnd, Nat.reduceBneDiff, Nat.reduceBNe, c23r18, semI.eq_10, semI.eq_11, semI.eq_3, semI.eq_5, semI.eq_7]
            refine .cond (p := (v8 == 0)) (by first | rfl | simp only [wz, wd, ws, Nat.reduceAdd, Nat.reduceSub, Nat.reduceMul, Nat.reduceLeDiff, Nat.reduceEqDiff, Nat.reduceLT, Nat.reduceBEq, reduceIte, reduceCtorEq, Int.reduceToNat, Nat.reduceShiftRight, Nat.reduceAnd, Nat.reduceBneDiff, Nat.reduceBNe]) (fun h1 => ?_) (fun h1 => ?_)
            · rw [ite_t h1] at h
              refine .seq ?_
              refine Rw.walk ?_
              simp only [wz, wd, ws, Nat.reduceAdd, Nat.reduceSub, Nat.reduceMul, Nat.reduceLeDiff, Nat.reduceEqDiff, Nat.reduceLT, Nat.reduceBEq, reduceIte, reduceCtorEq, Int.reduceToNat, Nat.reduceShiftRight, Nat.reduceAnd, Nat.reduceBneDiff, Nat.reduceBNe, c23r19, semI.eq_10, semI.eq_11, semI.eq_3, semI.eq_5, semI.eq_7]
              obtain rfl := Option.some.inj h; obtain rfl := hr _ rfl
              refine .ret ?_
              rw [← hR]
              simp only [wz, wd, ws, Nat.reduceAdd, Nat.reduceSub, Nat.reduceMul, Nat.reduceLeDiff, Nat.reduceEqDiff, Nat.reduceLT, Nat.reduceBEq, reduceIte, reduceCtorEq, Int.reduceToNat, Nat.reduceShiftRight, Nat.reduceAnd, Nat.reduceBneDiff, Nat.reduceBNe, rv23]
            · rw [ite_f h1] at h
              refine .skip ?_
              refine .eblk ?_
              refine Rw.walk ?_
              simp only [wz, wd, ws, Nat.reduceAdd, Nat.reduceSub, Nat.reduceMul, Nat.reduceLeDiff, Nat.reduceEqDiff, Nat.reduceLT, Nat.reduceBEq, reduceIte, reduceCtorEq, Int.reduceToNat, Nat.reduceShiftRight, Nat.reduceAnd, Nat.reduceBneDiff, Nat.reduceBNe, c23r20, semI.eq_10, semI.eq_11, semI.eq_3, semI.eq_5, semI.eq_7]
              refine .lp ?_
              refine .weak (Imp.co [] _ _ ?_ ?_ ?_ ?_ ?_) (ih (IntKind.i64.wrap (run + 1)) (IntKind.i64.wrap (v8 + 1)) _ h k_ hx hr) <;> simp only [wz, wd, ws, Nat.reduceAdd, Nat.reduceSub, Nat.reduceMul, Nat.reduceLeDiff, Nat.reduceEqDiff, Nat.reduceLT, Nat.reduceBEq, reduceIte, reduceCtorEq, Int.reduceToNat, Nat.reduceShiftRight, Nat.reduceAnd, Nat.reduceBneDiff, Nat.reduceBNe, wi, er_nil]
          · rw [ite_f h1] at h
            refine .skip ?_
            refine .seq ?_
            refine .seq ?_
            refine Rw.walk ?_
            simp only [wz, wd, ws, Nat.reduceAdd, Nat.reduceSub, Nat.reduceMul, Nat.reduceLeDiff, Nat.reduceEqDiff, Nat.reduceLT, Nat.reduceBEq, reduceIte, reduceCtorEq, Int.reduceToNat, Nat.reduceShiftRight, Nat.reduceAnd, Nat.reduceBneDiff, Nat.reduceBNe, c23r9, semI.eq_10, semI.eq_11, semI.eq_3, semI.eq_5, semI.eq_7]
            refine .cond (p := ((bn c) == 95)) (by first | rfl | simp only [wz, wd, ws, Nat.reduceAdd, Nat.reduceSub, Nat.reduceMul, Nat.reduceLeDiff, Nat.reduceEqDiff, Nat.reduceLT, Nat.reduceBEq, reduceIte, reduceCtorEq, Int.reduceToNat, Nat.reduceShiftRight, Nat.reduceAnd, Nat.reduceBneDiff, Nat.reduceBNe]) (fun h1 => ?_) (fun h1 => ?_)
            · rw [ite_t h1] at h
              refine .exit rfl ?_
              refine .eblk ?_
              refine .seq ?_
              refine .seq ?_
              refine Rw.walk ?_
              simp only [wz, wd, ws, Nat.reduceAdd, Nat.reduceSub, Nat.reduceMul, Nat.reduceLeDiff, Nat.reduceEqDiff, Nat.reduceLT, Nat.reduceBEq, reduceIte, reduceCtorEq, Int.reduceToNat, Nat.reduceShiftRight, Nat.reduceAnd, Nat.reduceBneDiff, Nat.reduceBNe, c23r14, semI.eq_10, semI.eq_11, semI.eq_3, semI.eq_5, semI.eq_7]
              refine .cond (p := (decide (run > 0))) (by first | rfl | simp only [wz, wd, ws, Nat.reduceAdd, Nat.reduceSub, Nat.reduceMul, Nat.reduceLeDiff, Nat.reduceEqDiff, Nat.reduceLT, Nat.reduceBEq, reduceIte, reduceCtorEq, Int.reduceToNat, Nat.reduceShiftRight, Nat.reduceAnd, Nat.reduceBneDiff, Nat.reduceBNe]) (fun h1 => ?_) (fun h1 => ?_)
              · rw [ite_t h1] at h
                refine .seq ?_
                refine Rw.walk ?_
                simp only [wz, wd, ws, Nat.reduceAdd, Nat.reduceSub, Nat.reduceMul, Nat.reduceLeDiff, Nat.reduceEqDiff, Nat.reduceLT, Nat.reduceBEq, reduceIte, reduceCtorEq, Int.reduceToNat, Nat.reduceShiftRight, Nat.reduceAnd, Nat.reduceBneDiff, Nat.reduceBNe, c23r15, semI.eq_10, semI.eq_11, semI.eq_3, semI.eq_5, semI.eq_7]
                obtain rfl := Option.some.inj h; obtain rfl := hr _ rfl
                refine .ret ?_
                rw [← hR]
                simp only [wz, wd, ws, Nat.reduceAdd, Nat.reduceSub, Nat.reduceMul, Nat.reduceLeDiff, Nat.reduceEqDiff, Nat.reduceLT, Nat.reduceBEq, reduceIte, reduceCtorEq, Int.reduceToNat, Nat.reduceShiftRight, Nat.reduceAnd, Nat.reduceBneDiff, Nat.reduceBNe, rv23]
              · rw [ite_f h1] at h
                refine .skip ?_
                refine .exit rfl ?_
                refine .seq ?_
                refine Rw.walk ?_
                simp only [wz, wd, ws, Nat.reduceAdd, Nat.reduceSub, Nat.reduceMul, Nat.reduceLeDiff, Nat.reduceEqDiff, Nat.reduceLT, Nat.reduceBEq, reduceIte, reduceCtorEq, Int.reduceToNat, Nat.reduceShiftRight, Nat.reduceAnd, Nat.reduceBneDiff, Nat.reduceBNe, c23r17, semI.eq_10, semI.eq_11, semI.eq_3, semI.eq_5, semI.eq_7]
                refine .seq ?_
                refine Rw.walk ?_
                simp only [wz, wd, ws, Nat.reduceAdd, Nat.reduceSub, Nat.reduceMul, Nat.reduceLeDiff, Nat.reduceEqDiff, Nat.reduceLT, Nat.reduceBEq, reduceIte, reduceCtorEq, Int.reduceToNat, Nat.reduceShiftRight, Nat.reduceAnd, Nat.reduceBneDiff, Nat.reduceBNe, c23r18, semI.eq_10, semI.eq_11, semI.eq_3, semI.eq_5, semI.eq_7]
                refine .cond (p := (v8 == 0)) (by first | rfl | simp only [wz, wd, ws, Nat.reduceAdd, Nat.reduceSub, Nat.reduceMul, Nat.reduceLeDiff, Nat.reduceEqDiff, Nat.reduceLT, Nat.reduceBEq, reduceIte, reduceCtorEq, Int.reduceToNat, Nat.reduceShiftRight, Nat.reduceAnd, Nat.reduceBneDiff, Nat.reduceBNe]) (fun h1 => ?_) (fun h1 => ?_)
                · rw [ite_t h1] at h
                  refine .seq ?_
                  refine Rw.walk ?_
                  simp only [wz, wd, ws, Nat.reduceAdd, Nat.reduceSub, Nat.reduceMul, Nat.reduceLeDiff, Nat.reduceEqDiff, Nat.reduceLT, Nat.reduceBEq, reduceIte, reduceCtorEq, Int.reduceToNat, Nat.reduceShiftRight, Nat.reduceAnd, Nat.reduceBneDiff, Nat.reduceBNe, c23r19, semI.eq_10, semI.eq_11, semI.eq_3, semI.eq_5, semI.eq_7]
                  obtain rfl := Option.some.inj h; obtain rfl := hr _ rfl
                  refine .ret ?_
                  rw [← hR]
                  simp only [wz, wd, ws, Nat.reduceAdd, Nat.reduceSub, Nat.reduceMul, Nat.reduceLeDiff, Nat.reduceEqDiff, Nat.reduceLT, Nat.reduceBEq, reduceIte, reduceCtorEq, Int.reduceToNat, Nat.reduceShiftRight, Nat.reduceAnd, Nat.reduceBneDiff, Nat.reduceBNe, rv23]
                · rw [ite_f h1] at h
                  refine .skip ?_
                  refine .eblk ?_
                  refine Rw.walk ?_
                  simp only [wz, wd, ws, Nat.reduceAdd, Nat.reduceSub, Nat.reduceMul, Nat.reduceLeDiff, Nat.reduceEqDiff, Nat.reduceLT, Nat.reduceBEq, reduceIte, reduceCtorEq, Int.reduceToNat, Nat.reduceShiftRight, Nat.reduceAnd, Nat.reduceBneDiff, Nat.reduceBNe, c23r20, semI.eq_10, semI.eq_11, semI.eq_3, semI.eq_5, semI.eq_7]
                  refine .lp ?_
                  refine .weak (Imp.co [] _ _ ?_ ?_ ?_ ?_ ?_) (ih (IntKind.i64.wrap (run + 1)) (IntKind.i64.wrap (v8 + 1)) _ h k_ hx hr) <;> simp only [wz, wd, ws, Nat.reduceAdd, Nat.reduceSub, Nat.reduceMul, Nat.reduceLeDiff, Nat.reduceEqDiff, Nat.reduceLT, Nat.reduceBEq, reduceIte, reduceCtorEq, Int.reduceToNat, Nat.reduceShiftRight, Nat.reduceAnd, Nat.reduceBneDiff, Nat.reduceBNe, wi, er_nil]
            · rw [ite_f h1] at h
              refine .skip ?_
              refine .seq ?_
              refine Rw.walk ?_
              simp only [wz, wd, ws, Nat.reduceAdd, Nat.reduceSub, Nat.reduceMul, Nat.reduceLeDiff, Nat.reduceEqDiff, Nat.reduceLT, Nat.reduceBEq, reduceIte, reduceCtorEq, Int.reduceToNat, Nat.reduceShiftRight, Nat.reduceAnd, Nat.reduceBneDiff, Nat.reduceBNe, c23r10, semI.eq_10, semI.eq_11, semI.eq_3, semI.eq_5, semI.eq_7]
              refine .cond (p := ((bn c) == 46)) (by first | rfl | simp only [wz, wd, ws, Nat.reduceAdd, Nat.reduceSub, Nat.reduceMul, Nat.reduceLeDiff, Nat.reduceEqDiff, Nat.reduceLT, Nat.reduceBEq, reduceIte, reduceCtorEq, Int.reduceToNat, Nat.reduceShiftRight, Nat.reduceAnd, Nat.reduceBneDiff, Nat.reduceBNe]) (fun h1 => ?_) (fun h1 => ?_)
              · rw [ite_t h1] at h
                refine .exit rfl ?_
                refine .seq ?_
                refine .seq ?_
                refine Rw.walk ?_
                simp only [wz, wd, ws, Nat.reduceAdd, Nat.reduceSub, Nat.reduceMul, Nat.reduceLeDiff, Nat.reduceEqDiff, Nat.reduceLT, Nat.reduceBEq, reduceIte, reduceCtorEq, Int.reduceToNat, Nat.reduceShiftRight, Nat.reduceAnd, Nat.reduceBneDiff, Nat.reduceBNe, c23r14, semI.eq_10, semI.eq_11, semI.eq_3, semI.eq_5, semI.eq_7]
                refine .cond (p := (decide (run > 0))) (by first | rfl | simp only [wz, wd, ws, Nat.reduceAdd, Nat.reduceSub, Nat.reduceMul, Nat.reduceLeDiff, Nat.reduceEqDiff, Nat.reduceLT, Nat.reduceBEq, reduceIte, reduceCtorEq, Int.reduceToNat, Nat.reduceShiftRight, Nat.reduceAnd, Nat.reduceBneDiff, Nat.reduceBNe]) (fun h1 => ?_) (fun h1 => ?_)
                · rw [ite_t h1] at h
                  refine .seq ?_
                  refine Rw.walk ?_
                  simp only [wz, wd, ws, Nat.reduceAdd, Nat.reduceSub, Nat.reduceMul, Nat.reduceLeDiff, Nat.reduceEqDiff, Nat.reduceLT, Nat.reduceBEq, reduceIte, reduceCtorEq, Int.reduceToNat, Nat.reduceShiftRight, Nat.reduceAnd, Nat.reduceBneDiff, Nat.reduceBNe, c23r15, semI.eq_10, semI.eq_11, semI.eq_3, semI.eq_5, semI.eq_7]
                  obtain rfl := Option.some.inj h; obtain rfl := hr _ rfl
                  refine .ret ?_
                  rw [← hR]
                  simp only [wz, wd, ws, Nat.reduceAdd, Nat.reduceSub, Nat.reduceMul, Nat.reduceLeDiff, Nat.reduceEqDiff, Nat.reduceLT, Nat.reduceBEq, reduceIte, reduceCtorEq, Int.reduceToNat, Nat.reduceShiftRight, Nat.reduceAnd, Nat.reduceBneDiff, Nat.reduceBNe, rv23]
                · rw [ite_f h1] at h
                  refine .skip ?_
                  refine .exit rfl ?_
                  refine .seq ?_
                  refine Rw.walk ?_
                  simp only [wz, wd, ws, Nat.reduceAdd, Nat.reduceSub, Nat.reduceMul, Nat.reduceLeDiff, Nat.reduceEqDiff, Nat.reduceLT, Nat.reduceBEq, reduceIte, reduceCtorEq, Int.reduceToNat, Nat.reduceShiftRight, Nat.reduceAnd, Nat.reduceBneDiff, Nat.reduceBNe, c23r17, semI.eq_10, semI.eq_11, semI.eq_3, semI.eq_5, semI.eq_7]
                  refine .seq ?_
                  refine Rw.walk ?_
                  simp only [wz, wd, ws, Nat.reduceAdd, Nat.reduceSub, Nat.reduceMul, Nat.reduceLeDiff, Nat.reduceEqDiff, Nat.reduceLT, Nat.reduceBEq, reduceIte, reduceCtorEq, Int.reduceToNat, Nat.reduceShiftRight, Nat.reduceAnd, Nat.reduceBneDiff, Nat.reduceBNe, c23r18, semI.eq_10, semI.eq_11, semI.eq_3, semI.eq_5, semI.eq_7]
                  refine .cond (p := (v8 == 0)) (by first | rfl | simp only [wz, wd, ws, Nat.reduceAdd, Nat.reduceSub, Nat.reduceMul, Nat.reduceLeDiff, Nat.reduceEqDiff, Nat.reduceLT, Nat.reduceBEq, reduceIte, reduceCtorEq, Int.reduceToNat, Nat.reduceShiftRight, Nat.reduceAnd, Nat.reduceBneDiff, Nat.reduceBNe]) (fun h1 => ?_) (fun h1 => ?_)
                  · rw [ite_t h1] at h
                    refine .seq ?_
                    refine Rw.walk ?_
                    simp only [wz, wd, ws, Nat.reduceAdd, Nat.reduceSub, Nat.reduceMul, Nat.reduceLeDiff, Nat.reduceEqDiff, Nat.reduceLT, Nat.reduceBEq, reduceIte, reduceCtorEq, Int.reduceToNat, Nat.reduceShiftRight, Nat.reduceAnd, Nat.reduceBneDiff, Nat.reduceBNe, c23r19, semI.eq_10, semI.eq_11, semI.eq_3, semI.eq_5, semI.eq_7]
                    obtain rfl := Option.some.inj h; obtain rfl := hr _ rfl
                    refine .ret ?_
                    rw [← hR]
                    simp only [wz, wd, ws, Nat.reduceAdd, Nat.reduceSub, Nat.reduceMul, Nat.reduceLeDiff, Nat.reduceEqDiff, Nat.reduceLT, Nat.reduceBEq, reduceIte, reduceCtorEq, Int.reduceToNat, Nat.reduceShiftRight, Nat.reduceAnd, Nat.reduceBneDiff, Nat.reduceBNe, rv23]
                  · rw [ite_f h1] at h
                    refine .skip ?_
                    refine .eblk ?_
                    refine Rw.walk ?_
                    simp only [wz, wd, ws, Nat.reduceAdd, Nat.reduceSub, Nat.reduceMul, Nat.reduceLeDiff, Nat.reduceEqDiff, Nat.reduceLT, Nat.reduceBEq, reduceIte, reduceCtorEq, Int.reduceToNat, Nat.reduceShiftRight, Nat.reduceAnd, Nat.reduceBneDiff, Nat.reduceBNe, c23r20, semI.eq_10, semI.eq_11, semI.eq_3, semI.eq_5, semI.eq_7]
                    refine .lp ?_
                    refine .weak (Imp.co [] _ _ ?_ ?_ ?_ ?_ ?_) (ih (IntKind.i64.wrap (run + 1)) (IntKind.i64.wrap (v8 + 1)) _ h k_ hx hr) <;> simp only [wz, wd, ws, Nat.reduceAdd, Nat.reduceSub, Nat.reduceMul, Nat.reduceLeDiff, Nat.reduceEqDiff, Nat.reduceLT, Nat.reduceBEq, reduceIte, reduceCtorEq, Int.reduceToNat, Nat.reduceShiftRight, Nat.reduceAnd, Nat.reduceBneDiff, Nat.reduceBNe, wi, er_nil]
              · rw [ite_f h1] at h
                refine .skip ?_
                refine .exit rfl ?_
                refine .seq ?_
                refine .seq ?_
                refine Rw.walk ?_
                simp only [wz, wd, ws, Nat.reduceAdd, Nat.reduceSub, Nat.reduceMul, Nat.reduceLeDiff, Nat.reduceEqDiff, Nat.reduceLT, Nat.reduceBEq, reduceIte, reduceCtorEq, Int.reduceToNat, Nat.reduceShiftRight, Nat.reduceAnd, Nat.reduceBneDiff, Nat.reduceBNe, c23r16, semI.eq_10, semI.eq_11, semI.eq_3, semI.eq_5, semI.eq_7]
                obtain rfl := Option.some.inj h; obtain rfl := hr _ rfl
                refine .ret ?_
                rw [← hR]
                simp only [wz, wd, ws, Nat.reduceAdd, Nat.reduceSub, Nat.reduceMul, Nat.reduceLeDiff, Nat.reduceEqDiff, Nat.reduceLT, Nat.reduceBEq, reduceIte, reduceCtorEq, Int.reduceToNat, Nat.reduceShiftRight, Nat.reduceAnd, Nat.reduceBneDiff, Nat.reduceBNe, rv23]
    · rw [ite_f h1] at h
      refine .exit rfl ?_
      obtain rfl := Option.some.inj h
      refine .weak (Imp.co [] _ _ ?_ ?_ ?_ ?_ ?_) (hx _ rfl) <;> simp only [wz, wd, ws, Nat.reduceAdd, Nat.reduceSub, Nat.reduceMul, Nat.reduceLeDiff, Nat.reduceEqDiff, Nat.reduceLT, Nat.reduceBEq, reduceIte, reduceCtorEq, Int.reduceToNat, Nat.reduceShiftRight, Nat.reduceAnd, Nat.reduceBneDiff, Nat.reduceBNe, wi, er_nil]
theorem f_name_part_ok (s : Str) (y_ : Bool) (h : f_name_part s = some y_) : Fun Tryd.prog glP 23 [.b (.s (.d (.str s)))] (.b (.s (.d (.bool y_)))) := by
  refine fun_walk [] Tryd.func23 Tryd.ntmps23 cc23 cr23 (by kernel_rfl) (by simp only [List.length_cons, List.length_nil]; decide) ?_
  generalize hR : Ret _ _ _ _ _ = R_
  simp only [wz, wd, ws, Nat.reduceAdd, Nat.reduceSub, Nat.reduceMul, Nat.reduceLeDiff, Nat.reduceEqDiff, Nat.reduceLT, Nat.reduceBEq, reduceIte, reduceCtorEq, Int.reduceToNat, Nat.reduceShiftRight, Nat.reduceAnd, Nat.reduceBneDiff, Nat.reduceBNe]
  unfold f_name_part at h; unfold c23
  refine .seq ?_
  refine Rw.walk ?_
  simp only [wz, wd, ws, Nat.reduceAdd, Nat.reduceSub, Nat.reduceMul, Nat.reduceLeDiff, Nat.reduceEqDiff, Nat.reduceLT, Nat.reduceBEq, reduceIte, reduceCtorEq, Int.reduceToNat, Nat.reduceShiftRight, Nat.reduceAnd, Nat.reduceBneDiff, Nat.reduceBNe, c23r0, semI.eq_10, semI.eq_11, semI.eq_3, semI.eq_5, semI.eq_7]
  refine .seq ?_
  refine Rw.walk ?_
  simp only [wz, wd, ws, Nat.reduceAdd, Nat.reduceSub, Nat.reduceMul, Nat.reduceLeDiff, Nat.reduceEqDiff, Nat.reduceLT, Nat.reduceBEq, reduceIte, reduceCtorEq, Int.reduceToNat, Nat.reduceShiftRight, Nat.reduceAnd, Nat.reduceBneDiff, Nat.reduceBNe, c23r1, semI.eq_10, semI.eq_11, semI.eq_3, semI.eq_5, semI.eq_7]
  refine .seq ?_
  refine .seq ?_
  refine Rw.walk ?_
  simp only [wz, wd, ws, Nat.reduceAdd, Nat.reduceSub, Nat.reduceMul, Nat.reduceLeDiff, Nat.reduceEqDiff, Nat.reduceLT, Nat.reduceBEq, reduceIte, reduceCtorEq, Int.reduceToNat, Nat.reduceShiftRight, Nat.reduceAnd, Nat.reduceBneDiff, Nat.reduceBNe, c23r2, semI.eq_10, semI.eq_11, semI.eq_3, semI.eq_5, semI.eq_7]
  refine .blk ?_
  obtain ⟨s2, hf, h⟩ := Option.bind_eq_some_iff.1 h
  refine .loop (.weak (Imp.co [] _ _ ?c1 ?c2 ?c3 ?c4 ?c5) (f_name_part_l21_ok s _ _ hR _ _ _ _ hf _ ?_ ?_))
  case c1 | c2 | c3 | c4 | c5 => simp only [wz, wd, ws, Nat.reduceAdd, Nat.reduceSub, Nat.reduceMul, Nat.reduceLeDiff, Nat.reduceEqDiff, Nat.reduceLT, Nat.reduceBEq, reduceIte, reduceCtorEq, Int.reduceToNat, Nat.reduceShiftRight, Nat.reduceAnd, Nat.reduceBneDiff, Nat.reduceBNe, wi, er_nil]
  · intro s3 hs; subst hs; dsimp only at h
    refine .seq ?_
    refine Rw.walk ?_
    simp only [wz, wd, ws, Nat.reduceAdd, Nat.reduceSub, Nat.reduceMul, Nat.reduceLeDiff, Nat.reduceEqDiff, Nat.reduceLT, Nat.reduceBEq, reduceIte, reduceCtorEq, Int.reduceToNat, Nat.reduceShiftRight, Nat.reduceAnd, Nat.reduceBneDiff, Nat.reduceBNe, c23r21, semI.eq_10, semI.eq_11, semI.eq_3, semI.eq_5, semI.eq_7]
    repeat (refine And.intro ?_ ?_; · first | omega | (intro q; simp only [wz, wd, ws, Nat.reduceAdd, Nat.reduceSub, Nat.reduceMul, Nat.reduceLeDiff, Nat.reduceEqDiff, Nat.reduceLT, Nat.reduceBEq, reduceIte, reduceCtorEq, Int.reduceToNat, Nat.reduceShiftRight, Nat.reduceAnd, Nat.reduceBneDiff, Nat.reduceBNe, q]; done))
    obtain rfl := Option.some.inj h
    refine .ret ?_
    rw [← hR]
    simp only [wz, wd, ws, Nat.reduceAdd, Nat.reduceSub, Nat.reduceMul, Nat.reduceLeDiff, Nat.reduceEqDiff, Nat.reduceLT, Nat.reduceBEq, reduceIte, reduceCtorEq, Int.reduceToNat, Nat.reduceShiftRight, Nat.reduceAnd, Nat.reduceBneDiff, Nat.reduceBNe, rv23]
  · intro z hz; subst hz; dsimp only at h
    exact Option.some.inj h
theorem f_name_Repo_ok (s : Str) (y_ : Bool) (h : f_name_Repo s = some y_) : Fun Tryd.prog glP 11 [.b (.s (.d (.str s)))] (.b (.s (.d (.bool y_)))) := by
  refine Fun.flatG (by kernel_rfl) (of_bool _) fun w S vs hS hG hA => ?_
  obtain ⟨v, rfl, h1⟩ := args1 hA
  obtain rfl := repv_str (l := s) h1
  exact name_Repo_spec f_name_part s y_ h w (fun x b hx W hb => (f_name_part_ok x b hx).boolAt hS hG hb (repA_str x))
-- 13 consignor/name.Tag
def c13r0 : List Opn := [
  ⟨(some 2), none, .mv (.c (.s (.d (.bool false))))⟩]
def c13r1 : List Opn := [
  ⟨(some 5), none, .mv (.t 0)⟩, 
  ⟨(some 6), none, .len .str (.t 5)⟩, 
  ⟨(some 7), none, .mv (.c (.s (.d (.int .i64 0))))⟩]
def c13r2 : List Opn := [
  ⟨(some 8), none, .bin .lss (.t 7) (.t 6)⟩]
def c13r3 : List Opn := [
  ⟨(some 9), none, .mv (.t 7)⟩, 
  ⟨(some 3), none, .mv (.t 9)⟩]
def c13r4 : List Opn := [
  ⟨(some 10), none, .mv (.t 0)⟩, 
  ⟨(some 11), none, .mv (.t 3)⟩, 
  ⟨(some 12), none, .idx .str (.t 10) (.t 11)⟩, 
  ⟨(some 4), none, .mv (.t 12)⟩]
def c13r5 : List Opn := [
  ⟨(some 13), none, .mv (.t 4)⟩, 
  ⟨(some 14), none, .call (.fn 26) [(.t 13)]⟩, 
  ⟨(some 15), none, .mv (.t 14)⟩, 
  ⟨(some 16), some (15, false), .mv (.t 4)⟩, 
  ⟨(some 17), some (15, false), .bin .geq (.t 16) (.c (.s (.d (.int .u8 65))))⟩, 
  ⟨(some 18), some (15, false), .mv (.t 17)⟩, 
  ⟨(some 19), some (18, true), .mv (.t 4)⟩, 
  ⟨(some 20), some (18, true), .bin .leq (.t 19) (.c (.s (.d (.int .u8 90))))⟩, 
  ⟨(some 21), some (15, false), .pick (.t 18) (.t 20) (.c (.s (.d (.bool false))))⟩, 
  ⟨(some 22), none, .pick (.t 15) (.c (.s (.d (.bool true)))) (.t 21)⟩, 
  ⟨(some 23), none, .mv (.t 22)⟩, 
  ⟨(some 24), some (23, false), .mv (.t 4)⟩, 
  ⟨(some 25), some (23, false), .bin .eql (.t 24) (.c (.s (.d (.int .u8 95))))⟩, 
  ⟨(some 26), none, .pick (.t 23) (.c (.s (.d (.bool true)))) (.t 25)⟩, 
  ⟨(some 27), none, .mv (.t 26)⟩, 
  ⟨(some 28), some (27, false), .mv (.t 3)⟩, 
  ⟨(some 29), some (27, false), .bin .gtr (.t 28) (.c (.s (.d (.int .i64 0))))⟩, 
  ⟨(some 30), some (27, false), .mv (.t 29)⟩, 
  ⟨(some 31), some (30, true), .mv (.t 4)⟩, 
  ⟨(some 32), some (30, true), .bin .eql (.t 31) (.c (.s (.d (.int .u8 46))))⟩, 
  ⟨(some 33), some (30, true), .mv (.t 32)⟩, 
  ⟨(some 34), some (33, false), .mv (.t 4)⟩, 
  ⟨(some 35), some (33, false), .bin .eql (.t 34) (.c (.s (.d (.int .u8 45))))⟩, 
  ⟨(some 36), some (30, true), .pick (.t 33) (.c (.s (.d (.bool true)))) (.t 35)⟩, 
  ⟨(some 37), some (27, false), .pick (.t 30) (.t 36) (.c (.s (.d (.bool false))))⟩, 
  ⟨(some 38), none, .pick (.t 27) (.c (.s (.d (.bool true)))) (.t 37)⟩]
def c13r6 : List Opn := [
  ⟨(some 2), none, .mv (.c (.s (.d (.bool false))))⟩]
def c13r7 : List Opn := [
  ⟨(some 39), none, .bin .add (.t 7) (.c (.s (.d (.int .i64 1))))⟩, 
  ⟨(some 7), none, .mv (.t 39)⟩]
def c13l8 : C := .seq (.reg c13r2 none [0, 6, 7, 8]) (.seq (.cond (.t 8) (.skip) (.exit 0)) (.seq (.blk 1 (.seq (.reg c13r3 none [0, 3, 6, 7]) (.seq (.reg c13r4 none [0, 3, 4, 6, 7]) (.seq (.seq (.reg c13r5 none [0, 6, 7, 38]) (.cond (.t 38) (.exit 1) (.skip))) (.seq (.reg c13r6 none [2]) (.ret)))))) (.reg c13r7 none [0, 6, 7])))
def c13r8 : List Opn := [
  ⟨(some 40), none, .mv (.t 0)⟩, 
  ⟨(some 41), none, .bin .neq (.t 40) (.c (.s (.d (.str []))))⟩, 
  ⟨(some 42), none, .mv (.t 41)⟩, 
  ⟨(some 43), some (42, true), .mv (.t 0)⟩, 
  ⟨(some 44), some (42, true), .len .str (.t 43)⟩, 
  ⟨(some 45), some (42, true), .bin .leq (.t 44) (.c (.s (.d (.int .i64 128))))⟩, 
  ⟨(some 46), none, .pick (.t 42) (.t 45) (.c (.s (.d (.bool false))))⟩, 
  ⟨(some 2), none, .mv (.t 46)⟩]
def c13 : C := .seq (.reg c13r0 none [0]) (.seq (.seq (.reg c13r1 none [0, 6, 7]) (.blk 0 (.loop c13l8))) (.seq (.reg c13r8 none [2]) (.ret)))
def k13 : List (Nat × List Nat) := [(8, [2]), (7, [0, 6, 7]), (6, [2]), (5, [0, 6, 7, 38]), (4, [0, 3, 4, 6, 7]), (3, [0, 3, 6, 7]), (2, [0, 6, 7, 8]), (1, [0, 6, 7]), (0, [0])]
theorem cc13 : (Tryd.f13.body).bind (cC Tryd.prog 47 k13) = some c13 := by kernel_rfl
def rv13 : List RV := [.t 2]
theorem cr13 : cRVs Tryd.prog Tryd.f13.results.toList = some rv13 := by kernel_rfl
theorem f_name_Tag_l8_ok (s : Str) (y_ : Bool) (R_ : St → Prop) (hR : (Ret Tryd.prog glP [] rv13 (.b (.s (.d (.bool y_))))) = R_) : ∀ (m_ : Nat) (v7 : Int) (res_ : (Int) ⊕ (Bool)) (h : f_name_Tag_l8 s m_ v7 = some res_) (k_ : List It) (hx : ∀ s_ : Int, res_ = .inl s_ → W Tryd.prog glP 47 k_ ⟨lkT [(0, .b (.s (.d (.str s)))), (6, .b (.s (.d (.int .i64 (s.length : Int))))), (7, .b (.s (.d (.int .i64 s_))))], lkG []⟩ R_) (hr : ∀ z_ : Bool, res_ = .inr z_ → z_ = y_), W Tryd.prog glP 47 (.c c13l8 :: .lp c13l8 :: .blk 0 :: k_) ⟨lkT [(0, .b (.s (.d (.str s)))), (6, .b (.s (.d (.int .i64 (s.length : Int))))), (7, .b (.s (.d (.int .i64 v7))))], lkG []⟩ R_ := by
  intro m_; induction m_ with
  | zero => intro v7 res_ h; rw [f_name_Tag_l8.eq_1] at h; cases h
  | succ m_ ih =>
    intro v7 res_ h k_ hx hr; rw [f_name_Tag_l8.eq_2] at h; refine W.cdef c13l8.eq_1 ?_
    refine .seq ?_
    refine Rw.walk ?_
    simp only [wz, wd, ws, Nat.reduceAdd, Nat.reduceSub, Nat.reduceMul, Nat.reduceLeDiff, Nat.reduceEqDiff, Nat.reduceLT, Nat.reduceBEq, reduceIte, reduceCtorEq, Int.reduceToNat, Nat.reduceShiftRight, Nat.reduceAnd, Nat.reduceBneDiff, Nat.reduceBNe, c13r2, semI.eq_10, semI.eq_11, semI.eq_3, semI.eq_5, semI.eq_7]
    refine .seq ?_
    refine .cond (p := (decide (v7 < (s.length : Int)))) (by first | rfl | simp only [wz, wd, ws, Nat.reduceAdd, Nat.reduceSub, Nat.reduceMul, Nat.reduceLeDiff, Nat.reduceEqDiff, Nat.reduceLT, Nat.reduceBEq, reduceIte, reduceCtorEq, Int.reduceToNat, Nat.reduceShiftRight, Nat.reduceAnd, Nat.reduceBneDiff, Nat.reduceBNe]) (fun h1 => ?_) (fun h1 => ?_)
    · rw [ite_t h1] at h
      refine .skip ?_
      refine .seq ?_
      refine .blk ?_
      refine .seq ?_
      refine Rw.walk ?_
      simp only [wz, wd, ws, Nat.reduceAdd, Nat.reduceSub, Nat.reduceMul, Nat.reduceLeDiff, Nat.reduceEqDiff, Nat.reduceLT, Nat.reduceBEq, reduceIte, reduceCtorEq, Int.reduceToNat, Nat.reduceShiftRight, Nat.reduceAnd, Nat.reduceBneDiff, Nat.reduceBNe, c13r3, semI.eq_10, semI.eq_11, semI.eq_3, semI.eq_5, semI.eq_7]
      refine .seq ?_
      refine Rw.walk ?_
      simp only [wz, wd, ws, Nat.reduceAdd, Nat.reduceSub, Nat.reduceMul, Nat.reduceLeDiff, Nat.reduceEqDiff, Nat.reduceLT, Nat.reduceBEq, reduceIte, reduceCtorEq, Int.reduceToNat, Nat.reduceShiftRight, Nat.reduceAnd, Nat.reduceBneDiff, Nat.reduceBNe, c13r4, semI.eq_10, semI.eq_11, semI.eq_3, semI.eq_5, semI.eq_7]
      obtain ⟨c, e1, h⟩ := Option.bind_eq_some_iff.1 h
      refine Go1.of (sem_idx e1 (by rfl) (by rfl)) ?_
      simp only [wz, wd, ws, Nat.reduceAdd, Nat.reduceSub, Nat.reduceMul, Nat.reduceLeDiff, Nat.reduceEqDiff, Nat.reduceLT, Nat.reduceBEq, reduceIte, reduceCtorEq, Int.reduceToNat, Nat.reduceShiftRight, Nat.reduceAnd, Nat.reduceBneDiff, Nat.reduceBNe, c13r4, semI.eq_10, semI.eq_11, semI.eq_3, semI.eq_5, semI.eq_7]
      refine .seq ?_
      refine .seq ?_
      refine Rw.walk ?_
      simp only [wz, wd, ws, Nat.reduceAdd, Nat.reduceSub, Nat.reduceMul, Nat.reduceLeDiff, Nat.reduceEqDiff, Nat.reduceLT, Nat.reduceBEq, reduceIte, reduceCtorEq, Int.reduceToNat, Nat.reduceShiftRight, Nat.reduceAnd, Nat.reduceBneDiff, Nat.reduceBNe, c13r5, semI.eq_10, semI.eq_11, semI.eq_3, semI.eq_5, semI.eq_7]
      obtain ⟨t, e2, h⟩ := Option.bind_eq_some_iff.1 h
      refine call_fun [] false ⟨trivial, trivial, trivial⟩ rfl ?_ (f_name_small_ok _ _ e2) (fun _ => rfl) (fun i hi => by cases hi) ?_
      · simp only [wz, wd, ws, Nat.reduceAdd, Nat.reduceSub, Nat.reduceMul, Nat.reduceLeDiff, Nat.reduceEqDiff, Nat.reduceLT, Nat.reduceBEq, reduceIte, reduceCtorEq, Int.reduceToNat, Nat.reduceShiftRight, Nat.reduceAnd, Nat.reduceBneDiff, Nat.reduceBNe]
      simp only [wz, wd, ws, Nat.reduceAdd, Nat.reduceSub, Nat.reduceMul, Nat.reduceLeDiff, Nat.reduceEqDiff, Nat.reduceLT, Nat.reduceBEq, reduceIte, reduceCtorEq, Int.reduceToNat, Nat.reduceShiftRight, Nat.reduceAnd, Nat.reduceBneDiff, Nat.reduceBNe, c13r5, semI.eq_10, semI.eq_11, semI.eq_3, semI.eq_5, semI.eq_7]
      repeat (refine And.intro ?_ ?_; · first | omega | (intro q; simp only [wz, wd, ws, Nat.reduceAdd, Nat.reduceSub, Nat.reduceMul, Nat.reduceLeDiff, Nat.reduceEqDiff, Nat.reduceLT, Nat.reduceBEq, reduceIte, reduceCtorEq, Int.reduceToNat, Nat.reduceShiftRight, Nat.reduceAnd, Nat.reduceBneDiff, Nat.reduceBNe, q]; done))
      refine .cond (p := (((t || ((decide ((bn c) ≥ 65)) && (decide ((bn c) ≤ 90)))) || ((bn c) == 95)) || ((decide (v7 > 0)) && (((bn c) == 46) || ((bn c) == 45))))) (by first | rfl | simp only [wz, wd, ws, Nat.reduceAdd, Nat.reduceSub, Nat.reduceMul, Nat.reduceLeDiff, Nat.reduceEqDiff, Nat.reduceLT, Nat.reduceBEq, reduceIte, reduceCtorEq, Int.reduceToNat, Nat.reduceShiftRight, Nat.reduceAnd, Nat.reduceBneDiff, Nat.reduceBNe]) (fun h1 => ?_) (fun h1 => ?_)
      · rw [ite_t h1] at h
        refine .exit rfl ?_
        refine Rw.walk ?_
        simp only [wz, wd, ws, Nat.reduceAdd, Nat.reduceSub, Nat.reduceMul, Nat.reduceLeDiff, Nat.reduceEqDiff, Nat.reduceLT, Nat.reduceBEq, reduceIte, reduceCtorEq, Int.reduceToNat, Nat.reduceShiftRight, Nat.reduceAnd, Nat.reduceBneDiff, Nat.reduceBNe, c13r7, semI.eq_10, semI.eq_11, semI.eq_3, semI.eq_5, semI.eq_7]
        refine .lp ?_
        refine .weak (Imp.co [] _ _ ?_ ?_ ?_ ?_ ?_) (ih (IntKind.i64.wrap (v7 + 1)) _ h k_ hx hr) <;> simp only [wz, wd, ws, Nat.reduceAdd, Nat.reduceSub, Nat.reduceMul, Nat.reduceLeDiff, Nat.reduceEqDiff, Nat.reduceLT, Nat.reduceBEq, reduceIte, reduceCtorEq, Int.reduceToNat, Nat.reduceShiftRight, Nat.reduceAnd, Nat.reduceBneDiff, Nat.reduceBNe, wi, er_nil]
      · rw [ite_f h1] at h
        refine .skip ?_
        refine .seq ?_
        refine Rw.walk ?_
        simp only [wz, wd, ws, Nat.reduceAdd, Nat.reduceSub, Nat.reduceMul, Nat.reduceLeDiff, Nat.reduceEqDiff, Nat.reduceLT, Nat.reduceBEq, reduceIte, reduceCtorEq, Int.reduceToNat, Nat.reduceShiftRight, Nat.reduceAnd, Nat.reduceBneDiff, Nat.reduceBNe, c13r6, semI.eq_10, semI.eq_11, semI.eq_3, semI.eq_5, semI.eq_7]
        obtain rfl := Option.some.inj h; obtain rfl := hr _ rfl
        refine .ret ?_
        rw [← hR]
        simp only [wz, wd, ws, Nat.reduceAdd, Nat.reduceSub, Nat.reduceMul, Nat.reduceLeDiff, Nat.reduceEqDiff, Nat.reduceLT, Nat.reduceBEq, reduceIte, reduceCtorEq, Int.reduceToNat, Nat.reduceShiftRight, Nat.reduceAnd, Nat.reduceBneDiff, Nat.reduceBNe, rv13]
    · rw [ite_f h1] at h
      refine .exit rfl ?_
      obtain rfl := Option.some.inj h
      refine .weak (Imp.co [] _ _ ?_ ?_ ?_ ?_ ?_) (hx _ rfl) <;> simp only [wz, wd, ws, Nat.reduceAdd, Nat.reduceSub, Nat.reduceMul, Nat.reduceLeDiff, Nat.reduceEqDiff, Nat.reduceLT, Nat.reduceBEq, reduceIte, reduceCtorEq, Int.reduceToNat, Nat.reduceShiftRight, Nat.reduceAnd, Nat.reduceBneDiff, Nat.reduceBNe, wi, er_nil]
theorem f_name_Tag_ok (s : Str) (y_ : Bool) (h : f_name_Tag s = some y_) : Fun Tryd.prog glP 13 [.b (.s (.d (.str s)))] (.b (.s (.d (.bool y_)))) := by
  refine fun_walk [] Tryd.func13 Tryd.ntmps13 cc13 cr13 (by kernel_rfl) (by simp only [List.length_cons, List.length_nil]; decide) ?_
  generalize hR : Ret _ _ _ _ _ = R_
  simp only [wz, wd, ws, Nat.reduceAdd, Nat.reduceSub, Nat.reduceMul, Nat.reduceLeDiff, Nat.reduceEqDiff, Nat.reduceLT, Nat.reduceBEq, reduceIte, reduceCtorEq, Int.reduceToNat, Nat.reduceShiftRight, Nat.reduceAnd, Nat.reduceBneDiff, Nat.reduceBNe]
  unfold f_name_Tag at h; unfold c13
  refine .seq ?_
  refine Rw.walk ?_
  simp only [wz, wd, ws, Nat.reduceAdd, Nat.reduceSub, Nat.reduceMul, Nat.reduceLeDiff, Nat.reduceEqDiff, Nat.reduceLT, Nat.reduceBEq, reduceIte, reduceCtorEq, Int.reduceToNat, Nat.reduceShiftRight, Nat.reduceAnd, Nat.reduceBneDiff, Nat.reduceBNe, c13r0, semI.eq_10, semI.eq_11, semI.eq_3, semI.eq_5, semI.eq_7]
  refine .seq ?_
  refine .seq ?_
  refine Rw.walk ?_
  simp only [wz, wd, ws, Nat.reduceAdd, Nat.reduceSub, Nat.reduceMul, Nat.reduceLeDiff, Nat.reduceEqDiff, Nat.reduceLT, Nat.reduceBEq, reduceIte, reduceCtorEq, Int.reduceToNat, Nat.reduceShiftRight, Nat.reduceAnd, Nat.reduceBneDiff, Nat.reduceBNe, c13r1, semI.eq_10, semI.eq_11, semI.eq_3, semI.eq_5, semI.eq_7]
  refine .blk ?_
  obtain ⟨s2, hf, h⟩ := Option.bind_eq_some_iff.1 h
  refine .loop (.weak (Imp.co [] _ _ ?c1 ?c2 ?c3 ?c4 ?c5) (f_name_Tag_l8_ok s _ _ hR _ _ _ hf _ ?_ ?_))
  case c1 | c2 | c3 | c4 | c5 => simp only [wz, wd, ws, Nat.reduceAdd, Nat.reduceSub, Nat.reduceMul, Nat.reduceLeDiff, Nat.reduceEqDiff, Nat.reduceLT, Nat.reduceBEq, reduceIte, reduceCtorEq, Int.reduceToNat, Nat.reduceShiftRight, Nat.reduceAnd, Nat.reduceBneDiff, Nat.reduceBNe, wi, er_nil]
  · intro s3 hs; subst hs; dsimp only at h
    refine .seq ?_
    refine Rw.walk ?_
    simp only [wz, wd, ws, Nat.reduceAdd, Nat.reduceSub, Nat.reduceMul, Nat.reduceLeDiff, Nat.reduceEqDiff, Nat.reduceLT, Nat.reduceBEq, reduceIte, reduceCtorEq, Int.reduceToNat, Nat.reduceShiftRight, Nat.reduceAnd, Nat.reduceBneDiff, Nat.reduceBNe, c13r8, semI.eq_10, semI.eq_11, semI.eq_3, semI.eq_5, semI.eq_7]
    repeat (refine And.intro ?_ ?_; · first | omega | (intro q; simp only [wz, wd, ws, Nat.reduceAdd, Nat.reduceSub, Nat.reduceMul, Nat.reduceLeDiff, Nat.reduceEqDiff, Nat.reduceLT, Nat.reduceBEq, reduceIte, reduceCtorEq, Int.reduceToNat, Nat.reduceShiftRight, Nat.reduceAnd, Nat.reduceBneDiff, Nat.reduceBNe, q]; done))
    obtain rfl := Option.some.inj h
    refine .ret ?_
    rw [← hR]
    simp only [wz, wd, ws, Nat.reduceAdd, Nat.reduceSub, Nat.reduceMul, Nat.reduceLeDiff, Nat.reduceEqDiff, Nat.reduceLT, Nat.reduceBEq, reduceIte, reduceCtorEq, Int.reduceToNat, Nat.reduceShiftRight, Nat.reduceAnd, Nat.reduceBneDiff, Nat.reduceBNe, rv13]
  · intro z hz; subst hz; dsimp only at h
    exact Option.some.inj h
-- 10 consignor/name.Print
def c10r0 : List Opn := [
  ⟨(some 1), none, .box 3 (.t 0)⟩, 
  ⟨(some 2), none, .mv (.c (.s (.d (.str []))))⟩, 
  ⟨(some 3), none, .mv (.c (.s (.d (.int .i64 0))))⟩]
def c10r1 : List Opn := [
  ⟨(some 7), none, .fadr 2 (.t 1)⟩, 
  ⟨(some 8), none, .load false 1 (.t 7)⟩, 
  ⟨(some 9), none, .call (.fn 21) [(.t 8)]⟩, 
  ⟨(some 6), none, .mv (.t 9)⟩, 
  ⟨(some 10), none, .ext (.t 6) 0⟩, 
  ⟨(some 11), none, .ext (.t 6) 1⟩, 
  ⟨(some 4), none, .mv (.t 10)⟩, 
  ⟨(some 5), none, .mv (.t 11)⟩]
def c10r2 : List Opn := [
  ⟨(some 13), none, .fadr 0 (.t 1)⟩, 
  ⟨(some 14), none, .load false 1 (.t 13)⟩, 
  ⟨(some 15), none, .call (.fn 11) [(.t 14)]⟩, 
  ⟨(some 16), none, .un .not (.t 15)⟩, 
  ⟨(some 12), none, .mv (.t 16)⟩]
def c10r3 : List Opn := [
  ⟨(some 18), none, .fadr 2 (.t 1)⟩, 
  ⟨(some 19), none, .load false 1 (.t 18)⟩, 
  ⟨(some 20), none, .bin .eql (.t 19) (.c (.s (.d (.str []))))⟩, 
  ⟨(some 21), none, .mv (.t 20)⟩, 
  ⟨(some 22), some (21, true), .fadr 1 (.t 1)⟩, 
  ⟨(some 23), some (21, true), .load false 1 (.t 22)⟩, 
  ⟨(some 24), some (21, true), .call (.fn 13) [(.t 23)]⟩, 
  ⟨(some 25), none, .pick (.t 21) (.t 24) (.c (.s (.d (.bool false))))⟩, 
  ⟨(some 17), none, .mv (.t 25)⟩]
def c10r4 : List Opn := [
  ⟨(some 26), none, .fadr 0 (.t 1)⟩, 
  ⟨(some 27), none, .load false 1 (.t 26)⟩, 
  ⟨(some 28), none, .bin .add (.t 27) (.c (.s (.d (.str [58]))))⟩, 
  ⟨(some 29), none, .fadr 1 (.t 1)⟩, 
  ⟨(some 30), none, .load false 1 (.t 29)⟩, 
  ⟨(some 31), none, .bin .add (.t 28) (.t 30)⟩, 
  ⟨(some 2), none, .mv (.t 31)⟩, 
  ⟨(some 3), none, .mv (.c (.s (.d (.int .i64 0))))⟩]
def c10r5 : List Opn := [
  ⟨(some 33), none, .fadr 1 (.t 1)⟩, 
  ⟨(some 34), none, .load false 1 (.t 33)⟩, 
  ⟨(some 35), none, .bin .eql (.t 34) (.c (.s (.d (.str []))))⟩, 
  ⟨(some 36), none, .mv (.t 35)⟩, 
  ⟨(some 37), some (36, true), .mv (.t 5)⟩, 
  ⟨(some 38), some (36, true), .bin .eql (.t 37) (.c (.s (.d (.int .i64 0))))⟩, 
  ⟨(some 39), none, .pick (.t 36) (.t 38) (.c (.s (.d (.bool false))))⟩, 
  ⟨(some 32), none, .mv (.t 39)⟩]
def c10r6 : List Opn := [
  ⟨(some 40), none, .fadr 0 (.t 1)⟩, 
  ⟨(some 41), none, .load false 1 (.t 40)⟩, 
  ⟨(some 42), none, .bin .add (.t 41) (.c (.s (.d (.str [64]))))⟩, 
  ⟨(some 43), none, .fadr 2 (.t 1)⟩, 
  ⟨(some 44), none, .load false 1 (.t 43)⟩, 
  ⟨(some 45), none, .bin .add (.t 42) (.t 44)⟩, 
  ⟨(some 2), none, .mv (.t 45)⟩, 
  ⟨(some 3), none, .mv (.c (.s (.d (.int .i64 0))))⟩]
def c10r7 : List Opn := [
  ⟨(some 2), none, .mv (.c (.s (.d (.str []))))⟩, 
  ⟨(some 3), none, .mv (.c (.s (.d (.int .i64 1))))⟩]
def c10 : C := .seq (.reg c10r0 none [1]) (.seq (.reg c10r1 none [1, 5]) (.seq (.blk 0 (.seq (.reg c10r2 none [1, 5, 12]) (.cond (.t 12) (.skip) (.seq (.reg c10r3 none [1, 5, 17]) (.cond (.t 17) (.seq (.reg c10r4 none [2, 3]) (.ret)) (.seq (.reg c10r5 none [1, 32]) (.cond (.t 32) (.seq (.reg c10r6 none [2, 3]) (.ret)) (.skip)))))))) (.seq (.reg c10r7 none [2, 3]) (.ret))))
def k10 : List (Nat × List Nat) := [(7, [2, 3]), (4, [2, 3]), (6, [2, 3]), (5, [1, 32]), (3, [1, 5, 17]), (2, [1, 5, 12]), (1, [1, 5]), (0, [1])]
theorem cc10 : (Tryd.f10.body).bind (cC Tryd.prog 46 k10) = some c10 := by kernel_rfl
def rv10 : List RV := [.t 2, .t 3]
theorem cr10 : cRVs Tryd.prog Tryd.f10.results.toList = some rv10 := by kernel_rfl
theorem f_name_Print_ok (rv : api_Ref) (y_ : Str × Int) (h : f_name_Print rv = some y_) : Fun Tryd.prog glP 10 [.b (.agg ((e_api_Ref rv).map Lc.d))] (.tup [.s (.d (.str y_.1)), .s (.d (.int .i64 y_.2))]) := by
  refine fun_walk [] Tryd.func10 Tryd.ntmps10 cc10 cr10 (by kernel_rfl) (by simp only [List.length_cons, List.length_nil]; decide) ?_
  generalize hR : Ret _ _ _ _ _ = R_
  simp only [wz, wd, ws, Nat.reduceAdd, Nat.reduceSub, Nat.reduceMul, Nat.reduceLeDiff, Nat.reduceEqDiff, Nat.reduceLT, Nat.reduceBEq, reduceIte, reduceCtorEq, Int.reduceToNat, Nat.reduceShiftRight, Nat.reduceAnd, Nat.reduceBneDiff, Nat.reduceBNe, e_api_Ref]
  unfold f_name_Print at h; unfold c10
  refine .seq ?_
  refine Rw.walk ?_
  simp only [wz, wd, ws, Nat.reduceAdd, Nat.reduceSub, Nat.reduceMul, Nat.reduceLeDiff, Nat.reduceEqDiff, Nat.reduceLT, Nat.reduceBEq, reduceIte, reduceCtorEq, Int.reduceToNat, Nat.reduceShiftRight, Nat.reduceAnd, Nat.reduceBneDiff, Nat.reduceBNe, c10r0, semI.eq_10, semI.eq_11, semI.eq_3, semI.eq_5, semI.eq_7, e_api_Ref]
  refine .seq ?_
  refine Rw.walk ?_
  simp only [wz, wd, ws, Nat.reduceAdd, Nat.reduceSub, Nat.reduceMul, Nat.reduceLeDiff, Nat.reduceEqDiff, Nat.reduceLT, Nat.reduceBEq, reduceIte, reduceCtorEq, Int.reduceToNat, Nat.reduceShiftRight, Nat.reduceAnd, Nat.reduceBneDiff, Nat.reduceBNe, c10r1, semI.eq_10, semI.eq_11, semI.eq_3, semI.eq_5, semI.eq_7, e_api_Ref]
  obtain ⟨t, e1, h⟩ := Option.bind_eq_some_iff.1 h
  refine call_fun [] false ⟨trivial, trivial, trivial⟩ rfl ?_ (f_digest_Parse_ok _ _ e1) (fun _ => rfl) (fun i hi => by cases hi) ?_
  · simp only [wz, wd, ws, Nat.reduceAdd, Nat.reduceSub, Nat.reduceMul, Nat.reduceLeDiff, Nat.reduceEqDiff, Nat.reduceLT, Nat.reduceBEq, reduceIte, reduceCtorEq, Int.reduceToNat, Nat.reduceShiftRight, Nat.reduceAnd, Nat.reduceBneDiff, Nat.reduceBNe, e_api_Ref]
  simp only [wz, wd, ws, Nat.reduceAdd, Nat.reduceSub, Nat.reduceMul, Nat.reduceLeDiff, Nat.reduceEqDiff, Nat.reduceLT, Nat.reduceBEq, reduceIte, reduceCtorEq, Int.reduceToNat, Nat.reduceShiftRight, Nat.reduceAnd, Nat.reduceBneDiff, Nat.reduceBNe, c10r1, semI.eq_10, semI.eq_11, semI.eq_3, semI.eq_5, semI.eq_7, e_api_Ref]
  refine .seq ?_
  refine .blk ?_
  refine .seq ?_
  refine Rw.walk ?_
  simp only [wz, wd, ws, Nat.reduceAdd, Nat.reduceSub, Nat.reduceMul, Nat.reduceLeDiff, Nat.reduceEqDiff, Nat.reduceLT, Nat.reduceBEq, reduceIte, reduceCtorEq, Int.reduceToNat, Nat.reduceShiftRight, Nat.reduceAnd, Nat.reduceBneDiff, Nat.reduceBNe, c10r2, semI.eq_10, semI.eq_11, semI.eq_3, semI.eq_5, semI.eq_7, e_api_Ref]
  obtain ⟨t2, e2, h⟩ := Option.bind_eq_some_iff.1 h
  refine call_fun [] false ⟨trivial, trivial, trivial⟩ rfl ?_ (f_name_Repo_ok _ _ e2) (fun _ => rfl) (fun i hi => by cases hi) ?_
  · simp only [wz, wd, ws, Nat.reduceAdd, Nat.reduceSub, Nat.reduceMul, Nat.reduceLeDiff, Nat.reduceEqDiff, Nat.reduceLT, Nat.reduceBEq, reduceIte, reduceCtorEq, Int.reduceToNat, Nat.reduceShiftRight, Nat.reduceAnd, Nat.reduceBneDiff, Nat.reduceBNe, e_api_Ref]
  simp only [wz, wd, ws, Nat.reduceAdd, Nat.reduceSub, Nat.reduceMul, Nat.reduceLeDiff, Nat.reduceEqDiff, Nat.reduceLT, Nat.reduceBEq, reduceIte, reduceCtorEq, Int.reduceToNat, Nat.reduceShiftRight, Nat.reduceAnd, Nat.reduceBneDiff, Nat.reduceBNe, c10r2, semI.eq_10, semI.eq_11, semI.eq_3, semI.eq_5, semI.eq_7, e_api_Ref]
  refine .cond (p := (!t2)) (by first | rfl | simp only [wz, wd, ws, Nat.reduceAdd, Nat.reduceSub, Nat.reduceMul, Nat.reduceLeDiff, Nat.reduceEqDiff, Nat.reduceLT, Nat.reduceBEq, reduceIte, reduceCtorEq, Int.reduceToNat, Nat.reduceShiftRight, Nat.reduceAnd, Nat.reduceBneDiff, Nat.reduceBNe]) (fun h1 => ?_) (fun h1 => ?_)
  · rw [ite_t h1] at h
    refine .skip ?_
    refine .eblk ?_
    refine .seq ?_
    refine Rw.walk ?_
    simp only [wz, wd, ws, Nat.reduceAdd, Nat.reduceSub, Nat.reduceMul, Nat.reduceLeDiff, Nat.reduceEqDiff, Nat.reduceLT, Nat.reduceBEq, reduceIte, reduceCtorEq, Int.reduceToNat, Nat.reduceShiftRight, Nat.reduceAnd, Nat.reduceBneDiff, Nat.reduceBNe, c10r7, semI.eq_10, semI.eq_11, semI.eq_3, semI.eq_5, semI.eq_7, e_api_Ref]
    obtain rfl := Option.some.inj h
    refine .ret ?_
    rw [← hR]
    simp only [wz, wd, ws, Nat.reduceAdd, Nat.reduceSub, Nat.reduceMul, Nat.reduceLeDiff, Nat.reduceEqDiff, Nat.reduceLT, Nat.reduceBEq, reduceIte, reduceCtorEq, Int.reduceToNat, Nat.reduceShiftRight, Nat.reduceAnd, Nat.reduceBneDiff, Nat.reduceBNe, rv10, e_api_Ref]
  · rw [ite_f h1] at h
    refine .seq ?_
    refine Rw.walk ?_
    simp only [wz, wd, ws, Nat.reduceAdd, Nat.reduceSub, Nat.reduceMul, Nat.reduceLeDiff, Nat.reduceEqDiff, Nat.reduceLT, Nat.reduceBEq, reduceIte, reduceCtorEq, Int.reduceToNat, Nat.reduceShiftRight, Nat.reduceAnd, Nat.reduceBneDiff, Nat.reduceBNe, c10r3, semI.eq_10, semI.eq_11, semI.eq_3, semI.eq_5, semI.eq_7, e_api_Ref]
    refine call_alt (v := .b (.s (.d (.str rv.Tag)))) rfl rfl (by simp only [wz, wd, ws, Nat.reduceAdd, Nat.reduceSub, Nat.reduceMul, Nat.reduceLeDiff, Nat.reduceEqDiff, Nat.reduceLT, Nat.reduceBEq, reduceIte, reduceCtorEq, Int.reduceToNat, Nat.reduceShiftRight, Nat.reduceAnd, Nat.reduceBneDiff, Nat.reduceBNe]) (fun q => ⟨_, by simp only [wz, wd, ws, Nat.reduceAdd, Nat.reduceSub, Nat.reduceMul, Nat.reduceLeDiff, Nat.reduceEqDiff, Nat.reduceLT, Nat.reduceBEq, reduceIte, reduceCtorEq, Int.reduceToNat, Nat.reduceShiftRight, Nat.reduceAnd, Nat.reduceBneDiff, Nat.reduceBNe, semI.eq_10, e_api_Ref], trivial⟩) ?_
    simp only [wz, wd, ws, Nat.reduceAdd, Nat.reduceSub, Nat.reduceMul, Nat.reduceLeDiff, Nat.reduceEqDiff, Nat.reduceLT, Nat.reduceBEq, reduceIte, reduceCtorEq, Int.reduceToNat, Nat.reduceShiftRight, Nat.reduceAnd, Nat.reduceBneDiff, Nat.reduceBNe, c10r3, semI.eq_10, semI.eq_11, semI.eq_3, semI.eq_5, semI.eq_7, e_api_Ref]
    obtain ⟨t3, e3, h⟩ := Option.bind_eq_some_iff.1 h
    refine call_funG [] rfl (by simp only [wz, wd, ws, Nat.reduceAdd, Nat.reduceSub, Nat.reduceMul, Nat.reduceLeDiff, Nat.reduceEqDiff, Nat.reduceLT, Nat.reduceBEq, reduceIte, reduceCtorEq, Int.reduceToNat, Nat.reduceShiftRight, Nat.reduceAnd, Nat.reduceBneDiff, Nat.reduceBNe]) rfl ?_ (fun q => (f_name_Tag_ok _ _ (gx_iff e3 (by simpa using q)))) rfl (fun i hi => by cases hi) ?_
    · simp only [wz, wd, ws, Nat.reduceAdd, Nat.reduceSub, Nat.reduceMul, Nat.reduceLeDiff, Nat.reduceEqDiff, Nat.reduceLT, Nat.reduceBEq, reduceIte, reduceCtorEq, Int.reduceToNat, Nat.reduceShiftRight, Nat.reduceAnd, Nat.reduceBneDiff, Nat.reduceBNe, e_api_Ref]
    simp only [wz, wd, ws, Nat.reduceAdd, Nat.reduceSub, Nat.reduceMul, Nat.reduceLeDiff, Nat.reduceEqDiff, Nat.reduceLT, Nat.reduceBEq, reduceIte, reduceCtorEq, Int.reduceToNat, Nat.reduceShiftRight, Nat.reduceAnd, Nat.reduceBneDiff, Nat.reduceBNe, c10r3, semI.eq_10, semI.eq_11, semI.eq_3, semI.eq_5, semI.eq_7, e_api_Ref]
    repeat (refine And.intro ?_ ?_; · first | omega | (intro q; simp only [wz, wd, ws, Nat.reduceAdd, Nat.reduceSub, Nat.reduceMul, Nat.reduceLeDiff, Nat.reduceEqDiff, Nat.reduceLT, Nat.reduceBEq, reduceIte, reduceCtorEq, Int.reduceToNat, Nat.reduceShiftRight, Nat.reduceAnd, Nat.reduceBneDiff, Nat.reduceBNe, q]; done))
    refine .cond (p := ((rv.Digest == ([] : Str)) && t3)) (by first | rfl | simp only [wz, wd, ws, Nat.reduceAdd, Nat.reduceSub, Nat.reduceMul, Nat.reduceLeDiff, Nat.reduceEqDiff, Nat.reduceLT, Nat.reduceBEq, reduceIte, reduceCtorEq, Int.reduceToNat, Nat.reduceShiftRight, Nat.reduceAnd, Nat.reduceBneDiff, Nat.reduceBNe]) (fun h1 => ?_) (fun h1 => ?_)
    · rw [ite_t h1] at h
      refine .seq ?_
      refine Rw.walk ?_
      obtain ⟨g4, h⟩ := gd_iff.1 h
      obtain ⟨g5, h⟩ := gd_iff.1 h
      simp only [wz, wd, ws, Nat.reduceAdd, Nat.reduceSub, Nat.reduceMul, Nat.reduceLeDiff, Nat.reduceEqDiff, Nat.reduceLT, Nat.reduceBEq, reduceIte, reduceCtorEq, Int.reduceToNat, Nat.reduceShiftRight, Nat.reduceAnd, Nat.reduceBneDiff, Nat.reduceBNe, c10r4, semI.eq_10, semI.eq_11, semI.eq_3, semI.eq_5, semI.eq_7, e_api_Ref]
      repeat (refine And.intro ?_ ?_; · first | omega | (intro q; simp only [wz, wd, ws, Nat.reduceAdd, Nat.reduceSub, Nat.reduceMul, Nat.reduceLeDiff, Nat.reduceEqDiff, Nat.reduceLT, Nat.reduceBEq, reduceIte, reduceCtorEq, Int.reduceToNat, Nat.reduceShiftRight, Nat.reduceAnd, Nat.reduceBneDiff, Nat.reduceBNe, q]; done))
      obtain rfl := Option.some.inj h
      refine .ret ?_
      rw [← hR]
      simp only [wz, wd, ws, Nat.reduceAdd, Nat.reduceSub, Nat.reduceMul, Nat.reduceLeDiff, Nat.reduceEqDiff, Nat.reduceLT, Nat.reduceBEq, reduceIte, reduceCtorEq, Int.reduceToNat, Nat.reduceShiftRight, Nat.reduceAnd, Nat.reduceBneDiff, Nat.reduceBNe, rv10, e_api_Ref]
    · rw [ite_f h1] at h
      refine .seq ?_
      refine Rw.walk ?_
      simp only [wz, wd, ws, Nat.reduceAdd, Nat.reduceSub, Nat.reduceMul, Nat.reduceLeDiff, Nat.reduceEqDiff, Nat.reduceLT, Nat.reduceBEq, reduceIte, reduceCtorEq, Int.reduceToNat, Nat.reduceShiftRight, Nat.reduceAnd, Nat.reduceBneDiff, Nat.reduceBNe, c10r5, semI.eq_10, semI.eq_11, semI.eq_3, semI.eq_5, semI.eq_7, e_api_Ref]
      repeat (refine And.intro ?_ ?_; · first | omega | (intro q; simp only [wz, wd, ws, Nat.reduceAdd, Nat.reduceSub, Nat.reduceMul, Nat.reduceLeDiff, Nat.reduceEqDiff, Nat.reduceLT, Nat.reduceBEq, reduceIte, reduceCtorEq, Int.reduceToNat, Nat.reduceShiftRight, Nat.reduceAnd, Nat.reduceBneDiff, Nat.reduceBNe, q]; done))
      refine .cond (p := ((rv.Tag == ([] : Str)) && (t.2 == 0))) (by first | rfl | simp only [wz, wd, ws, Nat.reduceAdd, Nat.reduceSub, Nat.reduceMul, Nat.reduceLeDiff, Nat.reduceEqDiff, Nat.reduceLT, Nat.reduceBEq, reduceIte, reduceCtorEq, Int.reduceToNat, Nat.reduceShiftRight, Nat.reduceAnd, Nat.reduceBneDiff, Nat.reduceBNe]) (fun h1 => ?_) (fun h1 => ?_)
      · rw [ite_t h1] at h
        refine .seq ?_
        refine Rw.walk ?_
        obtain ⟨g6, h⟩ := gd_iff.1 h
        obtain ⟨g7, h⟩ := gd_iff.1 h
        simp only [wz, wd, ws, Nat.reduceAdd, Nat.reduceSub, Nat.reduceMul, Nat.reduceLeDiff, Nat.reduceEqDiff, Nat.reduceLT, Nat.reduceBEq, reduceIte, reduceCtorEq, Int.reduceToNat, Nat.reduceShiftRight, Nat.reduceAnd, Nat.reduceBneDiff, Nat.reduceBNe, c10r6, semI.eq_10, semI.eq_11, semI.eq_3, semI.eq_5, semI.eq_7, e_api_Ref]
        repeat (refine And.intro ?_ ?_; · first | omega | (intro q; simp only [wz, wd, ws, Nat.reduceAdd, Nat.reduceSub, Nat.reduceMul, Nat.reduceLeDiff, Nat.reduceEqDiff, Nat.reduceLT, Nat.reduceBEq, reduceIte, reduceCtorEq, Int.reduceToNat, Nat.reduceShiftRight, Nat.reduceAnd, Nat.reduceBneDiff, Nat.reduceBNe, q]; done))
        obtain rfl := Option.some.inj h
        refine .ret ?_
        rw [← hR]
        simp only [wz, wd, ws, Nat.reduceAdd, Nat.reduceSub, Nat.reduceMul, Nat.reduceLeDiff, Nat.reduceEqDiff, Nat.reduceLT, Nat.reduceBEq, reduceIte, reduceCtorEq, Int.reduceToNat, Nat.reduceShiftRight, Nat.reduceAnd, Nat.reduceBneDiff, Nat.reduceBNe, rv10, e_api_Ref]
      · rw [ite_f h1] at h
        refine .skip ?_
        refine .eblk ?_
        refine .seq ?_
        refine Rw.walk ?_
        simp only [wz, wd, ws, Nat.reduceAdd, Nat.reduceSub, Nat.reduceMul, Nat.reduceLeDiff, Nat.reduceEqDiff, Nat.reduceLT, Nat.reduceBEq, reduceIte, reduceCtorEq, Int.reduceToNat, Nat.reduceShiftRight, Nat.reduceAnd, Nat.reduceBneDiff, Nat.reduceBNe, c10r7, semI.eq_10, semI.eq_11, semI.eq_3, semI.eq_5, semI.eq_7, e_api_Ref]
        obtain rfl := Option.some.inj h
        refine .ret ?_
        rw [← hR]
        simp only [wz, wd, ws, Nat.reduceAdd, Nat.reduceSub, Nat.reduceMul, Nat.reduceLeDiff, Nat.reduceEqDiff, Nat.reduceLT, Nat.reduceBEq, reduceIte, reduceCtorEq, Int.reduceToNat, Nat.reduceShiftRight, Nat.reduceAnd, Nat.reduceBneDiff, Nat.reduceBNe, rv10, e_api_Ref]
-- 24 consignor/consignorref03.Split
def c24r0 : List Opn := [
  ⟨(some 4), none, .mv (.c (.s .nils))⟩]
def c24r1 : List Opn := [
  ⟨(some 8), none, .bsl 1 []⟩, 
  ⟨(some 5), none, .mv (.t 8)⟩]
def c24r2 : List Opn := [
  ⟨(some 6), none, .mv (.c (.s (.d (.str []))))⟩]
def c24r3 : List Opn := [
  ⟨(some 7), none, .mv (.c (.s (.d (.int .i64 0))))⟩]
def c24r4 : List Opn := [
  ⟨(some 9), none, .mv (.t 7)⟩, 
  ⟨(some 10), none, .mv (.t 0)⟩, 
  ⟨(some 11), none, .len .str (.t 10)⟩, 
  ⟨(some 12), none, .bin .lss (.t 9) (.t 11)⟩]
def c24r6 : List Opn := [
  ⟨(some 15), none, .mv (.t 0)⟩, 
  ⟨(some 16), none, .mv (.t 7)⟩, 
  ⟨(some 17), none, .idx .str (.t 15) (.t 16)⟩, 
  ⟨(some 18), none, .mv (.t 1)⟩, 
  ⟨(some 19), none, .bin .eql (.t 17) (.t 18)⟩]
def c24r7 : List Opn := [
  ⟨(some 20), none, .mv (.t 5)⟩, 
  ⟨(some 21), none, .mv (.t 6)⟩, 
  ⟨(some 22), none, .bsl 1 [(.t 21)]⟩, 
  ⟨(some 23), none, .app 1 16 false (.t 20) (.t 22)⟩, 
  ⟨(some 5), none, .mv (.t 23)⟩]
def c24r8 : List Opn := [
  ⟨(some 6), none, .mv (.c (.s (.d (.str []))))⟩]
def c24r9 : List Opn := [
  ⟨(some 24), none, .mv (.t 6)⟩, 
  ⟨(some 25), none, .mv (.t 0)⟩, 
  ⟨(some 26), none, .mv (.t 7)⟩, 
  ⟨(some 27), none, .mv (.t 7)⟩, 
  ⟨(some 28), none, .bin .add (.t 27) (.c (.s (.d (.int .i64 1))))⟩, 
  ⟨(some 29), none, .slc .str (.t 25) (some (.t 26)) (some (.t 28)) none⟩, 
  ⟨(some 30), none, .bin .add (.t 24) (.t 29)⟩, 
  ⟨(some 6), none, .mv (.t 30)⟩]
def c24r5 : List Opn := [
  ⟨(some 13), none, .mv (.t 7)⟩, 
  ⟨(some 14), none, .bin .add (.t 13) (.c (.s (.d (.int .i64 1))))⟩, 
  ⟨(some 7), none, .mv (.t 14)⟩]
def c24l10 : C := .seq (.seq (.reg c24r4 none [0, 1, 5, 6, 7, 12]) (.cond (.t 12) (.skip) (.exit 0))) (.seq (.blk 1 (.seq (.reg c24r6 none [0, 1, 5, 6, 7, 19]) (.cond (.t 19) (.seq (.reg c24r7 none [0, 1, 5, 7]) (.reg c24r8 none [0, 1, 5, 6, 7])) (.reg c24r9 none [0, 1, 5, 6, 7])))) (.reg c24r5 none [0, 1, 5, 6, 7]))
def c24r10 : List Opn := [
  ⟨(some 31), none, .mv (.t 5)⟩, 
  ⟨(some 32), none, .mv (.t 6)⟩, 
  ⟨(some 33), none, .bsl 1 [(.t 32)]⟩, 
  ⟨(some 34), none, .app 1 16 false (.t 31) (.t 33)⟩, 
  ⟨(some 5), none, .mv (.t 34)⟩]
def c24r11 : List Opn := [
  ⟨(some 35), none, .mv (.t 5)⟩, 
  ⟨(some 4), none, .mv (.t 35)⟩]
def c24 : C := .seq (.reg c24r0 none [0, 1]) (.seq (.reg c24r1 none [0, 1, 5]) (.seq (.reg c24r2 none [0, 1, 5, 6]) (.seq (.seq (.reg c24r3 none [0, 1, 5, 6, 7]) (.blk 0 (.loop c24l10))) (.seq (.reg c24r10 none [5]) (.seq (.reg c24r11 none [4]) (.ret))))))
def k24 : List (Nat × List Nat) := [(11, [4]), (10, [5]), (5, [0, 1, 5, 6, 7]), (8, [0, 1, 5, 6, 7]), (7, [0, 1, 5, 7]), (9, [0, 1, 5, 6, 7]), (6, [0, 1, 5, 6, 7, 19]), (4, [0, 1, 5, 6, 7, 12]), (3, [0, 1, 5, 6, 7]), (2, [0, 1, 5, 6]), (1, [0, 1, 5]), (0, [0, 1])]
theorem cc24 : (Tryd.f24.body).bind (cC Tryd.prog 36 k24) = some c24 := by kernel_rfl
def rv24 : List RV := [.t 4]
theorem cr24 : cRVs Tryd.prog Tryd.f24.results.toList = some rv24 := by kernel_rfl
theorem f_ref03_Split_l10_ok (s : Str) (byv : Int) (y_ : (List Str)) (R_ : St → Prop) (hR : (RetO Tryd.prog glP 4 1 (y_.map eS)) = R_) : ∀ (m_ : Nat) (now : Str) (i : Int) (out : (List Str)) (res_ : Str × Int × (List Str)) (h : f_ref03_Split_l10 s byv m_ now i out = some res_) (k_ : List It) (hx : ∀ s_ : Str × Int × (List Str), res_ = s_ → W Tryd.prog glP 36 k_ ⟨lkT [(0, .b (.s (.d (.str s)))), (1, .b (.s (.d (.int .u8 byv)))), (5, .b (.s (.own 8 s_.2.2.length))), (6, .b (.s (.d (.str s_.1)))), (7, .b (.s (.d (.int .i64 s_.2.1))))], lkG [(8, ⟨1, er eS s_.2.2, false⟩)]⟩ R_), W Tryd.prog glP 36 (.c c24l10 :: .lp c24l10 :: .blk 0 :: k_) ⟨lkT [(0, .b (.s (.d (.str s)))), (1, .b (.s (.d (.int .u8 byv)))), (5, .b (.s (.own 8 out.length))), (6, .b (.s (.d (.str now)))), (7, .b (.s (.d (.int .i64 i))))], lkG [(8, ⟨1, er eS out, false⟩)]⟩ R_ := by
  intro m_; induction m_ with
  | zero => intro now i out res_ h; rw [f_ref03_Split_l10.eq_1] at h; cases h
  | succ m_ ih =>
    intro now i out res_ h k_ hx; rw [f_ref03_Split_l10.eq_2] at h; refine W.cdef c24l10.eq_1 ?_
    refine .seq ?_
    refine .seq ?_
    refine Rw.walk ?_
    simp only [wz, wd, ws, Nat.reduceAdd, Nat.reduceSub, Nat.reduceMul, Nat.reduceLeDiff, Nat.reduceEqDiff, Nat.reduceLT, Nat.reduceBEq, reduceIte, reduceCtorEq, Int.reduceToNat, Nat.reduceShiftRight, Nat.reduceAnd, Nat.reduceBneDiff, Nat.reduceBNe, c24r4, semI.eq_10, semI.eq_11, semI.eq_3, semI.eq_5, semI.eq_7]
    refine .cond (p := (decide (i < (s.length : Int)))) (by first | rfl | simp only [wz, wd, ws, Nat.reduceAdd, Nat.reduceSub, Nat.reduceMul, Nat.reduceLeDiff, Nat.reduceEqDiff, Nat.reduceLT, Nat.reduceBEq, reduceIte, reduceCtorEq, Int.reduceToNat, Nat.reduceShiftRight, Nat.reduceAnd, Nat.reduceBneDiff, Nat.reduceBNe]) (fun h1 => ?_) (fun h1 => ?_)
    · rw [ite_t h1] at h
      refine .skip ?_
      refine .seq ?_
      refine .blk ?_
      refine .seq ?_
      refine Rw.walk ?_
      simp only [wz, wd, ws, Nat.reduceAdd, Nat.reduceSub, Nat.reduceMul, Nat.reduceLeDiff, Nat.reduceEqDiff, Nat.reduceLT, Nat.reduceBEq, reduceIte, reduceCtorEq, Int.reduceToNat, Nat.reduceShiftRight, Nat.reduceAnd, Nat.reduceBneDiff, Nat.reduceBNe, c24r6, semI.eq_10, semI.eq_11, semI.eq_3, semI.eq_5, semI.eq_7]
      obtain ⟨c, e1, h⟩ := Option.bind_eq_some_iff.1 h
      refine Go1.of (sem_idx e1 (by rfl) (by rfl)) ?_
      simp only [wz, wd, ws, Nat.reduceAdd, Nat.reduceSub, Nat.reduceMul, Nat.reduceLeDiff, Nat.reduceEqDiff, Nat.reduceLT, Nat.reduceBEq, reduceIte, reduceCtorEq, Int.reduceToNat, Nat.reduceShiftRight, Nat.reduceAnd, Nat.reduceBneDiff, Nat.reduceBNe, c24r6, semI.eq_10, semI.eq_11, semI.eq_3, semI.eq_5, semI.eq_7]
      refine .cond (p := ((bn c) == byv)) (by first | rfl | simp only [wz, wd, ws, Nat.reduceAdd, Nat.reduceSub, Nat.reduceMul, Nat.reduceLeDiff, Nat.reduceEqDiff, Nat.reduceLT, Nat.reduceBEq, reduceIte, reduceCtorEq, Int.reduceToNat, Nat.reduceShiftRight, Nat.reduceAnd, Nat.reduceBneDiff, Nat.reduceBNe]) (fun h1 => ?_) (fun h1 => ?_)
      · rw [ite_t h1] at h
        refine .seq ?_
        refine Rw.walk ?_
        simp only [wz, wd, ws, Nat.reduceAdd, Nat.reduceSub, Nat.reduceMul, Nat.reduceLeDiff, Nat.reduceEqDiff, Nat.reduceLT, Nat.reduceBEq, reduceIte, reduceCtorEq, Int.reduceToNat, Nat.reduceShiftRight, Nat.reduceAnd, Nat.reduceBneDiff, Nat.reduceBNe, c24r7, semI.eq_10, semI.eq_11, semI.eq_3, semI.eq_5, semI.eq_7]
        refine Go1.of (sem_bsl (enc := eS) (m := ([now] : List Str)) eS_len (by rfl) (by rfl) (by rfl) ⟨trivial, trivial⟩) ?_
        simp only [wz, wd, ws, Nat.reduceAdd, Nat.reduceSub, Nat.reduceMul, Nat.reduceLeDiff, Nat.reduceEqDiff, Nat.reduceLT, Nat.reduceBEq, reduceIte, reduceCtorEq, Int.reduceToNat, Nat.reduceShiftRight, Nat.reduceAnd, Nat.reduceBneDiff, Nat.reduceBNe, c24r7, semI.eq_10, semI.eq_11, semI.eq_3, semI.eq_5, semI.eq_7]
        obtain ⟨g2, h⟩ := gd_iff.1 h
        refine Go1.of (sem_app (enc := eS) (l := out) (m := ([now] : List Str)) eS_len (by rfl) (by rfl) (newV_own (m := ([now] : List Str)) (by rfl) (by rfl))) ?_
        simp only [wz, wd, ws, Nat.reduceAdd, Nat.reduceSub, Nat.reduceMul, Nat.reduceLeDiff, Nat.reduceEqDiff, Nat.reduceLT, Nat.reduceBEq, reduceIte, reduceCtorEq, Int.reduceToNat, Nat.reduceShiftRight, Nat.reduceAnd, Nat.reduceBneDiff, Nat.reduceBNe, c24r7, semI.eq_10, semI.eq_11, semI.eq_3, semI.eq_5, semI.eq_7]
        repeat (refine And.intro ?_ ?_; · first | omega | (intro q; simp only [wz, wd, ws, Nat.reduceAdd, Nat.reduceSub, Nat.reduceMul, Nat.reduceLeDiff, Nat.reduceEqDiff, Nat.reduceLT, Nat.reduceBEq, reduceIte, reduceCtorEq, Int.reduceToNat, Nat.reduceShiftRight, Nat.reduceAnd, Nat.reduceBneDiff, Nat.reduceBNe, q]; done))
        refine Rw.walk ?_
        simp only [wz, wd, ws, Nat.reduceAdd, Nat.reduceSub, Nat.reduceMul, Nat.reduceLeDiff, Nat.reduceEqDiff, Nat.reduceLT, Nat.reduceBEq, reduceIte, reduceCtorEq, Int.reduceToNat, Nat.reduceShiftRight, Nat.reduceAnd, Nat.reduceBneDiff, Nat.reduceBNe, c24r8, semI.eq_10, semI.eq_11, semI.eq_3, semI.eq_5, semI.eq_7]
        refine .eblk ?_
        refine Rw.walk ?_
        simp only [wz, wd, ws, Nat.reduceAdd, Nat.reduceSub, Nat.reduceMul, Nat.reduceLeDiff, Nat.reduceEqDiff, Nat.reduceLT, Nat.reduceBEq, reduceIte, reduceCtorEq, Int.reduceToNat, Nat.reduceShiftRight, Nat.reduceAnd, Nat.reduceBneDiff, Nat.reduceBNe, c24r5, semI.eq_10, semI.eq_11, semI.eq_3, semI.eq_5, semI.eq_7]
        refine .lp ?_
        refine .weak (Imp.co [] _ _ ?_ ?_ ?_ ?_ ?_) (ih ([] : Str) (IntKind.i64.wrap (i + 1)) (out ++ ([now] : List Str)) _ h k_ hx) <;> simp only [wz, wd, ws, Nat.reduceAdd, Nat.reduceSub, Nat.reduceMul, Nat.reduceLeDiff, Nat.reduceEqDiff, Nat.reduceLT, Nat.reduceBEq, reduceIte, reduceCtorEq, Int.reduceToNat, Nat.reduceShiftRight, Nat.reduceAnd, Nat.reduceBneDiff, Nat.reduceBNe, wi, er_nil]
      · rw [ite_f h1] at h
        refine Rw.walk ?_
        obtain ⟨g3, h⟩ := gd_iff.1 h
        obtain ⟨g4, h⟩ := gd_iff.1 h
        simp only [wz, wd, ws, Nat.reduceAdd, Nat.reduceSub, Nat.reduceMul, Nat.reduceLeDiff, Nat.reduceEqDiff, Nat.reduceLT, Nat.reduceBEq, reduceIte, reduceCtorEq, Int.reduceToNat, Nat.reduceShiftRight, Nat.reduceAnd, Nat.reduceBneDiff, Nat.reduceBNe, c24r9, semI.eq_10, semI.eq_11, semI.eq_3, semI.eq_5, semI.eq_7]
        repeat (refine And.intro ?_ ?_; · first | omega | (intro q; simp only [wz, wd, ws, Nat.reduceAdd, Nat.reduceSub, Nat.reduceMul, Nat.reduceLeDiff, Nat.reduceEqDiff, Nat.reduceLT, Nat.reduceBEq, reduceIte, reduceCtorEq, Int.reduceToNat, Nat.reduceShiftRight, Nat.reduceAnd, Nat.reduceBneDiff, Nat.reduceBNe, q]; done))
        refine .eblk ?_
        refine Rw.walk ?_
        simp only [wz, wd, ws, Nat.reduceAdd, Nat.reduceSub, Nat.reduceMul, Nat.reduceLeDiff, Nat.reduceEqDiff, Nat.reduceLT, Nat.reduceBEq, reduceIte, reduceCtorEq, Int.reduceToNat, Nat.reduceShiftRight, Nat.reduceAnd, Nat.reduceBneDiff, Nat.reduceBNe, c24r5, semI.eq_10, semI.eq_11, semI.eq_3, semI.eq_5, semI.eq_7]
        refine .lp ?_
        refine .weak (Imp.co [] _ _ ?_ ?_ ?_ ?_ ?_) (ih (now ++ (cut s i (IntKind.i64.wrap (i + 1)))) (IntKind.i64.wrap (i + 1)) out _ h k_ hx) <;> simp only [wz, wd, ws, Nat.reduceAdd, Nat.reduceSub, Nat.reduceMul, Nat.reduceLeDiff, Nat.reduceEqDiff, Nat.reduceLT, Nat.reduceBEq, reduceIte, reduceCtorEq, Int.reduceToNat, Nat.reduceShiftRight, Nat.reduceAnd, Nat.reduceBneDiff, Nat.reduceBNe, wi, er_nil]
    · rw [ite_f h1] at h
      refine .exit rfl ?_
      obtain rfl := Option.some.inj h
      refine .weak (Imp.co [] _ _ ?_ ?_ ?_ ?_ ?_) (hx _ rfl) <;> simp only [wz, wd, ws, Nat.reduceAdd, Nat.reduceSub, Nat.reduceMul, Nat.reduceLeDiff, Nat.reduceEqDiff, Nat.reduceLT, Nat.reduceBEq, reduceIte, reduceCtorEq, Int.reduceToNat, Nat.reduceShiftRight, Nat.reduceAnd, Nat.reduceBneDiff, Nat.reduceBNe, wi, er_nil]
theorem f_ref03_Split_ok (s : Str) (byv : Int) (y_ : (List Str)) (h : f_ref03_Split s byv = some y_) : FunO Tryd.prog glP 24 [.b (.s (.d (.str s))), .b (.s (.d (.int .u8 byv)))] 1 (y_.map eS) := by
  refine funO_walk Tryd.func24 Tryd.ntmps24 cc24 cr24 (by kernel_rfl) (by simp only [List.length_cons, List.length_nil]; decide) ?_
  generalize hR : RetO _ _ _ _ _ = R_
  simp only [wz, wd, ws, Nat.reduceAdd, Nat.reduceSub, Nat.reduceMul, Nat.reduceLeDiff, Nat.reduceEqDiff, Nat.reduceLT, Nat.reduceBEq, reduceIte, reduceCtorEq, Int.reduceToNat, Nat.reduceShiftRight, Nat.reduceAnd, Nat.reduceBneDiff, Nat.reduceBNe]
  unfold f_ref03_Split at h; unfold c24
  refine .seq ?_
  refine Rw.walk ?_
  simp only [wz, wd, ws, Nat.reduceAdd, Nat.reduceSub, Nat.reduceMul, Nat.reduceLeDiff, Nat.reduceEqDiff, Nat.reduceLT, Nat.reduceBEq, reduceIte, reduceCtorEq, Int.reduceToNat, Nat.reduceShiftRight, Nat.reduceAnd, Nat.reduceBneDiff, Nat.reduceBNe, c24r0, semI.eq_10, semI.eq_11, semI.eq_3, semI.eq_5, semI.eq_7]
  refine .seq ?_
  refine Rw.walk ?_
  simp only [wz, wd, ws, Nat.reduceAdd, Nat.reduceSub, Nat.reduceMul, Nat.reduceLeDiff, Nat.reduceEqDiff, Nat.reduceLT, Nat.reduceBEq, reduceIte, reduceCtorEq, Int.reduceToNat, Nat.reduceShiftRight, Nat.reduceAnd, Nat.reduceBneDiff, Nat.reduceBNe, c24r1, semI.eq_10, semI.eq_11, semI.eq_3, semI.eq_5, semI.eq_7]
  refine Go1.of (sem_bsl (enc := eS) (m := ([] : List Str)) eS_len (by rfl) (by rfl) (by rfl) trivial) ?_
  simp only [wz, wd, ws, Nat.reduceAdd, Nat.reduceSub, Nat.reduceMul, Nat.reduceLeDiff, Nat.reduceEqDiff, Nat.reduceLT, Nat.reduceBEq, reduceIte, reduceCtorEq, Int.reduceToNat, Nat.reduceShiftRight, Nat.reduceAnd, Nat.reduceBneDiff, Nat.reduceBNe, c24r1, semI.eq_10, semI.eq_11, semI.eq_3, semI.eq_5, semI.eq_7]
  refine .seq ?_
  refine Rw.walk ?_
  simp only [wz, wd, ws, Nat.reduceAdd, Nat.reduceSub, Nat.reduceMul, Nat.reduceLeDiff, Nat.reduceEqDiff, Nat.reduceLT, Nat.reduceBEq, reduceIte, reduceCtorEq, Int.reduceToNat, Nat.reduceShiftRight, Nat.reduceAnd, Nat.reduceBneDiff, Nat.reduceBNe, c24r2, semI.eq_10, semI.eq_11, semI.eq_3, semI.eq_5, semI.eq_7]
  refine .seq ?_
  refine .seq ?_
  refine Rw.walk ?_
  simp only [wz, wd, ws, Nat.reduceAdd, Nat.reduceSub, Nat.reduceMul, Nat.reduceLeDiff, Nat.reduceEqDiff, Nat.reduceLT, Nat.reduceBEq, reduceIte, reduceCtorEq, Int.reduceToNat, Nat.reduceShiftRight, Nat.reduceAnd, Nat.reduceBneDiff, Nat.reduceBNe, c24r3, semI.eq_10, semI.eq_11, semI.eq_3, semI.eq_5, semI.eq_7]
  refine .blk ?_
  obtain ⟨s2, hf, h⟩ := Option.bind_eq_some_iff.1 h
  refine .loop (.weak (Imp.co [] _ _ ?c1 ?c2 ?c3 ?c4 ?c5) (f_ref03_Split_l10_ok s byv _ _ hR _ _ _ _ _ hf _ ?_))
  case c1 | c2 | c3 | c4 | c5 => simp only [wz, wd, ws, Nat.reduceAdd, Nat.reduceSub, Nat.reduceMul, Nat.reduceLeDiff, Nat.reduceEqDiff, Nat.reduceLT, Nat.reduceBEq, reduceIte, reduceCtorEq, Int.reduceToNat, Nat.reduceShiftRight, Nat.reduceAnd, Nat.reduceBneDiff, Nat.reduceBNe, wi, er_nil]
  · intro s2_ hs; subst hs
    refine .seq ?_
    refine Rw.walk ?_
    simp only [wz, wd, ws, Nat.reduceAdd, Nat.reduceSub, Nat.reduceMul, Nat.reduceLeDiff, Nat.reduceEqDiff, Nat.reduceLT, Nat.reduceBEq, reduceIte, reduceCtorEq, Int.reduceToNat, Nat.reduceShiftRight, Nat.reduceAnd, Nat.reduceBneDiff, Nat.reduceBNe, c24r10, semI.eq_10, semI.eq_11, semI.eq_3, semI.eq_5, semI.eq_7]
    refine Go1.of (sem_bsl (enc := eS) (m := ([s2.1] : List Str)) eS_len (by rfl) (by rfl) (by rfl) ⟨trivial, trivial⟩) ?_
    simp only [wz, wd, ws, Nat.reduceAdd, Nat.reduceSub, Nat.reduceMul, Nat.reduceLeDiff, Nat.reduceEqDiff, Nat.reduceLT, Nat.reduceBEq, reduceIte, reduceCtorEq, Int.reduceToNat, Nat.reduceShiftRight, Nat.reduceAnd, Nat.reduceBneDiff, Nat.reduceBNe, c24r10, semI.eq_10, semI.eq_11, semI.eq_3, semI.eq_5, semI.eq_7]
    obtain ⟨g5, h⟩ := gd_iff.1 h
    refine Go1.of (sem_app (enc := eS) (l := s2.2.2) (m := ([s2.1] : List Str)) eS_len (by rfl) (by rfl) (newV_own (m := ([s2.1] : List Str)) (by rfl) (by rfl))) ?_
    simp only [wz, wd, ws, Nat.reduceAdd, Nat.reduceSub, Nat.reduceMul, Nat.reduceLeDiff, Nat.reduceEqDiff, Nat.reduceLT, Nat.reduceBEq, reduceIte, reduceCtorEq, Int.reduceToNat, Nat.reduceShiftRight, Nat.reduceAnd, Nat.reduceBneDiff, Nat.reduceBNe, c24r10, semI.eq_10, semI.eq_11, semI.eq_3, semI.eq_5, semI.eq_7]
    repeat (refine And.intro ?_ ?_; · first | omega | (intro q; simp only [wz, wd, ws, Nat.reduceAdd, Nat.reduceSub, Nat.reduceMul, Nat.reduceLeDiff, Nat.reduceEqDiff, Nat.reduceLT, Nat.reduceBEq, reduceIte, reduceCtorEq, Int.reduceToNat, Nat.reduceShiftRight, Nat.reduceAnd, Nat.reduceBneDiff, Nat.reduceBNe, q]; done))
    refine .seq ?_
    refine Rw.walk ?_
    simp only [wz, wd, ws, Nat.reduceAdd, Nat.reduceSub, Nat.reduceMul, Nat.reduceLeDiff, Nat.reduceEqDiff, Nat.reduceLT, Nat.reduceBEq, reduceIte, reduceCtorEq, Int.reduceToNat, Nat.reduceShiftRight, Nat.reduceAnd, Nat.reduceBneDiff, Nat.reduceBNe, c24r11, semI.eq_10, semI.eq_11, semI.eq_3, semI.eq_5, semI.eq_7]
    obtain rfl := Option.some.inj h
    refine .ret ?_
    rw [← hR]
    refine ⟨8, ?_, ?_⟩ <;> simp only [wz, wd, ws, Nat.reduceAdd, Nat.reduceSub, Nat.reduceMul, Nat.reduceLeDiff, Nat.reduceEqDiff, Nat.reduceLT, Nat.reduceBEq, reduceIte, reduceCtorEq, Int.reduceToNat, Nat.reduceShiftRight, Nat.reduceAnd, Nat.reduceBneDiff, Nat.reduceBNe, er, List.length_map]
-- 27 consignor/consignorref03.small
def c27r0 : List Opn := [
  ⟨(some 2), none, .mv (.c (.s (.d (.bool false))))⟩]
def c27r1 : List Opn := [
  ⟨(some 3), none, .mv (.t 0)⟩, 
  ⟨(some 4), none, .bin .geq (.t 3) (.c (.s (.d (.int .u8 97))))⟩, 
  ⟨(some 5), none, .mv (.t 4)⟩, 
  ⟨(some 6), some (5, true), .mv (.t 0)⟩, 
  ⟨(some 7), some (5, true), .bin .leq (.t 6) (.c (.s (.d (.int .u8 122))))⟩, 
  ⟨(some 8), none, .pick (.t 5) (.t 7) (.c (.s (.d (.bool false))))⟩, 
  ⟨(some 9), none, .mv (.t 8)⟩, 
  ⟨(some 10), some (9, false), .mv (.t 0)⟩, 
  ⟨(some 11), some (9, false), .bin .geq (.t 10) (.c (.s (.d (.int .u8 48))))⟩, 
  ⟨(some 12), some (9, false), .mv (.t 11)⟩, 
  ⟨(some 13), some (12, true), .mv (.t 0)⟩, 
  ⟨(some 14), some (12, true), .bin .leq (.t 13) (.c (.s (.d (.int .u8 57))))⟩, 
  ⟨(some 15), some (9, false), .pick (.t 12) (.t 14) (.c (.s (.d (.bool false))))⟩, 
  ⟨(some 16), none, .pick (.t 9) (.c (.s (.d (.bool true)))) (.t 15)⟩, 
  ⟨(some 2), none, .mv (.t 16)⟩]
def c27 : C := .seq (.reg c27r0 none [0]) (.seq (.reg c27r1 none [2]) (.ret))
def k27 : List (Nat × List Nat) := [(1, [2]), (0, [0])]
theorem cc27 : (Tryd.f27.body).bind (cC Tryd.prog 17 k27) = some c27 := by kernel_rfl
def rv27 : List RV := [.t 2]
theorem cr27 : cRVs Tryd.prog Tryd.f27.results.toList = some rv27 := by kernel_rfl
theorem f_ref03_small_ok (c : Int) (y_ : Bool) (h : f_ref03_small c = some y_) : Fun Tryd.prog glP 27 [.b (.s (.d (.int .u8 c)))] (.b (.s (.d (.bool y_)))) := by
  refine fun_walk [] Tryd.func27 Tryd.ntmps27 cc27 cr27 (by kernel_rfl) (by simp only [List.length_cons, List.length_nil]; decide) ?_
  generalize hR : Ret _ _ _ _ _ = R_
  simp only [wz, wd, ws, Nat.reduceAdd, Nat.reduceSub, Nat.reduceMul, Nat.reduceLeDiff, Nat.reduceEqDiff, Nat.reduceLT, Nat.reduceBEq, reduceIte, reduceCtorEq, Int.reduceToNat, Nat.reduceShiftRight, Nat.reduceAnd, Nat.reduceBneDiff, Nat.reduceBNe]
  unfold f_ref03_small at h; unfold c27
  refine .seq ?_
  refine Rw.walk ?_
  simp only [wz, wd, ws, Nat.reduceAdd, Nat.reduceSub, Nat.reduceMul, Nat.reduceLeDiff, Nat.reduceEqDiff, Nat.reduceLT, Nat.reduceBEq, reduceIte, reduceCtorEq, Int.reduceToNat, Nat.reduceShiftRight, Nat.reduceAnd, Nat.reduceBneDiff, Nat.reduceBNe, c27r0, semI.eq_10, semI.eq_11, semI.eq_3, semI.eq_5, semI.eq_7]
  refine .seq ?_
  refine Rw.walk ?_
  simp only [wz, wd, ws, Nat.reduceAdd, Nat.reduceSub, Nat.reduceMul, Nat.reduceLeDiff, Nat.reduceEqDiff, Nat.reduceLT, Nat.reduceBEq, reduceIte, reduceCtorEq, Int.reduceToNat, Nat.reduceShiftRight, Nat.reduceAnd, Nat.reduceBneDiff, Nat.reduceBNe, c27r1, semI.eq_10, semI.eq_11, semI.eq_3, semI.eq_5, semI.eq_7]
  repeat (refine And.intro ?_ ?_; · first | omega | (intro q; simp only [wz, wd, ws, Nat.reduceAdd, Nat.reduceSub, Nat.reduceMul, Nat.reduceLeDiff, Nat.reduceEqDiff, Nat.reduceLT, Nat.reduceBEq, reduceIte, reduceCtorEq, Int.reduceToNat, Nat.reduceShiftRight, Nat.reduceAnd, Nat.reduceBneDiff, Nat.reduceBNe, q]; done))
  obtain rfl := Option.some.inj h
  refine .ret ?_
  rw [← hR]
  simp only [wz, wd, ws, Nat.reduceAdd, Nat.reduceSub, Nat.reduceMul, Nat.reduceLeDiff, Nat.reduceEqDiff, Nat.reduceLT, Nat.reduceBEq, reduceIte, reduceCtorEq, Int.reduceToNat, Nat.reduceShiftRight, Nat.reduceAnd, Nat.reduceBneDiff, Nat.reduceBNe, rv27]
-- 35 consignor/consignorref03.mark
def c35r0 : List Opn := [
  ⟨(some 2), none, .mv (.c (.s (.d (.bool false))))⟩]
def c35r1 : List Opn := [
  ⟨(some 4), none, .mv (.t 0)⟩, 
  ⟨(some 5), none, .bin .eql (.t 4) (.c (.s (.d (.str [46]))))⟩, 
  ⟨(some 6), none, .mv (.t 5)⟩, 
  ⟨(some 7), some (6, false), .mv (.t 0)⟩, 
  ⟨(some 8), some (6, false), .bin .eql (.t 7) (.c (.s (.d (.str [95]))))⟩, 
  ⟨(some 9), none, .pick (.t 6) (.c (.s (.d (.bool true)))) (.t 8)⟩, 
  ⟨(some 10), none, .mv (.t 9)⟩, 
  ⟨(some 11), some (10, false), .mv (.t 0)⟩, 
  ⟨(some 12), some (10, false), .bin .eql (.t 11) (.c (.s (.d (.str [95, 95]))))⟩, 
  ⟨(some 13), none, .pick (.t 10) (.c (.s (.d (.bool true)))) (.t 12)⟩]
def c35r2 : List Opn := [
  ⟨(some 2), none, .mv (.c (.s (.d (.bool true))))⟩]
def c35r3 : List Opn := [
  ⟨(some 3), none, .mv (.c (.s (.d (.int .i64 0))))⟩]
def c35r4 : List Opn := [
  ⟨(some 14), none, .mv (.t 3)⟩, 
  ⟨(some 15), none, .mv (.t 0)⟩, 
  ⟨(some 16), none, .len .str (.t 15)⟩, 
  ⟨(some 17), none, .bin .lss (.t 14) (.t 16)⟩]
def c35r6 : List Opn := [
  ⟨(some 20), none, .mv (.t 0)⟩, 
  ⟨(some 21), none, .mv (.t 3)⟩, 
  ⟨(some 22), none, .idx .str (.t 20) (.t 21)⟩, 
  ⟨(some 23), none, .bin .neq (.t 22) (.c (.s (.d (.int .u8 45))))⟩]
def c35r7 : List Opn := [
  ⟨(some 2), none, .mv (.c (.s (.d (.bool false))))⟩]
def c35r5 : List Opn := [
  ⟨(some 18), none, .mv (.t 3)⟩, 
  ⟨(some 19), none, .bin .add (.t 18) (.c (.s (.d (.int .i64 1))))⟩, 
  ⟨(some 3), none, .mv (.t 19)⟩]
def c35l8 : C := .seq (.seq (.reg c35r4 none [0, 3, 17]) (.cond (.t 17) (.skip) (.exit 0))) (.seq (.blk 1 (.seq (.reg c35r6 none [0, 3, 23]) (.cond (.t 23) (.seq (.reg c35r7 none [2]) (.ret)) (.skip)))) (.reg c35r5 none [0, 3]))
def c35r8 : List Opn := [
  ⟨(some 24), none, .mv (.t 0)⟩, 
  ⟨(some 25), none, .len .str (.t 24)⟩, 
  ⟨(some 26), none, .bin .gtr (.t 25) (.c (.s (.d (.int .i64 0))))⟩, 
  ⟨(some 2), none, .mv (.t 26)⟩]
def c35 : C := .seq (.reg c35r0 none [0]) (.seq (.seq (.reg c35r1 none [0, 13]) (.cond (.t 13) (.seq (.reg c35r2 none [2]) (.ret)) (.skip))) (.seq (.seq (.reg c35r3 none [0, 3]) (.blk 0 (.loop c35l8))) (.seq (.reg c35r8 none [2]) (.ret))))
def k35 : List (Nat × List Nat) := [(8, [2]), (5, [0, 3]), (7, [2]), (6, [0, 3, 23]), (4, [0, 3, 17]), (3, [0, 3]), (2, [2]), (1, [0, 13]), (0, [0])]
theorem cc35 : (Tryd.f35.body).bind (cC Tryd.prog 27 k35) = some c35 := by kernel_rfl
def rv35 : List RV := [.t 2]
theorem cr35 : cRVs Tryd.prog Tryd.f35.results.toList = some rv35 := by kernel_rfl
theorem f_ref03_mark_l8_ok (s : Str) (y_ : Bool) (R_ : St → Prop) (hR : (Ret Tryd.prog glP [] rv35 (.b (.s (.d (.bool y_))))) = R_) : ∀ (m_ : Nat) (i : Int) (res_ : (Int) ⊕ (Bool)) (h : f_ref03_mark_l8 s m_ i = some res_) (k_ : List It) (hx : ∀ s_ : Int, res_ = .inl s_ → W Tryd.prog glP 27 k_ ⟨lkT [(0, .b (.s (.d (.str s)))), (3, .b (.s (.d (.int .i64 s_))))], lkG []⟩ R_) (hr : ∀ z_ : Bool, res_ = .inr z_ → z_ = y_), W Tryd.prog glP 27 (.c c35l8 :: .lp c35l8 :: .blk 0 :: k_) ⟨lkT [(0, .b (.s (.d (.str s)))), (3, .b (.s (.d (.int .i64 i))))], lkG []⟩ R_ := by
  intro m_; induction m_ with
  | zero => intro i res_ h; rw [f_ref03_mark_l8.eq_1] at h; cases h
  | succ m_ ih =>
    intro i res_ h k_ hx hr; rw [f_ref03_mark_l8.eq_2] at h; refine W.cdef c35l8.eq_1 ?_
    refine .seq ?_
    refine .seq ?_
    refine Rw.walk ?_
    simp only [wz, wd, ws, Nat.reduceAdd, Nat.reduceSub, Nat.reduceMul, Nat.reduceLeDiff, Nat.reduceEqDiff, Nat.reduceLT, Nat.reduceBEq, reduceIte, reduceCtorEq, Int.reduceToNat, Nat.reduceShiftRight, Nat.reduceAnd, Nat.reduceBneDiff, Nat.reduceBNe, c35r4, semI.eq_10, semI.eq_11, semI.eq_3, semI.eq_5, semI.eq_7]
    refine .cond (p := (decide (i < (s.length : Int)))) (by first | rfl | simp only [wz, wd, ws, Nat.reduceAdd, Nat.reduceSub, Nat.reduceMul, Nat.reduceLeDiff, Nat.reduceEqDiff, Nat.reduceLT, Nat.reduceBEq, reduceIte, reduceCtorEq, Int.reduceToNat, Nat.reduceShiftRight, Nat.reduceAnd, Nat.reduceBneDiff, Nat.reduceBNe]) (fun h1 => ?_) (fun h1 => ?_)
    · rw [ite_t h1] at h
      refine .skip ?_
      refine .seq ?_
      refine .blk ?_
      refine .seq ?_
      refine Rw.walk ?_
      simp only [wz, wd, ws, Nat.reduceAdd, Nat.reduceSub, Nat.reduceMul, Nat.reduceLeDiff, Nat.reduceEqDiff, Nat.reduceLT, Nat.reduceBEq, reduceIte, reduceCtorEq, Int.reduceToNat, Nat.reduceShiftRight, Nat.reduceAnd, Nat.reduceBneDiff, Nat.reduceBNe, c35r6, semI.eq_10, semI.eq_11, semI.eq_3, semI.eq_5, semI.eq_7]
      obtain ⟨c, e1, h⟩ := Option.bind_eq_some_iff.1 h
      refine Go1.of (sem_idx e1 (by rfl) (by rfl)) ?_
      simp only [wz, wd, ws, Nat.reduceAdd, Nat.reduceSub, Nat.reduceMul, Nat.reduceLeDiff, Nat.reduceEqDiff, Nat.reduceLT, Nat.reduceBEq, reduceIte, reduceCtorEq, Int.reduceToNat, Nat.reduceShiftRight, Nat.reduceAnd, Nat.reduceBneDiff, Nat.reduceBNe, c35r6, semI.eq_10, semI.eq_11, semI.eq_3, semI.eq_5, semI.eq_7]
      refine .cond (p := ((bn c) != 45)) (by first | rfl | simp only [wz, wd, ws, Nat.reduceAdd, Nat.reduceSub, Nat.reduceMul, Nat.reduceLeDiff, Nat.reduceEqDiff, Nat.reduceLT, Nat.reduceBEq, reduceIte, reduceCtorEq, Int.reduceToNat, Nat.reduceShiftRight, Nat.reduceAnd, Nat.reduceBneDiff, Nat.reduceBNe]) (fun h1 => ?_) (fun h1 => ?_)
      · rw [ite_t h1] at h
        refine .seq ?_
        refine Rw.walk ?_
        simp only [wz, wd, ws, Nat.reduceAdd, Nat.reduceSub, Nat.reduceMul, Nat.reduceLeDiff, Nat.reduceEqDiff, Nat.reduceLT, Nat.reduceBEq, reduceIte, reduceCtorEq, Int.reduceToNat, Nat.reduceShiftRight, Nat.reduceAnd, Nat.reduceBneDiff, Nat.reduceBNe, c35r7, semI.eq_10, semI.eq_11, semI.eq_3, semI.eq_5, semI.eq_7]
        obtain rfl := Option.some.inj h; obtain rfl := hr _ rfl
        refine .ret ?_
        rw [← hR]
        simp only [wz, wd, ws, Nat.reduceAdd, Nat.reduceSub, Nat.reduceMul, Nat.reduceLeDiff, Nat.reduceEqDiff, Nat.reduceLT, Nat.reduceBEq, reduceIte, reduceCtorEq, Int.reduceToNat, Nat.reduceShiftRight, Nat.reduceAnd, Nat.reduceBneDiff, Nat.reduceBNe, rv35]
      · rw [ite_f h1] at h
        refine .skip ?_
        refine .eblk ?_
        refine Rw.walk ?_
        simp only [wz, wd, ws, Nat.reduceAdd, Nat.reduceSub, Nat.reduceMul, Nat.reduceLeDiff, Nat.reduceEqDiff, Nat.reduceLT, Nat.reduceBEq, reduceIte, reduceCtorEq, Int.reduceToNat, Nat.reduceShiftRight, Nat.reduceAnd, Nat.reduceBneDiff, Nat.reduceBNe, c35r5, semI.eq_10, semI.eq_11, semI.eq_3, semI.eq_5, semI.eq_7]
        refine .lp ?_
        refine .weak (Imp.co [] _ _ ?_ ?_ ?_ ?_ ?_) (ih (IntKind.i64.wrap (i + 1)) _ h k_ hx hr) <;> simp only [wz, wd, ws, Nat.reduceAdd, Nat.reduceSub, Nat.reduceMul, Nat.reduceLeDiff, Nat.reduceEqDiff, Nat.reduceLT, Nat.reduceBEq, reduceIte, reduceCtorEq, Int.reduceToNat, Nat.reduceShiftRight, Nat.reduceAnd, Nat.reduceBneDiff, Nat.reduceBNe, wi, er_nil]
    · rw [ite_f h1] at h
      refine .exit rfl ?_
      obtain rfl := Option.some.inj h
      refine .weak (Imp.co [] _ _ ?_ ?_ ?_ ?_ ?_) (hx _ rfl) <;> simp only [wz, wd, ws, Nat.reduceAdd, Nat.reduceSub, Nat.reduceMul, Nat.reduceLeDiff, Nat.reduceEqDiff, Nat.reduceLT, Nat.reduceBEq, reduceIte, reduceCtorEq, Int.reduceToNat, Nat.reduceShiftRight, Nat.reduceAnd, Nat.reduceBneDiff, Nat.reduceBNe, wi, er_nil]
theorem f_ref03_mark_ok (s : Str) (y_ : Bool) (h : f_ref03_mark s = some y_) : Fun Tryd.prog glP 35 [.b (.s (.d (.str s)))] (.b (.s (.d (.bool y_)))) := by
  refine fun_walk [] Tryd.func35 Tryd.ntmps35 cc35 cr35 (by kernel_rfl) (by simp only [List.length_cons, List.length_nil]; decide) ?_
  generalize hR : Ret _ _ _ _ _ = R_
  simp only [wz, wd, ws, Nat.reduceAdd, Nat.reduceSub, Nat.reduceMul, Nat.reduceLeDiff, Nat.reduceEqDiff, Nat.reduceLT, Nat.reduceBEq, reduceIte, reduceCtorEq, Int.reduceToNat, Nat.reduceShiftRight, Nat.reduceAnd, Nat.reduceBneDiff, Nat.reduceBNe]
  unfold f_ref03_mark at h; unfold c35
  refine .seq ?_
  refine Rw.walk ?_
  simp only [wz, wd, ws, Nat.reduceAdd, Nat.reduceSub, Nat.reduceMul, Nat.reduceLeDiff, Nat.reduceEqDiff, Nat.reduceLT, Nat.reduceBEq, reduceIte, reduceCtorEq, Int.reduceToNat, Nat.reduceShiftRight, Nat.reduceAnd, Nat.reduceBneDiff, Nat.reduceBNe, c35r0, semI.eq_10, semI.eq_11, semI.eq_3, semI.eq_5, semI.eq_7]
  refine .seq ?_
  refine .seq ?_
  refine Rw.walk ?_
  simp only [wz, wd, ws, Nat.reduceAdd, Nat.reduceSub, Nat.reduceMul, Nat.reduceLeDiff, Nat.reduceEqDiff, Nat.reduceLT, Nat.reduceBEq, reduceIte, reduceCtorEq, Int.reduceToNat, Nat.reduceShiftRight, Nat.reduceAnd, Nat.reduceBneDiff, Nat.reduceBNe, c35r1, semI.eq_10, semI.eq_11, semI.eq_3, semI.eq_5, semI.eq_7]
  repeat (refine And.intro ?_ ?_; · first | omega | (intro q; simp only [wz, wd, ws, Nat.reduceAdd, Nat.reduceSub, Nat.reduceMul, Nat.reduceLeDiff, Nat.reduceEqDiff, Nat.reduceLT, Nat.reduceBEq, reduceIte, reduceCtorEq, Int.reduceToNat, Nat.reduceShiftRight, Nat.reduceAnd, Nat.reduceBneDiff, Nat.reduceBNe, q]; done))
  refine .cond (p := (((s == ([46] : Str)) || (s == ([95] : Str))) || (s == ([95, 95] : Str)))) (by first | rfl | simp only [wz, wd, ws, Nat.reduceAdd, Nat.reduceSub, Nat.reduceMul, Nat.reduceLeDiff, Nat.reduceEqDiff, Nat.reduceLT, Nat.reduceBEq, reduceIte, reduceCtorEq, Int.reduceToNat, Nat.reduceShiftRight, Nat.reduceAnd, Nat.reduceBneDiff, Nat.reduceBNe]) (fun h1 => ?_) (fun h1 => ?_)
  · rw [ite_t h1] at h
    refine .seq ?_
    refine Rw.walk ?_
    simp only [wz, wd, ws, Nat.reduceAdd, Nat.reduceSub, Nat.reduceMul, Nat.reduceLeDiff, Nat.reduceEqDiff, Nat.reduceLT, Nat.reduceBEq, reduceIte, reduceCtorEq, Int.reduceToNat, Nat.reduceShiftRight, Nat.reduceAnd, Nat.reduceBneDiff, Nat.reduceBNe, c35r2, semI.eq_10, semI.eq_11, semI.eq_3, semI.eq_5, semI.eq_7]
    obtain rfl := Option.some.inj h
    refine .ret ?_
    rw [← hR]
    simp only [wz, wd, ws, Nat.reduceAdd, Nat.reduceSub, Nat.reduceMul, Nat.reduceLeDiff, Nat.reduceEqDiff, Nat.reduceLT, Nat.reduceBEq, reduceIte, reduceCtorEq, Int.reduceToNat, Nat.reduceShiftRight, Nat.reduceAnd, Nat.reduceBneDiff, Nat.reduceBNe, rv35]
  · rw [ite_f h1] at h
    refine .skip ?_
    refine .seq ?_
    refine .seq ?_
    refine Rw.walk ?_
    simp only [wz, wd, ws, Nat.reduceAdd, Nat.reduceSub, Nat.reduceMul, Nat.reduceLeDiff, Nat.reduceEqDiff, Nat.reduceLT, Nat.reduceBEq, reduceIte, reduceCtorEq, Int.reduceToNat, Nat.reduceShiftRight, Nat.reduceAnd, Nat.reduceBneDiff, Nat.reduceBNe, c35r3, semI.eq_10, semI.eq_11, semI.eq_3, semI.eq_5, semI.eq_7]
    refine .blk ?_
    obtain ⟨s2, hf, h⟩ := Option.bind_eq_some_iff.1 h
    refine .loop (.weak (Imp.co [] _ _ ?c1 ?c2 ?c3 ?c4 ?c5) (f_ref03_mark_l8_ok s _ _ hR _ _ _ hf _ ?_ ?_))
    case c1 | c2 | c3 | c4 | c5 => simp only [wz, wd, ws, Nat.reduceAdd, Nat.reduceSub, Nat.reduceMul, Nat.reduceLeDiff, Nat.reduceEqDiff, Nat.reduceLT, Nat.reduceBEq, reduceIte, reduceCtorEq, Int.reduceToNat, Nat.reduceShiftRight, Nat.reduceAnd, Nat.reduceBneDiff, Nat.reduceBNe, wi, er_nil]
    · intro s3 hs; subst hs; dsimp only at h
      refine .seq ?_
      refine Rw.walk ?_
      simp only [wz, wd, ws, Nat.reduceAdd, Nat.reduceSub, Nat.reduceMul, Nat.reduceLeDiff, Nat.reduceEqDiff, Nat.reduceLT, Nat.reduceBEq, reduceIte, reduceCtorEq, Int.reduceToNat, Nat.reduceShiftRight, Nat.reduceAnd, Nat.reduceBneDiff, Nat.reduceBNe, c35r8, semI.eq_10, semI.eq_11, semI.eq_3, semI.eq_5, semI.eq_7]
      obtain rfl := Option.some.inj h
      refine .ret ?_
      rw [← hR]
      simp only [wz, wd, ws, Nat.reduceAdd, Nat.reduceSub, Nat.reduceMul, Nat.reduceLeDiff, Nat.reduceEqDiff, Nat.reduceLT, Nat.reduceBEq, reduceIte, reduceCtorEq, Int.reduceToNat, Nat.reduceShiftRight, Nat.reduceAnd, Nat.reduceBneDiff, Nat.reduceBNe, rv35]
    · intro z hz; subst hz; dsimp only at h
      exact Option.some.inj h
end Go.Proofs.YtdcokepmblcdmaaDoor.V
end
