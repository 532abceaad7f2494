/- The contract of name.Repo, over what is known of name.part. -/
import Derived.Test.YtedibjgdangfnaaGreatDoorQRuleNamesB
import Derived.Lib.Bytealg
import Derived.Shelf.Strings.SlTrimAscii
import Derived.Shelf.Strings.Builder1
import Derived.Shelf.Strings.Builder2
import Derived.Shelf.Strings.OnBuilder
import Derived.Shelf.Strings.Trim
import Derived.Shelf.Small.Utf8
import Derived.Shelf.Small.Strs
import Derived.Shelf.Small.Wraps
import Derived.Shelf.Strings.BuilderF
import Derived.Shelf.Strings.BuilderK
import Derived.Shelf.Strings.Builder2Cap
import Derived.Shelf.Strings.Search1
import Derived.Shelf.Strings.Search2
import Derived.Shelf.Strings.Search3
import Derived.Shelf.Strings.Cut
import Derived.Shelf.Strings.Count
import Derived.Shelf.LaysM
import Derived.Shelf.Strings.Shaped
import Derived.Shelf.Strings.Prefix
import Derived.Shelf.Strings.Split
import Derived.Shelf.Strings.SplitShaped
import Derived.Shelf.Unicode.Decode
import Derived.Shelf.Strings.Runes
import Derived.Shelf.Strings.AsciiSet
import Derived.Shelf.Bits.Mul64
import Derived.Shelf.Strings.Repeat
import Derived.Shelf.Unicode.DecodeSlow
import Derived.Shelf.Strings.BuilderCap
import Derived.Shelf.Slices.Turned
import Derived.Ground.Names2Prog
import Derived.Shelf.Slices.Clone
import Derived.Ground.SlgnProg
import Derived.Shelf.SlicesE.Clone
import Derived.Test.YtedibjgdangfnaaGreatDoorProg
import Derived.Below
import Derived.OwnWalk
import Derived.Orders
import Derived.WalkKit
import Derived.Laws.Slices
import Derived.OpenShut
import Derived.FnData
import Derived.LaidMore
import Derived.MakeChecks
import Derived.RangeFuncKeeps
import Derived.RangeFuncCalls
import Derived.RangeFuncLeaves
import Derived.LoopNIn
import Derived.LoopIn
import Derived.OwnWalkIn
import Derived.TacticsInMore
import Derived.Deep.Draws
import Derived.Laws.BytesArg
import Derived.Laws.MakeOwn
import Derived.Laws.OwnMore
import Derived.Deep.OwnRows
import Derived.Tactics
import Derived.Lib.ConvBytes
import Derived.KernelRfl
import Derived.RowKit3
import Derived.Deep.LoopGhost
import Derived.Deep.QuietTactic
import Derived.BigQuiet
import Derived.WideLaws
import Derived.Deep.DeepCutAuto
import Derived.Deep.CutBlock
import Derived.Deep.RegionHeld3
import Derived.Laws.Rows
import Derived.Lib.AppendStr
import Derived.ArgAppend
import Derived.Laws.BitsLemmas
import Derived.RowKit
import Derived.Stop.Asserts
section
/- What Go functions compute, as Lean functions. -/
namespace Go.Proofs.YtedibjgdangfnaaGreatDoor.V
open Go Go.RowKit
set_option linter.unusedVariables false
set_option linter.unusedSimpArgs false
set_option maxHeartbeats 1000000
set_option maxRecDepth 20000
abbrev glP : Gl := fun _ => none
structure api_Rule where
  Id : Int
  From : Int
  Repos : (List Str)
  Tags : (List Str)
  Prefix : Str
  Override : Bool
  Delete : Bool
  On : Bool
  Cron : Str
deriving DecidableEq, Inhabited
def e_api_Rule (x : api_Rule) : List Sc := [(.int .i64 x.Id), (.int .i64 x.From), (.sl (x.Repos.map eS)), (.sl (x.Tags.map eS)), (.str x.Prefix), (.bool x.Override), (.bool x.Delete), (.bool x.On), (.str x.Cron)]
theorem e_api_Rule_len (x : api_Rule) : (e_api_Rule x).length = 9 := rfl
def W_api_Rule (x : api_Rule) : Prop := (Lit.int .i64 x.Id).wf = true ∧ (Lit.int .i64 x.From).wf = true ∧ (x.Repos.length ≤ 9223372036854775807 ∧ ∀ y0 ∈ x.Repos, y0.length ≤ 9223372036854775807) ∧ (x.Tags.length ≤ 9223372036854775807 ∧ ∀ y0 ∈ x.Tags, y0.length ≤ 9223372036854775807) ∧ x.Prefix.length ≤ 9223372036854775807 ∧ True ∧ True ∧ True ∧ x.Cron.length ≤ 9223372036854775807
structure cron_bounds where
  low : Int
  high : Int
deriving DecidableEq, Inhabited
def e_cron_bounds (x : cron_bounds) : List Sc := [(.int .i64 x.low), (.int .i64 x.high)]
theorem e_cron_bounds_len (x : cron_bounds) : (e_cron_bounds x).length = 2 := rfl
def W_cron_bounds (x : cron_bounds) : Prop := (Lit.int .i64 x.low).wf = true ∧ (Lit.int .i64 x.high).wf = true
structure cron_part where

deriving DecidableEq, Inhabited
def e_cron_part (x : cron_part) : List Sc := []
theorem e_cron_part_len (x : cron_part) : (e_cron_part x).length = 0 := rfl
def W_cron_part (x : cron_part) : Prop := True
structure api_Cron where
  Minutes : Int
  Hours : Int
  Days : Int
  Months : Int
  Week : Int
  AnyDay : Bool
  AnyWeek : Bool
deriving DecidableEq, Inhabited
def e_api_Cron (x : api_Cron) : List Sc := [(.int .u64 x.Minutes), (.int .u64 x.Hours), (.int .u64 x.Days), (.int .u64 x.Months), (.int .u64 x.Week), (.bool x.AnyDay), (.bool x.AnyWeek)]
theorem e_api_Cron_len (x : api_Cron) : (e_api_Cron x).length = 7 := rfl
def W_api_Cron (x : api_Cron) : Prop := (Lit.int .u64 x.Minutes).wf = true ∧ (Lit.int .u64 x.Hours).wf = true ∧ (Lit.int .u64 x.Days).wf = true ∧ (Lit.int .u64 x.Months).wf = true ∧ (Lit.int .u64 x.Week).wf = true ∧ True ∧ True
structure glob_many where
  slash : Bool
deriving DecidableEq, Inhabited
def e_glob_many (x : glob_many) : List Sc := [(.bool x.slash)]
theorem e_glob_many_len (x : glob_many) : (e_glob_many x).length = 1 := rfl
def W_glob_many (x : glob_many) : Prop := True
structure api_Ref where
  Repo : Str
  Tag : Str
  Digest : Str
deriving DecidableEq, Inhabited
def e_api_Ref (x : api_Ref) : List Sc := [(.str x.Repo), (.str x.Tag), (.str x.Digest)]
theorem e_api_Ref_len (x : api_Ref) : (e_api_Ref x).length = 3 := rfl
def W_api_Ref (x : api_Ref) : Prop := x.Repo.length ≤ 9223372036854775807 ∧ x.Tag.length ≤ 9223372036854775807 ∧ x.Digest.length ≤ 9223372036854775807
structure rule_test where
  rule : api_Rule
  ref : api_Ref
deriving DecidableEq, Inhabited
def e_rule_test (x : rule_test) : List Sc := [(.int .i64 x.rule.Id), (.int .i64 x.rule.From), (.sl (x.rule.Repos.map eS)), (.sl (x.rule.Tags.map eS)), (.str x.rule.Prefix), (.bool x.rule.Override), (.bool x.rule.Delete), (.bool x.rule.On), (.str x.rule.Cron), (.str x.ref.Repo), (.str x.ref.Tag), (.str x.ref.Digest)]
theorem e_rule_test_len (x : rule_test) : (e_rule_test x).length = 12 := rfl
def W_rule_test (x : rule_test) : Prop := W_api_Rule x.rule ∧ W_api_Ref x.ref
structure api_Clock where
  Minute : Int
  Hour : Int
  Day : Int
  Month : Int
  Year : Int
  Week : Int
deriving DecidableEq, Inhabited
def e_api_Clock (x : api_Clock) : List Sc := [(.int .i64 x.Minute), (.int .i64 x.Hour), (.int .i64 x.Day), (.int .i64 x.Month), (.int .i64 x.Year), (.int .i64 x.Week)]
theorem e_api_Clock_len (x : api_Clock) : (e_api_Clock x).length = 6 := rfl
def W_api_Clock (x : api_Clock) : Prop := (Lit.int .i64 x.Minute).wf = true ∧ (Lit.int .i64 x.Hour).wf = true ∧ (Lit.int .i64 x.Day).wf = true ∧ (Lit.int .i64 x.Month).wf = true ∧ (Lit.int .i64 x.Year).wf = true ∧ (Lit.int .i64 x.Week).wf = true
def f_strings_Count (s sub : Str) : Option Int := match sub with
  | [c] => some ((Lib.countByte s c : Nat) : Int)
  | _ => none
def f_strings_explode (s : Str) (n : Int) : Option (List Str) := none
def f_internal_stringslite_Index (s sub : Str) : Option Int := match sub with
  | [c] => some (Lib.indexByte s c)
  | _ => none
def f_strings_Trim (s cs : Str) : Option Str := gd (s.length ≤ 140737488355328 ∧ cs.length ≤ 1000 ∧ cs.all (fun b => decide (b.toNat < 128)) = true) <| some (Lib.trimS s cs)
def f_law14_few_l7 (rv : api_Rule) : Nat → Int → (List Str) → Option (Int × (List Str))
  | 0, _, _ => none
  | m_ + 1, v30, v28 =>
    if (decide (v30 < ((([] : List Str) ++ (cut rv.Repos 0 (if 10 < (rv.Repos.length : Int) then 10 else (rv.Repos.length : Int)))).length : Int))) then
      (ix v28 v30).bind fun x =>
      gd (0 ≤ (if 130 < (x.length : Int) then 130 else (x.length : Int)) ∧ (if 130 < (x.length : Int) then 130 else (x.length : Int)) ≤ (x.length : Int)) <|
      (ix v28 v30).bind fun x2 =>
      f_law14_few_l7 rv m_ (IntKind.i64.wrap (v30 + 1)) (v28.set v30.toNat (cut x 0 (if 130 < (x.length : Int) then 130 else (x.length : Int))))
    else
      some (v30, v28)
def f_law14_few_l13 (rv : api_Rule) (s : Int × (List Str)) : Nat → Int → (List Str) → Option (Int × (List Str))
  | 0, _, _ => none
  | m_ + 1, v48, v46 =>
    if (decide (v48 < ((([] : List Str) ++ (cut rv.Tags 0 (if 10 < (rv.Tags.length : Int) then 10 else (rv.Tags.length : Int)))).length : Int))) then
      (ix v46 v48).bind fun x =>
      gd (0 ≤ (if 130 < (x.length : Int) then 130 else (x.length : Int)) ∧ (if 130 < (x.length : Int) then 130 else (x.length : Int)) ≤ (x.length : Int)) <|
      (ix v46 v48).bind fun x2 =>
      f_law14_few_l13 rv s m_ (IntKind.i64.wrap (v48 + 1)) (v46.set v48.toNat (cut x 0 (if 130 < (x.length : Int) then 130 else (x.length : Int))))
    else
      some (v48, v46)
def f_law14_few (rv : api_Rule) : Option (api_Rule) :=
  gd (0 ≤ (if 10 < (rv.Repos.length : Int) then 10 else (rv.Repos.length : Int)) ∧ (if 10 < (rv.Repos.length : Int) then 10 else (rv.Repos.length : Int)) ≤ (rv.Repos.length : Int)) <|
  gd ((0 + (cut rv.Repos 0 (if 10 < (rv.Repos.length : Int) then 10 else (rv.Repos.length : Int))).length) * 16 ≤ 140737488355328) <|
  gd (0 ≤ (if 10 < (rv.Tags.length : Int) then 10 else (rv.Tags.length : Int)) ∧ (if 10 < (rv.Tags.length : Int) then 10 else (rv.Tags.length : Int)) ≤ (rv.Tags.length : Int)) <|
  gd ((0 + (cut rv.Tags 0 (if 10 < (rv.Tags.length : Int) then 10 else (rv.Tags.length : Int))).length) * 16 ≤ 140737488355328) <|
  Option.bind (f_law14_few_l7 rv (((((([] : List Str) ++ (cut rv.Repos 0 (if 10 < (rv.Repos.length : Int) then 10 else (rv.Repos.length : Int)))).length : Int) : Int) - 0).toNat + 1) 0 (([] : List Str) ++ (cut rv.Repos 0 (if 10 < (rv.Repos.length : Int) then 10 else (rv.Repos.length : Int))))) fun s : Int × (List Str) =>
  Option.bind (f_law14_few_l13 rv s (((((([] : List Str) ++ (cut rv.Tags 0 (if 10 < (rv.Tags.length : Int) then 10 else (rv.Tags.length : Int)))).length : Int) : Int) - 0).toNat + 1) 0 (([] : List Str) ++ (cut rv.Tags 0 (if 10 < (rv.Tags.length : Int) then 10 else (rv.Tags.length : Int))))) fun s2 : Int × (List Str) =>
  gd (0 ≤ (if 130 < (rv.Prefix.length : Int) then 130 else (rv.Prefix.length : Int)) ∧ (if 130 < (rv.Prefix.length : Int) then 130 else (rv.Prefix.length : Int)) ≤ (rv.Prefix.length : Int)) <|
  gd (0 ≤ (if 205 < (rv.Cron.length : Int) then 205 else (rv.Cron.length : Int)) ∧ (if 205 < (rv.Cron.length : Int) then 205 else (rv.Cron.length : Int)) ≤ (rv.Cron.length : Int)) <|
  some (api_Rule.mk rv.Id rv.From s.2 s2.2 (cut rv.Prefix 0 (if 130 < (rv.Prefix.length : Int) then 130 else (rv.Prefix.length : Int))) rv.Override rv.Delete rv.On (cut rv.Cron 0 (if 205 < (rv.Cron.length : Int) then 205 else (rv.Cron.length : Int))))
def f_strings_Index (s : Str) (substr : Str) : Option (Int) :=
  (f_internal_stringslite_Index s substr).bind fun t =>
  some t
def f_strings_genSplit_l17 (s : Str) (sep : Str) (sepSave : Int) (n2 : Int) : Nat → Str → Int → (List Str) → Option (Str × Int × (List Str))
  | 0, _, _, _ => none
  | m_ + 1, s3, i, a =>
    if (decide (i < (IntKind.i64.wrap (n2 - 1)))) then
      (f_strings_Index s3 sep).bind fun t =>
      if (decide (t < 0)) then
        some (s3, i, a)
      else
        gd (0 ≤ (IntKind.i64.wrap (t + sepSave)) ∧ (IntKind.i64.wrap (t + sepSave)) ≤ (s3.length : Int)) <|
        (ix a i).bind fun x =>
        gd (0 ≤ (IntKind.i64.wrap (t + (sep.length : Int))) ∧ (IntKind.i64.wrap (t + (sep.length : Int))) ≤ (s3.length : Int)) <|
        f_strings_genSplit_l17 s sep sepSave n2 m_ (cut s3 (IntKind.i64.wrap (t + (sep.length : Int))) (s3.length : Int)) (IntKind.i64.wrap (i + 1)) (a.set i.toNat (cut s3 0 (IntKind.i64.wrap (t + sepSave))))
    else
      some (s3, i, a)
def f_strings_genSplit (s : Str) (sep : Str) (sepSave : Int) (n : Int) : Option ((List Str)) :=
  if (n == 0) then
    some ([] : (List Str))
  else
    if (sep == ([] : Str)) then
      (f_strings_explode s n).bind fun t =>
      some t
    else
      Option.bind (
        if (decide (n < 0)) then
          (f_strings_Count s sep).bind fun t =>
          some (IntKind.i64.wrap (t + 1))
        else
          some n) fun s2 : Int =>
      (some (if (IntKind.i64.wrap ((s.length : Int) + 1)) < s2 then (IntKind.i64.wrap ((s.length : Int) + 1)) else s2)).bind fun n2 =>
      gd (0 ≤ n2 ∧ n2 ≤ n2 ∧ n2 * 16 ≤ 140737488355328 ∧ n2 < 9223372036854775808) <|
      Option.bind (f_strings_genSplit_l17 s sep sepSave n2 ((((IntKind.i64.wrap (n2 - 1)) : Int) - 0).toNat + 1) s 0 (List.replicate n2.toNat [])) fun s3 : Str × Int × (List Str) =>
      (ix s3.2.2 s3.2.1).bind fun x =>
      gd (0 ≤ (IntKind.i64.wrap (s3.2.1 + 1)) ∧ (IntKind.i64.wrap (s3.2.1 + 1)) ≤ (s3.2.2.length : Int)) <|
      some (cut (s3.2.2.set s3.2.1.toNat s3.1) 0 (IntKind.i64.wrap (s3.2.1 + 1)))
def f_strings_Split (s : Str) (sep : Str) : Option ((List Str)) :=
  (f_strings_genSplit s sep 0 (-1)).bind fun t =>
  some t
def f_cron_fields : Option ((List cron_bounds)) :=
  gd (5 = 5) <|
  some ([(cron_bounds.mk 0 59), (cron_bounds.mk 0 23), (cron_bounds.mk 1 31), (cron_bounds.mk 1 12), (cron_bounds.mk 0 6)] : (List cron_bounds))
def f_internal_stringslite_Cut (s : Str) (sep : Str) : Option (Str × Str × Bool) :=
  (f_internal_stringslite_Index s sep).bind fun t =>
  if (decide (t ≥ 0)) then
    gd (0 ≤ t ∧ t ≤ (s.length : Int)) <|
    gd (0 ≤ (IntKind.i64.wrap (t + (sep.length : Int))) ∧ (IntKind.i64.wrap (t + (sep.length : Int))) ≤ (s.length : Int)) <|
    some ((cut s 0 t), (cut s (IntKind.i64.wrap (t + (sep.length : Int))) (s.length : Int)), true)
  else
    some (s, ([] : Str), false)
def f_strings_Cut (s : Str) (sep : Str) : Option (Str × Str × Bool) :=
  (f_internal_stringslite_Cut s sep).bind fun t =>
  some (t.1, t.2.1, t.2.2)
def f_cron_number_l9 (s : Str) (b : cron_bounds) : Nat → Int → Int → Option (Int × Int)
  | 0, _, _ => none
  | m_ + 1, n, v35 =>
    if (decide (v35 < (s.length : Int))) then
      (ix s v35).bind fun c =>
      (some (IntKind.i64.wrap ((IntKind.i64.wrap (10 * n)) + (IntKind.i64.wrap (IntKind.u8.wrap ((bn c) - 48)))))).bind fun n2 =>
      f_cron_number_l9 s b m_ n2 (IntKind.i64.wrap (v35 + 1))
    else
      some (n, v35)
def f_cron_number (s : Str) (b : cron_bounds) : Option (Int × Sc) :=
  (gx (!((decide ((s.length : Int) < 1)) || (decide ((s.length : Int) > 2)))) (f_strings_Trim s ([48, 49, 50, 51, 52, 53, 54, 55, 56, 57] : Str)) default).bind fun t =>
  gd (((!(((decide ((s.length : Int) < 1)) || (decide ((s.length : Int) > 2))) || (!(t == ([] : Str))))) && ((s.length : Int) == 2)) = true → 0 < (s.length : Int)) <|
  if ((((decide ((s.length : Int) < 1)) || (decide ((s.length : Int) > 2))) || (!(t == ([] : Str)))) || (((s.length : Int) == 2) && ((bn (s.getD 0 0)) == 48))) then
    some (0, (.ifc 205 true []))
  else
    Option.bind (f_cron_number_l9 s b ((((s.length : Int) : Int) - 0).toNat + 1) 0 0) fun s2 : Int × Int =>
    if ((decide (s2.1 < b.low)) || (decide (s2.1 > b.high))) then
      some (0, (.ifc 205 true []))
    else
      some (s2.1, (Sc.z Zk.nilIface))
def f_cron_span (s : Str) (b : cron_bounds) : Option (cron_bounds × Bool × Sc) :=
  if (s == ([42] : Str)) then
    some (b, true, (Sc.z Zk.nilIface))
  else
    (f_strings_Cut s ([45] : Str)).bind fun t =>
    (f_cron_number t.1 b).bind fun t2 =>
    gd ((!(!t.2.2)) = true → isIf t2.2 = true) <|
    if ((!t.2.2) || (!(nilI t2.2))) then
      some ((cron_bounds.mk t2.1 t2.1), false, t2.2)
    else
      (f_cron_number t.2.1 b).bind fun t3 =>
      gd (isIf t3.2 = true) <|
      if ((nilI t3.2) && (decide (t2.1 > t3.1))) then
        some ((cron_bounds.mk t2.1 t3.1), true, (.ifc 205 true []))
      else
        some ((cron_bounds.mk t2.1 t3.1), true, t3.2)
def f_cron_values_l15 (s : Str) (b : cron_bounds) (t2 : cron_bounds × Bool × Sc) (s2 : Sc × Int) : Nat → Int → Int → Option (Int × Int)
  | 0, _, _ => none
  | m_ + 1, n, v =>
    if (decide (v ≤ t2.1.high)) then
      gd (0 ≤ v) <|
      (some (IntKind.u64.wrap ((BitVec.ofInt IntKind.u64.bits n ||| BitVec.ofInt IntKind.u64.bits (IntKind.u64.wrap (1 * 2 ^ (min v.toNat IntKind.u64.bits)))).toNat))).bind fun n2 =>
      f_cron_values_l15 s b t2 s2 m_ n2 (IntKind.i64.wrap (v + s2.2))
    else
      some (n, v)
def f_cron_values (s : Str) (b : cron_bounds) : Option (Int × Sc) :=
  (f_strings_Cut s ([47] : Str)).bind fun t =>
  (f_cron_span t.1 b).bind fun t2 =>
  Option.bind (
    gd (isIf t2.2.2 = true) <|
    if ((nilI t2.2.2) && t.2.2) then
      (f_cron_number t.2.1 (cron_bounds.mk 1 59)).bind fun t3 =>
      if (!t2.2.1) then
        some ((.ifc 205 true []), t3.1)
      else
        some (t3.2, t3.1)
    else
      some (t2.2.2, 1)) fun s2 : Sc × Int =>
  gd (isIf s2.1 = true) <|
  if (!(nilI s2.1)) then
    some (0, s2.1)
  else
    Option.bind (f_cron_values_l15 s b t2 s2 (((t2.1.high : Int) - t2.1.low).toNat + 2) 0 t2.1.low) fun s3 : Int × Int =>
    some (s3.1, (Sc.z Zk.nilIface))
abbrev tyPart : Nat := 205
def isPart : Sc → Option Bool
  | .z .nilIface => some false
  | .ifc t true [] => if t = tyPart then some true else none
  | _ => none
def scPart : Bool → Sc
  | false => .z .nilIface
  | true => .ifc tyPart true []
def partV (b : cron_bounds) (s : Str) : Option (Int × Bool) := (f_cron_values s b).bind fun r => (isPart r.2).map fun e => (r.1, e)
def f_cron_field (s : Str) (b : cron_bounds) : Option (Int × Sc) := gd (s.length ≤ 140737488355328) <| (fieldOf (partV b) s).map fun r => (r.1, scPart r.2)

def f_errors_Is (e t : Sc) : Option Bool := if isPart t = some true then isPart e else none

def f_cron_Parse_l13 (s : Str) (t : (List Str)) (t2 : (List cron_bounds)) : Nat → Int → (List Int) → Option ((Int × (List Int)) ⊕ (api_Cron × Int))
  | 0, _, _ => none
  | m_ + 1, v24, bits =>
    if (decide (v24 < 5)) then
      gd (t2.length = 5) <|
      (ix t2 v24).bind fun x =>
      (ix t v24).bind fun x2 =>
      (f_cron_field x2 x).bind fun t3 =>
      (f_errors_Is t3.2 (.ifc 205 true [])).bind fun t4 =>
      if t4 then
        some (.inr ((api_Cron.mk 0 0 0 0 0 false false), 6))
      else
        gd (0 ≤ v24 ∧ v24 < 5) <|
        gd (0 ≤ v24 ∧ v24 < (bits.length : Int)) <|
        f_cron_Parse_l13 s t t2 m_ (IntKind.i64.wrap (v24 + 1)) (bits.set v24.toNat t3.1)
    else
      some (.inl (v24, bits))
def f_cron_Parse (s : Str) : Option (api_Cron × Int) :=
  (f_strings_Split s ([32] : Str)).bind fun t =>
  Option.bind (
    if (decide ((s.length : Int) > 200)) then
      some true
    else
      (f_cron_fields).bind fun t2 =>
      some ((t.length : Int) != 5)) fun s2 : Bool =>
  if s2 then
    some ((api_Cron.mk 0 0 0 0 0 false false), 6)
  else
    (f_cron_fields).bind fun t2 =>
    Option.bind (f_cron_Parse_l13 s t t2 (((5 : Int) - 0).toNat + 1) 0 (List.replicate 5 0)) fun s3 : (Int × (List Int)) ⊕ (api_Cron × Int) => match s3 with
    | .inr z => some z
    | .inl s4 =>
      (ix s4.2 0).bind fun x =>
      (ix s4.2 1).bind fun x2 =>
      (ix s4.2 2).bind fun x3 =>
      (ix s4.2 3).bind fun x4 =>
      (ix s4.2 4).bind fun x5 =>
      (ix t 2).bind fun x6 =>
      (ix t 4).bind fun x7 =>
      some ((api_Cron.mk x x2 x3 x4 x5 (x6 == ([42] : Str)) (x7 == ([42] : Str))), 0)
def f_slices_IndexFunc_string_string_l7 (s : (List Str)) (f : Str → Option (Bool)) : Nat → Int → Option ((Int) ⊕ (Int))
  | 0, _ => none
  | m_ + 1, v8 =>
    if (decide (v8 < (s.length : Int))) then
      (ix s v8).bind fun x =>
      (f x).bind fun b =>
      if b then
        some (.inr v8)
      else
        f_slices_IndexFunc_string_string_l7 s f m_ (IntKind.i64.wrap (v8 + 1))
    else
      some (.inl v8)
def f_slices_IndexFunc_string_string (s : (List Str)) (f : Str → Option (Bool)) : Option (Int) :=
  Option.bind (f_slices_IndexFunc_string_string_l7 s f ((((s.length : Int) : Int) - 0).toNat + 1) 0) fun s2 : (Int) ⊕ (Int) => match s2 with
  | .inr z => some z
  | .inl s3 =>
    some (-1)
def f_slices_ContainsFunc_string_string (s : (List Str)) (f : Str → Option (Bool)) : Option (Bool) :=
  (f_slices_IndexFunc_string_string s f).bind fun t =>
  some (decide (t ≥ 0))
def f_slices_IndexFunc_byte_byte_l7 (s : (List Int)) (f : Int → Option (Bool)) : Nat → Int → Option ((Int) ⊕ (Int))
  | 0, _ => none
  | m_ + 1, v8 =>
    if (decide (v8 < (s.length : Int))) then
      (ix s v8).bind fun x =>
      (f x).bind fun b =>
      if b then
        some (.inr v8)
      else
        f_slices_IndexFunc_byte_byte_l7 s f m_ (IntKind.i64.wrap (v8 + 1))
    else
      some (.inl v8)
def f_slices_IndexFunc_byte_byte (s : (List Int)) (f : Int → Option (Bool)) : Option (Int) :=
  Option.bind (f_slices_IndexFunc_byte_byte_l7 s f ((((s.length : Int) : Int) - 0).toNat + 1) 0) fun s2 : (Int) ⊕ (Int) => match s2 with
  | .inr z => some z
  | .inl s3 =>
    some (-1)
def f_slices_ContainsFunc_byte_byte (s : (List Int)) (f : Int → Option (Bool)) : Option (Bool) :=
  (f_slices_IndexFunc_byte_byte s f).bind fun t =>
  some (decide (t ≥ 0))
def f_glob_pieces_1 (c : Int) : Option (Bool) :=
  some ((decide (c < 33)) || (decide (c > 126)))
def f_internal_stringslite_HasPrefix (s : Str) (prefixv : Str) : Option (Bool) :=
  gd ((decide ((s.length : Int) ≥ (prefixv.length : Int))) = true → 0 ≤ (prefixv.length : Int) ∧ (prefixv.length : Int) ≤ (s.length : Int)) <|
  some ((decide ((s.length : Int) ≥ (prefixv.length : Int))) && ((cut s 0 (prefixv.length : Int)) == prefixv))
def f_strings_HasPrefix (s : Str) (prefixv : Str) : Option (Bool) :=
  (f_internal_stringslite_HasPrefix s prefixv).bind fun t =>
  some t
def f_strings_Contains (s : Str) (substr : Str) : Option (Bool) :=
  (f_strings_Index s substr).bind fun t =>
  some (decide (t ≥ 0))
def f_glob_pieces_l24 (s : Bool) : Nat → Str → (List Sc) → Option ((Str × (List Sc)) ⊕ ((List Sc) × Bool))
  | 0, _, _ => none
  | m_ + 1, p2, out =>
    if (!(p2 == ([] : Str))) then
      (ix p2 0).bind fun c =>
      (f_strings_HasPrefix p2 ([42, 42] : Str)).bind fun t =>
      if t then
        gd ((out.length + 1) * 16 ≤ 140737488355328) <|
        gd (2 ≤ (p2.length : Int)) <|
        f_glob_pieces_l24 s m_ (cut p2 2 (p2.length : Int)) (out ++ ([(.ifc 304 true [(.bool true)])] : List Sc))
      else
        if ((bn c) == 42) then
          gd ((out.length + 1) * 16 ≤ 140737488355328) <|
          gd (1 ≤ (p2.length : Int)) <|
          f_glob_pieces_l24 s m_ (cut p2 1 (p2.length : Int)) (out ++ ([(.ifc 304 true [(.bool false)])] : List Sc))
        else
          if ((bn c) == 63) then
            gd ((out.length + 1) * 16 ≤ 140737488355328) <|
            gd (1 ≤ (p2.length : Int)) <|
            f_glob_pieces_l24 s m_ (cut p2 1 (p2.length : Int)) (out ++ ([(.ifc 305 true [])] : List Sc))
          else
            if ((bn c) == 123) then
              gd (1 ≤ (p2.length : Int)) <|
              (f_strings_Cut (cut p2 1 (p2.length : Int)) ([125] : Str)).bind fun t2 =>
              (gx (!(!t2.2.2)) (f_strings_Contains t2.1 ([123] : Str)) default).bind fun t3 =>
              if ((!t2.2.2) || t3) then
                some (.inr (([] : (List Sc)), false))
              else
                (f_strings_Split t2.1 ([44] : Str)).bind fun t4 =>
                gd ((out.length + 1) * 16 ≤ 140737488355328) <|
                gd (0 ≤ (IntKind.i64.wrap ((t2.1.length : Int) + 2)) ∧ (IntKind.i64.wrap ((t2.1.length : Int) + 2)) ≤ (p2.length : Int)) <|
                f_glob_pieces_l24 s m_ (cut p2 (IntKind.i64.wrap ((t2.1.length : Int) + 2)) (p2.length : Int)) (out ++ ([(.ifc 306 false [(.sl (t4.map eS))])] : List Sc))
            else
              if ((bn c) == 125) then
                some (.inr (([] : (List Sc)), false))
              else
                gd ((out.length + 1) * 16 ≤ 140737488355328) <|
                gd (1 ≤ (p2.length : Int)) <|
                f_glob_pieces_l24 s m_ (cut p2 1 (p2.length : Int)) (out ++ ([(.ifc 307 false [(.int .u8 (bn c))])] : List Sc))
    else
      some (.inl (p2, out))
def f_glob_pieces (p : Str) : Option ((List Sc) × Bool) :=
  Option.bind (
    if (p == ([] : Str)) then
      some true
    else
      if (decide ((p.length : Int) > 128)) then
        some true
      else
        (f_slices_ContainsFunc_byte_byte (p.map bn) f_glob_pieces_1).bind fun t =>
        some t) fun s : Bool =>
  if s then
    some (([] : (List Sc)), false)
  else
    Option.bind (f_glob_pieces_l24 s (p.length + 1) p []) fun s2 : (Str × (List Sc)) ⊕ ((List Sc) × Bool) => match s2 with
    | .inr z => some z
    | .inl s3 =>
      some (s3.2, true)
def f_glob_Right (pattern : Str) : Option (Bool) :=
  (f_glob_pieces pattern).bind fun t =>
  some t.2
def f_rule_patterns_1 (p : Str) : Option (Bool) :=
  (f_glob_Right p).bind fun t =>
  some (!t)
def f_rule_patterns (l : (List Str)) : Option (Bool) :=
  (gx (decide ((l.length : Int) ≤ 8)) (f_slices_ContainsFunc_string_string l f_rule_patterns_1) default).bind fun t =>
  some ((decide ((l.length : Int) ≤ 8)) && (!t))
def f_name_small (c : Int) : Option (Bool) :=
  some (((decide (c ≥ 97)) && (decide (c ≤ 122))) || ((decide (c ≥ 48)) && (decide (c ≤ 57))))
def f_name_part_l21 (s : Str) : Nat → Int → Int → Option ((Int × Int) ⊕ (Bool))
  | 0, _, _ => none
  | m_ + 1, run, v8 =>
    if (decide (v8 < (s.length : Int))) then
      (ix s v8).bind fun c =>
      (f_name_small (bn c)).bind fun t =>
      if t then
        f_name_part_l21 s m_ 0 (IntKind.i64.wrap (v8 + 1))
      else
        if ((bn c) == 45) then
          gd ((decide (run > 0)) = true → 0 ≤ (IntKind.i64.wrap (v8 - 1)) ∧ (IntKind.i64.wrap (v8 - 1)) < (s.length : Int)) <|
          if ((decide (run > 0)) && ((bn (s.getD (IntKind.i64.wrap (v8 - 1)).toNat 0)) != 45)) then
            some (.inr false)
          else
            if (v8 == 0) then
              some (.inr false)
            else
              f_name_part_l21 s m_ (IntKind.i64.wrap (run + 1)) (IntKind.i64.wrap (v8 + 1))
        else
          gd ((((bn c) == 95) && (run == 1)) = true → 0 ≤ (IntKind.i64.wrap (v8 - 1)) ∧ (IntKind.i64.wrap (v8 - 1)) < (s.length : Int)) <|
          if ((((bn c) == 95) && (run == 1)) && ((bn (s.getD (IntKind.i64.wrap (v8 - 1)).toNat 0)) == 95)) then
            if (v8 == 0) then
              some (.inr false)
            else
              f_name_part_l21 s m_ (IntKind.i64.wrap (run + 1)) (IntKind.i64.wrap (v8 + 1))
          else
            if ((bn c) == 95) then
              if (decide (run > 0)) then
                some (.inr false)
              else
                if (v8 == 0) then
                  some (.inr false)
                else
                  f_name_part_l21 s m_ (IntKind.i64.wrap (run + 1)) (IntKind.i64.wrap (v8 + 1))
            else
              if ((bn c) == 46) then
                if (decide (run > 0)) then
                  some (.inr false)
                else
                  if (v8 == 0) then
                    some (.inr false)
                  else
                    f_name_part_l21 s m_ (IntKind.i64.wrap (run + 1)) (IntKind.i64.wrap (v8 + 1))
              else
                some (.inr false)
    else
      some (.inl (run, v8))
def f_name_part (s : Str) : Option (Bool) :=
  Option.bind (f_name_part_l21 s ((((s.length : Int) : Int) - 0).toNat + 1) 0 0) fun s2 : (Int × Int) ⊕ (Bool) => match s2 with
  | .inr z => some z
  | .inl s3 =>
    some ((!(s == ([] : Str))) && (s3.1 == 0))
def f_name_Repo (s : Str) : Option Bool := repoOf f_name_part s

def f_rule_Right (rv : api_Rule) : Option (Bool) :=
  (f_cron_Parse rv.Cron).bind fun t =>
  (gx (((decide (rv.Id ≥ 1)) && (decide (rv.Id ≤ 1048576))) && ((rv.From == 0) || (rv.From == 1))) (f_rule_patterns rv.Repos) default).bind fun t2 =>
  (gx ((((decide (rv.Id ≥ 1)) && (decide (rv.Id ≤ 1048576))) && ((rv.From == 0) || (rv.From == 1))) && t2) (f_rule_patterns rv.Tags) default).bind fun t3 =>
  (gx ((((((decide (rv.Id ≥ 1)) && (decide (rv.Id ≤ 1048576))) && ((rv.From == 0) || (rv.From == 1))) && t2) && t3) && (!(rv.Prefix == ([] : Str)))) (f_name_Repo rv.Prefix) default).bind fun t4 =>
  some (((((((decide (rv.Id ≥ 1)) && (decide (rv.Id ≤ 1048576))) && ((rv.From == 0) || (rv.From == 1))) && t2) && t3) && ((rv.Prefix == ([] : Str)) || t4)) && ((rv.Cron == ([] : Str)) || (t.2 == 0)))
def f_rule_To (rv : api_Rule) (repo : Str) : Option (Str × Int) :=
  Option.bind (
    if (!(rv.Prefix == ([] : Str))) then
      gd (rv.Prefix.length + 1 ≤ 9223372036854775807) <|
      gd ((rv.Prefix ++ ([47] : Str)).length + repo.length ≤ 9223372036854775807) <|
      some ((rv.Prefix ++ ([47] : Str)) ++ repo)
    else
      some repo) fun s : Str =>
  (f_rule_Right rv).bind fun t =>
  if (!t) then
    some (([] : Str), 18)
  else
    (f_name_Repo repo).bind fun t2 =>
    (gx (!(!t2)) (f_name_Repo s) default).bind fun t3 =>
    if ((!t2) || (!t3)) then
      some (([] : Str), 5)
    else
      some (s, 0)
def f_rule_test_on (t : rule_test) : Option (Bool) :=
  (gx t.rule.On (f_rule_Right t.rule) default).bind fun t2 =>
  some (t.rule.On && t2)
def f_name_Tag_l8 (s : Str) : Nat → Int → Option ((Int) ⊕ (Bool))
  | 0, _ => none
  | m_ + 1, v7 =>
    if (decide (v7 < (s.length : Int))) then
      (ix s v7).bind fun c =>
      (f_name_small (bn c)).bind fun t =>
      if (((t || ((decide ((bn c) ≥ 65)) && (decide ((bn c) ≤ 90)))) || ((bn c) == 95)) || ((decide (v7 > 0)) && (((bn c) == 46) || ((bn c) == 45)))) then
        f_name_Tag_l8 s m_ (IntKind.i64.wrap (v7 + 1))
      else
        some (.inr false)
    else
      some (.inl v7)
def f_name_Tag (s : Str) : Option (Bool) :=
  Option.bind (f_name_Tag_l8 s ((((s.length : Int) : Int) - 0).toNat + 1) 0) fun s2 : (Int) ⊕ (Bool) => match s2 with
  | .inr z => some z
  | .inl s3 =>
    some ((!(s == ([] : Str))) && (decide ((s.length : Int) ≤ 128)))
def f_rule_test_named (t : rule_test) : Option (Bool) :=
  (f_name_Repo t.ref.Repo).bind fun t2 =>
  (gx t2 (f_name_Tag t.ref.Tag) default).bind fun t3 =>
  some (t2 && t3)
def f_glob_Some_1 (p : Str) : Option (Bool) :=
  (f_glob_Right p).bind fun t =>
  some (!t)
def f_glob_many_takes_l8 (mv : glob_many) (s : Str) : Nat → Int → (List Int) → Option (Int × (List Int))
  | 0, _, _ => none
  | m_ + 1, v10, out =>
    if (decide (v10 < (s.length : Int))) then
      (ix s v10).bind fun c =>
      if (((bn c) == 47) && (!mv.slash)) then
        some (v10, out)
      else
        gd ((out.length + 1) * 8 ≤ 140737488355328) <|
        f_glob_many_takes_l8 mv s m_ (IntKind.i64.wrap (v10 + 1)) (out ++ ([(IntKind.i64.wrap (v10 + 1))] : List Int))
    else
      some (v10, out)
def f_glob_many_takes (mv : glob_many) (s : Str) : Option ((List Int)) :=
  Option.bind (f_glob_many_takes_l8 mv s ((((s.length : Int) : Int) - 0).toNat + 1) 0 ([0] : List Int)) fun s2 : Int × (List Int) =>
  some s2.2
def f_glob_one_takes (p0 : cron_part) (s : Str) : Option ((List Int)) :=
  gd ((!(s == ([] : Str))) = true → 0 < (s.length : Int)) <|
  if ((!(s == ([] : Str))) && ((bn (s.getD 0 0)) != 47)) then
    some ([1] : List Int)
  else
    some ([] : (List Int))
def f_slices_Index_int_int_l7 (s : (List Int)) (v : Int) : Nat → Int → Option ((Int) ⊕ (Int))
  | 0, _ => none
  | m_ + 1, v8 =>
    if (decide (v8 < (s.length : Int))) then
      (ix s v8).bind fun x =>
      if (v == x) then
        some (.inr v8)
      else
        f_slices_Index_int_int_l7 s v m_ (IntKind.i64.wrap (v8 + 1))
    else
      some (.inl v8)
def f_slices_Index_int_int (s : (List Int)) (v : Int) : Option (Int) :=
  Option.bind (f_slices_Index_int_int_l7 s v ((((s.length : Int) : Int) - 0).toNat + 1) 0) fun s2 : (Int) ⊕ (Int) => match s2 with
  | .inr z => some z
  | .inl s3 =>
    some (-1)
def f_slices_Contains_int_int (s : (List Int)) (v : Int) : Option (Bool) :=
  (f_slices_Index_int_int s v).bind fun t =>
  some (decide (t ≥ 0))
def f_glob_words_takes_l8 (w : (List Str)) (s : Str) : Nat → Int → (List Int) → Option (Int × (List Int))
  | 0, _, _ => none
  | m_ + 1, v10, out =>
    if (decide (v10 < (w.length : Int))) then
      (ix w v10).bind fun x =>
      (f_strings_HasPrefix s x).bind fun t =>
      (gx t (f_slices_Contains_int_int out (x.length : Int)) default).bind fun t2 =>
      if (t && (!t2)) then
        gd ((out.length + 1) * 8 ≤ 140737488355328) <|
        f_glob_words_takes_l8 w s m_ (IntKind.i64.wrap (v10 + 1)) (out ++ ([(x.length : Int)] : List Int))
      else
        f_glob_words_takes_l8 w s m_ (IntKind.i64.wrap (v10 + 1)) out
    else
      some (v10, out)
def f_glob_words_takes (w : (List Str)) (s : Str) : Option ((List Int)) :=
  Option.bind (f_glob_words_takes_l8 w s ((((w.length : Int) : Int) - 0).toNat + 1) 0 []) fun s2 : Int × (List Int) =>
  some s2.2
def f_glob_plain_takes (p : Int) (s : Str) : Option ((List Int)) :=
  gd ((!(s == ([] : Str))) = true → 0 < (s.length : Int)) <|
  if ((!(s == ([] : Str))) && ((bn (s.getD 0 0)) == p)) then
    some ([1] : List Int)
  else
    some ([] : (List Int))
abbrev tyMany : Nat := 304
abbrev tyOne : Nat := 305
abbrev tyWords : Nat := 306
abbrev tyPlain : Nat := 307
def unS1 : List Sc → Option Str
  | [.str l] => some l
  | _ => none
def unSs : List (List Sc) → Option (List Str)
  | [] => some []
  | r :: l => (unS1 r).bind fun x => (unSs l).bind fun y => some (x :: y)
def m_glob_takes (x : Sc) : Bool := match x with
  | .ifc t _ _ => t == 304 || t == 305 || t == 306 || t == 307
  | _ => false
def f_inv_glob_takes (x : Sc) (s : Str) : Option (List Int) := match x with
  | .ifc t true [.bool b] => if t = 304 then f_glob_many_takes (glob_many.mk b) s else none
  | .ifc t true [] => if t = 305 then f_glob_one_takes default s else none
  | .ifc t false [.sl rows] => if t = 306 then (unSs rows).bind fun l => f_glob_words_takes l s else none
  | .ifc t false [.int .u8 c] => if t = 307 then f_glob_plain_takes c s else none
  | _ => none

def f_glob_match_l16 (l : (List Sc)) (s : Str) (v21 : Int) (atv : (List Bool)) (x2 : Sc) (v31 : Int) (t : (List Int)) : Nat → Int → (List Bool) → Option (Int × (List Bool))
  | 0, _, _ => none
  | m_ + 1, v47, next2 =>
    if (decide (v47 < (t.length : Int))) then
      (ix t v47).bind fun x4 =>
      (ix next2 (IntKind.i64.wrap (v31 + x4))).bind fun x5 =>
      f_glob_match_l16 l s v21 atv x2 v31 t m_ (IntKind.i64.wrap (v47 + 1)) (next2.set (IntKind.i64.wrap (v31 + x4)).toNat true)
    else
      some (v47, next2)
def f_glob_match_l18 (l : (List Sc)) (s : Str) (v21 : Int) (atv : (List Bool)) (x2 : Sc) : Nat → Int → (List Bool) → Option (Int × (List Bool))
  | 0, _, _ => none
  | m_ + 1, v31, next =>
    if (decide (v31 < (atv.length : Int))) then
      (ix atv v31).bind fun x3 =>
      if (!x3) then
        f_glob_match_l18 l s v21 atv x2 m_ (IntKind.i64.wrap (v31 + 1)) next
      else
        gd (0 ≤ v31 ∧ v31 ≤ (s.length : Int)) <|
        gd (m_glob_takes x2 = true) <|
        (f_inv_glob_takes x2 (cut s v31 (s.length : Int))).bind fun t =>
        Option.bind (f_glob_match_l16 l s v21 atv x2 v31 t ((((t.length : Int) : Int) - 0).toNat + 1) 0 next) fun s2 : Int × (List Bool) =>
        f_glob_match_l18 l s v21 atv x2 m_ (IntKind.i64.wrap (v31 + 1)) s2.2
    else
      some (v31, next)
def f_glob_match_l21 (l : (List Sc)) (s : Str) : Nat → Int → (List Bool) → Option (Int × (List Bool))
  | 0, _, _ => none
  | m_ + 1, v21, atv =>
    if (decide (v21 < (l.length : Int))) then
      (ix l v21).bind fun x2 =>
      gd (0 ≤ (IntKind.i64.wrap ((s.length : Int) + 1)) ∧ (IntKind.i64.wrap ((s.length : Int) + 1)) ≤ (IntKind.i64.wrap ((s.length : Int) + 1)) ∧ (IntKind.i64.wrap ((s.length : Int) + 1)) * 1 ≤ 140737488355328 ∧ (IntKind.i64.wrap ((s.length : Int) + 1)) < 9223372036854775808) <|
      Option.bind (f_glob_match_l18 l s v21 atv x2 ((((atv.length : Int) : Int) - 0).toNat + 1) 0 (List.replicate (IntKind.i64.wrap ((s.length : Int) + 1)).toNat false)) fun s2 : Int × (List Bool) =>
      f_glob_match_l21 l s m_ (IntKind.i64.wrap (v21 + 1)) s2.2
    else
      some (v21, atv)
def f_glob_match (l : (List Sc)) (s : Str) : Option (Bool) :=
  gd (0 ≤ (IntKind.i64.wrap ((s.length : Int) + 1)) ∧ (IntKind.i64.wrap ((s.length : Int) + 1)) ≤ (IntKind.i64.wrap ((s.length : Int) + 1)) ∧ (IntKind.i64.wrap ((s.length : Int) + 1)) * 1 ≤ 140737488355328 ∧ (IntKind.i64.wrap ((s.length : Int) + 1)) < 9223372036854775808) <|
  (ix (List.replicate (IntKind.i64.wrap ((s.length : Int) + 1)).toNat false) 0).bind fun x =>
  Option.bind (f_glob_match_l21 l s ((((l.length : Int) : Int) - 0).toNat + 1) 0 ((List.replicate (IntKind.i64.wrap ((s.length : Int) + 1)).toNat false).set 0 true)) fun s2 : Int × (List Bool) =>
  (ix s2.2 (s.length : Int)).bind fun x2 =>
  some x2
def f_glob_Match (pattern : Str) (s : Str) : Option (Bool) :=
  (f_glob_pieces pattern).bind fun t =>
  (gx (t.2 && (decide ((s.length : Int) ≤ 200))) (f_glob_match t.1 s) default).bind fun t2 =>
  some ((t.2 && (decide ((s.length : Int) ≤ 200))) && t2)
def f_glob_Some_2 (p : Str) (p1 : Str) : Option (Bool) :=
  (f_glob_Match p p1).bind fun t =>
  some t
def f_glob_Some (s : Str) (patterns : (List Str)) : Option (Bool × Int) :=
  (gx (!(decide ((s.length : Int) > 200))) (f_slices_ContainsFunc_string_string patterns f_glob_Some_1) default).bind fun t =>
  if ((decide ((s.length : Int) > 200)) || t) then
    some (false, 1)
  else
    (gx (!((patterns.length : Int) == 0)) (f_slices_ContainsFunc_string_string patterns (fun a0 => f_glob_Some_2 a0 s)) default).bind fun t2 =>
    some ((((patterns.length : Int) == 0) || t2), 0)
def f_rule_test_picked (t : rule_test) : Option (Bool) :=
  (f_glob_Some t.ref.Repo t.rule.Repos).bind fun t2 =>
  (f_glob_Some t.ref.Tag t.rule.Tags).bind fun t3 =>
  some (t2.1 && t3.1)
def f_rule_Picks (r : api_Rule) (repo tag : Str) : Option Bool :=
  (f_rule_test_on (rule_test.mk r (api_Ref.mk repo tag []))).bind fun a =>
  if a then
    (f_rule_test_named (rule_test.mk r (api_Ref.mk repo tag []))).bind fun b =>
    if b then f_rule_test_picked (rule_test.mk r (api_Ref.mk repo tag [])) else some false
  else some false

def f_law14_alive : Option (Bool) :=
  (f_rule_To (api_Rule.mk 1 0 ([] : (List Str)) ([] : (List Str)) ([109] : Str) false false true ([] : Str)) ([108, 105, 98, 47, 97] : Str)).bind fun t =>
  (f_rule_Picks (api_Rule.mk 1 0 ([] : (List Str)) ([] : (List Str)) ([109] : Str) false false true ([] : Str)) ([108, 105, 98, 47, 97] : Str) ([118, 49] : Str)).bind fun t2 =>
  some ((t2 && (t.2 == 0)) && (t.1 == ([109, 47, 108, 105, 98, 47, 97] : Str)))
def f_cron_leap (year : Int) : Option (Bool) :=
  some ((((year.tmod 4) == 0) && ((year.tmod 100) != 0)) || ((year.tmod 400) == 0))
def f_cron_days (month : Int) (year : Int) : Option (Int) :=
  if (month == 2) then
    (f_cron_leap year).bind fun t =>
    if t then
      some 29
    else
      some 28
  else
    if (month == 4) then
      if (month == 4) then
        some 30
      else
        some 31
    else
      if (month == 6) then
        if (month == 6) then
          some 30
        else
          some 31
      else
        if (month == 9) then
          if (month == 9) then
            some 30
          else
            some 31
        else
          if (month == 11) then
            some 30
          else
            some 31
def f_cron_At_l12 (tick : Int) : Nat → Int → Int → Option (Int × Int × Int)
  | 0, _, _ => none
  | m_ + 1, n, c =>
    Option.bind (
      (f_cron_leap c).bind fun t =>
      if t then
        some (IntKind.i64.wrap (365 + 1))
      else
        some 365) fun s : Int =>
    if (decide (n < s)) then
      some (n, s, c)
    else
      f_cron_At_l12 tick m_ (IntKind.i64.wrap (n - s)) (IntKind.i64.wrap (c + 1))
def f_cron_At_l16 (tick : Int) (s : Int × Int × Int) : Nat → Int → Int → Option (Int × Int)
  | 0, _, _ => none
  | m_ + 1, n, c =>
    (f_cron_days c s.2.2).bind fun t =>
    if (decide (n ≥ t)) then
      (f_cron_days c s.2.2).bind fun t2 =>
      f_cron_At_l16 tick s m_ (IntKind.i64.wrap (n - t2)) (IntKind.i64.wrap (c + 1))
    else
      some (n, c)
def f_cron_At (tick : Int) : Option (api_Clock × Int) :=
  if ((decide (tick < 0)) || (decide (tick > 1099511627776))) then
    some ((api_Clock.mk 0 0 0 0 0 0), 1)
  else
    Option.bind (f_cron_At_l12 tick 401 ((IntKind.i64.wrap (tick.tdiv 1440)).tmod 146097) (IntKind.i64.wrap (1970 + (IntKind.i64.wrap ((IntKind.i64.wrap ((IntKind.i64.wrap (tick.tdiv 1440)).tdiv 146097)) * 400))))) fun s : Int × Int × Int =>
    Option.bind (f_cron_At_l16 tick s 13 s.1 1) fun s2 : Int × Int =>
    some ((api_Clock.mk (tick.tmod 60) (IntKind.i64.wrap ((tick.tmod 1440).tdiv 60)) (IntKind.i64.wrap (s2.1 + 1)) s2.2 s.2.2 ((IntKind.i64.wrap ((IntKind.i64.wrap (tick.tdiv 1440)) + 4)).tmod 7)), 0)
def f_cron_set (bits : Int) (n : Int) : Option (Bool) :=
  gd (0 ≤ n) <|
  some ((IntKind.u64.wrap ((BitVec.ofInt IntKind.u64.bits (bits.fdiv (2 ^ (min n.toNat IntKind.u64.bits))) &&& BitVec.ofInt IntKind.u64.bits 1).toNat)) == 1)
def f_cron_Fires (c : api_Cron) (tick : Int) : Option (Bool) :=
  (f_cron_At tick).bind fun t =>
  (gx (!(t.2 != 0)) (f_cron_set c.Minutes t.1.Minute) default).bind fun t2 =>
  (gx (!((t.2 != 0) || (!t2))) (f_cron_set c.Hours t.1.Hour) default).bind fun t3 =>
  (gx (!(((t.2 != 0) || (!t2)) || (!t3))) (f_cron_set c.Months t.1.Month) default).bind fun t4 =>
  if ((((t.2 != 0) || (!t2)) || (!t3)) || (!t4)) then
    some false
  else
    if (c.AnyDay && c.AnyWeek) then
      some true
    else
      if c.AnyDay then
        (f_cron_set c.Week t.1.Week).bind fun t5 =>
        some t5
      else
        if c.AnyWeek then
          (f_cron_set c.Days t.1.Day).bind fun t5 =>
          some t5
        else
          (f_cron_set c.Days t.1.Day).bind fun t5 =>
          (gx (!t5) (f_cron_set c.Week t.1.Week) default).bind fun t6 =>
          some (t5 || t6)
def f_rule_Due (rv : api_Rule) (tick : Int) : Option (Bool) :=
  (f_cron_Parse rv.Cron).bind fun t =>
  (f_rule_Right rv).bind fun t2 =>
  (gx ((t2 && rv.On) && (t.2 == 0)) (f_cron_Fires t.1 tick) default).bind fun t3 =>
  some (((t2 && rv.On) && (t.2 == 0)) && t3)
def f_law14_RuleNames (rv : api_Rule) (a : Str) (b : Str) (tag : Str) : Option (Bool) :=
  (f_law14_few rv).bind fun t =>
  gd (0 ≤ (if 130 < (a.length : Int) then 130 else (a.length : Int)) ∧ (if 130 < (a.length : Int) then 130 else (a.length : Int)) ≤ (a.length : Int)) <|
  gd (0 ≤ (if 130 < (b.length : Int) then 130 else (b.length : Int)) ∧ (if 130 < (b.length : Int) then 130 else (b.length : Int)) ≤ (b.length : Int)) <|
  gd (0 ≤ (if 130 < (tag.length : Int) then 130 else (tag.length : Int)) ∧ (if 130 < (tag.length : Int) then 130 else (tag.length : Int)) ≤ (tag.length : Int)) <|
  (f_rule_To t (cut a 0 (if 130 < (a.length : Int) then 130 else (a.length : Int)))).bind fun t2 =>
  (f_rule_To t (cut b 0 (if 130 < (b.length : Int) then 130 else (b.length : Int)))).bind fun t3 =>
  (gx (((t2.2 == 0) && (t3.2 == 0)) && (!(!((t2.1 == t3.1) == ((cut a 0 (if 130 < (a.length : Int) then 130 else (a.length : Int))) == (cut b 0 (if 130 < (b.length : Int) then 130 else (b.length : Int)))))))) (f_name_Repo t2.1) default).bind fun t4 =>
  (gx (!(((t2.2 == 0) && (t3.2 == 0)) && ((!((t2.1 == t3.1) == ((cut a 0 (if 130 < (a.length : Int) then 130 else (a.length : Int))) == (cut b 0 (if 130 < (b.length : Int) then 130 else (b.length : Int)))))) || (!t4)))) (f_law14_alive) default).bind fun t5 =>
  if ((((t2.2 == 0) && (t3.2 == 0)) && ((!((t2.1 == t3.1) == ((cut a 0 (if 130 < (a.length : Int) then 130 else (a.length : Int))) == (cut b 0 (if 130 < (b.length : Int) then 130 else (b.length : Int)))))) || (!t4))) || (!t5)) then
    some false
  else
    (f_rule_Right (api_Rule.mk t.Id t.From ([] : (List Str)) ([] : (List Str)) t.Prefix t.Override t.Delete true t.Cron)).bind fun t6 =>
    (gx t6 (f_rule_Picks (api_Rule.mk t.Id t.From ([] : (List Str)) ([] : (List Str)) t.Prefix t.Override t.Delete true t.Cron) (cut a 0 (if 130 < (a.length : Int) then 130 else (a.length : Int))) (cut tag 0 (if 130 < (tag.length : Int) then 130 else (tag.length : Int)))) default).bind fun t7 =>
    (gx t6 (f_name_Repo (cut a 0 (if 130 < (a.length : Int) then 130 else (a.length : Int)))) default).bind fun t8 =>
    (gx (t6 && t8) (f_name_Tag (cut tag 0 (if 130 < (tag.length : Int) then 130 else (tag.length : Int)))) default).bind fun t9 =>
    if (t6 && (!(t7 == (t8 && t9)))) then
      some false
    else
      (f_rule_Picks (api_Rule.mk t.Id t.From ([] : (List Str)) ([] : (List Str)) t.Prefix t.Override t.Delete false t.Cron) (cut a 0 (if 130 < (a.length : Int) then 130 else (a.length : Int))) (cut tag 0 (if 130 < (tag.length : Int) then 130 else (tag.length : Int)))).bind fun t10 =>
      (gx (!t10) (f_rule_Due (api_Rule.mk t.Id t.From ([] : (List Str)) ([] : (List Str)) t.Prefix t.Override t.Delete false t.Cron) 0) default).bind fun t11 =>
      some ((!t10) && (!t11))
end Go.Proofs.YtedibjgdangfnaaGreatDoor.V
end

section
/- The shelf contracts that this seat uses, in plain words. -/
namespace Go.Proofs
open Go.Shelf
def Tryz.lays170_ren : Go.Shelf.Ren := ⟨fun | 170 => 232 | n => n, fun | 70 => 215 | 3 => 3 | 0 => 0 | 72 => 217 | 37 => 153 | 5 => 5 | n => n, fun | n => n⟩
theorem Tryz.lays170 : Go.Proofs.Lays.n170 Tryz.prog Tryz.lays170_ren := {
  mixed := by kernel_rfl
  f170 := Tryz.func232.trans (congrArg some (by kernel_rfl))
  t0 := Tryz.underlying0
  a0 := Tryz.isAgg0
  z0 := Tryz.sizeOf0
  v0 := Tryz.zeroValue0
  t3 := Tryz.underlying3
  a3 := Tryz.isAgg3
  z3 := Tryz.sizeOf3
  v3 := Tryz.zeroValue3
  t37 := Tryz.underlying153
  a37 := Tryz.isAgg153
  z37 := Tryz.sizeOf153
  v37 := Tryz.zeroValue153
  t70 := Tryz.underlying215
  a70 := Tryz.isAgg215
  z70 := Tryz.sizeOf215
  v70 := Tryz.zeroValue215
  t72 := Tryz.underlying217
  a72 := Tryz.isAgg217
  z72 := Tryz.sizeOf217
  v72 := Tryz.zeroValue217 }
open Go.RowKit in
theorem Tryz.Builder_Len (B b : Nat) (bs : List Value) (w : World) (h : Lib.IsBuilder 217 5 B b bs w) :
    Calls Tryz.prog 232 #[.pointer (some ⟨b, 0, none⟩)] w fun e w' => e = .returned (.int .i64 bs.length) ∧ w' = w := Any.Builder_Len Tryz.lays170 B b bs w h
def Tryz.lays169_ren : Go.Shelf.Ren := ⟨fun | 169 => 144 | n => n, fun | 70 => 215 | 9 => 9 | 0 => 0 | 72 => 217 | 37 => 153 | 127 => 269 | 3 => 3 | 5 => 5 | n => n, fun | n => n⟩
theorem Tryz.lays169 : Go.Proofs.Lays.n169 Tryz.prog Tryz.lays169_ren := {
  mixed := by kernel_rfl
  f169 := Tryz.func144.trans (congrArg some (by kernel_rfl))
  t0 := Tryz.underlying0
  a0 := Tryz.isAgg0
  z0 := Tryz.sizeOf0
  v0 := Tryz.zeroValue0
  t3 := Tryz.underlying3
  a3 := Tryz.isAgg3
  z3 := Tryz.sizeOf3
  v3 := Tryz.zeroValue3
  t9 := Tryz.underlying9
  a9 := Tryz.isAgg9
  z9 := Tryz.sizeOf9
  v9 := Tryz.zeroValue9
  t37 := Tryz.underlying153
  a37 := Tryz.isAgg153
  z37 := Tryz.sizeOf153
  v37 := Tryz.zeroValue153
  t70 := Tryz.underlying215
  a70 := Tryz.isAgg215
  z70 := Tryz.sizeOf215
  v70 := Tryz.zeroValue215
  t72 := Tryz.underlying217
  a72 := Tryz.isAgg217
  z72 := Tryz.sizeOf217
  v72 := Tryz.zeroValue217
  t127 := Tryz.underlying269
  a127 := Tryz.isAgg269
  z127 := Tryz.sizeOf269
  v127 := Tryz.zeroValue269 }
theorem Tryz.Builder_Extra_169 : Builder.Extra Tryz.prog Tryz.lays169_ren := {
  sizeBuilder := by kernel_rfl
  liesBuilder := by kernel_rfl
  t5 := Tryz.underlying5
  a5 := Tryz.isAgg5
  z5 := Tryz.sizeOf5
  v5 := Tryz.zeroValue5
  infoByte := by kernel_rfl
  cellsByte := by kernel_rfl
  sizeByte := by kernel_rfl
  neB5 := by decide }
open Go.RowKit in
theorem Tryz.Builder_String (B b : Nat) (l : List UInt8) (w : World) (h : Lib.IsBuilder 217 5 B b (Lib.byteCells l) w) (h0 : l ≠ []) :
    Calls Tryz.prog 144 #[.pointer (some ⟨b, 0, none⟩)] w fun e w' => e = .returned (.string ⟨l.toArray⟩) ∧ Below B w w' := Any.Builder_String Tryz.lays169 Tryz.Builder_Extra_169 B b l w h h0
open Go.RowKit in
theorem Tryz.Builder_String_empty (B b : Nat) (w : World) (h : Lib.IsBuilder 217 5 B b [] w) (hBw : B ≤ w.heap.size) :
    Calls Tryz.prog 144 #[.pointer (some ⟨b, 0, none⟩)] w fun e w' => e = .returned (.string ⟨#[]⟩) ∧ Below B w w' := Any.Builder_String_empty Tryz.lays169 Tryz.Builder_Extra_169 B b w h hBw
open Go.RowKit in
theorem Tryz.Builder_String_any (B b : Nat) (l : List UInt8) (w : World) (h : Lib.IsBuilder 217 5 B b (Lib.byteCells l) w) (hBw : B ≤ w.heap.size) :
    Calls Tryz.prog 144 #[.pointer (some ⟨b, 0, none⟩)] w fun e w' => e = .returned (.string ⟨l.toArray⟩) ∧ Below B w w' := Any.Builder_String_any Tryz.lays169 Tryz.Builder_Extra_169 B b l w h hBw
def Tryz.lays241_ren : Go.Shelf.Ren := ⟨fun | 241 => 245 | 277 => 257 | n => n, fun | 70 => 215 | 3 => 3 | 0 => 0 | 72 => 217 | 37 => 153 | 5 => 5 | n => n, fun | n => n⟩
theorem Tryz.lays241 : Go.Proofs.Lays.n241 Tryz.prog Tryz.lays241_ren := {
  mixed := by kernel_rfl
  f241 := Tryz.func245.trans (congrArg some (by kernel_rfl))
  f277 := Tryz.func257.trans (congrArg some (by kernel_rfl))
  t0 := Tryz.underlying0
  a0 := Tryz.isAgg0
  z0 := Tryz.sizeOf0
  v0 := Tryz.zeroValue0
  t3 := Tryz.underlying3
  a3 := Tryz.isAgg3
  z3 := Tryz.sizeOf3
  v3 := Tryz.zeroValue3
  t37 := Tryz.underlying153
  a37 := Tryz.isAgg153
  z37 := Tryz.sizeOf153
  v37 := Tryz.zeroValue153
  t70 := Tryz.underlying215
  a70 := Tryz.isAgg215
  z70 := Tryz.sizeOf215
  v70 := Tryz.zeroValue215
  t72 := Tryz.underlying217
  a72 := Tryz.isAgg217
  z72 := Tryz.sizeOf217
  v72 := Tryz.zeroValue217 }
theorem Tryz.Builder_Extra_241 : Builder.Extra Tryz.prog Tryz.lays241_ren := {
  sizeBuilder := by kernel_rfl
  liesBuilder := by kernel_rfl
  t5 := Tryz.underlying5
  a5 := Tryz.isAgg5
  z5 := Tryz.sizeOf5
  v5 := Tryz.zeroValue5
  infoByte := by kernel_rfl
  cellsByte := by kernel_rfl
  sizeByte := by kernel_rfl
  neB5 := by decide }
open Go.RowKit in
theorem Tryz.Builder_grow_fresh (B b n : Nat) (w : World) (hB : B ≤ b) (hbk : w.heap[b]? = some (.cells #[.pointer (some ⟨b, 0, none⟩), .slice none 0 0] 217 (0, 0))) (hBw : B ≤ w.heap.size) (hn : n ≤ 281474976710656) :
    Calls Tryz.prog 245 #[.pointer (some ⟨b, 0, none⟩), .int .i64 n] w fun e w' => e = .returned (.tuple #[]) ∧ (Lib.BuilderAt 217 5 B b (.pointer (some ⟨b, 0, none⟩)) [] w' ∧ Below B w w') := Any.Builder_grow_fresh Tryz.lays241 Tryz.Builder_Extra_241 B b n w hB hbk hBw hn
def Tryz.lays165_ren : Go.Shelf.Ren := ⟨fun | 165 => 230 | 240 => 199 | 241 => 245 | 276 => 225 | 277 => 257 | n => n, fun | 70 => 215 | 3 => 3 | 0 => 0 | 4 => 4 | 9 => 9 | 20 => 20 | 72 => 217 | 37 => 153 | 164 => 309 | 5 => 5 | n => n, fun | n => n⟩
theorem Tryz.lays165 : Go.Proofs.Lays.n165 Tryz.prog Tryz.lays165_ren := {
  mixed := by kernel_rfl
  f165 := Tryz.func230.trans (congrArg some (by kernel_rfl))
  f240 := Tryz.func199.trans (congrArg some (by kernel_rfl))
  f241 := Tryz.func245.trans (congrArg some (by kernel_rfl))
  f276 := Tryz.func225.trans (congrArg some (by kernel_rfl))
  f277 := Tryz.func257.trans (congrArg some (by kernel_rfl))
  t0 := Tryz.underlying0
  a0 := Tryz.isAgg0
  z0 := Tryz.sizeOf0
  v0 := Tryz.zeroValue0
  t3 := Tryz.underlying3
  a3 := Tryz.isAgg3
  z3 := Tryz.sizeOf3
  v3 := Tryz.zeroValue3
  t4 := Tryz.underlying4
  a4 := Tryz.isAgg4
  z4 := Tryz.sizeOf4
  v4 := Tryz.zeroValue4
  t9 := Tryz.underlying9
  a9 := Tryz.isAgg9
  z9 := Tryz.sizeOf9
  v9 := Tryz.zeroValue9
  t20 := Tryz.underlying20
  a20 := Tryz.isAgg20
  z20 := Tryz.sizeOf20
  v20 := Tryz.zeroValue20
  t37 := Tryz.underlying153
  a37 := Tryz.isAgg153
  z37 := Tryz.sizeOf153
  v37 := Tryz.zeroValue153
  t70 := Tryz.underlying215
  a70 := Tryz.isAgg215
  z70 := Tryz.sizeOf215
  v70 := Tryz.zeroValue215
  t72 := Tryz.underlying217
  a72 := Tryz.isAgg217
  z72 := Tryz.sizeOf217
  v72 := Tryz.zeroValue217
  t164 := Tryz.underlying309
  a164 := Tryz.isAgg309
  z164 := Tryz.sizeOf309
  v164 := Tryz.zeroValue309 }
theorem Tryz.Builder_Extra_165 : Builder.Extra Tryz.prog Tryz.lays165_ren := {
  sizeBuilder := by kernel_rfl
  liesBuilder := by kernel_rfl
  t5 := Tryz.underlying5
  a5 := Tryz.isAgg5
  z5 := Tryz.sizeOf5
  v5 := Tryz.zeroValue5
  infoByte := by kernel_rfl
  cellsByte := by kernel_rfl
  sizeByte := by kernel_rfl
  neB5 := by decide }
open Go.RowKit in
theorem Tryz.Builder_Grow_fresh (B b n : Nat) (w : World) (hB : B ≤ b) (hbk : w.heap[b]? = some (.cells #[.pointer none, .slice none 0 0] 217 (0, 0))) (hBw : B ≤ w.heap.size) (hn : n ≤ 281474976710656) :
    Calls Tryz.prog 230 #[.pointer (some ⟨b, 0, none⟩), .int .i64 n] w fun e w' => e = .returned (.tuple #[]) ∧ (Lib.BuilderAt 217 5 B b (.pointer (some ⟨b, 0, none⟩)) [] w' ∧ Below B w w') := Any.Builder_Grow_fresh Tryz.lays165 Tryz.Builder_Extra_165 B b n w hB hbk hBw hn
def Tryz.lays156_ren : Go.Shelf.Ren := ⟨fun | 156 => 204 | 165 => 230 | 166 => 143 | 169 => 144 | 240 => 199 | 241 => 245 | 276 => 225 | 277 => 257 | n => n, fun | 31 => 22 | 9 => 9 | 3 => 3 | 4 => 4 | 0 => 0 | 20 => 20 | 72 => 217 | 76 => 219 | 70 => 215 | 37 => 153 | 75 => 200 | 127 => 269 | 164 => 309 | 5 => 5 | 80 => 221 | n => n, fun | n => n⟩
theorem Tryz.lays156 : Go.Proofs.Lays.n156 Tryz.prog Tryz.lays156_ren := {
  mixed := by kernel_rfl
  f156 := Tryz.func204.trans (congrArg some (by kernel_rfl))
  f165 := Tryz.func230.trans (congrArg some (by kernel_rfl))
  f166 := Tryz.func143.trans (congrArg some (by kernel_rfl))
  f169 := Tryz.func144.trans (congrArg some (by kernel_rfl))
  f240 := Tryz.func199.trans (congrArg some (by kernel_rfl))
  f241 := Tryz.func245.trans (congrArg some (by kernel_rfl))
  f276 := Tryz.func225.trans (congrArg some (by kernel_rfl))
  f277 := Tryz.func257.trans (congrArg some (by kernel_rfl))
  t0 := Tryz.underlying0
  a0 := Tryz.isAgg0
  z0 := Tryz.sizeOf0
  v0 := Tryz.zeroValue0
  t3 := Tryz.underlying3
  a3 := Tryz.isAgg3
  z3 := Tryz.sizeOf3
  v3 := Tryz.zeroValue3
  t4 := Tryz.underlying4
  a4 := Tryz.isAgg4
  z4 := Tryz.sizeOf4
  v4 := Tryz.zeroValue4
  t9 := Tryz.underlying9
  a9 := Tryz.isAgg9
  z9 := Tryz.sizeOf9
  v9 := Tryz.zeroValue9
  t20 := Tryz.underlying20
  a20 := Tryz.isAgg20
  z20 := Tryz.sizeOf20
  v20 := Tryz.zeroValue20
  t31 := Tryz.underlying22
  a31 := Tryz.isAgg22
  z31 := Tryz.sizeOf22
  v31 := Tryz.zeroValue22
  t37 := Tryz.underlying153
  a37 := Tryz.isAgg153
  z37 := Tryz.sizeOf153
  v37 := Tryz.zeroValue153
  t70 := Tryz.underlying215
  a70 := Tryz.isAgg215
  z70 := Tryz.sizeOf215
  v70 := Tryz.zeroValue215
  t72 := Tryz.underlying217
  a72 := Tryz.isAgg217
  z72 := Tryz.sizeOf217
  v72 := Tryz.zeroValue217
  t75 := Tryz.underlying200
  a75 := Tryz.isAgg200
  z75 := Tryz.sizeOf200
  v75 := Tryz.zeroValue200
  t76 := Tryz.underlying219
  a76 := Tryz.isAgg219
  z76 := Tryz.sizeOf219
  v76 := Tryz.zeroValue219
  t127 := Tryz.underlying269
  a127 := Tryz.isAgg269
  z127 := Tryz.sizeOf269
  v127 := Tryz.zeroValue269
  t164 := Tryz.underlying309
  a164 := Tryz.isAgg309
  z164 := Tryz.sizeOf309
  v164 := Tryz.zeroValue309 }
theorem Tryz.Builder_Extra_156 : Builder.Extra Tryz.prog Tryz.lays156_ren := {
  sizeBuilder := by kernel_rfl
  liesBuilder := by kernel_rfl
  t5 := Tryz.underlying5
  a5 := Tryz.isAgg5
  z5 := Tryz.sizeOf5
  v5 := Tryz.zeroValue5
  infoByte := by kernel_rfl
  cellsByte := by kernel_rfl
  sizeByte := by kernel_rfl
  neB5 := by decide }
open Go.RowKit in
theorem Tryz.strings_Join_none (a : Option Addr) (c : Nat) (sep : ByteArray) (w : World) :
    Calls Tryz.prog 204 #[.slice a 0 c, .string sep] w fun e w' => e = .returned (.string ⟨#[]⟩) ∧ w' = w := Any.strings_Join_none Tryz.lays156 Tryz.Builder_Extra_156 a c sep w
open Go.RowKit in
theorem Tryz.strings_Join (bk o c : Nat) (xs : List ByteArray) (sep : ByteArray) (w : World) (hcells : ∀ (j : Nat) x, xs[j]? = some x → w.cell? ⟨bk, o + j, none⟩ = some (.string x)) (hbk : bk < w.heap.size) (hN : xs.length ≤ 140737488355328) (hcap : xs.length ≤ c) (hlen : (Lib.join (xs.map (·.data.toList)) sep.data.toList).length ≤ 140737488355328) :
    Calls Tryz.prog 204 #[.slice (some ⟨bk, o, none⟩) xs.length c, .string sep] w fun e w' => e = .returned (.string ⟨(Lib.join (xs.map (·.data.toList)) sep.data.toList).toArray⟩) ∧ Below w.heap.size w w' := Any.strings_Join Tryz.lays156 Tryz.Builder_Extra_156 bk o c xs sep w hcells hbk hN hcap hlen
def Tryz.lays231_ren : Go.Shelf.Ren := ⟨fun | 231 => 248 | n => n, fun | 9 => 9 | 5 => 5 | 3 => 3 | 4 => 4 | n => n, fun | n => n⟩
theorem Tryz.lays231 : Go.Proofs.Lays.n231 Tryz.prog Tryz.lays231_ren := {
  mixed := by kernel_rfl
  f231 := Tryz.func248.trans (congrArg some (by kernel_rfl))
  t3 := Tryz.underlying3
  a3 := Tryz.isAgg3
  z3 := Tryz.sizeOf3
  v3 := Tryz.zeroValue3
  t4 := Tryz.underlying4
  a4 := Tryz.isAgg4
  z4 := Tryz.sizeOf4
  v4 := Tryz.zeroValue4
  t5 := Tryz.underlying5
  a5 := Tryz.isAgg5
  z5 := Tryz.sizeOf5
  v5 := Tryz.zeroValue5
  t9 := Tryz.underlying9
  a9 := Tryz.isAgg9
  z9 := Tryz.sizeOf9
  v9 := Tryz.zeroValue9 }
open Go.RowKit in
theorem Tryz.strings_trimLeftByte (s : ByteArray) (c : UInt8) (w : World) :
    Calls Tryz.prog 248 #[.string s, .int .u8 c.toNat] w fun e w' => e = .returned (.string ⟨(Lib.trimLeftB s.data.toList c).toArray⟩) ∧ w' = w := Any.strings_trimLeftByte Tryz.lays231 s c w
def Tryz.lays232_ren : Go.Shelf.Ren := ⟨fun | 232 => 249 | n => n, fun | 9 => 9 | 5 => 5 | 3 => 3 | 4 => 4 | n => n, fun | n => n⟩
theorem Tryz.lays232 : Go.Proofs.Lays.n232 Tryz.prog Tryz.lays232_ren := {
  mixed := by kernel_rfl
  f232 := Tryz.func249.trans (congrArg some (by kernel_rfl))
  t3 := Tryz.underlying3
  a3 := Tryz.isAgg3
  z3 := Tryz.sizeOf3
  v3 := Tryz.zeroValue3
  t4 := Tryz.underlying4
  a4 := Tryz.isAgg4
  z4 := Tryz.sizeOf4
  v4 := Tryz.zeroValue4
  t5 := Tryz.underlying5
  a5 := Tryz.isAgg5
  z5 := Tryz.sizeOf5
  v5 := Tryz.zeroValue5
  t9 := Tryz.underlying9
  a9 := Tryz.isAgg9
  z9 := Tryz.sizeOf9
  v9 := Tryz.zeroValue9 }
open Go.RowKit in
theorem Tryz.strings_trimRightByte (s : ByteArray) (c : UInt8) (w : World) (hs : s.size ≤ 9223372036854775807) :
    Calls Tryz.prog 249 #[.string s, .int .u8 c.toNat] w fun e w' => e = .returned (.string ⟨(Lib.trimRightB s.data.toList c).toArray⟩) ∧ w' = w := Any.strings_trimRightByte Tryz.lays232 s c w hs
def Tryz.lays160_ren : Go.Shelf.Ren := ⟨fun | 160 => 237 | 232 => 249 | 231 => 248 | 227 => 250 | 234 => 252 | 233 => 251 | 236 => 254 | 235 => 253 | 228 => 258 | 271 => 260 | 151 => 259 | 197 => 195 | 120 => 262 | 152 => 261 | 260 => 222 | 137 => 263 | 119 => 264 | 224 => 241 | 225 => 240 | 217 => 239 | 266 => 255 | n => n, fun | 9 => 9 | 4 => 4 | 3 => 3 | 5 => 5 | 117 => 349 | 116 => 348 | 0 => 0 | 124 => 352 | 21 => 21 | 105 => 264 | 46 => 321 | 119 => 332 | 139 => 335 | 138 => 334 | n => n, fun | 3 => 1 | 4 => 2 | n => n⟩
theorem Tryz.lays160 : Go.Proofs.Lays.n160 Tryz.prog Tryz.lays160_ren := {
  mixed := by kernel_rfl
  f119 := Tryz.func264.trans (congrArg some (by kernel_rfl))
  f120 := Tryz.func262.trans (congrArg some (by kernel_rfl))
  f137 := Tryz.func263.trans (congrArg some (by kernel_rfl))
  f151 := Tryz.func259.trans (congrArg some (by kernel_rfl))
  f152 := Tryz.func261.trans (congrArg some (by kernel_rfl))
  f160 := Tryz.func237.trans (congrArg some (by kernel_rfl))
  f197 := Tryz.func195.trans (congrArg some (by kernel_rfl))
  f217 := Tryz.func239.trans (congrArg some (by kernel_rfl))
  f224 := Tryz.func241.trans (congrArg some (by kernel_rfl))
  f225 := Tryz.func240.trans (congrArg some (by kernel_rfl))
  f227 := Tryz.func250.trans (congrArg some (by kernel_rfl))
  f228 := Tryz.func258.trans (congrArg some (by kernel_rfl))
  f231 := Tryz.func248.trans (congrArg some (by kernel_rfl))
  f232 := Tryz.func249.trans (congrArg some (by kernel_rfl))
  f233 := Tryz.func251.trans (congrArg some (by kernel_rfl))
  f234 := Tryz.func252.trans (congrArg some (by kernel_rfl))
  f235 := Tryz.func253.trans (congrArg some (by kernel_rfl))
  f236 := Tryz.func254.trans (congrArg some (by kernel_rfl))
  f260 := Tryz.func222.trans (congrArg some (by kernel_rfl))
  f266 := Tryz.func255.trans (congrArg some (by kernel_rfl))
  f271 := Tryz.func260.trans (congrArg some (by kernel_rfl))
  t0 := Tryz.underlying0
  a0 := Tryz.isAgg0
  z0 := Tryz.sizeOf0
  v0 := Tryz.zeroValue0
  t3 := Tryz.underlying3
  a3 := Tryz.isAgg3
  z3 := Tryz.sizeOf3
  v3 := Tryz.zeroValue3
  t4 := Tryz.underlying4
  a4 := Tryz.isAgg4
  z4 := Tryz.sizeOf4
  v4 := Tryz.zeroValue4
  t5 := Tryz.underlying5
  a5 := Tryz.isAgg5
  z5 := Tryz.sizeOf5
  v5 := Tryz.zeroValue5
  t9 := Tryz.underlying9
  a9 := Tryz.isAgg9
  z9 := Tryz.sizeOf9
  v9 := Tryz.zeroValue9
  t21 := Tryz.underlying21
  a21 := Tryz.isAgg21
  z21 := Tryz.sizeOf21
  v21 := Tryz.zeroValue21
  t46 := Tryz.underlying321
  a46 := Tryz.isAgg321
  z46 := Tryz.sizeOf321
  v46 := Tryz.zeroValue321
  t105 := Tryz.underlying264
  a105 := Tryz.isAgg264
  z105 := Tryz.sizeOf264
  v105 := Tryz.zeroValue264
  t116 := Tryz.underlying348
  a116 := Tryz.isAgg348
  z116 := Tryz.sizeOf348
  t117 := Tryz.underlying349
  a117 := Tryz.isAgg349
  z117 := Tryz.sizeOf349
  v117 := Tryz.zeroValue349
  t119 := Tryz.underlying332
  a119 := Tryz.isAgg332
  z119 := Tryz.sizeOf332
  t124 := Tryz.underlying352
  a124 := Tryz.isAgg352
  z124 := Tryz.sizeOf352
  v124 := Tryz.zeroValue352
  t138 := Tryz.underlying334
  a138 := Tryz.isAgg334
  z138 := Tryz.sizeOf334
  v138 := Tryz.zeroValue334
  t139 := Tryz.underlying335
  a139 := Tryz.isAgg335
  z139 := Tryz.sizeOf335
  v139 := Tryz.zeroValue335
  g3 := by kernel_rfl
  g4 := by kernel_rfl }
open Go.RowKit in
theorem Tryz.strings_Trim_one (s : ByteArray) (c : UInt8) (hc : c.toNat < 128) (w : World) (hs : s.size ≤ 9223372036854775807) :
    Calls Tryz.prog 237 #[.string s, .string ⟨#[c]⟩] w fun e w' => e = .returned (.string ⟨(Lib.trimB s.data.toList c).toArray⟩) ∧ (w' = w ∨ w' = w.drew) := Any.strings_Trim_one Tryz.lays160 s c hc w hs
def Tryz.lays119_ren : Go.Shelf.Ren := ⟨fun | 119 => 264 | n => n, fun | 21 => 21 | 4 => 4 | n => n, fun | n => n⟩
theorem Tryz.lays119 : Go.Proofs.Lays.n119 Tryz.prog Tryz.lays119_ren := {
  mixed := by kernel_rfl
  f119 := Tryz.func264.trans (congrArg some (by kernel_rfl))
  t4 := Tryz.underlying4
  a4 := Tryz.isAgg4
  z4 := Tryz.sizeOf4
  v4 := Tryz.zeroValue4
  t21 := Tryz.underlying21
  a21 := Tryz.isAgg21
  z21 := Tryz.sizeOf21
  v21 := Tryz.zeroValue21 }
theorem Tryz.utf8_ValidRune (r : Int) (w : World) :
    Calls Tryz.prog 264 #[.int .i32 r] w fun e w' => e = .returned (.bool (Lib.validRune r)) ∧ w' = w := Any.utf8_ValidRune Tryz.lays119 r w
def Tryz.lays120_ren : Go.Shelf.Ren := ⟨fun | 120 => 262 | n => n, fun | 5 => 5 | 4 => 4 | n => n, fun | n => n⟩
theorem Tryz.lays120 : Go.Proofs.Lays.n120 Tryz.prog Tryz.lays120_ren := {
  mixed := by kernel_rfl
  f120 := Tryz.func262.trans (congrArg some (by kernel_rfl))
  t4 := Tryz.underlying4
  a4 := Tryz.isAgg4
  z4 := Tryz.sizeOf4
  v4 := Tryz.zeroValue4
  t5 := Tryz.underlying5
  a5 := Tryz.isAgg5
  z5 := Tryz.sizeOf5
  v5 := Tryz.zeroValue5 }
theorem Tryz.utf8_RuneStart (b : Int) (w : World) (h0 : 0 ≤ b) (h1 : b < 256) :
    Calls Tryz.prog 262 #[.int .u8 b] w fun e w' => e = .returned (.bool (Lib.runeStart b)) ∧ w' = w := Any.utf8_RuneStart Tryz.lays120 b w h0 h1
def Tryz.lays137_ren : Go.Shelf.Ren := ⟨fun | 137 => 263 | 217 => 239 | 266 => 255 | n => n, fun | 9 => 9 | 5 => 5 | 3 => 3 | n => n, fun | n => n⟩
theorem Tryz.lays137 : Go.Proofs.Lays.n137 Tryz.prog Tryz.lays137_ren := {
  mixed := by kernel_rfl
  f137 := Tryz.func263.trans (congrArg some (by kernel_rfl))
  f217 := Tryz.func239.trans (congrArg some (by kernel_rfl))
  f266 := Tryz.func255.trans (congrArg some (by kernel_rfl))
  t3 := Tryz.underlying3
  a3 := Tryz.isAgg3
  z3 := Tryz.sizeOf3
  v3 := Tryz.zeroValue3
  t5 := Tryz.underlying5
  a5 := Tryz.isAgg5
  z5 := Tryz.sizeOf5
  v5 := Tryz.zeroValue5
  t9 := Tryz.underlying9
  a9 := Tryz.isAgg9
  z9 := Tryz.sizeOf9
  v9 := Tryz.zeroValue9 }
open Go.RowKit in
theorem Tryz.strings_IndexByte (s : ByteArray) (c : Int) (w : World) :
    Calls Tryz.prog 263 #[.string s, .int .u8 c] w fun e w' => e = .returned (.int .i64 (Lib.indexByte s.data.toList c.toNat.toUInt8)) ∧ w' = w := Any.strings_IndexByte Tryz.lays137 s c w
def Tryz.lays210_ren : Go.Shelf.Ren := ⟨fun | 210 => 198 | 206 => 224 | n => n, fun | 9 => 9 | 4 => 4 | 3 => 3 | n => n, fun | n => n⟩
theorem Tryz.lays210 : Go.Proofs.Lays.n210 Tryz.prog Tryz.lays210_ren := {
  mixed := by kernel_rfl
  f206 := Tryz.func224.trans (congrArg some (by kernel_rfl))
  f210 := Tryz.func198.trans (congrArg some (by kernel_rfl))
  t3 := Tryz.underlying3
  a3 := Tryz.isAgg3
  z3 := Tryz.sizeOf3
  v3 := Tryz.zeroValue3
  t4 := Tryz.underlying4
  a4 := Tryz.isAgg4
  z4 := Tryz.sizeOf4
  v4 := Tryz.zeroValue4
  t9 := Tryz.underlying9
  a9 := Tryz.isAgg9
  z9 := Tryz.sizeOf9
  v9 := Tryz.zeroValue9 }
open Go.RowKit in
theorem Tryz.stringslite_CutPrefix (s p : ByteArray) (w : World) :
    Calls Tryz.prog 198 #[.string s, .string p] w fun e w' => e = .returned (.tuple #[.string ⟨(Lib.trimPrefix s.data.toList p.data.toList).toArray⟩, .bool (Lib.hasPrefix s.data.toList p.data.toList)]) ∧ w' = w := Any.stringslite_CutPrefix Tryz.lays210 s p w
def Tryz.lays103_ren : Go.Shelf.Ren := ⟨fun | 103 => 141 | 210 => 198 | 206 => 224 | n => n, fun | 9 => 9 | 4 => 4 | 24 => 72 | 3 => 3 | n => n, fun | n => n⟩
theorem Tryz.lays103 : Go.Proofs.Lays.n103 Tryz.prog Tryz.lays103_ren := {
  mixed := by kernel_rfl
  f103 := Tryz.func141.trans (congrArg some (by kernel_rfl))
  f206 := Tryz.func224.trans (congrArg some (by kernel_rfl))
  f210 := Tryz.func198.trans (congrArg some (by kernel_rfl))
  t3 := Tryz.underlying3
  a3 := Tryz.isAgg3
  z3 := Tryz.sizeOf3
  v3 := Tryz.zeroValue3
  t4 := Tryz.underlying4
  a4 := Tryz.isAgg4
  z4 := Tryz.sizeOf4
  v4 := Tryz.zeroValue4
  t9 := Tryz.underlying9
  a9 := Tryz.isAgg9
  z9 := Tryz.sizeOf9
  v9 := Tryz.zeroValue9
  t24 := Tryz.underlying72
  a24 := Tryz.isAgg72
  z24 := Tryz.sizeOf72
  v24 := Tryz.zeroValue72 }
open Go.RowKit in
theorem Tryz.strings_CutPrefix (s p : ByteArray) (w : World) :
    Calls Tryz.prog 141 #[.string s, .string p] w fun e w' => e = .returned (.tuple #[.string ⟨(Lib.trimPrefix s.data.toList p.data.toList).toArray⟩, .bool (Lib.hasPrefix s.data.toList p.data.toList)]) ∧ w' = w := Any.strings_CutPrefix Tryz.lays103 s p w
open Go.RowKit in
theorem Tryz.Builder_Len_f (B b : Nat) (bs : List Value) (w : World) (h : Lib.IsBuilderF 217 5 B b bs w) :
    Calls Tryz.prog 232 #[.pointer (some ⟨b, 0, none⟩)] w fun e w' => e = .returned (.int .i64 bs.length) ∧ w' = w := Any.Builder_Len_f Tryz.lays170 B b bs w h
open Go.RowKit in
theorem Tryz.Builder_String_f (B b : Nat) (l : List UInt8) (w : World) (h : Lib.IsBuilderF 217 5 B b (Lib.byteCells l) w) (h0 : l ≠ []) :
    Calls Tryz.prog 144 #[.pointer (some ⟨b, 0, none⟩)] w fun e w' => e = .returned (.string ⟨l.toArray⟩) ∧ (Lib.IsBuilderF 217 5 B b (Lib.byteCells l) w' ∧ Below B w w') := Any.Builder_String_f Tryz.lays169 Tryz.Builder_Extra_169 B b l w h h0
open Go.RowKit in
theorem Tryz.Builder_String_empty_f (B b : Nat) (w : World) (h : Lib.IsBuilderF 217 5 B b [] w) (hBw : B ≤ w.heap.size) :
    Calls Tryz.prog 144 #[.pointer (some ⟨b, 0, none⟩)] w fun e w' => e = .returned (.string ⟨#[]⟩) ∧ (Lib.IsBuilderF 217 5 B b [] w' ∧ Below B w w') := Any.Builder_String_empty_f Tryz.lays169 Tryz.Builder_Extra_169 B b w h hBw
open Go.RowKit in
theorem Tryz.Builder_String_any_f (B b : Nat) (l : List UInt8) (w : World) (h : Lib.IsBuilderF 217 5 B b (Lib.byteCells l) w) (hBw : B ≤ w.heap.size) :
    Calls Tryz.prog 144 #[.pointer (some ⟨b, 0, none⟩)] w fun e w' => e = .returned (.string ⟨l.toArray⟩) ∧ (Lib.IsBuilderF 217 5 B b (Lib.byteCells l) w' ∧ Below B w w') := Any.Builder_String_any_f Tryz.lays169 Tryz.Builder_Extra_169 B b l w h hBw
open Go.RowKit in
theorem Tryz.Builder_String_k (B b : Nat) (l : List UInt8) (w : World) (h : Lib.IsBuilderF 217 5 B b (Lib.byteCells l) w) (h0 : l ≠ []) :
    Calls Tryz.prog 144 #[.pointer (some ⟨b, 0, none⟩)] w fun e w' => e = .returned (.string ⟨l.toArray⟩) ∧ (Lib.IsBuilderF 217 5 B b (Lib.byteCells l) w' ∧ Below B w w' ∧ Lib.OthersKept 5 (some b) w w') := Any.Builder_String_k Tryz.lays169 Tryz.Builder_Extra_169 B b l w h h0
open Go.RowKit in
theorem Tryz.Builder_String_empty_k (B b : Nat) (w : World) (h : Lib.IsBuilderF 217 5 B b [] w) (hBw : B ≤ w.heap.size) :
    Calls Tryz.prog 144 #[.pointer (some ⟨b, 0, none⟩)] w fun e w' => e = .returned (.string ⟨#[]⟩) ∧ (Lib.IsBuilderF 217 5 B b [] w' ∧ Below B w w' ∧ Lib.OthersKept 5 (some b) w w') := Any.Builder_String_empty_k Tryz.lays169 Tryz.Builder_Extra_169 B b w h hBw
open Go.RowKit in
theorem Tryz.Builder_String_any_k (B b : Nat) (l : List UInt8) (w : World) (h : Lib.IsBuilderF 217 5 B b (Lib.byteCells l) w) (hBw : B ≤ w.heap.size) :
    Calls Tryz.prog 144 #[.pointer (some ⟨b, 0, none⟩)] w fun e w' => e = .returned (.string ⟨l.toArray⟩) ∧ (Lib.IsBuilderF 217 5 B b (Lib.byteCells l) w' ∧ Below B w w' ∧ Lib.OthersKept 5 (some b) w w') := Any.Builder_String_any_k Tryz.lays169 Tryz.Builder_Extra_169 B b l w h hBw
open Go.RowKit in
theorem Tryz.Builder_grow_fresh_cap (B b n : Nat) (w : World) (hB : B ≤ b) (hbk : w.heap[b]? = some (.cells #[.pointer (some ⟨b, 0, none⟩), .slice none 0 0] 217 (0, 0))) (hBw : B ≤ w.heap.size) (hn : n ≤ 281474976710656) :
    Calls Tryz.prog 245 #[.pointer (some ⟨b, 0, none⟩), .int .i64 n] w fun e w' => e = .returned (.tuple #[]) ∧ (Lib.BuilderAt 217 5 B b (.pointer (some ⟨b, 0, none⟩)) [] w' ∧ Below B w w') ∧ ∃ p cap, w'.cell? ⟨b, 1, none⟩ = some (.slice p 0 cap) ∧ n ≤ cap := Any.Builder_grow_fresh_cap Tryz.lays241 Tryz.Builder_Extra_241 B b n w hB hbk hBw hn
open Go.RowKit in
theorem Tryz.Builder_Grow_fresh_cap (B b n : Nat) (w : World) (hB : B ≤ b) (hbk : w.heap[b]? = some (.cells #[.pointer none, .slice none 0 0] 217 (0, 0))) (hBw : B ≤ w.heap.size) (hn : n ≤ 281474976710656) :
    Calls Tryz.prog 230 #[.pointer (some ⟨b, 0, none⟩), .int .i64 n] w fun e w' => e = .returned (.tuple #[]) ∧ (Lib.BuilderAt 217 5 B b (.pointer (some ⟨b, 0, none⟩)) [] w' ∧ Below B w w') ∧ ∃ p cap, w'.cell? ⟨b, 1, none⟩ = some (.slice p 0 cap) ∧ n ≤ cap := Any.Builder_Grow_fresh_cap Tryz.lays165 Tryz.Builder_Extra_165 B b n w hB hbk hBw hn
def Tryz.lays217_ren : Go.Shelf.Ren := ⟨fun | 217 => 239 | 266 => 255 | n => n, fun | 9 => 9 | 5 => 5 | 3 => 3 | n => n, fun | n => n⟩
theorem Tryz.lays217 : Go.Proofs.Lays.n217 Tryz.prog Tryz.lays217_ren := {
  mixed := by kernel_rfl
  f217 := Tryz.func239.trans (congrArg some (by kernel_rfl))
  f266 := Tryz.func255.trans (congrArg some (by kernel_rfl))
  t3 := Tryz.underlying3
  a3 := Tryz.isAgg3
  z3 := Tryz.sizeOf3
  v3 := Tryz.zeroValue3
  t5 := Tryz.underlying5
  a5 := Tryz.isAgg5
  z5 := Tryz.sizeOf5
  v5 := Tryz.zeroValue5
  t9 := Tryz.underlying9
  a9 := Tryz.isAgg9
  z9 := Tryz.sizeOf9
  v9 := Tryz.zeroValue9 }
open Go.RowKit Go.Lib in
theorem Tryz.stringslite_IndexByte (s : ByteArray) (c : Int) (w : World) :
    Calls Tryz.prog 239 #[.string s, .int .u8 c] w fun e w' => e = .returned (.int .i64 (Lib.indexByte s.data.toList c.toNat.toUInt8)) ∧ w' = w := Any.stringslite_IndexByte Tryz.lays217 s c w
def Tryz.lays224_ren : Go.Shelf.Ren := ⟨fun | 224 => 241 | n => n, fun | 3 => 3 | n => n, fun | n => n⟩
theorem Tryz.lays224 : Go.Proofs.Lays.n224 Tryz.prog Tryz.lays224_ren := {
  mixed := by kernel_rfl
  f224 := Tryz.func241.trans (congrArg some (by kernel_rfl))
  t3 := Tryz.underlying3
  a3 := Tryz.isAgg3
  z3 := Tryz.sizeOf3
  v3 := Tryz.zeroValue3 }
open Go.RowKit Go.Lib in
theorem Tryz.bytealg_Cutover (n : Int) (h0 : 0 ≤ n) (h1 : n < 4611686018427387904) (w : World) :
    Calls Tryz.prog 241 #[.int .i64 n] w fun e w' => e = .returned (.int .i64 ((n + 16) / 8)) ∧ w' = w := Any.bytealg_Cutover Tryz.lays224 n h0 h1 w
def Tryz.lays314_ren : Go.Shelf.Ren := ⟨fun | 314 => 256 | n => n, fun | 9 => 9 | 51 => 341 | 3 => 3 | 4 => 4 | 5 => 5 | 46 => 321 | n => n, fun | n => n⟩
theorem Tryz.lays314 : Go.Proofs.Lays.n314 Tryz.prog Tryz.lays314_ren := {
  mixed := by kernel_rfl
  f314 := Tryz.func256.trans (congrArg some (by kernel_rfl))
  t3 := Tryz.underlying3
  a3 := Tryz.isAgg3
  z3 := Tryz.sizeOf3
  v3 := Tryz.zeroValue3
  t4 := Tryz.underlying4
  a4 := Tryz.isAgg4
  z4 := Tryz.sizeOf4
  v4 := Tryz.zeroValue4
  t5 := Tryz.underlying5
  a5 := Tryz.isAgg5
  z5 := Tryz.sizeOf5
  v5 := Tryz.zeroValue5
  t9 := Tryz.underlying9
  a9 := Tryz.isAgg9
  z9 := Tryz.sizeOf9
  v9 := Tryz.zeroValue9
  t46 := Tryz.underlying321
  a46 := Tryz.isAgg321
  z46 := Tryz.sizeOf321
  v46 := Tryz.zeroValue321
  t51 := Tryz.underlying341
  a51 := Tryz.isAgg341
  z51 := Tryz.sizeOf341
  v51 := Tryz.zeroValue341 }
open Go.RowKit Go.Lib in
theorem Tryz.bytealg_hashStr (sep : ByteArray) (hs : sep.size < 4294967281) (w : World) :
    Calls Tryz.prog 256 #[.string sep] w fun e w' => e = .returned (.tuple #[.int .u32 (RK.H sep.data.toList % 4294967296), .int .u32 (16777619 ^ sep.size % 4294967296)]) ∧ w' = w := Any.bytealg_hashStr Tryz.lays314 sep hs w
def Tryz.lays267_ren : Go.Shelf.Ren := ⟨fun | 267 => 242 | 314 => 256 | n => n, fun | 9 => 9 | 3 => 3 | 146 => 342 | 51 => 341 | 4 => 4 | 5 => 5 | 46 => 321 | n => n, fun | n => n⟩
theorem Tryz.lays267 : Go.Proofs.Lays.n267 Tryz.prog Tryz.lays267_ren := {
  mixed := by kernel_rfl
  f267 := Tryz.func242.trans (congrArg some (by kernel_rfl))
  f314 := Tryz.func256.trans (congrArg some (by kernel_rfl))
  t3 := Tryz.underlying3
  a3 := Tryz.isAgg3
  z3 := Tryz.sizeOf3
  v3 := Tryz.zeroValue3
  t4 := Tryz.underlying4
  a4 := Tryz.isAgg4
  z4 := Tryz.sizeOf4
  v4 := Tryz.zeroValue4
  t5 := Tryz.underlying5
  a5 := Tryz.isAgg5
  z5 := Tryz.sizeOf5
  v5 := Tryz.zeroValue5
  t9 := Tryz.underlying9
  a9 := Tryz.isAgg9
  z9 := Tryz.sizeOf9
  v9 := Tryz.zeroValue9
  t46 := Tryz.underlying321
  a46 := Tryz.isAgg321
  z46 := Tryz.sizeOf321
  v46 := Tryz.zeroValue321
  t51 := Tryz.underlying341
  a51 := Tryz.isAgg341
  z51 := Tryz.sizeOf341
  v51 := Tryz.zeroValue341
  t146 := Tryz.underlying342
  a146 := Tryz.isAgg342
  z146 := Tryz.sizeOf342
  v146 := Tryz.zeroValue342 }
open Go.RowKit Go.Lib in
theorem Tryz.bytealg_IndexRabinKarp (s sep : ByteArray) (h1 : 1 ≤ sep.size) (h2 : sep.size ≤ s.size) (hs : s.size < 4294967281) (w : World) :
    Calls Tryz.prog 242 #[.string s, .string sep] w fun e w' => e = .returned (.int .i64 (Lib.index s.data.toList sep.data.toList)) ∧ w' = w := Any.bytealg_IndexRabinKarp Tryz.lays267 s sep h1 h2 hs w
def Tryz.lays219_ren : Go.Shelf.Ren := ⟨fun | 219 => 223 | 217 => 239 | 225 => 240 | 224 => 241 | 267 => 242 | 266 => 255 | 314 => 256 | n => n, fun | 9 => 9 | 3 => 3 | 4 => 4 | 5 => 5 | 46 => 321 | 146 => 342 | 51 => 341 | n => n, fun | 1 => 3 | n => n⟩
theorem Tryz.lays219 : Go.Proofs.Lays.n219 Tryz.prog Tryz.lays219_ren := {
  mixed := by kernel_rfl
  f217 := Tryz.func239.trans (congrArg some (by kernel_rfl))
  f219 := Tryz.func223.trans (congrArg some (by kernel_rfl))
  f224 := Tryz.func241.trans (congrArg some (by kernel_rfl))
  f225 := Tryz.func240.trans (congrArg some (by kernel_rfl))
  f266 := Tryz.func255.trans (congrArg some (by kernel_rfl))
  f267 := Tryz.func242.trans (congrArg some (by kernel_rfl))
  f314 := Tryz.func256.trans (congrArg some (by kernel_rfl))
  t3 := Tryz.underlying3
  a3 := Tryz.isAgg3
  z3 := Tryz.sizeOf3
  v3 := Tryz.zeroValue3
  t4 := Tryz.underlying4
  a4 := Tryz.isAgg4
  z4 := Tryz.sizeOf4
  v4 := Tryz.zeroValue4
  t5 := Tryz.underlying5
  a5 := Tryz.isAgg5
  z5 := Tryz.sizeOf5
  v5 := Tryz.zeroValue5
  t9 := Tryz.underlying9
  a9 := Tryz.isAgg9
  z9 := Tryz.sizeOf9
  v9 := Tryz.zeroValue9
  t46 := Tryz.underlying321
  a46 := Tryz.isAgg321
  z46 := Tryz.sizeOf321
  v46 := Tryz.zeroValue321
  t51 := Tryz.underlying341
  a51 := Tryz.isAgg341
  z51 := Tryz.sizeOf341
  v51 := Tryz.zeroValue341
  t146 := Tryz.underlying342
  a146 := Tryz.isAgg342
  z146 := Tryz.sizeOf342
  v146 := Tryz.zeroValue342
  g1 := by kernel_rfl }
open Go.RowKit Go.Lib in
theorem Tryz.stringslite_Index_one (s : ByteArray) (c : UInt8) (w : World) :
    Calls Tryz.prog 223 #[.string s, .string ⟨#[c]⟩] w fun e w' => e = .returned (.int .i64 (Lib.indexByte s.data.toList c)) ∧ w' = w := Any.stringslite_Index_one Tryz.lays219 s c w
open Go.RowKit Go.Lib in
theorem Tryz.stringslite_Index (s sub : ByteArray) (m : Int) (w : World) (hs : s.size < 4294967281) (hm : w.cell? ⟨3, 0, none⟩ = some (.int .i64 m)) :
    Calls Tryz.prog 223 #[.string s, .string sub] w fun e w' => e = .returned (.int .i64 (Lib.index s.data.toList sub.data.toList)) ∧ w' = w := Any.stringslite_Index Tryz.lays219 s sub m w hs hm
def Tryz.lays143_ren : Go.Shelf.Ren := ⟨fun | 143 => 196 | 219 => 223 | 217 => 239 | 225 => 240 | 224 => 241 | 267 => 242 | 266 => 255 | 314 => 256 | n => n, fun | 9 => 9 | 3 => 3 | 4 => 4 | 5 => 5 | 46 => 321 | 146 => 342 | 51 => 341 | n => n, fun | 1 => 3 | n => n⟩
theorem Tryz.lays143 : Go.Proofs.Lays.n143 Tryz.prog Tryz.lays143_ren := {
  mixed := by kernel_rfl
  f143 := Tryz.func196.trans (congrArg some (by kernel_rfl))
  f217 := Tryz.func239.trans (congrArg some (by kernel_rfl))
  f219 := Tryz.func223.trans (congrArg some (by kernel_rfl))
  f224 := Tryz.func241.trans (congrArg some (by kernel_rfl))
  f225 := Tryz.func240.trans (congrArg some (by kernel_rfl))
  f266 := Tryz.func255.trans (congrArg some (by kernel_rfl))
  f267 := Tryz.func242.trans (congrArg some (by kernel_rfl))
  f314 := Tryz.func256.trans (congrArg some (by kernel_rfl))
  t3 := Tryz.underlying3
  a3 := Tryz.isAgg3
  z3 := Tryz.sizeOf3
  v3 := Tryz.zeroValue3
  t4 := Tryz.underlying4
  a4 := Tryz.isAgg4
  z4 := Tryz.sizeOf4
  v4 := Tryz.zeroValue4
  t5 := Tryz.underlying5
  a5 := Tryz.isAgg5
  z5 := Tryz.sizeOf5
  v5 := Tryz.zeroValue5
  t9 := Tryz.underlying9
  a9 := Tryz.isAgg9
  z9 := Tryz.sizeOf9
  v9 := Tryz.zeroValue9
  t46 := Tryz.underlying321
  a46 := Tryz.isAgg321
  z46 := Tryz.sizeOf321
  v46 := Tryz.zeroValue321
  t51 := Tryz.underlying341
  a51 := Tryz.isAgg341
  z51 := Tryz.sizeOf341
  v51 := Tryz.zeroValue341
  t146 := Tryz.underlying342
  a146 := Tryz.isAgg342
  z146 := Tryz.sizeOf342
  v146 := Tryz.zeroValue342
  g1 := by kernel_rfl }
open Go.RowKit Go.Lib in
theorem Tryz.strings_Index_one (s : ByteArray) (c : UInt8) (w : World) :
    Calls Tryz.prog 196 #[.string s, .string ⟨#[c]⟩] w fun e w' => e = .returned (.int .i64 (Lib.indexByte s.data.toList c)) ∧ w' = w := Any.strings_Index_one Tryz.lays143 s c w
open Go.RowKit Go.Lib in
theorem Tryz.strings_Index (s sub : ByteArray) (m : Int) (w : World) (hs : s.size < 4294967281) (hm : w.cell? ⟨3, 0, none⟩ = some (.int .i64 m)) :
    Calls Tryz.prog 196 #[.string s, .string sub] w fun e w' => e = .returned (.int .i64 (Lib.index s.data.toList sub.data.toList)) ∧ w' = w := Any.strings_Index Tryz.lays143 s sub m w hs hm
def Tryz.lays144_ren : Go.Shelf.Ren := ⟨fun | 144 => 220 | 143 => 196 | 219 => 223 | 217 => 239 | 225 => 240 | 224 => 241 | 267 => 242 | 266 => 255 | 314 => 256 | n => n, fun | 9 => 9 | 4 => 4 | 3 => 3 | 5 => 5 | 46 => 321 | 146 => 342 | 51 => 341 | n => n, fun | 1 => 3 | n => n⟩
theorem Tryz.lays144 : Go.Proofs.Lays.n144 Tryz.prog Tryz.lays144_ren := {
  mixed := by kernel_rfl
  f143 := Tryz.func196.trans (congrArg some (by kernel_rfl))
  f144 := Tryz.func220.trans (congrArg some (by kernel_rfl))
  f217 := Tryz.func239.trans (congrArg some (by kernel_rfl))
  f219 := Tryz.func223.trans (congrArg some (by kernel_rfl))
  f224 := Tryz.func241.trans (congrArg some (by kernel_rfl))
  f225 := Tryz.func240.trans (congrArg some (by kernel_rfl))
  f266 := Tryz.func255.trans (congrArg some (by kernel_rfl))
  f267 := Tryz.func242.trans (congrArg some (by kernel_rfl))
  f314 := Tryz.func256.trans (congrArg some (by kernel_rfl))
  t3 := Tryz.underlying3
  a3 := Tryz.isAgg3
  z3 := Tryz.sizeOf3
  v3 := Tryz.zeroValue3
  t4 := Tryz.underlying4
  a4 := Tryz.isAgg4
  z4 := Tryz.sizeOf4
  v4 := Tryz.zeroValue4
  t5 := Tryz.underlying5
  a5 := Tryz.isAgg5
  z5 := Tryz.sizeOf5
  v5 := Tryz.zeroValue5
  t9 := Tryz.underlying9
  a9 := Tryz.isAgg9
  z9 := Tryz.sizeOf9
  v9 := Tryz.zeroValue9
  t46 := Tryz.underlying321
  a46 := Tryz.isAgg321
  z46 := Tryz.sizeOf321
  v46 := Tryz.zeroValue321
  t51 := Tryz.underlying341
  a51 := Tryz.isAgg341
  z51 := Tryz.sizeOf341
  v51 := Tryz.zeroValue341
  t146 := Tryz.underlying342
  a146 := Tryz.isAgg342
  z146 := Tryz.sizeOf342
  v146 := Tryz.zeroValue342
  g1 := by kernel_rfl }
open Go.RowKit Go.Lib in
theorem Tryz.strings_Contains_one (s : ByteArray) (c : UInt8) (w : World) :
    Calls Tryz.prog 220 #[.string s, .string ⟨#[c]⟩] w fun e w' => e = .returned (.bool (decide (0 ≤ Lib.indexByte s.data.toList c))) ∧ w' = w := Any.strings_Contains_one Tryz.lays144 s c w
open Go.RowKit Go.Lib in
theorem Tryz.strings_Contains (s sub : ByteArray) (m : Int) (w : World) (hs : s.size < 4294967281) (hm : w.cell? ⟨3, 0, none⟩ = some (.int .i64 m)) :
    Calls Tryz.prog 220 #[.string s, .string sub] w fun e w' => e = .returned (.bool (Lib.contains s.data.toList sub.data.toList)) ∧ w' = w := Any.strings_Contains Tryz.lays144 s sub m w hs hm
def Tryz.lays220_ren : Go.Shelf.Ren := ⟨fun | 220 => 236 | 219 => 223 | 217 => 239 | 225 => 240 | 224 => 241 | 267 => 242 | 266 => 255 | 314 => 256 | n => n, fun | 9 => 9 | 4 => 4 | 3 => 3 | 5 => 5 | 46 => 321 | 146 => 342 | 51 => 341 | n => n, fun | 1 => 3 | n => n⟩
theorem Tryz.lays220 : Go.Proofs.Lays.n220 Tryz.prog Tryz.lays220_ren := {
  mixed := by kernel_rfl
  f217 := Tryz.func239.trans (congrArg some (by kernel_rfl))
  f219 := Tryz.func223.trans (congrArg some (by kernel_rfl))
  f220 := Tryz.func236.trans (congrArg some (by kernel_rfl))
  f224 := Tryz.func241.trans (congrArg some (by kernel_rfl))
  f225 := Tryz.func240.trans (congrArg some (by kernel_rfl))
  f266 := Tryz.func255.trans (congrArg some (by kernel_rfl))
  f267 := Tryz.func242.trans (congrArg some (by kernel_rfl))
  f314 := Tryz.func256.trans (congrArg some (by kernel_rfl))
  t3 := Tryz.underlying3
  a3 := Tryz.isAgg3
  z3 := Tryz.sizeOf3
  v3 := Tryz.zeroValue3
  t4 := Tryz.underlying4
  a4 := Tryz.isAgg4
  z4 := Tryz.sizeOf4
  v4 := Tryz.zeroValue4
  t5 := Tryz.underlying5
  a5 := Tryz.isAgg5
  z5 := Tryz.sizeOf5
  v5 := Tryz.zeroValue5
  t9 := Tryz.underlying9
  a9 := Tryz.isAgg9
  z9 := Tryz.sizeOf9
  v9 := Tryz.zeroValue9
  t46 := Tryz.underlying321
  a46 := Tryz.isAgg321
  z46 := Tryz.sizeOf321
  v46 := Tryz.zeroValue321
  t51 := Tryz.underlying341
  a51 := Tryz.isAgg341
  z51 := Tryz.sizeOf341
  v51 := Tryz.zeroValue341
  t146 := Tryz.underlying342
  a146 := Tryz.isAgg342
  z146 := Tryz.sizeOf342
  v146 := Tryz.zeroValue342
  g1 := by kernel_rfl }
open Go.RowKit Go.Lib in
theorem Tryz.stringslite_Cut (s sep : ByteArray) (m : Int) (w : World) (hs : s.size < 4294967281) (hm : w.cell? ⟨3, 0, none⟩ = some (.int .i64 m)) :
    Calls Tryz.prog 236 #[.string s, .string sep] w fun e w' => e = .returned (.tuple #[.string ⟨(Lib.cut s.data.toList sep.data.toList).1.toArray⟩, .string ⟨(Lib.cut s.data.toList sep.data.toList).2.1.toArray⟩, .bool (Lib.cut s.data.toList sep.data.toList).2.2]) ∧ ∃ n, w' = w.drewN n := Any.stringslite_Cut Tryz.lays220 s sep m w hs hm
def Tryz.lays145_ren : Go.Shelf.Ren := ⟨fun | 145 => 214 | 220 => 236 | 219 => 223 | 217 => 239 | 225 => 240 | 224 => 241 | 267 => 242 | 266 => 255 | 314 => 256 | n => n, fun | 9 => 9 | 4 => 4 | 59 => 287 | 3 => 3 | 5 => 5 | 46 => 321 | 146 => 342 | 51 => 341 | n => n, fun | 1 => 3 | n => n⟩
theorem Tryz.lays145 : Go.Proofs.Lays.n145 Tryz.prog Tryz.lays145_ren := {
  mixed := by kernel_rfl
  f145 := Tryz.func214.trans (congrArg some (by kernel_rfl))
  f217 := Tryz.func239.trans (congrArg some (by kernel_rfl))
  f219 := Tryz.func223.trans (congrArg some (by kernel_rfl))
  f220 := Tryz.func236.trans (congrArg some (by kernel_rfl))
  f224 := Tryz.func241.trans (congrArg some (by kernel_rfl))
  f225 := Tryz.func240.trans (congrArg some (by kernel_rfl))
  f266 := Tryz.func255.trans (congrArg some (by kernel_rfl))
  f267 := Tryz.func242.trans (congrArg some (by kernel_rfl))
  f314 := Tryz.func256.trans (congrArg some (by kernel_rfl))
  t3 := Tryz.underlying3
  a3 := Tryz.isAgg3
  z3 := Tryz.sizeOf3
  v3 := Tryz.zeroValue3
  t4 := Tryz.underlying4
  a4 := Tryz.isAgg4
  z4 := Tryz.sizeOf4
  v4 := Tryz.zeroValue4
  t5 := Tryz.underlying5
  a5 := Tryz.isAgg5
  z5 := Tryz.sizeOf5
  v5 := Tryz.zeroValue5
  t9 := Tryz.underlying9
  a9 := Tryz.isAgg9
  z9 := Tryz.sizeOf9
  v9 := Tryz.zeroValue9
  t46 := Tryz.underlying321
  a46 := Tryz.isAgg321
  z46 := Tryz.sizeOf321
  v46 := Tryz.zeroValue321
  t51 := Tryz.underlying341
  a51 := Tryz.isAgg341
  z51 := Tryz.sizeOf341
  v51 := Tryz.zeroValue341
  t59 := Tryz.underlying287
  a59 := Tryz.isAgg287
  z59 := Tryz.sizeOf287
  v59 := Tryz.zeroValue287
  t146 := Tryz.underlying342
  a146 := Tryz.isAgg342
  z146 := Tryz.sizeOf342
  v146 := Tryz.zeroValue342
  g1 := by kernel_rfl }
open Go.RowKit Go.Lib in
theorem Tryz.strings_Cut (s sep : ByteArray) (m : Int) (w : World) (hs : s.size < 4294967281) (hm : w.cell? ⟨3, 0, none⟩ = some (.int .i64 m)) :
    Calls Tryz.prog 214 #[.string s, .string sep] w fun e w' => e = .returned (.tuple #[.string ⟨(Lib.cut s.data.toList sep.data.toList).1.toArray⟩, .string ⟨(Lib.cut s.data.toList sep.data.toList).2.1.toArray⟩, .bool (Lib.cut s.data.toList sep.data.toList).2.2]) ∧ ∃ n, w' = w.drewN n := Any.strings_Cut Tryz.lays145 s sep m w hs hm
def Tryz.lays138_ren : Go.Shelf.Ren := ⟨fun | 138 => 213 | 195 => 234 | 218 => 235 | 143 => 196 | 219 => 223 | 217 => 239 | 225 => 240 | 224 => 241 | 267 => 242 | 266 => 255 | 314 => 256 | n => n, fun | 9 => 9 | 3 => 3 | 4 => 4 | 5 => 5 | 0 => 0 | 46 => 321 | 146 => 342 | 51 => 341 | n => n, fun | 1 => 3 | n => n⟩
theorem Tryz.lays138 : Go.Proofs.Lays.n138 Tryz.prog Tryz.lays138_ren := {
  mixed := by kernel_rfl
  f138 := Tryz.func213.trans (congrArg some (by kernel_rfl))
  f143 := Tryz.func196.trans (congrArg some (by kernel_rfl))
  f195 := Tryz.func234.trans (congrArg some (by kernel_rfl))
  f217 := Tryz.func239.trans (congrArg some (by kernel_rfl))
  f218 := Tryz.func235.trans (congrArg some (by kernel_rfl))
  f219 := Tryz.func223.trans (congrArg some (by kernel_rfl))
  f224 := Tryz.func241.trans (congrArg some (by kernel_rfl))
  f225 := Tryz.func240.trans (congrArg some (by kernel_rfl))
  f266 := Tryz.func255.trans (congrArg some (by kernel_rfl))
  f267 := Tryz.func242.trans (congrArg some (by kernel_rfl))
  f314 := Tryz.func256.trans (congrArg some (by kernel_rfl))
  t0 := Tryz.underlying0
  a0 := Tryz.isAgg0
  z0 := Tryz.sizeOf0
  v0 := Tryz.zeroValue0
  t3 := Tryz.underlying3
  a3 := Tryz.isAgg3
  z3 := Tryz.sizeOf3
  v3 := Tryz.zeroValue3
  t4 := Tryz.underlying4
  a4 := Tryz.isAgg4
  z4 := Tryz.sizeOf4
  v4 := Tryz.zeroValue4
  t5 := Tryz.underlying5
  a5 := Tryz.isAgg5
  z5 := Tryz.sizeOf5
  v5 := Tryz.zeroValue5
  t9 := Tryz.underlying9
  a9 := Tryz.isAgg9
  z9 := Tryz.sizeOf9
  v9 := Tryz.zeroValue9
  t46 := Tryz.underlying321
  a46 := Tryz.isAgg321
  z46 := Tryz.sizeOf321
  v46 := Tryz.zeroValue321
  t51 := Tryz.underlying341
  a51 := Tryz.isAgg341
  z51 := Tryz.sizeOf341
  v51 := Tryz.zeroValue341
  t146 := Tryz.underlying342
  a146 := Tryz.isAgg342
  z146 := Tryz.sizeOf342
  v146 := Tryz.zeroValue342
  g1 := by kernel_rfl }
open Go.RowKit Go.Lib in
theorem Tryz.strings_Count_one (s : ByteArray) (c : UInt8) (w : World) :
    Calls Tryz.prog 213 #[.string s, .string ⟨#[c]⟩] w fun e w' => e = .returned (.int .i64 (Lib.countByte s.data.toList c)) ∧ w' = w := Any.strings_Count_one Tryz.lays138 s c w
open Go.RowKit Go.Lib in
theorem Tryz.strings_Count (s sub : ByteArray) (m : Int) (w : World) (hs : s.size < 4294967281) (hm : w.cell? ⟨3, 0, none⟩ = some (.int .i64 m)) (h2 : 2 ≤ sub.size) :
    Calls Tryz.prog 213 #[.string s, .string sub] w fun e w' => e = .returned (.int .i64 (Lib.countB s sub)) ∧ w' = w := Any.strings_Count Tryz.lays138 s sub m w hs hm h2
def Tryz.laysM219_ren : Go.Shelf.Ren := ⟨fun | 219 => 223 | 217 => 239 | 225 => 240 | 224 => 241 | 267 => 242 | 266 => 255 | 314 => 256 | n => n, fun | 9 => 9 | 3 => 3 | 4 => 4 | 5 => 5 | 46 => 321 | 146 => 342 | 51 => 341 | n => n, fun | 1 => 3 | n => n⟩
theorem Tryz.laysM219 : Go.Proofs.LaysM.n219 Tryz.prog Tryz.laysM219_ren := {
  mixed := by kernel_rfl
  f217 := Tryz.func239.trans (congrArg some (by kernel_rfl))
  f219 := Tryz.func223.trans (congrArg some (by kernel_rfl))
  f224 := Tryz.func241.trans (congrArg some (by kernel_rfl))
  f225 := Tryz.func240.trans (congrArg some (by kernel_rfl))
  f266 := Tryz.func255.trans (congrArg some (by kernel_rfl))
  f267 := Tryz.func242.trans (congrArg some (by kernel_rfl))
  f314 := Tryz.func256.trans (congrArg some (by kernel_rfl))
  t3 := Tryz.underlying3
  a3 := Tryz.isAgg3
  z3 := Tryz.sizeOf3
  v3 := Tryz.zeroValue3
  t4 := Tryz.underlying4
  a4 := Tryz.isAgg4
  z4 := Tryz.sizeOf4
  v4 := Tryz.zeroValue4
  t5 := Tryz.underlying5
  a5 := Tryz.isAgg5
  z5 := Tryz.sizeOf5
  v5 := Tryz.zeroValue5
  t9 := Tryz.underlying9
  a9 := Tryz.isAgg9
  z9 := Tryz.sizeOf9
  v9 := Tryz.zeroValue9
  t46 := Tryz.underlying321
  a46 := Tryz.isAgg321
  z46 := Tryz.sizeOf321
  v46 := Tryz.zeroValue321
  t51 := Tryz.underlying341
  a51 := Tryz.isAgg341
  z51 := Tryz.sizeOf341
  v51 := Tryz.zeroValue341
  t146 := Tryz.underlying342
  a146 := Tryz.isAgg342
  z146 := Tryz.sizeOf342
  v146 := Tryz.zeroValue342
  g1 := by kernel_rfl
  i3 := by kernel_rfl
  i4 := by kernel_rfl
  i5 := by kernel_rfl
  i9 := by kernel_rfl
  i46 := by kernel_rfl
  i51 := by kernel_rfl
  i146 := by kernel_rfl
  m1 := by kernel_rfl
  s1_3 := fun w h => Go.Proofs.cell_of_shapedOpen_int (zero := #[.int .i64 0]) (t := 3) h (of_decide_eq_true (by kernel_rfl)) (by kernel_rfl) rfl (by kernel_rfl) (by kernel_rfl) Tryz.underlying3 }
open Go.RowKit Go.Lib in
theorem Tryz.stringslite_Index_shaped (s sub : ByteArray) (w : World) (h : w.ShapedOpen Tryz.prog) (hs : s.size < 4294967281) :
    Calls Tryz.prog 223 #[.string s, .string sub] w fun e w' => e = .returned (.int .i64 (Lib.index s.data.toList sub.data.toList)) ∧ w' = w := Any.stringslite_Index_shaped Tryz.laysM219 s sub w h hs
def Tryz.laysM143_ren : Go.Shelf.Ren := ⟨fun | 143 => 196 | 219 => 223 | 217 => 239 | 225 => 240 | 224 => 241 | 267 => 242 | 266 => 255 | 314 => 256 | n => n, fun | 9 => 9 | 3 => 3 | 4 => 4 | 5 => 5 | 46 => 321 | 146 => 342 | 51 => 341 | n => n, fun | 1 => 3 | n => n⟩
theorem Tryz.laysM143 : Go.Proofs.LaysM.n143 Tryz.prog Tryz.laysM143_ren := {
  mixed := by kernel_rfl
  f143 := Tryz.func196.trans (congrArg some (by kernel_rfl))
  f217 := Tryz.func239.trans (congrArg some (by kernel_rfl))
  f219 := Tryz.func223.trans (congrArg some (by kernel_rfl))
  f224 := Tryz.func241.trans (congrArg some (by kernel_rfl))
  f225 := Tryz.func240.trans (congrArg some (by kernel_rfl))
  f266 := Tryz.func255.trans (congrArg some (by kernel_rfl))
  f267 := Tryz.func242.trans (congrArg some (by kernel_rfl))
  f314 := Tryz.func256.trans (congrArg some (by kernel_rfl))
  t3 := Tryz.underlying3
  a3 := Tryz.isAgg3
  z3 := Tryz.sizeOf3
  v3 := Tryz.zeroValue3
  t4 := Tryz.underlying4
  a4 := Tryz.isAgg4
  z4 := Tryz.sizeOf4
  v4 := Tryz.zeroValue4
  t5 := Tryz.underlying5
  a5 := Tryz.isAgg5
  z5 := Tryz.sizeOf5
  v5 := Tryz.zeroValue5
  t9 := Tryz.underlying9
  a9 := Tryz.isAgg9
  z9 := Tryz.sizeOf9
  v9 := Tryz.zeroValue9
  t46 := Tryz.underlying321
  a46 := Tryz.isAgg321
  z46 := Tryz.sizeOf321
  v46 := Tryz.zeroValue321
  t51 := Tryz.underlying341
  a51 := Tryz.isAgg341
  z51 := Tryz.sizeOf341
  v51 := Tryz.zeroValue341
  t146 := Tryz.underlying342
  a146 := Tryz.isAgg342
  z146 := Tryz.sizeOf342
  v146 := Tryz.zeroValue342
  g1 := by kernel_rfl
  i3 := by kernel_rfl
  i4 := by kernel_rfl
  i5 := by kernel_rfl
  i9 := by kernel_rfl
  i46 := by kernel_rfl
  i51 := by kernel_rfl
  i146 := by kernel_rfl
  m1 := by kernel_rfl
  s1_3 := fun w h => Go.Proofs.cell_of_shapedOpen_int (zero := #[.int .i64 0]) (t := 3) h (of_decide_eq_true (by kernel_rfl)) (by kernel_rfl) rfl (by kernel_rfl) (by kernel_rfl) Tryz.underlying3 }
open Go.RowKit Go.Lib in
theorem Tryz.strings_Index_shaped (s sub : ByteArray) (w : World) (h : w.ShapedOpen Tryz.prog) (hs : s.size < 4294967281) :
    Calls Tryz.prog 196 #[.string s, .string sub] w fun e w' => e = .returned (.int .i64 (Lib.index s.data.toList sub.data.toList)) ∧ w' = w := Any.strings_Index_shaped Tryz.laysM143 s sub w h hs
def Tryz.laysM144_ren : Go.Shelf.Ren := ⟨fun | 144 => 220 | 143 => 196 | 219 => 223 | 217 => 239 | 225 => 240 | 224 => 241 | 267 => 242 | 266 => 255 | 314 => 256 | n => n, fun | 9 => 9 | 4 => 4 | 3 => 3 | 5 => 5 | 46 => 321 | 146 => 342 | 51 => 341 | n => n, fun | 1 => 3 | n => n⟩
theorem Tryz.laysM144 : Go.Proofs.LaysM.n144 Tryz.prog Tryz.laysM144_ren := {
  mixed := by kernel_rfl
  f143 := Tryz.func196.trans (congrArg some (by kernel_rfl))
  f144 := Tryz.func220.trans (congrArg some (by kernel_rfl))
  f217 := Tryz.func239.trans (congrArg some (by kernel_rfl))
  f219 := Tryz.func223.trans (congrArg some (by kernel_rfl))
  f224 := Tryz.func241.trans (congrArg some (by kernel_rfl))
  f225 := Tryz.func240.trans (congrArg some (by kernel_rfl))
  f266 := Tryz.func255.trans (congrArg some (by kernel_rfl))
  f267 := Tryz.func242.trans (congrArg some (by kernel_rfl))
  f314 := Tryz.func256.trans (congrArg some (by kernel_rfl))
  t3 := Tryz.underlying3
  a3 := Tryz.isAgg3
  z3 := Tryz.sizeOf3
  v3 := Tryz.zeroValue3
  t4 := Tryz.underlying4
  a4 := Tryz.isAgg4
  z4 := Tryz.sizeOf4
  v4 := Tryz.zeroValue4
  t5 := Tryz.underlying5
  a5 := Tryz.isAgg5
  z5 := Tryz.sizeOf5
  v5 := Tryz.zeroValue5
  t9 := Tryz.underlying9
  a9 := Tryz.isAgg9
  z9 := Tryz.sizeOf9
  v9 := Tryz.zeroValue9
  t46 := Tryz.underlying321
  a46 := Tryz.isAgg321
  z46 := Tryz.sizeOf321
  v46 := Tryz.zeroValue321
  t51 := Tryz.underlying341
  a51 := Tryz.isAgg341
  z51 := Tryz.sizeOf341
  v51 := Tryz.zeroValue341
  t146 := Tryz.underlying342
  a146 := Tryz.isAgg342
  z146 := Tryz.sizeOf342
  v146 := Tryz.zeroValue342
  g1 := by kernel_rfl
  i3 := by kernel_rfl
  i4 := by kernel_rfl
  i5 := by kernel_rfl
  i9 := by kernel_rfl
  i46 := by kernel_rfl
  i51 := by kernel_rfl
  i146 := by kernel_rfl
  m1 := by kernel_rfl
  s1_3 := fun w h => Go.Proofs.cell_of_shapedOpen_int (zero := #[.int .i64 0]) (t := 3) h (of_decide_eq_true (by kernel_rfl)) (by kernel_rfl) rfl (by kernel_rfl) (by kernel_rfl) Tryz.underlying3 }
open Go.RowKit Go.Lib in
theorem Tryz.strings_Contains_shaped (s sub : ByteArray) (w : World) (h : w.ShapedOpen Tryz.prog) (hs : s.size < 4294967281) :
    Calls Tryz.prog 220 #[.string s, .string sub] w fun e w' => e = .returned (.bool (Lib.contains s.data.toList sub.data.toList)) ∧ w' = w := Any.strings_Contains_shaped Tryz.laysM144 s sub w h hs
def Tryz.laysM220_ren : Go.Shelf.Ren := ⟨fun | 220 => 236 | 219 => 223 | 217 => 239 | 225 => 240 | 224 => 241 | 267 => 242 | 266 => 255 | 314 => 256 | n => n, fun | 9 => 9 | 4 => 4 | 3 => 3 | 5 => 5 | 46 => 321 | 146 => 342 | 51 => 341 | n => n, fun | 1 => 3 | n => n⟩
theorem Tryz.laysM220 : Go.Proofs.LaysM.n220 Tryz.prog Tryz.laysM220_ren := {
  mixed := by kernel_rfl
  f217 := Tryz.func239.trans (congrArg some (by kernel_rfl))
  f219 := Tryz.func223.trans (congrArg some (by kernel_rfl))
  f220 := Tryz.func236.trans (congrArg some (by kernel_rfl))
  f224 := Tryz.func241.trans (congrArg some (by kernel_rfl))
  f225 := Tryz.func240.trans (congrArg some (by kernel_rfl))
  f266 := Tryz.func255.trans (congrArg some (by kernel_rfl))
  f267 := Tryz.func242.trans (congrArg some (by kernel_rfl))
  f314 := Tryz.func256.trans (congrArg some (by kernel_rfl))
  t3 := Tryz.underlying3
  a3 := Tryz.isAgg3
  z3 := Tryz.sizeOf3
  v3 := Tryz.zeroValue3
  t4 := Tryz.underlying4
  a4 := Tryz.isAgg4
  z4 := Tryz.sizeOf4
  v4 := Tryz.zeroValue4
  t5 := Tryz.underlying5
  a5 := Tryz.isAgg5
  z5 := Tryz.sizeOf5
  v5 := Tryz.zeroValue5
  t9 := Tryz.underlying9
  a9 := Tryz.isAgg9
  z9 := Tryz.sizeOf9
  v9 := Tryz.zeroValue9
  t46 := Tryz.underlying321
  a46 := Tryz.isAgg321
  z46 := Tryz.sizeOf321
  v46 := Tryz.zeroValue321
  t51 := Tryz.underlying341
  a51 := Tryz.isAgg341
  z51 := Tryz.sizeOf341
  v51 := Tryz.zeroValue341
  t146 := Tryz.underlying342
  a146 := Tryz.isAgg342
  z146 := Tryz.sizeOf342
  v146 := Tryz.zeroValue342
  g1 := by kernel_rfl
  i3 := by kernel_rfl
  i4 := by kernel_rfl
  i5 := by kernel_rfl
  i9 := by kernel_rfl
  i46 := by kernel_rfl
  i51 := by kernel_rfl
  i146 := by kernel_rfl
  m1 := by kernel_rfl
  s1_3 := fun w h => Go.Proofs.cell_of_shapedOpen_int (zero := #[.int .i64 0]) (t := 3) h (of_decide_eq_true (by kernel_rfl)) (by kernel_rfl) rfl (by kernel_rfl) (by kernel_rfl) Tryz.underlying3 }
open Go.RowKit Go.Lib in
theorem Tryz.stringslite_Cut_shaped (s sep : ByteArray) (w : World) (h : w.ShapedOpen Tryz.prog) (hs : s.size < 4294967281) :
    Calls Tryz.prog 236 #[.string s, .string sep] w fun e w' => e = .returned (.tuple #[.string ⟨(Lib.cut s.data.toList sep.data.toList).1.toArray⟩, .string ⟨(Lib.cut s.data.toList sep.data.toList).2.1.toArray⟩, .bool (Lib.cut s.data.toList sep.data.toList).2.2]) ∧ ∃ n, w' = w.drewN n := Any.stringslite_Cut_shaped Tryz.laysM220 s sep w h hs
def Tryz.laysM145_ren : Go.Shelf.Ren := ⟨fun | 145 => 214 | 220 => 236 | 219 => 223 | 217 => 239 | 225 => 240 | 224 => 241 | 267 => 242 | 266 => 255 | 314 => 256 | n => n, fun | 9 => 9 | 4 => 4 | 59 => 287 | 3 => 3 | 5 => 5 | 46 => 321 | 146 => 342 | 51 => 341 | n => n, fun | 1 => 3 | n => n⟩
theorem Tryz.laysM145 : Go.Proofs.LaysM.n145 Tryz.prog Tryz.laysM145_ren := {
  mixed := by kernel_rfl
  f145 := Tryz.func214.trans (congrArg some (by kernel_rfl))
  f217 := Tryz.func239.trans (congrArg some (by kernel_rfl))
  f219 := Tryz.func223.trans (congrArg some (by kernel_rfl))
  f220 := Tryz.func236.trans (congrArg some (by kernel_rfl))
  f224 := Tryz.func241.trans (congrArg some (by kernel_rfl))
  f225 := Tryz.func240.trans (congrArg some (by kernel_rfl))
  f266 := Tryz.func255.trans (congrArg some (by kernel_rfl))
  f267 := Tryz.func242.trans (congrArg some (by kernel_rfl))
  f314 := Tryz.func256.trans (congrArg some (by kernel_rfl))
  t3 := Tryz.underlying3
  a3 := Tryz.isAgg3
  z3 := Tryz.sizeOf3
  v3 := Tryz.zeroValue3
  t4 := Tryz.underlying4
  a4 := Tryz.isAgg4
  z4 := Tryz.sizeOf4
  v4 := Tryz.zeroValue4
  t5 := Tryz.underlying5
  a5 := Tryz.isAgg5
  z5 := Tryz.sizeOf5
  v5 := Tryz.zeroValue5
  t9 := Tryz.underlying9
  a9 := Tryz.isAgg9
  z9 := Tryz.sizeOf9
  v9 := Tryz.zeroValue9
  t46 := Tryz.underlying321
  a46 := Tryz.isAgg321
  z46 := Tryz.sizeOf321
  v46 := Tryz.zeroValue321
  t51 := Tryz.underlying341
  a51 := Tryz.isAgg341
  z51 := Tryz.sizeOf341
  v51 := Tryz.zeroValue341
  t59 := Tryz.underlying287
  a59 := Tryz.isAgg287
  z59 := Tryz.sizeOf287
  v59 := Tryz.zeroValue287
  t146 := Tryz.underlying342
  a146 := Tryz.isAgg342
  z146 := Tryz.sizeOf342
  v146 := Tryz.zeroValue342
  g1 := by kernel_rfl
  i3 := by kernel_rfl
  i4 := by kernel_rfl
  i5 := by kernel_rfl
  i9 := by kernel_rfl
  i46 := by kernel_rfl
  i51 := by kernel_rfl
  i59 := by kernel_rfl
  i146 := by kernel_rfl
  m1 := by kernel_rfl
  s1_3 := fun w h => Go.Proofs.cell_of_shapedOpen_int (zero := #[.int .i64 0]) (t := 3) h (of_decide_eq_true (by kernel_rfl)) (by kernel_rfl) rfl (by kernel_rfl) (by kernel_rfl) Tryz.underlying3 }
open Go.RowKit Go.Lib in
theorem Tryz.strings_Cut_shaped (s sep : ByteArray) (w : World) (h : w.ShapedOpen Tryz.prog) (hs : s.size < 4294967281) :
    Calls Tryz.prog 214 #[.string s, .string sep] w fun e w' => e = .returned (.tuple #[.string ⟨(Lib.cut s.data.toList sep.data.toList).1.toArray⟩, .string ⟨(Lib.cut s.data.toList sep.data.toList).2.1.toArray⟩, .bool (Lib.cut s.data.toList sep.data.toList).2.2]) ∧ ∃ n, w' = w.drewN n := Any.strings_Cut_shaped Tryz.laysM145 s sep w h hs
def Tryz.laysM138_ren : Go.Shelf.Ren := ⟨fun | 138 => 213 | 195 => 234 | 218 => 235 | 143 => 196 | 219 => 223 | 217 => 239 | 225 => 240 | 224 => 241 | 267 => 242 | 266 => 255 | 314 => 256 | n => n, fun | 9 => 9 | 3 => 3 | 4 => 4 | 5 => 5 | 0 => 0 | 46 => 321 | 146 => 342 | 51 => 341 | n => n, fun | 1 => 3 | n => n⟩
theorem Tryz.laysM138 : Go.Proofs.LaysM.n138 Tryz.prog Tryz.laysM138_ren := {
  mixed := by kernel_rfl
  f138 := Tryz.func213.trans (congrArg some (by kernel_rfl))
  f143 := Tryz.func196.trans (congrArg some (by kernel_rfl))
  f195 := Tryz.func234.trans (congrArg some (by kernel_rfl))
  f217 := Tryz.func239.trans (congrArg some (by kernel_rfl))
  f218 := Tryz.func235.trans (congrArg some (by kernel_rfl))
  f219 := Tryz.func223.trans (congrArg some (by kernel_rfl))
  f224 := Tryz.func241.trans (congrArg some (by kernel_rfl))
  f225 := Tryz.func240.trans (congrArg some (by kernel_rfl))
  f266 := Tryz.func255.trans (congrArg some (by kernel_rfl))
  f267 := Tryz.func242.trans (congrArg some (by kernel_rfl))
  f314 := Tryz.func256.trans (congrArg some (by kernel_rfl))
  t0 := Tryz.underlying0
  a0 := Tryz.isAgg0
  z0 := Tryz.sizeOf0
  v0 := Tryz.zeroValue0
  t3 := Tryz.underlying3
  a3 := Tryz.isAgg3
  z3 := Tryz.sizeOf3
  v3 := Tryz.zeroValue3
  t4 := Tryz.underlying4
  a4 := Tryz.isAgg4
  z4 := Tryz.sizeOf4
  v4 := Tryz.zeroValue4
  t5 := Tryz.underlying5
  a5 := Tryz.isAgg5
  z5 := Tryz.sizeOf5
  v5 := Tryz.zeroValue5
  t9 := Tryz.underlying9
  a9 := Tryz.isAgg9
  z9 := Tryz.sizeOf9
  v9 := Tryz.zeroValue9
  t46 := Tryz.underlying321
  a46 := Tryz.isAgg321
  z46 := Tryz.sizeOf321
  v46 := Tryz.zeroValue321
  t51 := Tryz.underlying341
  a51 := Tryz.isAgg341
  z51 := Tryz.sizeOf341
  v51 := Tryz.zeroValue341
  t146 := Tryz.underlying342
  a146 := Tryz.isAgg342
  z146 := Tryz.sizeOf342
  v146 := Tryz.zeroValue342
  g1 := by kernel_rfl
  i0 := by kernel_rfl
  i3 := by kernel_rfl
  i4 := by kernel_rfl
  i5 := by kernel_rfl
  i9 := by kernel_rfl
  i46 := by kernel_rfl
  i51 := by kernel_rfl
  i146 := by kernel_rfl
  m1 := by kernel_rfl
  s1_3 := fun w h => Go.Proofs.cell_of_shapedOpen_int (zero := #[.int .i64 0]) (t := 3) h (of_decide_eq_true (by kernel_rfl)) (by kernel_rfl) rfl (by kernel_rfl) (by kernel_rfl) Tryz.underlying3 }
open Go.RowKit Go.Lib in
theorem Tryz.strings_Count_shaped (s sub : ByteArray) (w : World) (h : w.ShapedOpen Tryz.prog) (hs : s.size < 4294967281) (h2 : 2 ≤ sub.size) :
    Calls Tryz.prog 213 #[.string s, .string sub] w fun e w' => e = .returned (.int .i64 (Lib.countB s sub)) ∧ w' = w := Any.strings_Count_shaped Tryz.laysM138 s sub w h hs h2
def Tryz.lays206_ren : Go.Shelf.Ren := ⟨fun | 206 => 224 | n => n, fun | 9 => 9 | 4 => 4 | 3 => 3 | n => n, fun | n => n⟩
theorem Tryz.lays206 : Go.Proofs.Lays.n206 Tryz.prog Tryz.lays206_ren := {
  mixed := by kernel_rfl
  f206 := Tryz.func224.trans (congrArg some (by kernel_rfl))
  t3 := Tryz.underlying3
  a3 := Tryz.isAgg3
  z3 := Tryz.sizeOf3
  v3 := Tryz.zeroValue3
  t4 := Tryz.underlying4
  a4 := Tryz.isAgg4
  z4 := Tryz.sizeOf4
  v4 := Tryz.zeroValue4
  t9 := Tryz.underlying9
  a9 := Tryz.isAgg9
  z9 := Tryz.sizeOf9
  v9 := Tryz.zeroValue9 }
open Go.RowKit Go.Lib in
theorem Tryz.stringslite_HasPrefix (s p : ByteArray) (w : World) :
    Calls Tryz.prog 224 #[.string s, .string p] w fun e w' => e = .returned (.bool (Lib.hasPrefix s.data.toList p.data.toList)) ∧ w' = w := Any.stringslite_HasPrefix Tryz.lays206 s p w
def Tryz.lays99_ren : Go.Shelf.Ren := ⟨fun | 99 => 219 | 206 => 224 | n => n, fun | 9 => 9 | 4 => 4 | 3 => 3 | n => n, fun | n => n⟩
theorem Tryz.lays99 : Go.Proofs.Lays.n99 Tryz.prog Tryz.lays99_ren := {
  mixed := by kernel_rfl
  f99 := Tryz.func219.trans (congrArg some (by kernel_rfl))
  f206 := Tryz.func224.trans (congrArg some (by kernel_rfl))
  t3 := Tryz.underlying3
  a3 := Tryz.isAgg3
  z3 := Tryz.sizeOf3
  v3 := Tryz.zeroValue3
  t4 := Tryz.underlying4
  a4 := Tryz.isAgg4
  z4 := Tryz.sizeOf4
  v4 := Tryz.zeroValue4
  t9 := Tryz.underlying9
  a9 := Tryz.isAgg9
  z9 := Tryz.sizeOf9
  v9 := Tryz.zeroValue9 }
open Go.RowKit Go.Lib in
theorem Tryz.strings_HasPrefix (s p : ByteArray) (w : World) :
    Calls Tryz.prog 219 #[.string s, .string p] w fun e w' => e = .returned (.bool (Lib.hasPrefix s.data.toList p.data.toList)) ∧ w' = w := Any.strings_HasPrefix Tryz.lays99 s p w
open Go.RowKit Go.Lib in
theorem Tryz.strings_Count_any (s sep : ByteArray) (m : Int) (w : World) (hs : s.size < 4294967281) (hm : w.cell? ⟨3, 0, none⟩ = some (.int .i64 m)) (h1 : 1 ≤ sep.size) :
    Calls Tryz.prog 213 #[.string s, .string sep] w fun e w' => e = .returned (.int .i64 (Lib.countB s sep)) ∧ w' = w := Any.strings_Count_any Tryz.lays138 s sep m w hs hm h1
def Tryz.lays221_ren : Go.Shelf.Ren := ⟨fun | 221 => 181 | 268 => 212 | 138 => 213 | 143 => 196 | 195 => 234 | 197 => 195 | 218 => 235 | 219 => 223 | 260 => 222 | 217 => 239 | 225 => 240 | 224 => 241 | 267 => 242 | 266 => 255 | 314 => 256 | n => n, fun | 9 => 9 | 3 => 3 | 31 => 22 | 4 => 4 | 0 => 0 | 105 => 264 | 21 => 21 | 5 => 5 | 46 => 321 | 119 => 332 | 139 => 335 | 138 => 334 | 146 => 342 | 51 => 341 | n => n, fun | 1 => 3 | 3 => 1 | 4 => 2 | n => n⟩
theorem Tryz.lays221 : Go.Proofs.Lays.n221 Tryz.prog Tryz.lays221_ren := {
  mixed := by kernel_rfl
  f138 := Tryz.func213.trans (congrArg some (by kernel_rfl))
  f143 := Tryz.func196.trans (congrArg some (by kernel_rfl))
  f195 := Tryz.func234.trans (congrArg some (by kernel_rfl))
  f197 := Tryz.func195.trans (congrArg some (by kernel_rfl))
  f217 := Tryz.func239.trans (congrArg some (by kernel_rfl))
  f218 := Tryz.func235.trans (congrArg some (by kernel_rfl))
  f219 := Tryz.func223.trans (congrArg some (by kernel_rfl))
  f221 := Tryz.func181.trans (congrArg some (by kernel_rfl))
  f224 := Tryz.func241.trans (congrArg some (by kernel_rfl))
  f225 := Tryz.func240.trans (congrArg some (by kernel_rfl))
  f260 := Tryz.func222.trans (congrArg some (by kernel_rfl))
  f266 := Tryz.func255.trans (congrArg some (by kernel_rfl))
  f267 := Tryz.func242.trans (congrArg some (by kernel_rfl))
  f268 := Tryz.func212.trans (congrArg some (by kernel_rfl))
  f314 := Tryz.func256.trans (congrArg some (by kernel_rfl))
  t0 := Tryz.underlying0
  a0 := Tryz.isAgg0
  z0 := Tryz.sizeOf0
  v0 := Tryz.zeroValue0
  t3 := Tryz.underlying3
  a3 := Tryz.isAgg3
  z3 := Tryz.sizeOf3
  v3 := Tryz.zeroValue3
  t4 := Tryz.underlying4
  a4 := Tryz.isAgg4
  z4 := Tryz.sizeOf4
  v4 := Tryz.zeroValue4
  t5 := Tryz.underlying5
  a5 := Tryz.isAgg5
  z5 := Tryz.sizeOf5
  v5 := Tryz.zeroValue5
  t9 := Tryz.underlying9
  a9 := Tryz.isAgg9
  z9 := Tryz.sizeOf9
  v9 := Tryz.zeroValue9
  t21 := Tryz.underlying21
  a21 := Tryz.isAgg21
  z21 := Tryz.sizeOf21
  v21 := Tryz.zeroValue21
  t31 := Tryz.underlying22
  a31 := Tryz.isAgg22
  z31 := Tryz.sizeOf22
  v31 := Tryz.zeroValue22
  t46 := Tryz.underlying321
  a46 := Tryz.isAgg321
  z46 := Tryz.sizeOf321
  v46 := Tryz.zeroValue321
  t51 := Tryz.underlying341
  a51 := Tryz.isAgg341
  z51 := Tryz.sizeOf341
  v51 := Tryz.zeroValue341
  t105 := Tryz.underlying264
  a105 := Tryz.isAgg264
  z105 := Tryz.sizeOf264
  v105 := Tryz.zeroValue264
  t119 := Tryz.underlying332
  a119 := Tryz.isAgg332
  z119 := Tryz.sizeOf332
  t138 := Tryz.underlying334
  a138 := Tryz.isAgg334
  z138 := Tryz.sizeOf334
  v138 := Tryz.zeroValue334
  t139 := Tryz.underlying335
  a139 := Tryz.isAgg335
  z139 := Tryz.sizeOf335
  v139 := Tryz.zeroValue335
  t146 := Tryz.underlying342
  a146 := Tryz.isAgg342
  z146 := Tryz.sizeOf342
  v146 := Tryz.zeroValue342
  g1 := by kernel_rfl
  g3 := by kernel_rfl
  g4 := by kernel_rfl }
open Go.RowKit Go.Lib in
theorem Tryz.strings_genSplit (s sep : ByteArray) (sv : Nat) (n : Int) (N : Nat) (m : Int) (w : World) (hs : s.size < 4294967281) (hm : w.cell? ⟨3, 0, none⟩ = some (.int .i64 m)) (h1 : 1 ≤ sep.size) (hsv : sv ≤ sep.size) (hn0 : n ≠ 0) (hn63 : n ≤ 9223372036854775807) (hN : (N : Int) = min (if n < 0 then (Lib.countB s sep : Int) + 1 else n) ((s.size : Int) + 1)) :
    Calls Tryz.prog 181 #[.string s, .string sep, .int .i64 sv, .int .i64 n] w fun e w' =>
      e = .returned (.slice (some ⟨w.heap.size, 0, none⟩) (Lib.splitB sep sv (N - 1) s).length N) ∧ w' = w.alloc (.cells (Lib.cellsOf (Lib.splitB sep sv (N - 1) s) N) 9) := Any.strings_genSplit Tryz.lays221 (by kernel_rfl) s sep sv n N m w hs hm h1 hsv hn0 hn63 hN
def Tryz.lays146_ren : Go.Shelf.Ren := ⟨fun | 146 => 126 | 221 => 181 | 268 => 212 | 138 => 213 | 143 => 196 | 195 => 234 | 197 => 195 | 218 => 235 | 219 => 223 | 260 => 222 | 217 => 239 | 225 => 240 | 224 => 241 | 267 => 242 | 266 => 255 | 314 => 256 | n => n, fun | 9 => 9 | 31 => 22 | 3 => 3 | 4 => 4 | 0 => 0 | 105 => 264 | 21 => 21 | 5 => 5 | 46 => 321 | 119 => 332 | 139 => 335 | 138 => 334 | 146 => 342 | 51 => 341 | n => n, fun | 1 => 3 | 3 => 1 | 4 => 2 | n => n⟩
theorem Tryz.lays146 : Go.Proofs.Lays.n146 Tryz.prog Tryz.lays146_ren := {
  mixed := by kernel_rfl
  f138 := Tryz.func213.trans (congrArg some (by kernel_rfl))
  f143 := Tryz.func196.trans (congrArg some (by kernel_rfl))
  f146 := Tryz.func126.trans (congrArg some (by kernel_rfl))
  f195 := Tryz.func234.trans (congrArg some (by kernel_rfl))
  f197 := Tryz.func195.trans (congrArg some (by kernel_rfl))
  f217 := Tryz.func239.trans (congrArg some (by kernel_rfl))
  f218 := Tryz.func235.trans (congrArg some (by kernel_rfl))
  f219 := Tryz.func223.trans (congrArg some (by kernel_rfl))
  f221 := Tryz.func181.trans (congrArg some (by kernel_rfl))
  f224 := Tryz.func241.trans (congrArg some (by kernel_rfl))
  f225 := Tryz.func240.trans (congrArg some (by kernel_rfl))
  f260 := Tryz.func222.trans (congrArg some (by kernel_rfl))
  f266 := Tryz.func255.trans (congrArg some (by kernel_rfl))
  f267 := Tryz.func242.trans (congrArg some (by kernel_rfl))
  f268 := Tryz.func212.trans (congrArg some (by kernel_rfl))
  f314 := Tryz.func256.trans (congrArg some (by kernel_rfl))
  t0 := Tryz.underlying0
  a0 := Tryz.isAgg0
  z0 := Tryz.sizeOf0
  v0 := Tryz.zeroValue0
  t3 := Tryz.underlying3
  a3 := Tryz.isAgg3
  z3 := Tryz.sizeOf3
  v3 := Tryz.zeroValue3
  t4 := Tryz.underlying4
  a4 := Tryz.isAgg4
  z4 := Tryz.sizeOf4
  v4 := Tryz.zeroValue4
  t5 := Tryz.underlying5
  a5 := Tryz.isAgg5
  z5 := Tryz.sizeOf5
  v5 := Tryz.zeroValue5
  t9 := Tryz.underlying9
  a9 := Tryz.isAgg9
  z9 := Tryz.sizeOf9
  v9 := Tryz.zeroValue9
  t21 := Tryz.underlying21
  a21 := Tryz.isAgg21
  z21 := Tryz.sizeOf21
  v21 := Tryz.zeroValue21
  t31 := Tryz.underlying22
  a31 := Tryz.isAgg22
  z31 := Tryz.sizeOf22
  v31 := Tryz.zeroValue22
  t46 := Tryz.underlying321
  a46 := Tryz.isAgg321
  z46 := Tryz.sizeOf321
  v46 := Tryz.zeroValue321
  t51 := Tryz.underlying341
  a51 := Tryz.isAgg341
  z51 := Tryz.sizeOf341
  v51 := Tryz.zeroValue341
  t105 := Tryz.underlying264
  a105 := Tryz.isAgg264
  z105 := Tryz.sizeOf264
  v105 := Tryz.zeroValue264
  t119 := Tryz.underlying332
  a119 := Tryz.isAgg332
  z119 := Tryz.sizeOf332
  t138 := Tryz.underlying334
  a138 := Tryz.isAgg334
  z138 := Tryz.sizeOf334
  v138 := Tryz.zeroValue334
  t139 := Tryz.underlying335
  a139 := Tryz.isAgg335
  z139 := Tryz.sizeOf335
  v139 := Tryz.zeroValue335
  t146 := Tryz.underlying342
  a146 := Tryz.isAgg342
  z146 := Tryz.sizeOf342
  v146 := Tryz.zeroValue342
  g1 := by kernel_rfl
  g3 := by kernel_rfl
  g4 := by kernel_rfl }
open Go.RowKit Go.Lib in
theorem Tryz.strings_Split (s sep : ByteArray) (m : Int) (w : World) (hs : s.size < 4294967281) (hm : w.cell? ⟨3, 0, none⟩ = some (.int .i64 m)) (h1 : 1 ≤ sep.size) :
    Calls Tryz.prog 126 #[.string s, .string sep] w fun e w' =>
      e = .returned (.slice (some ⟨w.heap.size, 0, none⟩) (Lib.countB s sep + 1) (Lib.countB s sep + 1)) ∧ w' = w.alloc (.cells ((Lib.splitB sep 0 (Lib.countB s sep) s).map Value.string).toArray 9) := Any.strings_Split Tryz.lays146 (by kernel_rfl) s sep m w hs hm h1
def Tryz.laysM146_ren : Go.Shelf.Ren := ⟨fun | 146 => 126 | 221 => 181 | 268 => 212 | 138 => 213 | 143 => 196 | 195 => 234 | 197 => 195 | 218 => 235 | 219 => 223 | 260 => 222 | 217 => 239 | 225 => 240 | 224 => 241 | 267 => 242 | 266 => 255 | 314 => 256 | n => n, fun | 9 => 9 | 31 => 22 | 3 => 3 | 4 => 4 | 0 => 0 | 105 => 264 | 21 => 21 | 5 => 5 | 46 => 321 | 119 => 332 | 139 => 335 | 138 => 334 | 146 => 342 | 51 => 341 | n => n, fun | 1 => 3 | 3 => 1 | 4 => 2 | n => n⟩
theorem Tryz.laysM146 : Go.Proofs.LaysM.n146 Tryz.prog Tryz.laysM146_ren := {
  mixed := by kernel_rfl
  f138 := Tryz.func213.trans (congrArg some (by kernel_rfl))
  f143 := Tryz.func196.trans (congrArg some (by kernel_rfl))
  f146 := Tryz.func126.trans (congrArg some (by kernel_rfl))
  f195 := Tryz.func234.trans (congrArg some (by kernel_rfl))
  f197 := Tryz.func195.trans (congrArg some (by kernel_rfl))
  f217 := Tryz.func239.trans (congrArg some (by kernel_rfl))
  f218 := Tryz.func235.trans (congrArg some (by kernel_rfl))
  f219 := Tryz.func223.trans (congrArg some (by kernel_rfl))
  f221 := Tryz.func181.trans (congrArg some (by kernel_rfl))
  f224 := Tryz.func241.trans (congrArg some (by kernel_rfl))
  f225 := Tryz.func240.trans (congrArg some (by kernel_rfl))
  f260 := Tryz.func222.trans (congrArg some (by kernel_rfl))
  f266 := Tryz.func255.trans (congrArg some (by kernel_rfl))
  f267 := Tryz.func242.trans (congrArg some (by kernel_rfl))
  f268 := Tryz.func212.trans (congrArg some (by kernel_rfl))
  f314 := Tryz.func256.trans (congrArg some (by kernel_rfl))
  t0 := Tryz.underlying0
  a0 := Tryz.isAgg0
  z0 := Tryz.sizeOf0
  v0 := Tryz.zeroValue0
  t3 := Tryz.underlying3
  a3 := Tryz.isAgg3
  z3 := Tryz.sizeOf3
  v3 := Tryz.zeroValue3
  t4 := Tryz.underlying4
  a4 := Tryz.isAgg4
  z4 := Tryz.sizeOf4
  v4 := Tryz.zeroValue4
  t5 := Tryz.underlying5
  a5 := Tryz.isAgg5
  z5 := Tryz.sizeOf5
  v5 := Tryz.zeroValue5
  t9 := Tryz.underlying9
  a9 := Tryz.isAgg9
  z9 := Tryz.sizeOf9
  v9 := Tryz.zeroValue9
  t21 := Tryz.underlying21
  a21 := Tryz.isAgg21
  z21 := Tryz.sizeOf21
  v21 := Tryz.zeroValue21
  t31 := Tryz.underlying22
  a31 := Tryz.isAgg22
  z31 := Tryz.sizeOf22
  v31 := Tryz.zeroValue22
  t46 := Tryz.underlying321
  a46 := Tryz.isAgg321
  z46 := Tryz.sizeOf321
  v46 := Tryz.zeroValue321
  t51 := Tryz.underlying341
  a51 := Tryz.isAgg341
  z51 := Tryz.sizeOf341
  v51 := Tryz.zeroValue341
  t105 := Tryz.underlying264
  a105 := Tryz.isAgg264
  z105 := Tryz.sizeOf264
  v105 := Tryz.zeroValue264
  t119 := Tryz.underlying332
  a119 := Tryz.isAgg332
  z119 := Tryz.sizeOf332
  t138 := Tryz.underlying334
  a138 := Tryz.isAgg334
  z138 := Tryz.sizeOf334
  v138 := Tryz.zeroValue334
  t139 := Tryz.underlying335
  a139 := Tryz.isAgg335
  z139 := Tryz.sizeOf335
  v139 := Tryz.zeroValue335
  t146 := Tryz.underlying342
  a146 := Tryz.isAgg342
  z146 := Tryz.sizeOf342
  v146 := Tryz.zeroValue342
  g1 := by kernel_rfl
  g3 := by kernel_rfl
  g4 := by kernel_rfl
  i0 := by kernel_rfl
  i3 := by kernel_rfl
  i4 := by kernel_rfl
  i5 := by kernel_rfl
  i9 := by kernel_rfl
  i21 := by kernel_rfl
  i31 := by kernel_rfl
  i46 := by kernel_rfl
  i51 := by kernel_rfl
  i105 := by kernel_rfl
  i138 := by kernel_rfl
  i139 := by kernel_rfl
  i146 := by kernel_rfl
  m1 := by kernel_rfl
  s1_3 := fun w h => Go.Proofs.cell_of_shapedOpen_int (zero := #[.int .i64 0]) (t := 3) h (of_decide_eq_true (by kernel_rfl)) (by kernel_rfl) rfl (by kernel_rfl) (by kernel_rfl) Tryz.underlying3
  m3 := by kernel_rfl
  m4 := by kernel_rfl }
open Go.RowKit Go.Lib in
theorem Tryz.strings_Split_shaped (s sep : ByteArray) (w : World) (h : w.ShapedOpen Tryz.prog) (hs : s.size < 4294967281) (h1 : 1 ≤ sep.size) :
    Calls Tryz.prog 126 #[.string s, .string sep] w fun e w' =>
      e = .returned (.slice (some ⟨w.heap.size, 0, none⟩) (Lib.countB s sep + 1) (Lib.countB s sep + 1)) ∧ w' = w.alloc (.cells ((Lib.splitB sep 0 (Lib.countB s sep) s).map Value.string).toArray 9) := Any.strings_Split_shaped Tryz.laysM146 s sep w h hs h1
def Tryz.lays197_ren : Go.Shelf.Ren := ⟨fun | 197 => 195 | 260 => 222 | n => n, fun | 9 => 9 | 21 => 21 | 3 => 3 | 4 => 4 | 5 => 5 | 105 => 264 | 119 => 332 | 0 => 0 | 46 => 321 | 139 => 335 | 138 => 334 | n => n, fun | 3 => 1 | 4 => 2 | n => n⟩
theorem Tryz.lays197 : Go.Proofs.Lays.n197 Tryz.prog Tryz.lays197_ren := {
  mixed := by kernel_rfl
  f197 := Tryz.func195.trans (congrArg some (by kernel_rfl))
  f260 := Tryz.func222.trans (congrArg some (by kernel_rfl))
  t0 := Tryz.underlying0
  a0 := Tryz.isAgg0
  z0 := Tryz.sizeOf0
  v0 := Tryz.zeroValue0
  t3 := Tryz.underlying3
  a3 := Tryz.isAgg3
  z3 := Tryz.sizeOf3
  v3 := Tryz.zeroValue3
  t4 := Tryz.underlying4
  a4 := Tryz.isAgg4
  z4 := Tryz.sizeOf4
  v4 := Tryz.zeroValue4
  t5 := Tryz.underlying5
  a5 := Tryz.isAgg5
  z5 := Tryz.sizeOf5
  v5 := Tryz.zeroValue5
  t9 := Tryz.underlying9
  a9 := Tryz.isAgg9
  z9 := Tryz.sizeOf9
  v9 := Tryz.zeroValue9
  t21 := Tryz.underlying21
  a21 := Tryz.isAgg21
  z21 := Tryz.sizeOf21
  v21 := Tryz.zeroValue21
  t46 := Tryz.underlying321
  a46 := Tryz.isAgg321
  z46 := Tryz.sizeOf321
  v46 := Tryz.zeroValue321
  t105 := Tryz.underlying264
  a105 := Tryz.isAgg264
  z105 := Tryz.sizeOf264
  v105 := Tryz.zeroValue264
  t119 := Tryz.underlying332
  a119 := Tryz.isAgg332
  z119 := Tryz.sizeOf332
  t138 := Tryz.underlying334
  a138 := Tryz.isAgg334
  z138 := Tryz.sizeOf334
  v138 := Tryz.zeroValue334
  t139 := Tryz.underlying335
  a139 := Tryz.isAgg335
  z139 := Tryz.sizeOf335
  v139 := Tryz.zeroValue335
  g3 := by kernel_rfl
  g4 := by kernel_rfl }
open Go.RowKit Go.Lib in
theorem Tryz.utf8_DecodeRuneInString_ascii (s : ByteArray) (x : UInt8) (w : World) (h0 : s.data.toList[0]? = some x) (hx : x.toNat < 128) :
    Calls Tryz.prog 195 #[.string s] w fun e w' => e = .returned (.tuple #[.int .i32 x.toNat, .int .i64 1]) ∧ w' = w := Any.utf8_DecodeRuneInString_ascii Tryz.lays197 s x w h0 hx
def Tryz.lays152_ren : Go.Shelf.Ren := ⟨fun | 152 => 261 | 137 => 263 | 119 => 264 | 224 => 241 | 225 => 240 | 217 => 239 | 266 => 255 | n => n, fun | 9 => 9 | 21 => 21 | 3 => 3 | 4 => 4 | 5 => 5 | 0 => 0 | 46 => 321 | n => n, fun | n => n⟩
theorem Tryz.lays152 : Go.Proofs.Lays.n152 Tryz.prog Tryz.lays152_ren := {
  mixed := by kernel_rfl
  f119 := Tryz.func264.trans (congrArg some (by kernel_rfl))
  f137 := Tryz.func263.trans (congrArg some (by kernel_rfl))
  f152 := Tryz.func261.trans (congrArg some (by kernel_rfl))
  f217 := Tryz.func239.trans (congrArg some (by kernel_rfl))
  f224 := Tryz.func241.trans (congrArg some (by kernel_rfl))
  f225 := Tryz.func240.trans (congrArg some (by kernel_rfl))
  f266 := Tryz.func255.trans (congrArg some (by kernel_rfl))
  t0 := Tryz.underlying0
  a0 := Tryz.isAgg0
  z0 := Tryz.sizeOf0
  v0 := Tryz.zeroValue0
  t3 := Tryz.underlying3
  a3 := Tryz.isAgg3
  z3 := Tryz.sizeOf3
  v3 := Tryz.zeroValue3
  t4 := Tryz.underlying4
  a4 := Tryz.isAgg4
  z4 := Tryz.sizeOf4
  v4 := Tryz.zeroValue4
  t5 := Tryz.underlying5
  a5 := Tryz.isAgg5
  z5 := Tryz.sizeOf5
  v5 := Tryz.zeroValue5
  t9 := Tryz.underlying9
  a9 := Tryz.isAgg9
  z9 := Tryz.sizeOf9
  v9 := Tryz.zeroValue9
  t21 := Tryz.underlying21
  a21 := Tryz.isAgg21
  z21 := Tryz.sizeOf21
  v21 := Tryz.zeroValue21
  t46 := Tryz.underlying321
  a46 := Tryz.isAgg321
  z46 := Tryz.sizeOf321
  v46 := Tryz.zeroValue321 }
open Go.RowKit Go.Lib in
theorem Tryz.strings_IndexRune_ascii (s : ByteArray) (r : Int) (w : World) (h0 : 0 ≤ r) (h1 : r < 128) :
    Calls Tryz.prog 261 #[.string s, .int .i32 r] w fun e w' => e = .returned (.int .i64 (Lib.indexByte s.data.toList r.toNat.toUInt8)) ∧ w' = w := Any.strings_IndexRune_ascii Tryz.lays152 s r w h0 h1
def Tryz.lays151_ren : Go.Shelf.Ren := ⟨fun | 151 => 259 | 152 => 261 | 137 => 263 | 119 => 264 | 224 => 241 | 225 => 240 | 217 => 239 | 266 => 255 | n => n, fun | 9 => 9 | 21 => 21 | 4 => 4 | 3 => 3 | 5 => 5 | 0 => 0 | 46 => 321 | n => n, fun | n => n⟩
theorem Tryz.lays151 : Go.Proofs.Lays.n151 Tryz.prog Tryz.lays151_ren := {
  mixed := by kernel_rfl
  f119 := Tryz.func264.trans (congrArg some (by kernel_rfl))
  f137 := Tryz.func263.trans (congrArg some (by kernel_rfl))
  f151 := Tryz.func259.trans (congrArg some (by kernel_rfl))
  f152 := Tryz.func261.trans (congrArg some (by kernel_rfl))
  f217 := Tryz.func239.trans (congrArg some (by kernel_rfl))
  f224 := Tryz.func241.trans (congrArg some (by kernel_rfl))
  f225 := Tryz.func240.trans (congrArg some (by kernel_rfl))
  f266 := Tryz.func255.trans (congrArg some (by kernel_rfl))
  t0 := Tryz.underlying0
  a0 := Tryz.isAgg0
  z0 := Tryz.sizeOf0
  v0 := Tryz.zeroValue0
  t3 := Tryz.underlying3
  a3 := Tryz.isAgg3
  z3 := Tryz.sizeOf3
  v3 := Tryz.zeroValue3
  t4 := Tryz.underlying4
  a4 := Tryz.isAgg4
  z4 := Tryz.sizeOf4
  v4 := Tryz.zeroValue4
  t5 := Tryz.underlying5
  a5 := Tryz.isAgg5
  z5 := Tryz.sizeOf5
  v5 := Tryz.zeroValue5
  t9 := Tryz.underlying9
  a9 := Tryz.isAgg9
  z9 := Tryz.sizeOf9
  v9 := Tryz.zeroValue9
  t21 := Tryz.underlying21
  a21 := Tryz.isAgg21
  z21 := Tryz.sizeOf21
  v21 := Tryz.zeroValue21
  t46 := Tryz.underlying321
  a46 := Tryz.isAgg321
  z46 := Tryz.sizeOf321
  v46 := Tryz.zeroValue321 }
open Go.RowKit Go.Lib in
theorem Tryz.strings_ContainsRune_ascii (s : ByteArray) (r : Int) (w : World) (h0 : 0 ≤ r) (h1 : r < 128) :
    Calls Tryz.prog 259 #[.string s, .int .i32 r] w fun e w' => e = .returned (.bool (decide (0 ≤ Lib.indexByte s.data.toList r.toNat.toUInt8))) ∧ w' = w := Any.strings_ContainsRune_ascii Tryz.lays151 s r w h0 h1
def Tryz.lays227_ren : Go.Shelf.Ren := ⟨fun | 227 => 250 | n => n, fun | 9 => 9 | 116 => 348 | 4 => 4 | 0 => 0 | 3 => 3 | 5 => 5 | n => n, fun | n => n⟩
theorem Tryz.lays227 : Go.Proofs.Lays.n227 Tryz.prog Tryz.lays227_ren := {
  mixed := by kernel_rfl
  f227 := Tryz.func250.trans (congrArg some (by kernel_rfl))
  t0 := Tryz.underlying0
  a0 := Tryz.isAgg0
  z0 := Tryz.sizeOf0
  v0 := Tryz.zeroValue0
  t3 := Tryz.underlying3
  a3 := Tryz.isAgg3
  z3 := Tryz.sizeOf3
  v3 := Tryz.zeroValue3
  t4 := Tryz.underlying4
  a4 := Tryz.isAgg4
  z4 := Tryz.sizeOf4
  v4 := Tryz.zeroValue4
  t5 := Tryz.underlying5
  a5 := Tryz.isAgg5
  z5 := Tryz.sizeOf5
  v5 := Tryz.zeroValue5
  t9 := Tryz.underlying9
  a9 := Tryz.isAgg9
  z9 := Tryz.sizeOf9
  v9 := Tryz.zeroValue9
  t116 := Tryz.underlying348
  a116 := Tryz.isAgg348
  z116 := Tryz.sizeOf348 }
open Go.RowKit Go.Lib in
theorem Tryz.strings_makeASCIISet (hv116 : ∀ w, (zeroValue 348).run Tryz.prog w = .ok (.agg (Array.replicate 256 (.bool false))) w) (chars : ByteArray) (w : World) (hs : chars.size < 4294967281) (hascii : ∀ (j : Nat) b, chars.data.toList[j]? = some b → b.toNat < 128) :
    Calls Tryz.prog 250 #[.string chars] w fun e w' => e = .returned (.tuple #[.agg (Lib.setCells chars.data.toList), .bool true]) ∧ w' = w.alloc (.cells (Lib.setCells chars.data.toList) 348) := Any.strings_makeASCIISet Tryz.lays227 hv116 (by kernel_rfl) chars w hs hascii
def Tryz.lays228_ren : Go.Shelf.Ren := ⟨fun | 228 => 258 | n => n, fun | 124 => 352 | 5 => 5 | 4 => 4 | 0 => 0 | 116 => 348 | n => n, fun | n => n⟩
theorem Tryz.lays228 : Go.Proofs.Lays.n228 Tryz.prog Tryz.lays228_ren := {
  mixed := by kernel_rfl
  f228 := Tryz.func258.trans (congrArg some (by kernel_rfl))
  t0 := Tryz.underlying0
  a0 := Tryz.isAgg0
  z0 := Tryz.sizeOf0
  v0 := Tryz.zeroValue0
  t4 := Tryz.underlying4
  a4 := Tryz.isAgg4
  z4 := Tryz.sizeOf4
  v4 := Tryz.zeroValue4
  t5 := Tryz.underlying5
  a5 := Tryz.isAgg5
  z5 := Tryz.sizeOf5
  v5 := Tryz.zeroValue5
  t116 := Tryz.underlying348
  a116 := Tryz.isAgg348
  z116 := Tryz.sizeOf348
  t124 := Tryz.underlying352
  a124 := Tryz.isAgg352
  z124 := Tryz.sizeOf352
  v124 := Tryz.zeroValue352 }
open Go.RowKit Go.Lib in
theorem Tryz.asciiSet_contains (b : Nat) (x : UInt8) (v : Bool) (w : World) (hc : w.cell? ⟨b, x.toNat, none⟩ = some (.bool v)) :
    Calls Tryz.prog 258 #[.pointer (some ⟨b, 0, none⟩), .int .u8 x.toNat] w fun e w' => e = .returned (.bool v) ∧ w' = w := Any.asciiSet_contains Tryz.lays228 b x v w hc
def Tryz.lays264_ren : Go.Shelf.Ren := ⟨fun | 264 => 247 | n => n, fun | 53 => 35 | 46 => 321 | n => n, fun | n => n⟩
theorem Tryz.lays264 : Go.Proofs.Lays.n264 Tryz.prog Tryz.lays264_ren := {
  mixed := by kernel_rfl
  f264 := Tryz.func247.trans (congrArg some (by kernel_rfl))
  t46 := Tryz.underlying321
  a46 := Tryz.isAgg321
  z46 := Tryz.sizeOf321
  v46 := Tryz.zeroValue321
  t53 := Tryz.underlying35
  a53 := Tryz.isAgg35
  z53 := Tryz.sizeOf35
  v53 := Tryz.zeroValue35 }
open Go.RowKit Go.Lib in
theorem Tryz.bits_Mul64 (x y : Nat) (hx : x < 18446744073709551616) (hy : y < 18446744073709551616) (w : World) :
    Calls Tryz.prog 247 #[.int .u64 x, .int .u64 y] w fun e w' => e = .returned (.tuple #[.int .u64 ((x * y / 18446744073709551616 : Nat) : Int), .int .u64 ((x * y % 18446744073709551616 : Nat) : Int)]) ∧ w' = w := Any.bits_Mul64 Tryz.lays264 x y hx hy w
def Tryz.lays212_ren : Go.Shelf.Ren := ⟨fun | 212 => 231 | 263 => 246 | 264 => 247 | n => n, fun | 46 => 321 | 51 => 341 | 146 => 342 | 53 => 35 | 148 => 344 | n => n, fun | n => n⟩
theorem Tryz.lays212 : Go.Proofs.Lays.n212 Tryz.prog Tryz.lays212_ren := {
  mixed := by kernel_rfl
  f212 := Tryz.func231.trans (congrArg some (by kernel_rfl))
  f263 := Tryz.func246.trans (congrArg some (by kernel_rfl))
  f264 := Tryz.func247.trans (congrArg some (by kernel_rfl))
  t46 := Tryz.underlying321
  a46 := Tryz.isAgg321
  z46 := Tryz.sizeOf321
  v46 := Tryz.zeroValue321
  t51 := Tryz.underlying341
  a51 := Tryz.isAgg341
  z51 := Tryz.sizeOf341
  v51 := Tryz.zeroValue341
  t53 := Tryz.underlying35
  a53 := Tryz.isAgg35
  z53 := Tryz.sizeOf35
  v53 := Tryz.zeroValue35
  t146 := Tryz.underlying342
  a146 := Tryz.isAgg342
  z146 := Tryz.sizeOf342
  v146 := Tryz.zeroValue342
  t148 := Tryz.underlying344
  a148 := Tryz.isAgg344
  z148 := Tryz.sizeOf344
  v148 := Tryz.zeroValue344 }
open Go.RowKit Go.Lib in
theorem Tryz.bits_Mul (x y : Nat) (hx : x < 18446744073709551616) (hy : y < 18446744073709551616) (w : World) :
    Calls Tryz.prog 231 #[.int .u64 x, .int .u64 y] w fun e w' => e = .returned (.tuple #[.int .u64 ((x * y / 18446744073709551616 : Nat) : Int), .int .u64 ((x * y % 18446744073709551616 : Nat) : Int)]) ∧ w' = w := Any.bits_Mul Tryz.lays212 x y hx hy w
def Tryz.lays105_ren : Go.Shelf.Ren := ⟨fun | 105 => 206 | 212 => 231 | 99 => 219 | 165 => 230 | 166 => 143 | 170 => 232 | 169 => 144 | 263 => 246 | 264 => 247 | 206 => 224 | 240 => 199 | 241 => 245 | 276 => 225 | 277 => 257 | n => n, fun | 9 => 9 | 3 => 3 | 4 => 4 | 20 => 20 | 0 => 0 | 46 => 321 | 109 => 322 | 5 => 5 | 72 => 217 | 76 => 219 | 51 => 341 | 146 => 342 | 53 => 35 | 148 => 344 | 70 => 215 | 37 => 153 | 75 => 200 | 127 => 269 | 164 => 309 | 80 => 221 | n => n, fun | n => n⟩
theorem Tryz.lays105 : Go.Proofs.Lays.n105 Tryz.prog Tryz.lays105_ren := {
  mixed := by kernel_rfl
  f99 := Tryz.func219.trans (congrArg some (by kernel_rfl))
  f105 := Tryz.func206.trans (congrArg some (by kernel_rfl))
  f165 := Tryz.func230.trans (congrArg some (by kernel_rfl))
  f166 := Tryz.func143.trans (congrArg some (by kernel_rfl))
  f169 := Tryz.func144.trans (congrArg some (by kernel_rfl))
  f170 := Tryz.func232.trans (congrArg some (by kernel_rfl))
  f206 := Tryz.func224.trans (congrArg some (by kernel_rfl))
  f212 := Tryz.func231.trans (congrArg some (by kernel_rfl))
  f240 := Tryz.func199.trans (congrArg some (by kernel_rfl))
  f241 := Tryz.func245.trans (congrArg some (by kernel_rfl))
  f263 := Tryz.func246.trans (congrArg some (by kernel_rfl))
  f264 := Tryz.func247.trans (congrArg some (by kernel_rfl))
  f276 := Tryz.func225.trans (congrArg some (by kernel_rfl))
  f277 := Tryz.func257.trans (congrArg some (by kernel_rfl))
  t0 := Tryz.underlying0
  a0 := Tryz.isAgg0
  z0 := Tryz.sizeOf0
  v0 := Tryz.zeroValue0
  t3 := Tryz.underlying3
  a3 := Tryz.isAgg3
  z3 := Tryz.sizeOf3
  v3 := Tryz.zeroValue3
  t4 := Tryz.underlying4
  a4 := Tryz.isAgg4
  z4 := Tryz.sizeOf4
  v4 := Tryz.zeroValue4
  t5 := Tryz.underlying5
  a5 := Tryz.isAgg5
  z5 := Tryz.sizeOf5
  v5 := Tryz.zeroValue5
  t9 := Tryz.underlying9
  a9 := Tryz.isAgg9
  z9 := Tryz.sizeOf9
  v9 := Tryz.zeroValue9
  t20 := Tryz.underlying20
  a20 := Tryz.isAgg20
  z20 := Tryz.sizeOf20
  v20 := Tryz.zeroValue20
  t37 := Tryz.underlying153
  a37 := Tryz.isAgg153
  z37 := Tryz.sizeOf153
  v37 := Tryz.zeroValue153
  t46 := Tryz.underlying321
  a46 := Tryz.isAgg321
  z46 := Tryz.sizeOf321
  v46 := Tryz.zeroValue321
  t51 := Tryz.underlying341
  a51 := Tryz.isAgg341
  z51 := Tryz.sizeOf341
  v51 := Tryz.zeroValue341
  t53 := Tryz.underlying35
  a53 := Tryz.isAgg35
  z53 := Tryz.sizeOf35
  v53 := Tryz.zeroValue35
  t70 := Tryz.underlying215
  a70 := Tryz.isAgg215
  z70 := Tryz.sizeOf215
  v70 := Tryz.zeroValue215
  t72 := Tryz.underlying217
  a72 := Tryz.isAgg217
  z72 := Tryz.sizeOf217
  v72 := Tryz.zeroValue217
  t75 := Tryz.underlying200
  a75 := Tryz.isAgg200
  z75 := Tryz.sizeOf200
  v75 := Tryz.zeroValue200
  t76 := Tryz.underlying219
  a76 := Tryz.isAgg219
  z76 := Tryz.sizeOf219
  v76 := Tryz.zeroValue219
  t109 := Tryz.underlying322
  a109 := Tryz.isAgg322
  z109 := Tryz.sizeOf322
  v109 := Tryz.zeroValue322
  t127 := Tryz.underlying269
  a127 := Tryz.isAgg269
  z127 := Tryz.sizeOf269
  v127 := Tryz.zeroValue269
  t146 := Tryz.underlying342
  a146 := Tryz.isAgg342
  z146 := Tryz.sizeOf342
  v146 := Tryz.zeroValue342
  t148 := Tryz.underlying344
  a148 := Tryz.isAgg344
  z148 := Tryz.sizeOf344
  v148 := Tryz.zeroValue344
  t164 := Tryz.underlying309
  a164 := Tryz.isAgg309
  z164 := Tryz.sizeOf309
  v164 := Tryz.zeroValue309 }
theorem Tryz.Builder_Extra_105 : Builder.Extra Tryz.prog Tryz.lays105_ren := {
  sizeBuilder := by kernel_rfl
  liesBuilder := by kernel_rfl
  t5 := Tryz.underlying5
  a5 := Tryz.isAgg5
  z5 := Tryz.sizeOf5
  v5 := Tryz.zeroValue5
  infoByte := by kernel_rfl
  cellsByte := by kernel_rfl
  sizeByte := by kernel_rfl
  neB5 := by decide }
open Go.RowKit Go.Lib in
theorem Tryz.strings_Repeat_main (s : ByteArray) (c : Nat) (w : World) (hc2 : 2 ≤ c) (hc : c ≤ 9223372036854775807) (hlen : s.size * c ≤ 140737488355328) (h0 : 0 < s.size) :
    Calls Tryz.prog 206 #[.string s, .int .i64 c] w fun e w' => e = .returned (.string ⟨(Lib.repeatL s.data.toList c).toArray⟩) ∧ Below w.heap.size w w' := Any.strings_Repeat_main Tryz.lays105 Tryz.Builder_Extra_105 s c w hc2 hc hlen h0
open Go.RowKit Go.Lib in
theorem Tryz.strings_Repeat_zero (s : ByteArray) (w : World) :
    Calls Tryz.prog 206 #[.string s, .int .i64 0] w fun e w' => e = .returned (.string ⟨#[]⟩) ∧ w' = w := Any.strings_Repeat_zero Tryz.lays105 s w
open Go.RowKit Go.Lib in
theorem Tryz.strings_Repeat_one (s : ByteArray) (w : World) :
    Calls Tryz.prog 206 #[.string s, .int .i64 1] w fun e w' => e = .returned (.string s) ∧ w' = w := Any.strings_Repeat_one Tryz.lays105 s w
open Go.RowKit Go.Lib in
theorem Tryz.strings_Repeat_empty (s : ByteArray) (c : Nat) (w : World) (hc2 : 2 ≤ c) (hc : c ≤ 9223372036854775807) (h0 : s.size = 0) :
    Calls Tryz.prog 206 #[.string s, .int .i64 c] w fun e w' => e = .returned (.string ⟨#[]⟩) ∧ w' = w := Any.strings_Repeat_empty Tryz.lays105 s c w hc2 hc h0
open Go.RowKit Go.Lib in
theorem Tryz.strings_Repeat_negative (s : ByteArray) (c : Int) (w : World) (hc : c < 0) :
    Calls Tryz.prog 206 #[.string s, .int .i64 c] w fun e w' => e = .panicked [{ v := repeatPanic Tryz.lays105_ren "strings: negative Repeat count", recovered := false }] ∧ w' = w := Any.strings_Repeat_negative Tryz.lays105 s c w hc
open Go.RowKit Go.Lib in
theorem Tryz.strings_Repeat_overflow (s : ByteArray) (c : Nat) (w : World) (hc : c ≤ 9223372036854775807) (hs : s.size ≤ 9223372036854775807) (hbig : 9223372036854775807 < s.size * c) :
    Calls Tryz.prog 206 #[.string s, .int .i64 c] w fun e w' => e = .panicked [{ v := repeatPanic Tryz.lays105_ren "strings: Repeat output length overflow", recovered := false }] ∧ w' = w := Any.strings_Repeat_overflow Tryz.lays105 s c w hc hs hbig
open Go.RowKit Go.Lib in
theorem Tryz.strings_Repeat (s : ByteArray) (c : Nat) (w : World) (hc : c ≤ 9223372036854775807) (hlen : s.size * c ≤ 140737488355328) :
    Calls Tryz.prog 206 #[.string s, .int .i64 c] w fun e w' => e = .returned (.string ⟨(Lib.repeatL s.data.toList c).toArray⟩) ∧ Below w.heap.size w w' := Any.strings_Repeat Tryz.lays105 Tryz.Builder_Extra_105 s c w hc hlen
def Tryz.lays260_ren : Go.Shelf.Ren := ⟨fun | 260 => 222 | n => n, fun | 9 => 9 | 21 => 21 | 3 => 3 | 4 => 4 | 5 => 5 | 119 => 332 | 0 => 0 | 46 => 321 | 139 => 335 | 138 => 334 | n => n, fun | 3 => 1 | 4 => 2 | n => n⟩
theorem Tryz.lays260 : Go.Proofs.Lays.n260 Tryz.prog Tryz.lays260_ren := {
  mixed := by kernel_rfl
  f260 := Tryz.func222.trans (congrArg some (by kernel_rfl))
  t0 := Tryz.underlying0
  a0 := Tryz.isAgg0
  z0 := Tryz.sizeOf0
  v0 := Tryz.zeroValue0
  t3 := Tryz.underlying3
  a3 := Tryz.isAgg3
  z3 := Tryz.sizeOf3
  v3 := Tryz.zeroValue3
  t4 := Tryz.underlying4
  a4 := Tryz.isAgg4
  z4 := Tryz.sizeOf4
  v4 := Tryz.zeroValue4
  t5 := Tryz.underlying5
  a5 := Tryz.isAgg5
  z5 := Tryz.sizeOf5
  v5 := Tryz.zeroValue5
  t9 := Tryz.underlying9
  a9 := Tryz.isAgg9
  z9 := Tryz.sizeOf9
  v9 := Tryz.zeroValue9
  t21 := Tryz.underlying21
  a21 := Tryz.isAgg21
  z21 := Tryz.sizeOf21
  v21 := Tryz.zeroValue21
  t46 := Tryz.underlying321
  a46 := Tryz.isAgg321
  z46 := Tryz.sizeOf321
  v46 := Tryz.zeroValue321
  t119 := Tryz.underlying332
  a119 := Tryz.isAgg332
  z119 := Tryz.sizeOf332
  t138 := Tryz.underlying334
  a138 := Tryz.isAgg334
  z138 := Tryz.sizeOf334
  v138 := Tryz.zeroValue334
  t139 := Tryz.underlying335
  a139 := Tryz.isAgg335
  z139 := Tryz.sizeOf335
  v139 := Tryz.zeroValue335
  g3 := by kernel_rfl
  g4 := by kernel_rfl }
open Go.RowKit Go.Lib in
theorem Tryz.utf8_decodeRuneInStringSlow (s : ByteArray) (w : World) (hT : Lib.Utf8Tabs 1 2 w) :
    Calls Tryz.prog 222 #[.string s] w fun e w' => e = .returned (.tuple #[.int .i32 (Lib.decodeGo s).1, .int .i64 (Lib.decodeGo s).2]) ∧ Below w.heap.size w w' := Any.utf8_decodeRuneInStringSlow Tryz.lays260 s w hT
def Tryz.lays108_ren : Go.Shelf.Ren := ⟨fun | 108 => 302 | n => n, fun | 28 => 160 | 3 => 3 | 0 => 0 | 4 => 4 | n => n, fun | n => n⟩
theorem Tryz.lays108 : Go.Proofs.Lays.n108 Tryz.prog Tryz.lays108_ren := {
  mixed := by kernel_rfl
  f108 := Tryz.func302.trans (congrArg some (by kernel_rfl))
  t0 := Tryz.underlying0
  a0 := Tryz.isAgg0
  z0 := Tryz.sizeOf0
  v0 := Tryz.zeroValue0
  t3 := Tryz.underlying3
  a3 := Tryz.isAgg3
  z3 := Tryz.sizeOf3
  v3 := Tryz.zeroValue3
  t4 := Tryz.underlying4
  a4 := Tryz.isAgg4
  z4 := Tryz.sizeOf4
  v4 := Tryz.zeroValue4
  t28 := Tryz.underlying160
  a28 := Tryz.isAgg160
  z28 := Tryz.sizeOf160
  v28 := Tryz.zeroValue160 }
open Go.Lib in
theorem Tryz.slices_Index_int (b off n c : Nat) (zs : List Int) (x : Int) (w : World) (hz : n ≤ zs.length) (hbig : n ≤ 9223372036854775807) (hc : ∀ j, j < zs.length → w.cell? ⟨b, off + j, none⟩ = some (.int .i64 (zs.getD j 0))) :
    Calls Tryz.prog 302 #[.slice (some ⟨b, off, none⟩) n c, .int .i64 x] w fun e w' => e = .returned (.int .i64 (Lib.idxOf (zs.take n) x)) ∧ w' = w := Any.slices_Index_int Tryz.lays108 b off n c zs x w hz hbig hc
open Go.Lib in
theorem Tryz.slices_Index_int_empty (a : Option Addr) (c : Nat) (x : Int) (w : World) :
    Calls Tryz.prog 302 #[.slice a 0 c, .int .i64 x] w fun e w' => e = .returned (.int .i64 (Lib.idxOf [] x)) ∧ w' = w := Any.slices_Index_int_empty Tryz.lays108 a c x w
def Tryz.lays107_ren : Go.Shelf.Ren := ⟨fun | 107 => 301 | 108 => 302 | n => n, fun | 28 => 160 | 3 => 3 | 4 => 4 | 0 => 0 | n => n, fun | n => n⟩
theorem Tryz.lays107 : Go.Proofs.Lays.n107 Tryz.prog Tryz.lays107_ren := {
  mixed := by kernel_rfl
  f107 := Tryz.func301.trans (congrArg some (by kernel_rfl))
  f108 := Tryz.func302.trans (congrArg some (by kernel_rfl))
  t0 := Tryz.underlying0
  a0 := Tryz.isAgg0
  z0 := Tryz.sizeOf0
  v0 := Tryz.zeroValue0
  t3 := Tryz.underlying3
  a3 := Tryz.isAgg3
  z3 := Tryz.sizeOf3
  v3 := Tryz.zeroValue3
  t4 := Tryz.underlying4
  a4 := Tryz.isAgg4
  z4 := Tryz.sizeOf4
  v4 := Tryz.zeroValue4
  t28 := Tryz.underlying160
  a28 := Tryz.isAgg160
  z28 := Tryz.sizeOf160
  v28 := Tryz.zeroValue160 }
open Go.Lib in
theorem Tryz.slices_Contains_int (b off n c : Nat) (zs : List Int) (x : Int) (w : World) (hz : n ≤ zs.length) (hbig : n ≤ 9223372036854775807) (hc : ∀ j, j < zs.length → w.cell? ⟨b, off + j, none⟩ = some (.int .i64 (zs.getD j 0))) :
    Calls Tryz.prog 301 #[.slice (some ⟨b, off, none⟩) n c, .int .i64 x] w fun e w' => e = .returned (.bool ((zs.take n).contains x)) ∧ w' = w := Any.slices_Contains_int Tryz.lays107 b off n c zs x w hz hbig hc
open Go.Lib in
theorem Tryz.slices_Contains_int_empty (a : Option Addr) (c : Nat) (x : Int) (w : World) :
    Calls Tryz.prog 301 #[.slice a 0 c, .int .i64 x] w fun e w' => e = .returned (.bool false) ∧ w' = w := Any.slices_Contains_int_empty Tryz.lays107 a c x w
def Tryz.laysNm216_ren : Go.Shelf.Ren := ⟨fun | 16 => 211 | n => n, fun | 24 => 22 | 9 => 9 | 4 => 4 | n => n, fun | n => n⟩
theorem Tryz.laysNm216 : Go.Proofs.Lays2.n16 Tryz.prog Tryz.laysNm216_ren := {
  mixed := by kernel_rfl
  f16 := Tryz.func211.trans (congrArg some (by kernel_rfl))
  t4 := Tryz.underlying4
  a4 := Tryz.isAgg4
  z4 := Tryz.sizeOf4
  v4 := Tryz.zeroValue4
  t9 := Tryz.underlying9
  a9 := Tryz.isAgg9
  z9 := Tryz.sizeOf9
  v9 := Tryz.zeroValue9
  t24 := Tryz.underlying22
  a24 := Tryz.isAgg22
  z24 := Tryz.sizeOf22
  v24 := Tryz.zeroValue22
  i9 := by kernel_rfl }
open Go.RowKit Go.Lib in
theorem Tryz.slices_Clone_string (b off n c : Nat) (zs : List ByteArray) (w : World) (hz : n ≤ zs.length) (hbig : n * 16 ≤ 140737488355328) (hc : ∀ j, j < zs.length → w.cell? ⟨b, off + j, none⟩ = some (.string (zs.getD j ByteArray.empty))) :
    Calls Tryz.prog 211 #[.slice (some ⟨b, off, none⟩) n c] w fun e w' => ∃ v', e = .returned v' ∧ w'.ownsRow w.heap.size 9 1 v' n ((zs.take n).map (Value.string)) ∧ v' ≠ .slice none 0 0 ∧ Below w.heap.size w w' := Any.slices_Clone_string Tryz.laysNm216 b off n c zs w hz hbig hc
open Go.RowKit Go.Lib in
theorem Tryz.slices_Clone_string_nil (n c : Nat) (w : World) :
    Calls Tryz.prog 211 #[.slice none n c] w fun e w' => e = .returned (.slice none 0 0) ∧ w' = w := Any.slices_Clone_string_nil Tryz.laysNm216 n c w
open Go.RowKit Go.Lib in
theorem Tryz.slices_Clone_string_zero (a : Addr) (c : Nat) (w : World) :
    Calls Tryz.prog 211 #[.slice (some a) 0 c] w fun e w' => ∃ v', e = .returned v' ∧ w'.ownsRow w.heap.size 9 1 v' 0 [] ∧ v' ≠ .slice none 0 0 ∧ Below w.heap.size w w' := Any.slices_Clone_string_zero Tryz.laysNm216 a c w
def Tryz.laysSlE041_f211_ren : Go.Shelf.Ren := ⟨fun | 41 => 211 | n => n, fun | 22 => 22 | 23 => 9 | 4 => 4 | n => n, fun | n => n⟩
theorem Tryz.laysSlE041_f211 : Go.Proofs.SlLaysE0.n41 Tryz.prog Tryz.laysSlE041_f211_ren := {
  mixed := by kernel_rfl
  f41 := ⟨Tryz.f211.name, by decide, Tryz.func211.trans (congrArg some (by kernel_rfl))⟩
  t4 := Tryz.underlying4
  a4 := Tryz.isAgg4
  z4 := Tryz.sizeOf4
  v4 := Tryz.zeroValue4
  t22 := Tryz.underlying22
  a22 := Tryz.isAgg22
  z22 := Tryz.sizeOf22
  v22 := Tryz.zeroValue22 }
open Go.RowKit Go.Lib in
theorem Tryz.slices_Clone (i0 : TypeInfo) (z : Value) (size bytes : Nat) (hi : Tryz.prog.info? 9 = some i0) (hz0 : i0.zero = some z) (hz1 : i0.size = size) (hz2 : i0.bytes = bytes) (hzs : z.cells.size = size) (hsz : 0 < size) (z23 : ∀ w, (Go.sizeOf 9).run Tryz.prog w = .ok size w) (b off n c : Nat) (news : List Value) (w : World) (hl : news.length = n * size) (hn : n ≤ maxLen) (hbig : n * bytes ≤ 140737488355328) (hc : ∀ j u, news[j]? = some u → w.cell? ⟨b, off + j, none⟩ = some u) (h1 : ∀ u ∈ news, u.oneCell' = true) :
    Calls Tryz.prog 211 #[.slice (some ⟨b, off, none⟩) n c] w fun e w' => ∃ v', e = .returned v' ∧ w'.ownsRow w.heap.size 9 size v' n news ∧ v' ≠ .slice none 0 0 ∧ Below w.heap.size w w' := AnyE.slices_Clone Tryz.laysSlE041_f211 i0 z size bytes hi hz0 hz1 hz2 hzs hsz z23 b off n c news w hl hn hbig hc h1
open Go.RowKit Go.Lib in
theorem Tryz.slices_Clone_nil (n c : Nat) (w : World) :
    Calls Tryz.prog 211 #[.slice none n c] w fun e w' => e = .returned (.slice none 0 0) ∧ w' = w := AnyE.slices_Clone_nil Tryz.laysSlE041_f211 n c w
end Go.Proofs
end

section
/- Package variables that hold rows of numbers, as the rows tell; a law whose function reads them. -/
namespace Go.Proofs.YtedibjgdangfnaaGreatDoor.V
open Go Go.RowKit
set_option linter.unusedVariables false
set_option linter.unusedSimpArgs false
theorem laid_ints {P : Program} {w : World} {nm : String} {g t e n base fuel : Nat} {k : IntKind} {l : List Int} {cs : Array Value} {H : Type} {enc : TypeId × Value → H} {spare : Nat → Bool} {held : Bool} {ps : List MemPlace} (hg : P.globalNamed nm = some g) (hu : P.underlying t = some (.array n e)) (hi : P.underlying e = some (.int k)) (hc : P.cellsOf e = 1) (hv : w.var? P nm = some cs)
    (hd : DataW.trod enc P w base spare held fuel t cs.toList = some (.agg (l.map fun x => .lit (.int k x)), ps)) : ∀ (j : Nat) x, l[j]? = some x → w.cell? ⟨g, j, none⟩ = some (.int k x) := by
  obtain ⟨xs, m, rfl, hx, hl, hn, hel⟩ := DataW.trod_array hu hd
  simp only [Prod.mk.injEq, DataW.agg.injEq] at hx
  intro j x hj
  have h1 : (xs.map (·.1))[j]? = some (.lit (.int k x)) := by rw [← hx.1, List.getElem?_map, hj]; rfl
  rw [List.getElem?_map, Option.map_eq_some_iff] at h1
  obtain ⟨y, hy, hy2⟩ := h1
  have hjn : j < n := by rw [← hn]; exact (List.getElem?_eq_some_iff.1 hy).1
  have h2 := hel j hjn
  rw [hy, hc] at h2
  obtain ⟨q, hq, hq2, _⟩ := DataW.trod_int hi h2
  rw [hq2] at hy2
  simp only [DataW.lit.injEq, Lit.int.injEq, true_and] at hy2
  subst hy2
  have h3 : cs.toList[j]? = some (.int k q) := by
    have h4 : ((cs.toList.drop (j * 1)).take 1)[0]? = some (.int k q) := by rw [hq]; rfl
    simpa using h4
  rw [World.var?_cell hg hv j]
  simpa using h3
theorem flat_eI (k : IntKind) (l : List Int) : (l.map (eI k)).flatten = l.map (Sc.int k) := by
  induction l with
  | nil => rfl
  | cons x l ih => rw [List.map_cons, List.flatten_cons, ih]; rfl
theorem glrep {w : World} {g : Nat} {k : IntKind} {l : List Int} (h : ∀ (j : Nat) (x : Int), l[j]? = some x → w.cell? ⟨g, j, none⟩ = some (.int k x)) (hne : l ≠ []) : RepD w (fun b => b < w.heap.size) (.ref ((l.map (eI k)).flatten) 0) (.pointer (some ⟨g, 0, none⟩)) := by
  have key : ∀ (j : Nat) (sc : Sc), ((l.map (eI k)).flatten)[j]? = some sc → ∃ x : Int, l[j]? = some x ∧ sc = Sc.int k x := by
    intro j sc hj
    rw [flat_eI, List.getElem?_map, Option.map_eq_some_iff] at hj
    obtain ⟨x, hx, rfl⟩ := hj
    exact ⟨x, hx, rfl⟩
  have hb : g < w.heap.size := by
    cases l with
    | nil => exact absurd rfl hne
    | cons x l => exact cell?_lt (h 0 x rfl)
  refine .ref _ 0 g 0 (fun j => (w.cell? ⟨g, j, none⟩).getD undef) hb (fun j sc hj => ?_) (fun j sc hj => ?_)
  · obtain ⟨x, hx, rfl⟩ := key j sc hj
    rw [Nat.zero_add, h j x hx]; rfl
  · obtain ⟨x, hx, rfl⟩ := key j sc hj
    simp only [h j x hx, Option.getD_some]
    exact .int k x
/-- A law whose function reads package variables, out of what is shown of its function. -/
theorem Fun.lawG {P : Program} {gl : Gl} {f : FuncId} {xs : List Vb} {b : Bool} {vs : List Value} {w : World} (h : Fun P gl f (xs.map Va.b) (.bo b)) (hg : GlOk gl w (fun k => k < w.heap.size)) (hx : AtAll w xs vs) : Calls P f vs.toArray w fun e w1 => e = .returned (.bool b) ∧ Below w.heap.size w w1 := by
  obtain ⟨hl, hg2⟩ := hx.get
  refine (h.2 w (fun k => k < w.heap.size) vs.toArray (fun _ h => h) hg ⟨by simpa using hl, fun j x hj => ?_⟩).mono fun e w1 => ?_
  · rw [List.getElem?_map, Option.map_eq_some_iff] at hj
    obtain ⟨y, hj, rfl⟩ := hj
    have := hg2 j y hj
    show At w y _
    simpa [Array.getD_eq_getD_getElem?, List.getD] using this
  · rintro ⟨u, S1, rfl, _, _, hr, hb⟩
    refine ⟨?_, hb⟩
    cases hr with
    | d _ _ h => cases h with | bool _ => rfl
end Go.Proofs.YtedibjgdangfnaaGreatDoor.V
end

section
/- A range over a function whose iterator turns blocks of its own: the statement, by what the iterator says and what a round keeps. -/
namespace Go.Proofs.YtedibjgdangfnaaGreatDoor.V
open Go Go.RowKit
set_option linter.unusedVariables false
set_option linter.unusedSimpArgs false
/-- From one world to a later one: blocks of S lie as they lay. -/
structure Kp (S : Nat → Prop) (w w1 : World) : Prop where
  os : w1.os = w.os
  tape : w1.tape = w.tape
  output : w1.output = w.output
  size : w.heap.size ≤ w1.heap.size
  block : ∀ b, S b → b < w.heap.size → w1.heap[b]? = w.heap[b]?
theorem Kp.refl (S : Nat → Prop) (w : World) : Kp S w w := ⟨rfl, rfl, rfl, Nat.le_refl _, fun _ _ _ => rfl⟩
theorem Kp.trans {S : Nat → Prop} {w w1 w2 : World} (h : Kp S w w1) (h2 : Kp S w1 w2) : Kp S w w2 :=
  ⟨h2.os.trans h.os, h2.tape.trans h.tape, h2.output.trans h.output, Nat.le_trans h.size h2.size, fun b hb hl => (h2.block b hb (Nat.lt_of_lt_of_le hl h.size)).trans (h.block b hb hl)⟩
theorem Kp.mono {S S1 : Nat → Prop} {w w1 : World} (h : Kp S w w1) (hs : ∀ b, S1 b → b < w.heap.size → S b) : Kp S1 w w1 := ⟨h.os, h.tape, h.output, h.size, fun b hb hl => h.block b (hs b hb hl) hl⟩
theorem Kp.of_below {S : Nat → Prop} {w w1 : World} (h : Below w.heap.size w w1) : Kp S w w1 := ⟨h.os, h.tape, h.output, h.size, fun b _ hl => h.block b hl⟩
theorem Kp.below {S : Nat → Prop} {B : Nat} {w w1 : World} (h : Kp S w w1) (hs : ∀ b, b < B → S b) (hB : B ≤ w.heap.size) : Below B w w1 := ⟨h.os, h.tape, h.output, h.size, fun b hb => h.block b (hs b hb) (Nat.lt_of_lt_of_le hb hB)⟩
theorem Kp.alloc (S : Nat → Prop) (w : World) (o : Obj) : Kp S w (w.alloc o) := ⟨rfl, rfl, rfl, by simp, fun b _ hl => Below.heap_alloc w o b hl⟩
theorem Kp.putObj {S : Nat → Prop} (w : World) (l : Nat) (o : Obj) (h : ¬ S l) : Kp S w (w.putObj l o) := ⟨rfl, rfl, rfl, by rw [World.putObj_size]; exact Nat.le_refl _, fun b hb _ => World.putObj_heap_other (by rintro rfl; exact h hb)⟩
theorem Kp.setCell {S : Nat → Prop} (w : World) (b o : Nat) (v : Value) (h : ¬ S b) : Kp S w (w.setCell ⟨b, o, none⟩ v) := by
  refine ⟨rfl, rfl, rfl, by show w.heap.size ≤ (w.heap.modify _ _).size; rw [Array.size_modify]; exact Nat.le_refl _, fun k hk hl => ?_⟩
  exact Below.heap_setCell w ⟨b, o, none⟩ v k (by rintro rfl; exact h hk)
/-- What an iterator says: it hands over just these, one by one; between two rounds it turns the blocks of T alone, and lays new ones. -/
def Hands (P : Program) (k : FuncId) (lb : Array Value) (T : Nat → Prop) (xs : List Str) (enc : Str → Array Value) (w : World) : Prop :=
  ∀ (l : Nat) (J Jx : List Str → World → Prop) (W : World), Kp (fun _ => True) w W →
    (∀ pre W W', J pre W → Kp (fun b => ¬ T b) W W' → J pre W') →
    (∀ pre W W', Jx pre W → Kp (fun b => ¬ T b) W W' → Jx pre W') →
    (∀ pre x W, J pre W → pre ++ [x] <+: xs → YieldAt Fence.wide 0 P l (enc x) W fun e W' =>
      (e = .returned (.bool true) ∧ J (pre ++ [x]) W' ∧ Kp T W W') ∨ (e = .returned (.bool false) ∧ Jx (pre ++ [x]) W')) →
    J [] W →
    Calls P k (#[.func (.yield l) #[] #[]] ++ lb) W fun e W' => (∃ v, e = .returned v) ∧ (J xs W' ∨ ∃ pre, pre <+: xs ∧ Jx pre W')
/-- How a round's body may be left. -/
def handsPost (B : Nat) (I : List Str → World → Prop) (Ix : Code → List Str → World → Prop) (xs : List Str) (W : World) : Exit → Act → World → Prop
  | .normal, _, W' => Kp (fun b => B ≤ b) W W' ∧ I xs W'
  | .ret, _, W' => Kp (fun b => B ≤ b) W W' ∧ Ix .ret xs W'
  | .exit id, _, W' => Kp (fun b => B ≤ b) W W' ∧ Ix (.exit id) xs W'
  | _, _, _ => False
variable {P : Program}
theorem yieldAt_any {m n : Nat} {l : Nat} {args : Array Value} {W : World} {R : Ending → World → Prop} (h : YieldAt Fence.wide m P l args W R) : YieldAt Fence.wide n P l args W R := by
  obtain ⟨fn, tmps, assign, body, h1, h2, h3⟩ := h
  exact ⟨fn, tmps, assign, body, h1, h2, fun c cs _ => h3 c cs (room_wide _)⟩
set_option maxHeartbeats 1000000 in
/-- **The statement.** B: the heap's size where the loop begins, less what is the iterator's own: its blocks T lie from B on. -/
theorem wp_range {g : Operand} {ps : Array Tmp} {assign body : Code} {Q : Exit → Act → World → Prop} {a : Act} {w : World} {n B : Nat}
    {gf : Nat} {lb : Array Value} (hg : a.eval g = .func (.func gf) #[] lb) (eg : ∀ args w, (callFunc gf args).run P w = .ok (.enter gf args) w)
    {T : Nat → Prop} {xs : List Str} {enc : Str → Array Value} (hit : Hands P gf lb T xs enc w) (hT : ∀ b, T b → B ≤ b ∧ b < w.heap.size) (hps : ∀ x, (enc x).size = ps.size)
    (I : List Str → World → Prop) (Ix : Code → List Str → World → Prop)
    (hI : ∀ pre W W', I pre W → Kp (fun b => b < B) W W' → I pre W')
    (hIx : ∀ c pre W W', Ix c pre W → Kp (fun b => b < B) W W' → Ix c pre W')
    (hBw : B ≤ w.heap.size) (h0 : I [] w) (a₁ : Str → Act)
    (hassign : ∀ (l : Nat) (x : Str) (W : World) (K : Act → World → Prop), K (a₁ x) W →
      assign.wpIn (Fence.wide.inRound l) n P (Exit.then K (fun _ _ _ => False)) { tmps := (ps.zip (enc x)).foldl (fun t (p, v) => t.setIfInBounds p v) a.tmps, defers := [] } W)
    (hbody : ∀ (l : Nat) (pre : List Str) (x : Str) (W : World), I pre W → B ≤ W.heap.size → pre ++ [x] <+: xs → body.wpIn (Fence.wide.inRound l) n P (handsPost B I Ix (pre ++ [x]) W) (a₁ x) W)
    (hdone : ∀ (D : Nat) (W : World), I xs W → B ≤ D → W.heap[D]? = some (.deferred (some [])) → Q .normal { a with defers := { target := .collected D, args := #[] } :: a.defers } W)
    (hstop : ∀ (D : Nat) (c : Code) (pre : List Str) (W : World), Ix c pre W → pre <+: xs → B ≤ D → W.heap[D]? = some (.deferred (some [])) → c.wpIn Fence.wide n P Q { a with defers := { target := .collected D, args := #[] } :: a.defers } W) :
    (Code.rangeFunc g ps assign body).wpIn Fence.wide n P Q a w := by
  refine wpIn_rangeFunc ?_
  intro fn hfn
  obtain ⟨rec, hrec⟩ : ∃ rec : LoopState → Option Code → Loop, rec = fun st pe => { state := st, pending := pe, fn, tmps := a.tmps, params := ps, assign, body, defers := w.heap.size } := ⟨_, rfl⟩
  obtain ⟨W1, hW1⟩ : ∃ W1, (w.alloc (.deferred (some []))).alloc (.loop (rec .ready none)) = W1 := ⟨_, rfl⟩
  have k1 : Kp (fun _ => True) w W1 := by rw [← hW1]; exact (Kp.alloc _ _ _).trans (Kp.alloc _ _ _)
  have s1 : W1.heap.size = w.heap.size + 2 := by rw [← hW1]; simp
  have l1 : W1.heap[w.heap.size + 1]? = some (.loop (rec .ready none)) := by
    rw [← hW1]; have := World.alloc_heap_new (w.alloc (.deferred (some []))) (.loop (rec .ready none)); rwa [World.size_alloc] at this
  have d1 : W1.heap[w.heap.size]? = some (.deferred (some [])) := by
    rw [← hW1]; exact (Below.heap_alloc _ _ _ (by simp)).trans (World.alloc_heap_new w _)
  have i1 : I [] W1 := hI _ _ _ h0 (k1.mono fun _ _ _ => trivial)
  refine ⟨w.heap.size + 1, [{ target := .collected w.heap.size, args := #[] }], W1, { target := .fn (.func gf) lb, args := #[.func (.yield (w.heap.size + 1)) #[] #[]] }, W1, gf, #[.func (.yield (w.heap.size + 1)) #[] #[]] ++ lb, W1, ?_, ?_, ?_, ?_, (fun h => absurd h (by decide)), ?_⟩
  · rw [← hW1, hrec]; exact run_enterLoop_outer _ _ _ _ _
  · simp only [resolve, hg]
    simp [go_sem]
  · intro f' hf'; trivial
  · simp [invoke, go_sem, eg]
  · rw [callsIn_wide]
    have pb : ∀ (W : World) (o : Obj), Kp (fun b => b < B) W (W.putObj (w.heap.size + 1) o) := fun W o => .putObj _ _ _ (by omega)
    have nT : ∀ b, w.heap.size ≤ b → ¬ T b := fun b hb ht => by have := (hT b ht).2; omega
    have sub : ∀ b, b < B → ¬ T b := fun b hb ht => by have := (hT b ht).1; omega
    refine (hit (w.heap.size + 1)
      (fun pre W => I pre W ∧ W.heap[w.heap.size + 1]? = some (.loop (rec .ready none)) ∧ W.heap[w.heap.size]? = some (.deferred (some [])))
      (fun pre W => ∃ c, Ix c pre W ∧ W.heap[w.heap.size + 1]? = some (.loop (rec .done (some c))) ∧ W.heap[w.heap.size]? = some (.deferred (some [])))
      W1 k1 ?_ ?_ ?_ ⟨i1, l1, d1⟩).mono ?_
    · rintro pre W W' ⟨h1, h2, h3⟩ hk
      have q2 := (Array.getElem?_eq_some_iff.1 h2).1
      exact ⟨hI _ _ _ h1 (hk.mono fun b hb _ => sub b hb), (hk.block _ (nT _ (by omega)) q2).trans h2, (hk.block _ (nT _ (Nat.le_refl _)) (by omega)).trans h3⟩
    · rintro pre W W' ⟨c, h1, h2, h3⟩ hk
      have q2 := (Array.getElem?_eq_some_iff.1 h2).1
      exact ⟨c, hIx _ _ _ _ h1 (hk.mono fun b hb _ => sub b hb), (hk.block _ (nT _ (by omega)) q2).trans h2, (hk.block _ (nT _ (Nat.le_refl _)) (by omega)).trans h3⟩
    · rintro pre x W ⟨hi, hl, hk⟩ hpre
      have hlt : w.heap.size + 1 < W.heap.size := (Array.getElem?_eq_some_iff.1 hl).1
      have hy := run_yield (P := P) (args := enc x) hl (by rw [hrec]; exact hps x)
      rw [hrec] at hy
      refine yieldAt_any (m := n) ⟨fn, _, assign, body, hy, roundIn_of_wpIn hfn (hassign _ x W _ ⟨_, run_beginRound hl (by rw [hrec]), ?_⟩)⟩
      obtain ⟨W2, hW2⟩ : ∃ W2, W.putObj (w.heap.size + 1) (.loop { rec .ready none with state := .busy }) = W2 := ⟨_, rfl⟩
      have p2 : Kp (fun b => b ≠ w.heap.size + 1) W W2 := by rw [← hW2]; exact .putObj _ _ _ (fun h => h rfl)
      have z2 : W2.heap.size = W.heap.size := by rw [← hW2]; exact World.putObj_size
      have l2 : W2.heap[w.heap.size + 1]? = some (.loop { rec .ready none with state := .busy }) := by rw [← hW2]; exact World.putObj_heap_same hlt
      have d2 : W2.heap[w.heap.size]? = some (.deferred (some [])) := (p2.block _ (by omega) (by omega)).trans hk
      have i2 : I pre W2 := hI _ _ _ hi (p2.mono fun b hb _ => by omega)
      rw [hW2]
      refine wpIn_mono (hbody _ pre x _ i2 (by omega) hpre) ?_
      have fin : ∀ (jump : Option Code) (W3 : World), Kp (fun b => B ≤ b) W2 W3 →
          (Instr.endRound (w.heap.size + 1) jump).run P W3 = .ok (.bool jump.isNone) (W3.putObj (w.heap.size + 1) (.loop (rec (if jump.isNone then .ready else .done) jump))) ∧
          (W3.putObj (w.heap.size + 1) (.loop (rec (if jump.isNone then .ready else .done) jump))).heap[w.heap.size + 1]? = some (.loop (rec (if jump.isNone then .ready else .done) jump)) ∧
          (W3.putObj (w.heap.size + 1) (.loop (rec (if jump.isNone then .ready else .done) jump))).heap[w.heap.size]? = some (.deferred (some [])) ∧
          Kp T W (W3.putObj (w.heap.size + 1) (.loop (rec (if jump.isNone then .ready else .done) jump))) := fun jump W3 hk3 => by
        have hl3 := (hk3.block _ (by omega) (by omega)).trans l2
        have hd3 := (hk3.block _ hBw (by omega)).trans d2
        have := run_endRound (P := P) jump hl3
        rw [hrec] at this ⊢
        refine ⟨this, World.putObj_heap_same (Array.getElem?_eq_some_iff.1 hl3).1, (World.putObj_heap_other (by omega)).trans hd3, ((p2.mono fun b hb _ => ?_).trans (hk3.mono fun b hb _ => (hT b hb).1)).trans (.putObj _ _ _ fun hb => ?_)⟩
        · have := (hT b hb).2; omega
        · have := (hT _ hb).2; omega
      rintro e a3 W3 hp
      cases e with
      | normal =>
        obtain ⟨hk3, hi3⟩ := hp
        obtain ⟨hr, hl4, hk4, ht4⟩ := fin none W3 hk3
        exact ⟨_, _, hr, .inl ⟨rfl, ⟨hI _ _ _ hi3 (pb _ _), hl4, hk4⟩, ht4⟩⟩
      | ret =>
        obtain ⟨hk3, hi3⟩ := hp
        obtain ⟨hr, hl4, hk4, ht4⟩ := fin (some .ret) W3 hk3
        exact ⟨_, _, hr, .inr ⟨rfl, .ret, hIx _ _ _ _ hi3 (pb _ _), hl4, hk4⟩⟩
      | exit id =>
        obtain ⟨hk3, hi3⟩ := hp
        obtain ⟨hr, hl4, hk4, ht4⟩ := fin (some (.exit id)) W3 hk3
        exact ⟨_, _, hr, .inr ⟨rfl, .exit id, hIx _ _ _ _ hi3 (pb _ _), hl4, hk4⟩⟩
      | goto t => exact hp.elim
      | panic ch => exact hp.elim
      | outgrown => exact hp.elim
    · rintro e W2 ⟨⟨v, rfl⟩, (⟨hi, hl, hk⟩ | ⟨pre, hp, c, hi, hl, hk⟩)⟩
      · have := run_endLoop (P := P) hl (by rw [hrec]; simp)
        rw [hrec] at this
        exact ⟨none, _, this, hdone _ _ (hI _ _ _ hi (pb _ _)) hBw ((World.putObj_heap_other (by omega)).trans hk)⟩
      · have := run_endLoop (P := P) hl (by rw [hrec]; simp)
        rw [hrec] at this
        exact ⟨some c, _, this, hstop _ c pre _ (hIx _ _ _ _ hi (pb _ _)) hp hBw ((World.putObj_heap_other (by omega)).trans hk)⟩
/-- A contract of one's own typing whose function calls printed ones. -/
theorem Fun.flatG {gl : Gl} {f : FuncId} {xs : List Va} {y : Va} {v : Value} (hc : callable P f = true) (hy : ∀ w S, RepV w S (fun _ => none) (fun _ => none) y v) (h : ∀ w (S : Nat → Prop) vs, (∀ k, S k → k < w.heap.size) → GlOk gl w S → RepA w S xs vs → Calls P f vs w fun e w1 => e = .returned v ∧ Below w.heap.size w w1) : Fun P gl f xs y := by
  refine ⟨hc, fun w S vs hS hgl hA => (h w S vs hS hgl hA).mono fun e w1 => ?_⟩
  rintro ⟨rfl, hb⟩
  exact ⟨v, S, rfl, fun _ h => h, fun k hk => ⟨.inl hk, Nat.lt_of_lt_of_le (hS k hk) hb.size⟩, hy _ _, hb⟩
/-- A new row, as one that nobody changes. -/
theorem FunO.frozen {gl : Gl} {f : FuncId} {xs : List Va} {st : Nat} {rows : List (List Sc)} (h : FunO P gl f xs st rows) : Fun P gl f xs (.b (.s (.d (.sl rows)))) := by
  refine ⟨h.1, fun w S vs hS hgl hA => (h.2 w S vs hS hgl hA).mono fun e w1 => ?_⟩
  rintro ⟨u, S1, ρ1, rfl, k1, k2, k3, k5, k4⟩
  have hbk := k3.blk 0 ⟨st, rows.map (fun r => r.map Lc.d), false⟩ (by simp [updG])
  refine ⟨u, fun k => S1 k ∨ ρ1 0 = some k, rfl, fun k hk => .inl (k1 k hk), fun k hk => ?_, ?_, k4⟩
  · rcases hk with hk | hk
    · exact k2 k hk
    · exact ⟨.inr (k3.own 0 k hk), k3.bound hk⟩
  · refine .d _ _ ?_
    cases k5 with
    | own _ _ e0 _ hG0 hn hone hh =>
      simp only [updG, if_true, Option.some.injEq] at hG0
      subst hG0
      obtain ⟨a, c, rfl, hd⟩ := hh (by simp)
      have hrl : ∀ r, r ∈ rows → r.length = st := fun r hr => by have := hbk.1 (r.map Lc.d) (List.mem_map.2 ⟨r, hr, rfl⟩); simpa using this
      rcases hd with ⟨h0, rfl⟩ | ⟨b, arr, ty, fz, h1, rfl, h3, h4, h5⟩
      · obtain rfl : rows = [] := List.length_eq_zero_iff.1 h0
        exact .sl [] a 0 0 0 0 (fun _ => undef) (by simp) (fun _ => rfl) (fun r hr => by cases hr) (fun h => absurd rfl h) (fun j sc h => by simp at h) (fun j sc h => by simp at h)
      · rcases hbk.2 with ⟨g1, _⟩ | ⟨b1, arr1, ty1, fz1, g1, g2, g3, g4, g5⟩
        · rw [h1] at g1; cases g1
        · rw [h1] at g1; cases g1
          rw [h4] at g3; cases g3
          have key : ∀ (j : Nat) sc, rows.flatten[j]? = some sc → ∃ v, arr[j]? = some v ∧ RepD w1 S1 sc v := by
            intro j sc hj
            obtain ⟨v, q1, q2⟩ := g5 j (.d sc) (by rw [map_d_flatten, List.getElem?_map, hj]; rfl)
            cases q2 with | d _ _ q2 => exact ⟨v, q1, q2⟩
          refine .sl rows _ c st b 0 (fun j => arr.getD j undef) h3 (fun h => by cases h) hrl (fun _ => ⟨rfl, .inr h1⟩) (fun j sc hj => ?_) (fun j sc hj => ?_)
          · obtain ⟨v, q1, q2⟩ := key j sc hj
            rw [Nat.zero_add]
            simp [World.cell?, h4, q1, Array.getD_eq_getD_getElem?]
          · obtain ⟨v, q1, q2⟩ := key j sc hj
            rw [Array.getD_eq_getD_getElem?, q1]
            exact q2.mono (fun k hk => .inl hk) (fun _ _ => rfl)
theorem GlOk.later {gl : Gl} {w w1 : World} {S : Nat → Prop} (hS : ∀ k, S k → k < w.heap.size) (hG : GlOk gl w S) (hb : Below w.heap.size w w1) : GlOk gl w1 S := fun g cs hg => (hG g cs hg).mono (fun _ h => h) (fun k hk => hb.block k (hS k hk))
theorem Fun.boolAt {gl : Gl} {f : FuncId} {xs : List Va} {b : Bool} {w w1 : World} {S : Nat → Prop} {vs : Array Value} (h : Fun P gl f xs (.bo b)) (hS : ∀ k, S k → k < w.heap.size) (hG : GlOk gl w S) (hb : Below w.heap.size w w1) (hA : RepA w1 S xs vs) : Calls P f vs w1 fun e w' => e = .returned (.bool b) ∧ Below w1.heap.size w1 w' :=
  (h.2 w1 S vs (fun k hk => Nat.lt_of_lt_of_le (hS k hk) hb.size) (hG.later hS hb) hA).mono fun e w' => by
    rintro ⟨u, S1, rfl, _, _, hr, hb⟩
    refine ⟨?_, hb⟩
    cases hr with
    | d _ _ h => cases h with | bool _ => rfl
theorem repA_str {w : World} {S : Nat → Prop} (x : List UInt8) : RepA w S [.b (.s (.d (.str x)))] #[strV x] := by
  refine ⟨rfl, fun j y hj => ?_⟩
  cases j with
  | zero => simp only [List.getElem?_cons_zero, Option.some.injEq] at hj; subst hj; exact .d _ _ (.str _)
  | succ j => simp at hj
/-- A package variable that holds a type's handle. -/
theorem ifa_one {w : World} {S : Nat → Prop} {t : TypeId} {x : Sc} {u : Value} (h : RepD w S (.ifc t true [x]) u) : ∃ v, u = .iface t (.agg #[v]) ∧ RepD w S x v := by
  cases h with
  | ifa _ _ vs hl hu =>
    obtain ⟨vs⟩ := vs
    match vs, hl with
    | [v], _ => exact ⟨v, rfl, hu 0 x rfl⟩
theorem ifa_two {w : World} {S : Nat → Prop} {t : TypeId} {x y : Sc} {u : Value} (h : RepD w S (.ifc t true [x, y]) u) : ∃ v v2, u = .iface t (.agg #[v, v2]) ∧ RepD w S x v ∧ RepD w S y v2 := by
  cases h with
  | ifa _ _ vs hl hu =>
    obtain ⟨vs⟩ := vs
    match vs, hl with
    | [v, v2], _ => exact ⟨v, v2, rfl, hu 0 x rfl, hu 1 y rfl⟩
theorem ifa_none {w : World} {S : Nat → Prop} {t : TypeId} {u : Value} (h : RepD w S (.ifc t true []) u) : u = .iface t (.agg #[]) := by
  cases h with
  | ifa _ _ vs hl hu =>
    obtain ⟨vs⟩ := vs
    match vs, hl with
    | [], _ => rfl
theorem repD_int {w : World} {S : Nat → Prop} {k : IntKind} {n : Int} {u : Value} (h : RepD w S (.int k n) u) : u = .int k n := by cases h; rfl
theorem gl_handle {gl : Gl} {w : World} {S : Nat → Prop} {g t b o : Nat} (hG : GlOk gl w S) (h : gl g = some [.ifc t true [.z (.hnd b o)]]) : w.cell? ⟨g, 0, none⟩ = some (.iface t (.agg #[.pointer (some ⟨b, o, none⟩)])) := by
  have h1 := hG g _ h
  cases h1 with
  | ref _ _ b1 o1 us hS hcell hu =>
    have h2 := hu 0 _ rfl
    obtain ⟨v, h3, h4⟩ := ifa_one h2
    have h5 := hcell 0 _ rfl
    rw [h3] at h5
    cases h4 with
    | z _ => exact h5
/-- Two plain values, handed back, or handed in. -/
theorem repV_two {w : World} {S : Nat → Prop} {x y : Sc} {u v : Value} (h1 : RepD w S x u) (h2 : RepD w S y v) : RepV w S (fun _ => none) (fun _ => none) (.tup [.s (.d x), .s (.d y)]) (.tuple #[u, v]) := by
  refine ⟨_, rfl, rfl, fun j z hj => ?_⟩
  match j, hj with
  | 0, hj => cases hj; exact .d _ _ h1
  | 1, hj => cases hj; exact .d _ _ h2
theorem repA_two {w : World} {S : Nat → Prop} {x y : Va} {u v : Value} (h1 : RepV w S (fun _ => none) (fun _ => none) x u) (h2 : RepV w S (fun _ => none) (fun _ => none) y v) : RepA w S [x, y] #[u, v] := by
  refine ⟨rfl, fun j z hj => ?_⟩
  match j, hj with
  | 0, hj => cases hj; exact h1
  | 1, hj => cases hj; exact h2
theorem Fun.strInt {gl : Gl} {f : FuncId} {xs : List Va} {s : List UInt8} {k : IntKind} {n : Int} {w w1 : World} {S : Nat → Prop} {vs : Array Value} (h : Fun P gl f xs (.tup [.s (.d (.str s)), .s (.d (.int k n))])) (hS : ∀ k, S k → k < w.heap.size) (hG : GlOk gl w S) (hb : Below w.heap.size w w1) (hA : RepA w1 S xs vs) : Calls P f vs w1 fun e w' => e = .returned (.tuple #[strV s, .int k n]) ∧ Below w1.heap.size w1 w' :=
  (h.2 w1 S vs (fun k hk => Nat.lt_of_lt_of_le (hS k hk) hb.size) (hG.later hS hb) hA).mono fun e w' => by
    rintro ⟨u, S1, rfl, _, _, hr, hb⟩
    refine ⟨?_, hb⟩
    obtain ⟨vs, rfl, hl, hr⟩ := hr
    obtain ⟨vs⟩ := vs
    match vs, hl with
    | [a, b], _ =>
      have h1 := hr 0 _ rfl
      have h2 := hr 1 _ rfl
      cases h1 with
      | d _ _ h1 => cases h2 with
        | d _ _ h2 => cases h1; cases h2; rfl
/-- A row of texts that is handed in. -/
theorem rep_strs {w : World} {S : Nat → Prop} {l : List (List UInt8)} {v : Value} (hS : ∀ k, S k → k < w.heap.size) (h : RepV w S (fun _ => none) (fun _ => none) (.b (.s (.d (.sl (l.map eS))))) v) :
    ∃ A b o c, v = .slice A l.length c ∧ (l ≠ [] → A = some ⟨b, o, none⟩) ∧ (∀ (j : Nat) x, l[j]? = some x → w.cell? ⟨b, o + j, none⟩ = some (strV x)) ∧ (l ≠ [] → b < w.heap.size) ∧ l.length ≤ c := by
  have hfl : (l.map eS).flatten = l.map Sc.str := by
    clear h
    induction l with
    | nil => rfl
    | cons x l ih => rw [List.map_cons, List.flatten_cons, ih]; rfl
  cases h with
  | d _ _ h =>
    cases h with
    | sl _ a c st b o us hc h0 hst ha hcell hu =>
      rw [List.length_map] at hc
      refine ⟨a, b, o, c, by rw [List.length_map], fun hne => (ha (by simpa using hne)).1, fun j x hj => ?_, fun hne => hS _ (ha (by simpa using hne)).2, hc⟩
      have hj2 : (l.map eS).flatten[j]? = some (.str x) := by rw [hfl, List.getElem?_map, hj]; rfl
      rw [hcell j _ hj2]
      have := hu j _ hj2
      generalize us j = q at this
      cases this; rfl
end Go.Proofs.YtedibjgdangfnaaGreatDoor.V
end

section
/- The iterator of strings.SplitSeq at a separator of one byte. -/
namespace Go.Proofs.YtedibjgdangfnaaGreatDoor
open Go.RowKit
set_option linter.unusedVariables false
set_option linter.unusedSimpArgs false
open V
attribute [local go_sem] Oper.semAt_some
theorem cell_of_block {w w1 : World} {b : Nat} (h : w1.heap[b]? = w.heap[b]?) (o : Nat) : w1.cell? ⟨b, o, none⟩ = w.cell? ⟨b, o, none⟩ := World.cell?_of_block (w := w) h
theorem frozen_of_block {w w1 : World} {b : Nat} (h : w1.heap[b]? = w.heap[b]?) (o : Nat) : w1.frozen? ⟨b, o, none⟩ = w.frozen? ⟨b, o, none⟩ := by simp [World.frozen?, h]
def strLen (w : World) (a : Addr) : Nat := match w.cell? a with
  | some (.string l) => l.size
  | _ => 0
theorem ext_drop (l : List UInt8) (k : Nat) : (⟨⟨l⟩⟩ : ByteArray).extract k l.length = ⟨⟨l.drop k⟩⟩ := by
  apply ByteArray.ext; simp [List.take_of_length_le]
set_option maxHeartbeats 4000000 in
theorem splitSeq_hands (c : UInt8) (s : List UInt8) (bp bs bz : Nat) (w : World) (hlen : s.length ≤ 140737488355328) (hp : w.cell? ⟨bp, 0, none⟩ = some (strV [c])) (hs : w.cell? ⟨bs, 0, none⟩ = some (strV s)) (hz : w.cell? ⟨bz, 0, none⟩ = some (.int .i64 0)) (hf : w.frozen? ⟨bs, 0, none⟩ = false) (n1 : bp ≠ bs) (n2 : bz ≠ bs) :
    Hands Tryz.prog 194 #[.pointer (some ⟨bp, 0, none⟩), .pointer (some ⟨bs, 0, none⟩), .pointer (some ⟨bz, 0, none⟩)] (fun b => b = bp ∨ b = bs ∨ b = bz) (splitOnB c s) (fun x => #[strV x]) w := by
  intro l J Jx W hW hJ hJx hY h0
  have hp0 := (cell_of_block (hW.block bp trivial (cell?_lt hp)) 0).trans hp
  have hs0 := (cell_of_block (hW.block bs trivial (cell?_lt hs)) 0).trans hs
  have hz0 := (cell_of_block (hW.block bz trivial (cell?_lt hz)) 0).trans hz
  have hf0 := (frozen_of_block (hW.block bs trivial (cell?_lt hs)) 0).trans hf
  refine (callsIn_wide (n := 3)).1 ?_
  refine callsIn_of_wp Tryz.func194 rfl trivial ?_ rfl
  simp only [Tryz.ntmps194, List.size_toArray, List.length_cons, List.length_nil, Nat.reduceAdd, Nat.reduceSub, Array.replicate_succ, Array.replicate_zero, List.push_toArray, List.append_toArray, List.nil_append, List.cons_append]
  have hidx : ∀ (x : List UInt8) (W : World), Calls Tryz.prog 196 #[.string ⟨⟨x⟩⟩, .string ⟨#[c]⟩] W fun e W' => e = .returned (.int .i64 (Lib.indexByte x c)) ∧ W' = W := by
    intro x W
    go_enter Tryz.func196, Tryz.ntmps196
    go_wp2_with (go_at_call 223; refine (Tryz.stringslite_Index_one ⟨⟨x⟩⟩ c W).mono ?_; rintro e W' ⟨rfl, rfl⟩)
    go_ret
    exact ⟨rfl, rfl⟩
  have hsv : ∀ x : List UInt8, strV x = .string ⟨⟨x⟩⟩ := fun _ => rfl
  have hsc : strV [c] = .string ⟨#[c]⟩ := rfl
  rw [hsc] at hp0
  rw [hsv] at hs0
  gi_wp2
  gi_loopw [7] (fun i wr => ∃ (pre : List (List UInt8)) (rest : List UInt8), splitOnB c s = pre ++ splitOnB c rest ∧ rest.length ≤ 140737488355328 ∧ wr.cell? ⟨bs, 0, none⟩ = some (.string ⟨⟨rest⟩⟩) ∧ wr.frozen? ⟨bs, 0, none⟩ = false ∧ wr.cell? ⟨bp, 0, none⟩ = some (.string ⟨#[c]⟩) ∧ wr.cell? ⟨bz, 0, none⟩ = some (.int .i64 0) ∧ J pre wr) (fun i wr => strLen wr ⟨bs, 0, none⟩)
  case atStart =>
    exact ⟨[], s, rfl, hlen, hs0, hf0, hp0, hz0, h0⟩
  case round =>
    obtain ⟨pre, rest, hx, hl, hc1, hc2, hc3, hc4, hJ1⟩ := hrel
    gi_wp2
    refine ⟨trivial, ?_⟩
    refine (callsIn_wide.2 (hidx rest wr)).mono ?_
    rintro e W2 ⟨rfl, rfl⟩
    dsimp only
    by_cases hneg : Lib.indexByte rest c < 0
    · have h1 := splitOnB_none hneg
      obtain ⟨fn, tmps, assign, body, hy, hR⟩ := yieldAt_any (n := 2) (hY pre rest W2 hJ1 (by rw [hx, h1]; exact List.prefix_refl _))
      rw [hsv] at hy
      gi_wp2
      refine hR.mono ?_
      rintro e W3 (⟨rfl, hJ3, hk3⟩ | ⟨rfl, hJx3⟩)
      · gi_wp2
        go_end0
        exact ⟨⟨_, rfl⟩, .inl (by rw [hx, h1]; exact hJ3)⟩
      · gi_wp2
        go_end0
        exact ⟨⟨_, rfl⟩, .inr ⟨_, by rw [hx, h1]; exact List.prefix_refl _, hJx3⟩⟩
    · obtain ⟨i, hi, hil, h1⟩ := splitOnB_some hneg
      have hex : (⟨⟨rest⟩⟩ : ByteArray).extract 0 i = ⟨⟨rest.take i⟩⟩ := by
        apply ByteArray.ext; simp
      obtain ⟨fn, tmps, assign, body, hy, hR⟩ := yieldAt_any (n := 2) (hY pre (rest.take i) W2 hJ1 (by rw [hx, h1]; exact ⟨splitOnB c (rest.drop (i + 1)), by simp⟩))
      rw [hsv] at hy
      rw [hi] at hneg ⊢
      gi_wp2
      refine hR.mono ?_
      rintro e W3 (⟨rfl, hJ3, hk3⟩ | ⟨rfl, hJx3⟩)
      · have q1 := (cell_of_block (hk3.block bs (.inr (.inl rfl)) (cell?_lt hc1)) 0).trans hc1
        have q2 := (frozen_of_block (hk3.block bs (.inr (.inl rfl)) (cell?_lt hc1)) 0).trans hc2
        have q3 := (cell_of_block (hk3.block bp (.inl rfl) (cell?_lt hc3)) 0).trans hc3
        have q4 := (cell_of_block (hk3.block bz (.inr (.inr rfl)) (cell?_lt hc4)) 0).trans hc4
        gi_wp2
        go_roundw
        case rel =>
          refine ⟨pre ++ [rest.take i], rest.drop (i + 1), by rw [hx, h1]; simp, by simp; omega, ?_, ?_, ?_, ?_, ?_⟩
          · rw [World.cell?_setCell_same' _ _ _ (by rw [q1]; rfl), ext_drop]
          · rw [World.frozen?_setCell]; exact q2
          · exact (World.cell?_setCell_other _ _ _ _ (by intro e; injection e with e; exact n1 e.symm)).trans q3
          · exact (World.cell?_setCell_other _ _ _ _ (by intro e; injection e with e; exact n2 e.symm)).trans q4
          · exact hJ _ _ _ hJ3 (.setCell _ _ _ _ (by simp))
        case measure =>
          have e1 : strLen (W3.setCell ⟨bs, 0, none⟩ (.string ((⟨⟨rest⟩⟩ : ByteArray).extract (i + 1) rest.length))) ⟨bs, 0, none⟩ = rest.length - (i + 1) := by
            rw [strLen, World.cell?_setCell_same' _ _ _ (by rw [q1]; rfl), ext_drop]
            show (rest.drop (i + 1)).length = _
            simp
          have e2 : strLen W2 ⟨bs, 0, none⟩ = rest.length := by rw [strLen, hc1]; rfl
          omega
      · gi_wp2
        refine bodyPost_ret (results_none rfl _ _ _) rfl ?_
        exact ⟨⟨_, rfl⟩, .inr ⟨_, by rw [hx, h1]; exact ⟨splitOnB c (rest.drop (i + 1)), by simp⟩, hJx3⟩⟩
end Go.Proofs.YtedibjgdangfnaaGreatDoor
end

section
/- The contract of cron.field, over what is known of cron.values. -/
namespace Go.Proofs.YtedibjgdangfnaaGreatDoor
open Go.RowKit
set_option linter.unusedVariables false
set_option linter.unusedSimpArgs false
open V
attribute [local go_sem] Oper.semAt_some
theorem cs_other {w : World} {a b : Addr} {u v : Value} (hv : w.cell? b = some v) (h : a.block ≠ b.block) : (w.setCell a u).cell? b = some v := by
  rw [World.cell?_setCell_other (a := a) (b := b) (h := fun e => h (by rw [e]))]; exact hv
theorem splitSeq_newC (s : List UInt8) (c : UInt8) (w : World) : Calls Tryz.prog 79 #[.string ⟨⟨s⟩⟩, .string ⟨#[c]⟩] w fun e w' => e = .returned (.func (.func 194) #[] #[.pointer (some ⟨w.heap.size + 1, 0, none⟩), .pointer (some ⟨w.heap.size, 0, none⟩), .pointer (some ⟨w.heap.size + 1 + 1, 0, none⟩)]) ∧
    Below w.heap.size w w' ∧ w'.heap.size = w.heap.size + 3 ∧ w'.cell? ⟨w.heap.size + 1, 0, none⟩ = some (strV [c]) ∧ w'.cell? ⟨w.heap.size, 0, none⟩ = some (strV s) ∧ w'.cell? ⟨w.heap.size + 1 + 1, 0, none⟩ = some (.int .i64 0) ∧ w'.frozen? ⟨w.heap.size, 0, none⟩ = false := by
  go_enter Tryz.func79, Tryz.ntmps79
  go_wp2
  go_ret
  have b1 := (((Below.refl w.heap.size w).alloc (Nat.le_refl _) (.cells #[.string ⟨⟨s⟩⟩] 9)).alloc (by simp) (.cells #[.string ⟨#[c]⟩] 9)).alloc (by simp; omega) (.cells #[.int .i64 0] 3)
  refine ⟨rfl, b1, by simp, ?_, ?_, ?_, ?_⟩
  · rw [World.cell?_alloc_past _ _ _ (by simp), World.cell?_alloc_at _ _ _ _ (by simp)]; rfl
  · rw [World.cell?_alloc_past _ _ _ (by simp; omega), World.cell?_alloc_past _ _ _ (by simp), World.cell?_alloc_at _ _ _ _ (by simp)]; rfl
  · rw [World.cell?_alloc_at _ _ _ _ (by simp)]; rfl
  · rw [World.frozen?_alloc_past _ _ _ (by simp; omega), World.frozen?_alloc_past _ _ _ (by simp), World.frozen?_alloc_at _ _ _ _ rfl]
def flatDescC : TypeDesc → Bool
  | .struct _ => false
  | .array _ _ => false
  | _ => true
theorem run_loadVar_flatC {P : Program} {w : World} {ty : TypeId} {a : Addr} {v : Value} {d : TypeDesc} (hu : P.underlying ty = some d) (hd : flatDescC d = true) (hc : w.cell? a = some v) : (loadVar ty a).run P w = .ok v w := by
  cases d <;> first | (cases hd; done) | simp [loadVar, isAgg, underlying, hu, hc, Result.andThen, Sem.run_bind]
theorem results_cell2 {P : Program} {w : World} {fn : Func} {p q : Tmp} {ty t2 : TypeId} {a b : Addr} {v u : Value} {d d2 : TypeDesc} (h : fn.results = #[.cell p ty, .cell q t2]) (tmps : Array Value) (hp : tmps.getD p undef = .pointer (some a)) (hq : tmps.getD q undef = .pointer (some b)) (hu : P.underlying ty = some d) (hu2 : P.underlying t2 = some d2) (hd : flatDescC d = true) (hd2 : flatDescC d2 = true) (hc : w.cell? a = some v) (hc2 : w.cell? b = some u) : (results fn tmps).run P w = .ok (.tuple #[v, u]) w := by
  have hp' : tmps[p]?.getD undef = .pointer (some a) := by simpa using hp
  have hq' : tmps[q]?.getD undef = .pointer (some b) := by simpa using hq
  simp [results, h, hp', hq', asAddr, run_loadVar_flatC hu hd hc, run_loadVar_flatC hu2 hd2 hc2, Sem.run_bind, Result.andThen]
def errV : Bool → Value
  | false => .nilIface
  | true => .iface 205 (.agg #[])
def preF (f : List UInt8 → Option (Int × Bool)) : Int → List (List UInt8) → Option Int
  | n, [] => some n
  | n, x :: l => (f x).bind fun r => if r.2 then none else preF f (orU n r.1) l
theorem foldF_pre {f : List UInt8 → Option (Int × Bool)} : ∀ {pre l : List (List UInt8)} {n m : Int} {y : Int × Bool}, preF f n pre = some m → foldF f n (pre ++ l) = some y → foldF f m l = some y
  | [], l, n, m, y, h, h1 => by cases h; exact h1
  | x :: pre, l, n, m, y, h, h1 => by
    rw [preF] at h
    obtain ⟨r, hr, h⟩ := Option.bind_eq_some_iff.1 h
    rw [List.cons_append, foldF, hr, Option.bind_some] at h1
    split at h
    · cases h
    · rename_i hn
      rw [if_neg hn] at h1
      exact foldF_pre h h1
theorem preF_snoc {f : List UInt8 → Option (Int × Bool)} : ∀ {pre : List (List UInt8)} {x : List UInt8} {n m v : Int}, preF f n pre = some m → f x = some (v, false) → preF f n (pre ++ [x]) = some (orU m v)
  | [], x, n, m, v, h, h1 => by cases h; simp [preF, h1]
  | z :: pre, x, n, m, v, h, h1 => by
    rw [preF] at h
    obtain ⟨r, hr, h⟩ := Option.bind_eq_some_iff.1 h
    rw [List.cons_append, preF, hr, Option.bind_some]
    split at h
    · cases h
    · rename_i hn
      rw [if_neg hn]
      exact preF_snoc h h1
set_option maxHeartbeats 4000000 in
theorem cron_field_spec (f : List UInt8 → Option (Int × Bool)) (s : List UInt8) (lo hi : Int) (hlen : s.length ≤ 140737488355328) (y : Int × Bool) (h : fieldOf f s = some y) (w : World) (hf : ∀ x r, f x = some r → ∀ W : World, Below w.heap.size w W → Calls Tryz.prog 182 #[.string ⟨⟨x⟩⟩, .agg #[.int .i64 lo, .int .i64 hi]] W fun e w' => e = .returned (.tuple #[.int .u64 r.1, errV r.2]) ∧ Below W.heap.size W w') :
    Calls Tryz.prog 128 #[.string ⟨⟨s⟩⟩, .agg #[.int .i64 lo, .int .i64 hi]] w fun e w' => e = .returned (.tuple #[.int .u64 y.1, errV y.2]) ∧ Below w.heap.size w w' := by
  refine (callsIn_wide (n := 3)).1 ?_
  refine callsIn_of_wp_marks Tryz.func128 rfl trivial ?_ rfl
  simp only [Tryz.ntmps128, List.size_toArray, List.length_cons, List.length_nil, Nat.reduceAdd, Nat.reduceSub, Array.replicate_succ, Array.replicate_zero, List.push_toArray, List.append_toArray, List.nil_append, List.cons_append]
  gi_wp2
  refine ⟨trivial, ?_⟩
  have z0 : ((((w.alloc (.cells #[.int .i64 lo, .int .i64 hi] 195)).alloc (.cells #[.int .u64 0] 35)).alloc (.cells #[.nilIface] 200)).alloc (.cells #[.int .u64 0] 35)).heap.size = w.heap.size + 4 := by simp
  have bw : Below w.heap.size w ((((w.alloc (.cells #[.int .i64 lo, .int .i64 hi] 195)).alloc (.cells #[.int .u64 0] 35)).alloc (.cells #[.nilIface] 200)).alloc (.cells #[.int .u64 0] 35)) :=
    ((((Below.refl w.heap.size w).alloc (Nat.le_refl _) _).alloc (by simp) _).alloc (by simp <;> omega) _).alloc (by simp <;> omega) _
  have k0 : ∀ o v, (#[.int .i64 lo, .int .i64 hi] : Array Value)[o]? = some v → ((((w.alloc (.cells #[.int .i64 lo, .int .i64 hi] 195)).alloc (.cells #[.int .u64 0] 35)).alloc (.cells #[.nilIface] 200)).alloc (.cells #[.int .u64 0] 35)).cell? ⟨w.heap.size, o, none⟩ = some v := by
    intro o v hv
    rw [World.cell?_alloc_past _ _ _ (by simp <;> omega), World.cell?_alloc_past _ _ _ (by simp <;> omega), World.cell?_alloc_past _ _ _ (by simp), World.cell?_alloc_at _ _ _ _ rfl]; exact hv
  have k1 : ((((w.alloc (.cells #[.int .i64 lo, .int .i64 hi] 195)).alloc (.cells #[.int .u64 0] 35)).alloc (.cells #[.nilIface] 200)).alloc (.cells #[.int .u64 0] 35)).cell? ⟨w.heap.size + 1, 0, none⟩ = some (.int .u64 0) := by
    rw [World.cell?_alloc_past _ _ _ (by simp <;> omega), World.cell?_alloc_past _ _ _ (by simp), World.cell?_alloc_at _ _ _ _ (by simp)]; rfl
  have k2 : ((((w.alloc (.cells #[.int .i64 lo, .int .i64 hi] 195)).alloc (.cells #[.int .u64 0] 35)).alloc (.cells #[.nilIface] 200)).alloc (.cells #[.int .u64 0] 35)).cell? ⟨w.heap.size + 1 + 1, 0, none⟩ = some .nilIface := by
    rw [World.cell?_alloc_past _ _ _ (by simp), World.cell?_alloc_at _ _ _ _ (by simp)]; rfl
  have k3 : ((((w.alloc (.cells #[.int .i64 lo, .int .i64 hi] 195)).alloc (.cells #[.int .u64 0] 35)).alloc (.cells #[.nilIface] 200)).alloc (.cells #[.int .u64 0] 35)).cell? ⟨w.heap.size + 1 + 1 + 1, 0, none⟩ = some (.int .u64 0) := by
    rw [World.cell?_alloc_at _ _ _ _ (by simp)]; rfl
  have q1 : ((((w.alloc (.cells #[.int .i64 lo, .int .i64 hi] 195)).alloc (.cells #[.int .u64 0] 35)).alloc (.cells #[.nilIface] 200)).alloc (.cells #[.int .u64 0] 35)).frozen? ⟨w.heap.size + 1, 0, none⟩ = false := by
    rw [World.frozen?_alloc_past _ _ _ (by simp <;> omega), World.frozen?_alloc_past _ _ _ (by simp), World.frozen?_alloc_at _ _ _ _ (by simp)]
  have q2 : ((((w.alloc (.cells #[.int .i64 lo, .int .i64 hi] 195)).alloc (.cells #[.int .u64 0] 35)).alloc (.cells #[.nilIface] 200)).alloc (.cells #[.int .u64 0] 35)).frozen? ⟨w.heap.size + 1 + 1, 0, none⟩ = false := by
    rw [World.frozen?_alloc_past _ _ _ (by simp), World.frozen?_alloc_at _ _ _ _ (by simp)]
  have q3 : ((((w.alloc (.cells #[.int .i64 lo, .int .i64 hi] 195)).alloc (.cells #[.int .u64 0] 35)).alloc (.cells #[.nilIface] 200)).alloc (.cells #[.int .u64 0] 35)).frozen? ⟨w.heap.size + 1 + 1 + 1, 0, none⟩ = false := by
    rw [World.frozen?_alloc_at _ _ _ _ (by simp)]
  generalize ((((w.alloc (.cells #[.int .i64 lo, .int .i64 hi] 195)).alloc (.cells #[.int .u64 0] 35)).alloc (.cells #[.nilIface] 200)).alloc (.cells #[.int .u64 0] 35)) = W0 at z0 bw k0 k1 k2 k3 q1 q2 q3 ⊢
  refine (callsIn_wide.2 (splitSeq_newC s 44 W0)).mono ?_
  rintro e W1 ⟨rfl, b1, z1, c1, c2, c3, f1⟩
  dsimp only
  rw [z0] at b1 z1 c1 c2 c3 f1 ⊢
  have r3 : Below w.heap.size w W1 := bw.trans (b1.mono (by omega))
  have e0 : W1.cell? ⟨w.heap.size, 0, none⟩ = some (.int .i64 lo) := (b1.cell (p := ⟨w.heap.size, 0, none⟩) (by simp)).trans (k0 0 _ rfl)
  have e1 : W1.cell? ⟨w.heap.size, 1, none⟩ = some (.int .i64 hi) := (b1.cell (p := ⟨w.heap.size, 1, none⟩) (by simp)).trans (k0 1 _ rfl)
  have g1 : W1.cell? ⟨w.heap.size + 1, 0, none⟩ = some (.int .u64 0) := (b1.cell (p := ⟨w.heap.size + 1, 0, none⟩) (by simp)).trans k1
  have g2 : W1.cell? ⟨w.heap.size + 1 + 1, 0, none⟩ = some .nilIface := (b1.cell (p := ⟨w.heap.size + 1 + 1, 0, none⟩) (by simp <;> omega)).trans k2
  have g3 : W1.cell? ⟨w.heap.size + 1 + 1 + 1, 0, none⟩ = some (.int .u64 0) := (b1.cell (p := ⟨w.heap.size + 1 + 1 + 1, 0, none⟩) (by simp <;> omega)).trans k3
  have p1 : W1.frozen? ⟨w.heap.size + 1, 0, none⟩ = false := (b1.frozen (p := ⟨w.heap.size + 1, 0, none⟩) (by simp)).trans q1
  have p2 : W1.frozen? ⟨w.heap.size + 1 + 1, 0, none⟩ = false := (b1.frozen (p := ⟨w.heap.size + 1 + 1, 0, none⟩) (by simp <;> omega)).trans q2
  have p3 : W1.frozen? ⟨w.heap.size + 1 + 1 + 1, 0, none⟩ = false := (b1.frozen (p := ⟨w.heap.size + 1 + 1 + 1, 0, none⟩) (by simp <;> omega)).trans q3
  clear k0 k1 k2 k3 q1 q2 q3 z0
  gi_wp2
  refine wp_range (B := w.heap.size + 4) rfl (enters_of Tryz.func194 (by kernel_rfl) rfl) (splitSeq_hands 44 s _ _ _ W1 hlen c1 c2 c3 f1 (by omega) (by omega)) (by rintro b (rfl | rfl | rfl) <;> omega) (fun _ => rfl)
    (fun pre W => (∃ n, preF f 0 pre = some n ∧ W.cell? ⟨w.heap.size + 1 + 1 + 1, 0, none⟩ = some (.int .u64 n)) ∧ W.cell? ⟨w.heap.size, 0, none⟩ = some (.int .i64 lo) ∧ W.cell? ⟨w.heap.size, 1, none⟩ = some (.int .i64 hi) ∧ W.cell? ⟨w.heap.size + 1, 0, none⟩ = some (.int .u64 0) ∧ W.cell? ⟨w.heap.size + 1 + 1, 0, none⟩ = some .nilIface ∧
      W.frozen? ⟨w.heap.size + 1, 0, none⟩ = false ∧ W.frozen? ⟨w.heap.size + 1 + 1, 0, none⟩ = false ∧ W.frozen? ⟨w.heap.size + 1 + 1 + 1, 0, none⟩ = false ∧ Below w.heap.size w W)
    (fun c pre W => c = .ret ∧ (∃ p x n v, pre = p ++ [x] ∧ preF f 0 p = some n ∧ f x = some (v, true)) ∧ W.cell? ⟨w.heap.size + 1, 0, none⟩ = some (.int .u64 0) ∧ W.cell? ⟨w.heap.size + 1 + 1, 0, none⟩ = some (errV true) ∧ Below w.heap.size w W)
    ?_ ?_ (by omega) ⟨⟨0, rfl, g3⟩, e0, e1, g1, g2, p1, p2, p3, r3⟩ (fun x => { tmps := #[.string ⟨⟨s⟩⟩, .agg #[.int .i64 lo, .int .i64 hi], undef, .pointer (some ⟨w.heap.size, 0, none⟩), .pointer (some ⟨w.heap.size + 1, 0, none⟩), .pointer (some ⟨w.heap.size + 1 + 1, 0, none⟩), .pointer (some ⟨w.heap.size + 1 + 1 + 1, 0, none⟩), .string ⟨⟨x⟩⟩, undef, undef, .string ⟨⟨s⟩⟩, .func (.func 194) #[] #[.pointer (some ⟨w.heap.size + 4 + 1, 0, none⟩), .pointer (some ⟨w.heap.size + 4, 0, none⟩), .pointer (some ⟨w.heap.size + 4 + 1 + 1, 0, none⟩)], .string ⟨⟨x⟩⟩, undef, undef, undef, undef, undef, undef, undef, undef, undef, undef, undef, undef, undef], defers := [] }) ?assign ?body ?done ?stop
  · rintro pre W W' ⟨⟨n, h0, h1⟩, h2, h3, h4, h5, h6, h7, h8, h9⟩ hk
    have c0 := hk.block w.heap.size (by omega) (cell?_lt h2)
    have c1 := hk.block (w.heap.size + 1) (by omega) (cell?_lt h4)
    have c2 := hk.block (w.heap.size + 1 + 1) (by omega) (cell?_lt h5)
    have c3 := hk.block (w.heap.size + 1 + 1 + 1) (by omega) (cell?_lt h1)
    exact ⟨⟨n, h0, (cell_of_block c3 0).trans h1⟩, (cell_of_block c0 0).trans h2, (cell_of_block c0 1).trans h3, (cell_of_block c1 0).trans h4, (cell_of_block c2 0).trans h5, (frozen_of_block c1 0).trans h6, (frozen_of_block c2 0).trans h7, (frozen_of_block c3 0).trans h8, h9.trans (hk.below (fun b hb => by omega) h9.size)⟩
  · rintro c pre W W' ⟨h0, h1, h2, h3, h4⟩ hk
    have c1 := hk.block (w.heap.size + 1) (by omega) (cell?_lt h2)
    have c2 := hk.block (w.heap.size + 1 + 1) (by omega) (cell?_lt h3)
    exact ⟨h0, h1, (cell_of_block c1 0).trans h2, (cell_of_block c2 0).trans h3, h4.trans (hk.below (fun b hb => by omega) h4.size)⟩
  case assign =>
    intro l x W K hK
    gi_wp2
    exact hK
  case body =>
    rintro l pre x W ⟨⟨n, h0, h1⟩, h2, h3, h4, h5, h6, h7, h8, h9⟩ hB ⟨t, ht⟩
    have h' := h
    unfold fieldOf at h'
    rw [← ht, List.append_assoc] at h'
    have h10 := foldF_pre h0 h'
    rw [List.singleton_append, foldF] at h10
    obtain ⟨r, hr, h11⟩ := Option.bind_eq_some_iff.1 h10
    gi_wp2
    refine ⟨trivial, ?_⟩
    refine (CallsIn.inRound l (callsIn_wide.2 (hf x r hr W h9))).mono ?_
    rintro e W2 ⟨rfl, kk⟩
    have u1 := (kk.cell (p := ⟨w.heap.size + 1 + 1 + 1, 0, none⟩) (by simp <;> omega)).trans h1
    have u2 := (kk.cell (p := ⟨w.heap.size, 0, none⟩) (by simp <;> omega)).trans h2
    have u3 := (kk.cell (p := ⟨w.heap.size, 1, none⟩) (by simp <;> omega)).trans h3
    have u4 := (kk.cell (p := ⟨w.heap.size + 1, 0, none⟩) (by simp <;> omega)).trans h4
    have u5 := (kk.cell (p := ⟨w.heap.size + 1 + 1, 0, none⟩) (by simp <;> omega)).trans h5
    have u6 := (kk.frozen (p := ⟨w.heap.size + 1, 0, none⟩) (by simp <;> omega)).trans h6
    have u7 := (kk.frozen (p := ⟨w.heap.size + 1 + 1, 0, none⟩) (by simp <;> omega)).trans h7
    have u8 := (kk.frozen (p := ⟨w.heap.size + 1 + 1 + 1, 0, none⟩) (by simp <;> omega)).trans h8
    have u9 := h9.trans (kk.mono (by omega))
    obtain ⟨v, b⟩ := r
    cases b with
    | false =>
      have hpre := preF_snoc h0 hr
      clear h10 h11 h' ht
      dsimp only [errV]
      gi_wp2
      refine ⟨(Kp.of_below kk).trans (.setCell _ _ _ _ (by omega)), ⟨_, hpre, World.cell?_setCell_same' _ _ _ (by rw [u1]; rfl)⟩, ?_, ?_, ?_, ?_, by rw [World.frozen?_setCell]; exact u6, by rw [World.frozen?_setCell]; exact u7, by rw [World.frozen?_setCell]; exact u8, u9.setCell (p := ⟨w.heap.size + 1 + 1 + 1, 0, none⟩) (by simp <;> omega) _⟩
      · exact cs_other u2 (by simp <;> omega)
      · exact cs_other u3 (by simp <;> omega)
      · exact cs_other u4 (by simp <;> omega)
      · exact cs_other u5 (by simp <;> omega)
    | true =>
      clear h10 h11 h' ht
      dsimp only [errV]
      gi_wp2
      refine ⟨((Kp.of_below kk).trans (.setCell _ _ _ _ (by omega))).trans (.setCell _ _ _ _ (by omega)), rfl, ⟨pre, x, n, v, rfl, h0, hr⟩, ?_, ?_, (u9.setCell (p := ⟨w.heap.size + 1, 0, none⟩) (by simp <;> omega) _).setCell (p := ⟨w.heap.size + 1 + 1, 0, none⟩) (by simp <;> omega) _⟩
      · exact cs_other (World.cell?_setCell_same' _ _ _ (by rw [u4]; rfl)) (by simp)
      · exact World.cell?_setCell_same' _ _ _ (by rw [cs_other u5 (by simp)]; rfl)
  case done =>
    rintro D W ⟨⟨n, h0, h1⟩, h2, h3, h4, h5, h6, h7, h8, h9⟩ hD hK
    have hy : y = (n, false) := by
      have := foldF_pre (pre := splitOnB 44 s) (l := []) h0 (by rw [List.append_nil]; exact h)
      exact (Option.some.inj this).symm
    subst hy
    clear h
    gi_wp2
    have hK' : ((W.setCell ⟨w.heap.size + 1, 0, none⟩ (.int .u64 n)).setCell ⟨w.heap.size + 1 + 1, 0, none⟩ .nilIface).heap[D]? = some (.deferred (some [])) := (Below.heap_setCell _ ⟨w.heap.size + 1 + 1, 0, none⟩ _ D (by simp <;> omega)).trans ((Below.heap_setCell W ⟨w.heap.size + 1, 0, none⟩ _ D (by simp <;> omega)).trans hK)
    refine ⟨by simp, .inl ⟨_, _, rfl, run_takeDeferred hK', ?_⟩⟩
    refine ⟨_, results_cell2 rfl _ rfl rfl Tryz.underlying35 Tryz.underlying200 rfl rfl ((cell_of_block (World.putObj_heap_other (by omega)) 0).trans (cs_other (World.cell?_setCell_same' _ _ _ (by rw [h4]; rfl)) (by simp))) ((cell_of_block (World.putObj_heap_other (by omega)) 0).trans (World.cell?_setCell_same' _ _ _ (by rw [cs_other h5 (by simp)]; rfl))), rfl, ?_⟩
    exact ((h9.setCell (p := ⟨w.heap.size + 1, 0, none⟩) (by simp <;> omega) _).setCell (p := ⟨w.heap.size + 1 + 1, 0, none⟩) (by simp <;> omega) _).trans ((Kp.putObj (S := fun b => b < w.heap.size) _ _ _ (by omega)).below (fun _ h => h) (by have := h9.size; simp; omega))
  case stop =>
    rintro D c pre W ⟨rfl, ⟨p, x, n, v, rfl, h1, hx⟩, h2, h3, h4⟩ ⟨t, ht⟩ hD hK
    have hy : y = (0, true) := by
      have h' := h
      unfold fieldOf at h'
      rw [← ht, List.append_assoc] at h'
      have h10 := foldF_pre h1 h'
      rw [List.singleton_append, foldF, hx, Option.bind_some] at h10
      exact (Option.some.inj h10).symm
    subst hy
    clear h ht
    gi_wp2
    refine ⟨by simp, .inl ⟨_, _, rfl, run_takeDeferred hK, ?_⟩⟩
    refine ⟨_, results_cell2 rfl _ rfl rfl Tryz.underlying35 Tryz.underlying200 rfl rfl ((cell_of_block (World.putObj_heap_other (by omega)) 0).trans h2) ((cell_of_block (World.putObj_heap_other (by omega)) 0).trans h3), rfl, ?_⟩
    exact h4.trans ((Kp.putObj (S := fun b => b < w.heap.size) _ _ _ (by omega)).below (fun _ h => h) h4.size)
end Go.Proofs.YtedibjgdangfnaaGreatDoor
end

section
/- errors.Is of an error that is none, or a part's. -/
namespace Go.Proofs.YtedibjgdangfnaaGreatDoor
open Go.RowKit
set_option linter.unusedVariables false
set_option linter.unusedSimpArgs false
open Go.Stop Go.Extern
/-- Neither is one. -/
theorem is_nil_part (w : World) : Calls Tryz.prog 129 #[.nilIface, .iface 205 (.agg #[])] w fun e w' => e = .returned (.bool false) ∧ w' = w := by
  have hn := run_eql_iface_nil_left (P := Tryz.prog) (w := w) 205 (.agg #[]) Tryz.underlying200
  go_enter Tryz.func129, Tryz.ntmps129
  go_wp2
  go_ret
  exact ⟨rfl, rfl⟩
theorem is_part (w : World) : Calls Tryz.prog 129 #[.iface 205 (.agg #[]), .iface 205 (.agg #[])] w fun e w' => e = .returned (.bool true) ∧ w' = w := by
  have h8 := @run_callFunc_extern Tryz.prog 183 _ Extern.ReflectliteType.typeOf Tryz.func183 (by kernel_rfl) (by kernel_rfl) (by kernel_rfl) (by kernel_rfl)
  have tT : ∀ (v : Value) (w : World), (Extern.ReflectliteType.typeOf #[.iface 205 v]).run Tryz.prog w = .ok (.iface 293 (.agg #[typeHandle Tryz.prog 205])) w := by intro v w; kernel_rfl
  have h32 : ∀ (w : World), (callFunc 289 #[.agg #[typeHandle Tryz.prog 205]]).run Tryz.prog w = .ok (.value (.bool true)) w := by
    intro w
    refine (@run_callFunc_extern Tryz.prog 289 _ (Extern.ReflectliteType.method fun t => do Go.Extern.Rtype.noPackHeld "Comparable" t; pure (.bool (← typeInfo t).comparable)) Tryz.func289 (by kernel_rfl) (by kernel_rfl) (by kernel_rfl) (by kernel_rfl) _ w).trans ?_
    kernel_rfl
  have mR : ∀ (n : Nat) (v : Value) (w : World), (Go.method (n + 1) 293 v "Comparable").run Tryz.prog w = .ok (289, v) w := by intro n v w; exact V.run_methF (by kernel_rfl) _ (by omega)
  have heq : ∀ (w : World), (binOp .eql 200 (.iface 205 (.agg #[])) (.iface 205 (.agg #[]))).run Tryz.prog w = .ok (.bool true) w := by intro w; kernel_rfl
  generalize typeHandle Tryz.prog 205 = H at tT h32
  go_enter Tryz.func129, Tryz.ntmps129
  go_wp2
  refine wp_loop_rounds 1 ?_
  rw [rounds_succ]
  go_wp2
  go_ret
  exact ⟨rfl, rfl⟩
end Go.Proofs.YtedibjgdangfnaaGreatDoor
end

section
/- The contract of rule.Picks, over what is known of its three tests: one by one, until one is not so. -/
namespace Go.Proofs.YtedibjgdangfnaaGreatDoor
open Go.RowKit
set_option linter.unusedVariables false
set_option linter.unusedSimpArgs false
open V
def Says (g : FuncId) (t : Array Value) (w : World) (b : Bool) : Prop := ∀ W : World, Below w.heap.size w W → Calls Tryz.prog g #[.agg t] W fun e w' => e = .returned (.bool b) ∧ Below W.heap.size W w'
set_option maxHeartbeats 2000000 in
theorem picks_on (w : World) (b : Bool) (t : Array Value) (h : Says 72 t w b) (W : World) (hb : Below w.heap.size w W) :
    Calls Tryz.prog 75 #[.func (.func 72) #[.agg t] #[]] W fun e w' => e = .returned (.bool (!b)) ∧ Below W.heap.size W w' := by
  go_enter Tryz.func75, Tryz.ntmps75
  go_wp2_with fail
  refine (h W hb).mono ?_
  rintro e W1 ⟨rfl, b1⟩
  go_wp2
  go_ret
  exact ⟨rfl, b1⟩
set_option maxHeartbeats 2000000 in
theorem picks_named (w : World) (b : Bool) (t : Array Value) (h : Says 73 t w b) (W : World) (hb : Below w.heap.size w W) :
    Calls Tryz.prog 75 #[.func (.func 73) #[.agg t] #[]] W fun e w' => e = .returned (.bool (!b)) ∧ Below W.heap.size W w' := by
  go_enter Tryz.func75, Tryz.ntmps75
  go_wp2_with fail
  refine (h W hb).mono ?_
  rintro e W1 ⟨rfl, b1⟩
  go_wp2
  go_ret
  exact ⟨rfl, b1⟩
set_option maxHeartbeats 2000000 in
theorem picks_picked (w : World) (b : Bool) (t : Array Value) (h : Says 74 t w b) (W : World) (hb : Below w.heap.size w W) :
    Calls Tryz.prog 75 #[.func (.func 74) #[.agg t] #[]] W fun e w' => e = .returned (.bool (!b)) ∧ Below W.heap.size W w' := by
  go_enter Tryz.func75, Tryz.ntmps75
  go_wp2_with fail
  refine (h W hb).mono ?_
  rintro e W1 ⟨rfl, b1⟩
  go_wp2
  go_ret
  exact ⟨rfl, b1⟩
def idxP (b1 b2 b3 : Bool) : Int := if b1 then (if b2 then (if b3 then -1 else 2) else 1) else 0
abbrev fnV (g : FuncId) (t : Array Value) : Value := .func (.func g) #[.agg t] #[]
set_option maxHeartbeats 4000000 in
theorem picks_index (w0 : World) (t : Array Value) (b1 b2 b3 : Bool) (h1 : Says 72 t w0 b1) (h2 : b1 = true → Says 73 t w0 b2) (h3 : b1 = true → b2 = true → Says 74 t w0 b3)
    (blk : Nat) (w : World) (hb : Below w0.heap.size w0 w) (hlt : blk < w.heap.size) (c0 : w.cell? ⟨blk, 0, none⟩ = some (fnV 72 t)) (c1 : w.cell? ⟨blk, 1, none⟩ = some (fnV 73 t)) (c2 : w.cell? ⟨blk, 2, none⟩ = some (fnV 74 t)) :
    Calls Tryz.prog 133 #[.slice (some ⟨blk, 0, none⟩) 3 3, .func (.func 75) #[] #[]] w fun e w' => e = .returned (.int .i64 (idxP b1 b2 b3)) ∧ Below w.heap.size w w' := by
  go_enter Tryz.func133, Tryz.ntmps133
  go_wp2
  refine wp_loop_rounds 4 ?_
  rw [rounds_succ]
  go_wp2_with fail
  refine (picks_on w0 b1 t h1 w hb).mono ?_
  rintro e W1 ⟨rfl, k1⟩
  have d1 := (k1.cell (p := ⟨blk, 1, none⟩) (by simpa using hlt)).trans c1
  have d2 := (k1.cell (p := ⟨blk, 2, none⟩) (by simpa using hlt)).trans c2
  have s1 := k1.size
  clear h1
  cases b1 with
  | false =>
    clear h2 h3
    dsimp only [Bool.not_false]
    go_wp2
    go_ret
    exact ⟨rfl, k1⟩
  | true =>
    have g2 := h2 rfl
    have g3 := h3 rfl
    clear h2 h3 c0 c1 c2
    dsimp only [Bool.not_true]
    go_wp2
    rw [rounds_succ]
    go_wp2_with fail
    refine (picks_named w0 b2 t g2 W1 (hb.trans (k1.mono hb.size))).mono ?_
    rintro e W2 ⟨rfl, k2⟩
    have d3 := (k2.cell (p := ⟨blk, 2, none⟩) (by show blk < _; omega)).trans d2
    have s2 := k2.size
    have k12 := k1.trans (k2.mono s1)
    clear g2
    cases b2 with
    | false =>
      clear g3
      dsimp only [Bool.not_false]
      go_wp2
      go_ret
      exact ⟨rfl, k12⟩
    | true =>
      have g4 := g3 rfl
      clear g3 d1 d2
      dsimp only [Bool.not_true]
      go_wp2
      rw [rounds_succ]
      go_wp2_with fail
      refine (picks_picked w0 b3 t g4 W2 (hb.trans (k12.mono hb.size))).mono ?_
      rintro e W3 ⟨rfl, k3⟩
      have k123 := k12.trans (k3.mono (by omega))
      clear g4
      cases b3 with
      | false =>
        dsimp only [Bool.not_false]
        go_wp2
        go_ret
        exact ⟨rfl, k123⟩
      | true =>
        dsimp only [Bool.not_true]
        go_wp2
        rw [rounds_succ]
        go_wp2
        go_ret
        exact ⟨rfl, k123⟩
set_option maxHeartbeats 2000000 in
theorem picks_contains (w0 : World) (t : Array Value) (b1 b2 b3 : Bool) (h1 : Says 72 t w0 b1) (h2 : b1 = true → Says 73 t w0 b2) (h3 : b1 = true → b2 = true → Says 74 t w0 b3)
    (blk : Nat) (w : World) (hb : Below w0.heap.size w0 w) (hlt : blk < w.heap.size) (c0 : w.cell? ⟨blk, 0, none⟩ = some (fnV 72 t)) (c1 : w.cell? ⟨blk, 1, none⟩ = some (fnV 73 t)) (c2 : w.cell? ⟨blk, 2, none⟩ = some (fnV 74 t)) :
    Calls Tryz.prog 71 #[.slice (some ⟨blk, 0, none⟩) 3 3, .func (.func 75) #[] #[]] w fun e w' => e = .returned (.bool (!(b1 && (b2 && b3)))) ∧ Below w.heap.size w w' := by
  have hv : ∀ a b c : Bool, decide (0 ≤ idxP a b c) = (!(a && (b && c))) := by intro a b c; cases a <;> cases b <;> cases c <;> rfl
  have hv := hv b1 b2 b3
  generalize (!(b1 && (b2 && b3))) = r at hv ⊢
  go_enter Tryz.func71, Tryz.ntmps71
  go_wp2_with fail
  refine (picks_index w0 t b1 b2 b3 h1 h2 h3 blk w hb hlt c0 c1 c2).mono ?_
  rintro e W1 ⟨rfl, k1⟩
  clear h1 h2 h3 c0 c1 c2
  generalize idxP b1 b2 b3 = i at hv ⊢
  subst hv
  go_wp2
  go_ret
  exact ⟨rfl, k1⟩
abbrev testV (id frm : Int) (A B : Option Addr) (n1 c1 n2 c2 : Nat) (p cr repo tag : ByteArray) (o d on : Bool) : Array Value := #[.int .i64 id, .int .i64 frm, .slice A n1 c1, .slice B n2 c2, .string p, .bool o, .bool d, .bool on, .string cr, .string repo, .string tag, .string ⟨#[]⟩]
set_option maxHeartbeats 4000000 in
theorem rule_Picks_spec (id frm : Int) (A B : Option Addr) (n1 c1 n2 c2 : Nat) (p cr repo tag : ByteArray) (o d on : Bool) (w : World) (b1 b2 b3 : Bool)
    (h1 : Says 72 (testV id frm A B n1 c1 n2 c2 p cr repo tag o d on) w b1) (h2 : b1 = true → Says 73 (testV id frm A B n1 c1 n2 c2 p cr repo tag o d on) w b2) (h3 : b1 = true → b2 = true → Says 74 (testV id frm A B n1 c1 n2 c2 p cr repo tag o d on) w b3) :
    Calls Tryz.prog 25 #[.agg #[.int .i64 id, .int .i64 frm, .slice A n1 c1, .slice B n2 c2, .string p, .bool o, .bool d, .bool on, .string cr], .string repo, .string tag] w fun e w' => e = .returned (.bool (b1 && (b2 && b3))) ∧ Below w.heap.size w w' := by
  go_enter Tryz.func25, Tryz.ntmps25
  go_wp2_with fail
  refine (picks_contains w (testV id frm A B n1 c1 n2 c2 p cr repo tag o d on) b1 b2 b3 h1 h2 h3 (w.heap.size + 1 + 1) _ (by exact (((Below.refl w.heap.size w).alloc (Nat.le_refl _) _).alloc (by simp) _).alloc (by simp <;> omega) _) (by simp) (by rw [World.cell?_alloc_at _ _ _ _ (by simp)]; rfl) (by rw [World.cell?_alloc_at _ _ _ _ (by simp)]; rfl) (by rw [World.cell?_alloc_at _ _ _ _ (by simp)]; rfl)).mono ?_
  rintro e W1 ⟨rfl, k1⟩
  have k2 : Below w.heap.size w W1 := by
    refine Below.trans ?_ (k1.mono (by simp <;> omega))
    exact (((Below.refl w.heap.size w).alloc (Nat.le_refl _) _).alloc (by simp) _).alloc (by simp <;> omega) _
  clear h1 h2 h3 k1
  go_wp2
  go_ret
  exact ⟨by simp, k2⟩
end Go.Proofs.YtedibjgdangfnaaGreatDoor
end

section
/- The contract of name.Repo, over what is known of name.part. -/
namespace Go.Proofs.YtedibjgdangfnaaGreatDoor
open Go.RowKit
set_option linter.unusedVariables false
set_option linter.unusedSimpArgs false
open V
attribute [local go_sem] Oper.semAt_some
theorem splitSeq_new (s : List UInt8) (c : UInt8) (w : World) : Calls Tryz.prog 79 #[.string ⟨⟨s⟩⟩, .string ⟨#[c]⟩] w fun e w' => e = .returned (.func (.func 194) #[] #[.pointer (some ⟨w.heap.size + 1, 0, none⟩), .pointer (some ⟨w.heap.size, 0, none⟩), .pointer (some ⟨w.heap.size + 1 + 1, 0, none⟩)]) ∧
    Below w.heap.size w w' ∧ w'.heap.size = w.heap.size + 3 ∧ w'.cell? ⟨w.heap.size + 1, 0, none⟩ = some (strV [c]) ∧ w'.cell? ⟨w.heap.size, 0, none⟩ = some (strV s) ∧ w'.cell? ⟨w.heap.size + 1 + 1, 0, none⟩ = some (.int .i64 0) ∧ w'.frozen? ⟨w.heap.size, 0, none⟩ = false := by
  go_enter Tryz.func79, Tryz.ntmps79
  go_wp2
  go_ret
  have b1 := (((Below.refl w.heap.size w).alloc (Nat.le_refl _) (.cells #[.string ⟨⟨s⟩⟩] 9)).alloc (by simp) (.cells #[.string ⟨#[c]⟩] 9)).alloc (by simp; omega) (.cells #[.int .i64 0] 3)
  refine ⟨rfl, b1, by simp, ?_, ?_, ?_, ?_⟩
  · rw [World.cell?_alloc_past _ _ _ (by simp), World.cell?_alloc_at _ _ _ _ (by simp)]; rfl
  · rw [World.cell?_alloc_past _ _ _ (by simp; omega), World.cell?_alloc_past _ _ _ (by simp), World.cell?_alloc_at _ _ _ _ (by simp)]; rfl
  · rw [World.cell?_alloc_at _ _ _ _ (by simp)]; rfl
  · rw [World.frozen?_alloc_past _ _ _ (by simp; omega), World.frozen?_alloc_past _ _ _ (by simp), World.frozen?_alloc_at _ _ _ _ rfl]
theorem allO_pre {α : Type} {f : α → Option Bool} : ∀ {pre : List α} {l : List α} {y : Bool}, (∀ x ∈ pre, f x = some true) → allO f (pre ++ l) = some y → allO f l = some y
  | [], _, _, _, h => h
  | x :: pre, l, y, h, h1 => by
    rw [List.cons_append, allO, h x (List.mem_cons_self ..)] at h1
    exact allO_pre (fun z hz => h z (List.mem_cons_of_mem _ hz)) h1
def flatDesc : TypeDesc → Bool
  | .struct _ => false
  | .array _ _ => false
  | _ => true
theorem run_loadVar_flat {P : Program} {w : World} {ty : TypeId} {a : Addr} {v : Value} {d : TypeDesc} (hu : P.underlying ty = some d) (hd : flatDesc d = true) (hc : w.cell? a = some v) : (loadVar ty a).run P w = .ok v w := by
  cases d <;> first | (cases hd; done) | simp [loadVar, isAgg, underlying, hu, hc, Result.andThen, Sem.run_bind]
theorem results_cell1 {P : Program} {w : World} {fn : Func} {p : Tmp} {ty : TypeId} {a : Addr} {v : Value} {d : TypeDesc} (h : fn.results = #[.cell p ty]) (tmps : Array Value) (hp : tmps.getD p undef = .pointer (some a)) (hu : P.underlying ty = some d) (hd : flatDesc d = true) (hc : w.cell? a = some v) : (results fn tmps).run P w = .ok v w := by
  have hp' : tmps[p]?.getD undef = .pointer (some a) := by simpa using hp
  simp [results, h, hp', asAddr, run_loadVar_flat hu hd hc]
set_option maxHeartbeats 2000000 in
theorem name_Repo_spec (f : List UInt8 → Option Bool) (s : List UInt8) (y : Bool) (h : repoOf f s = some y) (w : World) (hf : ∀ x b, f x = some b → ∀ W : World, Below w.heap.size w W → Calls Tryz.prog 80 #[.string ⟨⟨x⟩⟩] W fun e w' => e = .returned (.bool b) ∧ Below W.heap.size W w') : Calls Tryz.prog 28 #[.string ⟨⟨s⟩⟩] w fun e w' => e = .returned (.bool y) ∧ Below w.heap.size w w' := by
  refine (callsIn_wide (n := 3)).1 ?_
  refine callsIn_of_wp_marks Tryz.func28 rfl trivial ?_ rfl
  simp only [Tryz.ntmps28, List.size_toArray, List.length_cons, List.length_nil, Nat.reduceAdd, Nat.reduceSub, Array.replicate_succ, Array.replicate_zero, List.push_toArray, List.append_toArray, List.nil_append, List.cons_append]
  unfold repoOf at h
  by_cases hl : 128 < s.length
  · rw [if_pos hl] at h
    obtain rfl := Option.some.inj h
    have bw := (Below.refl w.heap.size w).alloc (Nat.le_refl _) (.cells #[.bool false] 4)
    gi_wp2
    exact ⟨_, results_cell1 rfl _ rfl Tryz.underlying4 rfl (by rw [World.cell?_alloc_at _ _ _ _ rfl]; rfl), rfl, bw⟩
  · rw [if_neg hl] at h
    have bw := (Below.refl w.heap.size w).alloc (Nat.le_refl _) (.cells #[.bool false] 4)
    gi_wp2
    refine ⟨trivial, ?_⟩
    refine (callsIn_wide.2 (splitSeq_new s 47 _)).mono ?_
    rintro e W1 ⟨rfl, b1, z1, c1, c2, c3, f1⟩
    dsimp only
    simp only [World.size_alloc] at z1 c1 c2 c3 f1 b1 ⊢
    have r1 : W1.cell? ⟨w.heap.size, 0, none⟩ = some (.bool false) := by
      rw [b1.cell (p := ⟨w.heap.size, 0, none⟩) (by simp), World.cell?_alloc_at _ _ _ _ (by simp)]; rfl
    have r2 : W1.frozen? ⟨w.heap.size, 0, none⟩ = false := by
      rw [b1.frozen (p := ⟨w.heap.size, 0, none⟩) (by simp), World.frozen?_alloc_at _ _ _ _ (by simp)]
    have r3 : Below w.heap.size w W1 := bw.trans (b1.mono (by omega))
    gi_wp2
    refine wp_range (B := w.heap.size + 1) rfl (enters_of Tryz.func194 (by kernel_rfl) rfl) (splitSeq_hands 47 s _ _ _ W1 (by omega) c1 c2 c3 f1 (by omega) (by omega)) (by rintro b (rfl | rfl | rfl) <;> omega) (fun _ => rfl)
      (fun pre W => (∀ x ∈ pre, f x = some true) ∧ W.cell? ⟨w.heap.size, 0, none⟩ = some (.bool false) ∧ W.frozen? ⟨w.heap.size, 0, none⟩ = false ∧ Below w.heap.size w W)
      (fun c pre W => c = .ret ∧ (∃ p x, pre = p ++ [x] ∧ (∀ x ∈ p, f x = some true) ∧ f x = some false) ∧ W.cell? ⟨w.heap.size, 0, none⟩ = some (.bool false) ∧ Below w.heap.size w W)
      ?_ ?_ (by omega) ⟨(fun x hx => by cases hx), r1, r2, r3⟩ (fun x => { tmps := #[.string ⟨⟨s⟩⟩, undef, .pointer (some ⟨w.heap.size, 0, none⟩), .string ⟨⟨x⟩⟩, .string ⟨⟨s⟩⟩, .int .i64 s.length, .bool (decide (128 < (s.length : Int))), .string ⟨⟨s⟩⟩, .func (.func 194) #[] #[.pointer (some ⟨w.heap.size + 1 + 1, 0, none⟩), .pointer (some ⟨w.heap.size + 1, 0, none⟩), .pointer (some ⟨w.heap.size + 1 + 1 + 1, 0, none⟩)], .string ⟨⟨x⟩⟩, undef, undef, undef], defers := [] }) ?assign ?body ?done ?stop
    · rintro pre W W' ⟨h1, h2, h3, h4⟩ hk
      have q := hk.block w.heap.size (by simp) (cell?_lt h2)
      exact ⟨h1, (cell_of_block q 0).trans h2, (frozen_of_block q 0).trans h3, h4.trans (hk.below (fun b hb => Nat.lt_succ_of_lt hb) h4.size)⟩
    · rintro c pre W W' ⟨h0, h1, h2, h4⟩ hk
      have q := hk.block w.heap.size (by simp) (cell?_lt h2)
      exact ⟨h0, h1, (cell_of_block q 0).trans h2, h4.trans (hk.below (fun b hb => Nat.lt_succ_of_lt hb) h4.size)⟩
    case assign =>
      intro l x W K hK
      gi_wp2
      exact hK
    case body =>
      rintro l pre x W ⟨h1, h2, h3, h4⟩ hB ⟨t, ht⟩
      rw [← ht, List.append_assoc] at h
      have h5 := allO_pre h1 h
      rw [List.singleton_append, allO] at h5
      obtain ⟨b, hb, h6⟩ := Option.bind_eq_some_iff.1 h5
      gi_wp2
      refine ⟨trivial, ?_⟩
      refine (CallsIn.inRound l (callsIn_wide.2 (hf x b hb W h4))).mono ?_
      rintro e W2 ⟨rfl, k2⟩
      have g2 := (k2.cell (p := ⟨w.heap.size, 0, none⟩) (by simp; omega)).trans h2
      have g3 := (k2.frozen (p := ⟨w.heap.size, 0, none⟩) (by simp; omega)).trans h3
      have g4 := h4.trans (k2.mono (by omega))
      cases b with
      | true =>
        gi_wp2
        exact ⟨.of_below k2, fun z hz => by
          rcases List.mem_append.1 hz with hz | hz
          · exact h1 z hz
          · rw [List.mem_singleton.1 hz]; exact hb, g2, g3, g4⟩
      | false =>
        gi_wp2
        exact ⟨(Kp.of_below k2).trans (.setCell _ _ _ _ (by simp)), rfl, ⟨pre, x, rfl, h1, hb⟩, World.cell?_setCell_same' _ _ _ (by rw [g2]; rfl), g4.setCell (p := ⟨w.heap.size, 0, none⟩) (Nat.le_refl _) _⟩
    case done =>
      rintro D W ⟨h1, h2, h3, h4⟩ hD hK
      obtain rfl : y = true := by
        have := allO_pre (pre := splitOnB 47 s) (l := []) h1 (by rw [List.append_nil]; exact h)
        exact (Option.some.inj this).symm
      gi_wp2
      have hK' : (W.setCell ⟨w.heap.size, 0, none⟩ (.bool true)).heap[D]? = some (.deferred (some [])) := (Below.heap_setCell W ⟨w.heap.size, 0, none⟩ _ D (by simp; omega)).trans hK
      refine ⟨by simp, .inl ⟨_, _, rfl, run_takeDeferred hK', ?_⟩⟩
      refine ⟨_, results_cell1 rfl _ rfl Tryz.underlying4 rfl ((cell_of_block (World.putObj_heap_other (by omega)) 0).trans (World.cell?_setCell_same' _ _ _ (by rw [h2]; rfl))), rfl, ?_⟩
      exact (h4.setCell (p := ⟨w.heap.size, 0, none⟩) (Nat.le_refl _) _).trans ((Kp.putObj (S := fun b => b < w.heap.size) _ _ _ (by omega)).below (fun _ h => h) (by have := h4.size; simp; omega))
    case stop =>
      rintro D c pre W ⟨rfl, ⟨p, x, rfl, h1, hx⟩, h2, h4⟩ ⟨t, ht⟩ hD hK
      obtain rfl : y = false := by
        rw [← ht, List.append_assoc] at h
        have h5 := allO_pre h1 h
        rw [List.singleton_append, allO, hx] at h5
        exact (Option.some.inj h5).symm
      gi_wp2
      refine ⟨by simp, .inl ⟨_, _, rfl, run_takeDeferred hK, ?_⟩⟩
      refine ⟨_, results_cell1 rfl _ rfl Tryz.underlying4 rfl ((cell_of_block (World.putObj_heap_other (by omega)) 0).trans h2), rfl, ?_⟩
      exact h4.trans ((Kp.putObj (S := fun b => b < w.heap.size) _ _ _ (by omega)).below (fun _ h => h) h4.size)
end Go.Proofs.YtedibjgdangfnaaGreatDoor
end
