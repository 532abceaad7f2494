/- errors.Is of an error that is none, or a part's. -/
import Derived.Test.YthcngbbceahdlaaDoorQCronParsesB
import Derived.Lib.Bytealg
import Derived.Shelf.Strings.SlTrimAscii
import Derived.Shelf.Strings.Builder1
import Derived.Shelf.Strings.Builder2
import Derived.Shelf.Strings.OnBuilder
import Derived.Shelf.Strings.Trim
import Derived.Shelf.Small.Utf8
import Derived.Shelf.Small.Strs
import Derived.Shelf.Strings.BuilderF
import Derived.Shelf.Strings.BuilderK
import Derived.Shelf.Utf8.RuneCount
import Derived.Shelf.Strings.Builder2Cap
import Derived.Shelf.Strings.Search1
import Derived.Shelf.Strings.Search2
import Derived.Shelf.Strings.Search3
import Derived.Shelf.Strings.Cut
import Derived.Shelf.Strings.Count
import Derived.Shelf.LaysM
import Derived.Shelf.Strings.Shaped
import Derived.Shelf.Strings.Prefix
import Derived.Shelf.Strings.Split
import Derived.Shelf.Strings.SplitShaped
import Derived.Shelf.Unicode.Decode
import Derived.Shelf.Strings.Runes
import Derived.Shelf.Strings.RuneCount
import Derived.Shelf.Strings.AsciiSet
import Derived.Shelf.Strings.Explode
import Derived.Shelf.Bits.Mul64
import Derived.Shelf.Strings.Repeat
import Derived.Shelf.Unicode.DecodeSlow
import Derived.Shelf.Unicode.DecodeAny
import Derived.Shelf.Unicode.DecodeLast
import Derived.Shelf.Strings.BuilderCap
import Derived.Shelf.Slices.Turned
import Derived.Test.YthcngbbceahdlaaDoorProg
import Derived.Below
import Derived.OwnWalk
import Derived.Orders
import Derived.WalkKit
import Derived.Laws.Slices
import Derived.OpenShut
import Derived.FnData
import Derived.LaidMore
import Derived.MakeChecks
import Derived.RangeFuncKeeps
import Derived.RangeFuncCalls
import Derived.RangeFuncLeaves
import Derived.LoopNIn
import Derived.LoopIn
import Derived.OwnWalkIn
import Derived.TacticsInMore
import Derived.Deep.Draws
import Derived.Laws.BytesArg
import Derived.Laws.MakeOwn
import Derived.Laws.OwnMore
import Derived.Deep.OwnRows
import Derived.Tactics
import Derived.Lib.ConvBytes
import Derived.KernelRfl
import Derived.RowKit3
import Derived.Deep.LoopGhost
import Derived.Deep.QuietTactic
import Derived.BigQuiet
import Derived.WideLaws
import Derived.Deep.DeepCutAuto
import Derived.Deep.CutBlock
import Derived.Deep.RegionHeld3
import Derived.Laws.Rows
import Derived.Lib.AppendStr
import Derived.ArgAppend
import Derived.Laws.BitsLemmas
import Derived.RowKit
import Derived.Stop.Asserts
section
/- What Go functions compute, as Lean functions. -/
namespace Go.Proofs.YthcngbbceahdlaaDoor.V
open Go Go.RowKit
set_option linter.unusedVariables false
set_option linter.unusedSimpArgs false
set_option maxHeartbeats 1000000
set_option maxRecDepth 20000
abbrev glP : Gl := fun _ => none
structure cron_bounds where
  low : Int
  high : Int
deriving DecidableEq, Inhabited
def e_cron_bounds (x : cron_bounds) : List Sc := [(.int .i64 x.low), (.int .i64 x.high)]
theorem e_cron_bounds_len (x : cron_bounds) : (e_cron_bounds x).length = 2 := rfl
def W_cron_bounds (x : cron_bounds) : Prop := (Lit.int .i64 x.low).wf = true ∧ (Lit.int .i64 x.high).wf = true
structure cron_part where

deriving DecidableEq, Inhabited
def e_cron_part (x : cron_part) : List Sc := []
theorem e_cron_part_len (x : cron_part) : (e_cron_part x).length = 0 := rfl
def W_cron_part (x : cron_part) : Prop := True
structure api_Cron where
  Minutes : Int
  Hours : Int
  Days : Int
  Months : Int
  Week : Int
  AnyDay : Bool
  AnyWeek : Bool
deriving DecidableEq, Inhabited
def e_api_Cron (x : api_Cron) : List Sc := [(.int .u64 x.Minutes), (.int .u64 x.Hours), (.int .u64 x.Days), (.int .u64 x.Months), (.int .u64 x.Week), (.bool x.AnyDay), (.bool x.AnyWeek)]
theorem e_api_Cron_len (x : api_Cron) : (e_api_Cron x).length = 7 := rfl
def W_api_Cron (x : api_Cron) : Prop := (Lit.int .u64 x.Minutes).wf = true ∧ (Lit.int .u64 x.Hours).wf = true ∧ (Lit.int .u64 x.Days).wf = true ∧ (Lit.int .u64 x.Months).wf = true ∧ (Lit.int .u64 x.Week).wf = true ∧ True ∧ True
structure consignorref08_P where
  Low : Int
  High : Int
  Step : Int
deriving DecidableEq, Inhabited
def e_consignorref08_P (x : consignorref08_P) : List Sc := [(.int .i64 x.Low), (.int .i64 x.High), (.int .i64 x.Step)]
theorem e_consignorref08_P_len (x : consignorref08_P) : (e_consignorref08_P x).length = 3 := rfl
def W_consignorref08_P (x : consignorref08_P) : Prop := (Lit.int .i64 x.Low).wf = true ∧ (Lit.int .i64 x.High).wf = true ∧ (Lit.int .i64 x.Step).wf = true
structure api_Clock where
  Minute : Int
  Hour : Int
  Day : Int
  Month : Int
  Year : Int
  Week : Int
deriving DecidableEq, Inhabited
def e_api_Clock (x : api_Clock) : List Sc := [(.int .i64 x.Minute), (.int .i64 x.Hour), (.int .i64 x.Day), (.int .i64 x.Month), (.int .i64 x.Year), (.int .i64 x.Week)]
theorem e_api_Clock_len (x : api_Clock) : (e_api_Clock x).length = 6 := rfl
def W_api_Clock (x : api_Clock) : Prop := (Lit.int .i64 x.Minute).wf = true ∧ (Lit.int .i64 x.Hour).wf = true ∧ (Lit.int .i64 x.Day).wf = true ∧ (Lit.int .i64 x.Month).wf = true ∧ (Lit.int .i64 x.Year).wf = true ∧ (Lit.int .i64 x.Week).wf = true
def f_strings_Count (s sub : Str) : Option Int := match sub with
  | [c] => some ((Lib.countByte s c : Nat) : Int)
  | _ => none
def f_strings_explode (s : Str) (n : Int) : Option (List Str) := none
def f_internal_stringslite_Index (s sub : Str) : Option Int := match sub with
  | [c] => some (Lib.indexByte s c)
  | _ => none
def f_strings_Trim (s cs : Str) : Option Str := gd (s.length ≤ 140737488355328 ∧ cs.length ≤ 1000 ∧ cs.all (fun b => decide (b.toNat < 128)) = true) <| some (Lib.trimS s cs)
def f_strings_Index (s : Str) (substr : Str) : Option (Int) :=
  (f_internal_stringslite_Index s substr).bind fun t =>
  some t
def f_strings_genSplit_l17 (s : Str) (sep : Str) (sepSave : Int) (n2 : Int) : Nat → Str → Int → (List Str) → Option (Str × Int × (List Str))
  | 0, _, _, _ => none
  | m_ + 1, s3, i, a =>
    if (decide (i < (IntKind.i64.wrap (n2 - 1)))) then
      (f_strings_Index s3 sep).bind fun t =>
      if (decide (t < 0)) then
        some (s3, i, a)
      else
        gd (0 ≤ (IntKind.i64.wrap (t + sepSave)) ∧ (IntKind.i64.wrap (t + sepSave)) ≤ (s3.length : Int)) <|
        (ix a i).bind fun x =>
        gd (0 ≤ (IntKind.i64.wrap (t + (sep.length : Int))) ∧ (IntKind.i64.wrap (t + (sep.length : Int))) ≤ (s3.length : Int)) <|
        f_strings_genSplit_l17 s sep sepSave n2 m_ (cut s3 (IntKind.i64.wrap (t + (sep.length : Int))) (s3.length : Int)) (IntKind.i64.wrap (i + 1)) (a.set i.toNat (cut s3 0 (IntKind.i64.wrap (t + sepSave))))
    else
      some (s3, i, a)
def f_strings_genSplit (s : Str) (sep : Str) (sepSave : Int) (n : Int) : Option ((List Str)) :=
  if (n == 0) then
    some ([] : (List Str))
  else
    if (sep == ([] : Str)) then
      (f_strings_explode s n).bind fun t =>
      some t
    else
      Option.bind (
        if (decide (n < 0)) then
          (f_strings_Count s sep).bind fun t =>
          some (IntKind.i64.wrap (t + 1))
        else
          some n) fun s2 : Int =>
      (some (if (IntKind.i64.wrap ((s.length : Int) + 1)) < s2 then (IntKind.i64.wrap ((s.length : Int) + 1)) else s2)).bind fun n2 =>
      gd (0 ≤ n2 ∧ n2 ≤ n2 ∧ n2 * 16 ≤ 140737488355328 ∧ n2 < 9223372036854775808) <|
      Option.bind (f_strings_genSplit_l17 s sep sepSave n2 ((((IntKind.i64.wrap (n2 - 1)) : Int) - 0).toNat + 1) s 0 (List.replicate n2.toNat [])) fun s3 : Str × Int × (List Str) =>
      (ix s3.2.2 s3.2.1).bind fun x =>
      gd (0 ≤ (IntKind.i64.wrap (s3.2.1 + 1)) ∧ (IntKind.i64.wrap (s3.2.1 + 1)) ≤ (s3.2.2.length : Int)) <|
      some (cut (s3.2.2.set s3.2.1.toNat s3.1) 0 (IntKind.i64.wrap (s3.2.1 + 1)))
def f_strings_Split (s : Str) (sep : Str) : Option ((List Str)) :=
  (f_strings_genSplit s sep 0 (-1)).bind fun t =>
  some t
def f_cron_fields : Option ((List cron_bounds)) :=
  gd (5 = 5) <|
  some ([(cron_bounds.mk 0 59), (cron_bounds.mk 0 23), (cron_bounds.mk 1 31), (cron_bounds.mk 1 12), (cron_bounds.mk 0 6)] : (List cron_bounds))
def f_internal_stringslite_Cut (s : Str) (sep : Str) : Option (Str × Str × Bool) :=
  (f_internal_stringslite_Index s sep).bind fun t =>
  if (decide (t ≥ 0)) then
    gd (0 ≤ t ∧ t ≤ (s.length : Int)) <|
    gd (0 ≤ (IntKind.i64.wrap (t + (sep.length : Int))) ∧ (IntKind.i64.wrap (t + (sep.length : Int))) ≤ (s.length : Int)) <|
    some ((cut s 0 t), (cut s (IntKind.i64.wrap (t + (sep.length : Int))) (s.length : Int)), true)
  else
    some (s, ([] : Str), false)
def f_strings_Cut (s : Str) (sep : Str) : Option (Str × Str × Bool) :=
  (f_internal_stringslite_Cut s sep).bind fun t =>
  some (t.1, t.2.1, t.2.2)
def f_cron_number_l9 (s : Str) (b : cron_bounds) : Nat → Int → Int → Option (Int × Int)
  | 0, _, _ => none
  | m_ + 1, n, v35 =>
    if (decide (v35 < (s.length : Int))) then
      (ix s v35).bind fun c =>
      (some (IntKind.i64.wrap ((IntKind.i64.wrap (10 * n)) + (IntKind.i64.wrap (IntKind.u8.wrap ((bn c) - 48)))))).bind fun n2 =>
      f_cron_number_l9 s b m_ n2 (IntKind.i64.wrap (v35 + 1))
    else
      some (n, v35)
def f_cron_number (s : Str) (b : cron_bounds) : Option (Int × Sc) :=
  (gx (!((decide ((s.length : Int) < 1)) || (decide ((s.length : Int) > 2)))) (f_strings_Trim s ([48, 49, 50, 51, 52, 53, 54, 55, 56, 57] : Str)) default).bind fun t =>
  gd (((!(((decide ((s.length : Int) < 1)) || (decide ((s.length : Int) > 2))) || (!(t == ([] : Str))))) && ((s.length : Int) == 2)) = true → 0 < (s.length : Int)) <|
  if ((((decide ((s.length : Int) < 1)) || (decide ((s.length : Int) > 2))) || (!(t == ([] : Str)))) || (((s.length : Int) == 2) && ((bn (s.getD 0 0)) == 48))) then
    some (0, (.ifc 86 true []))
  else
    Option.bind (f_cron_number_l9 s b ((((s.length : Int) : Int) - 0).toNat + 1) 0 0) fun s2 : Int × Int =>
    if ((decide (s2.1 < b.low)) || (decide (s2.1 > b.high))) then
      some (0, (.ifc 86 true []))
    else
      some (s2.1, (Sc.z Zk.nilIface))
def f_cron_span (s : Str) (b : cron_bounds) : Option (cron_bounds × Bool × Sc) :=
  if (s == ([42] : Str)) then
    some (b, true, (Sc.z Zk.nilIface))
  else
    (f_strings_Cut s ([45] : Str)).bind fun t =>
    (f_cron_number t.1 b).bind fun t2 =>
    gd ((!(!t.2.2)) = true → isIf t2.2 = true) <|
    if ((!t.2.2) || (!(nilI t2.2))) then
      some ((cron_bounds.mk t2.1 t2.1), false, t2.2)
    else
      (f_cron_number t.2.1 b).bind fun t3 =>
      gd (isIf t3.2 = true) <|
      if ((nilI t3.2) && (decide (t2.1 > t3.1))) then
        some ((cron_bounds.mk t2.1 t3.1), true, (.ifc 86 true []))
      else
        some ((cron_bounds.mk t2.1 t3.1), true, t3.2)
def f_cron_values_l15 (s : Str) (b : cron_bounds) (t2 : cron_bounds × Bool × Sc) (s2 : Sc × Int) : Nat → Int → Int → Option (Int × Int)
  | 0, _, _ => none
  | m_ + 1, n, v =>
    if (decide (v ≤ t2.1.high)) then
      gd (0 ≤ v) <|
      (some (IntKind.u64.wrap ((BitVec.ofInt IntKind.u64.bits n ||| BitVec.ofInt IntKind.u64.bits (IntKind.u64.wrap (1 * 2 ^ (min v.toNat IntKind.u64.bits)))).toNat))).bind fun n2 =>
      f_cron_values_l15 s b t2 s2 m_ n2 (IntKind.i64.wrap (v + s2.2))
    else
      some (n, v)
def f_cron_values (s : Str) (b : cron_bounds) : Option (Int × Sc) :=
  (f_strings_Cut s ([47] : Str)).bind fun t =>
  (f_cron_span t.1 b).bind fun t2 =>
  Option.bind (
    gd (isIf t2.2.2 = true) <|
    if ((nilI t2.2.2) && t.2.2) then
      (f_cron_number t.2.1 (cron_bounds.mk 1 59)).bind fun t3 =>
      if (!t2.2.1) then
        some ((.ifc 86 true []), t3.1)
      else
        some (t3.2, t3.1)
    else
      some (t2.2.2, 1)) fun s2 : Sc × Int =>
  gd (isIf s2.1 = true) <|
  if (!(nilI s2.1)) then
    some (0, s2.1)
  else
    Option.bind (f_cron_values_l15 s b t2 s2 (((t2.1.high : Int) - t2.1.low).toNat + 2) 0 t2.1.low) fun s3 : Int × Int =>
    some (s3.1, (Sc.z Zk.nilIface))
abbrev tyPart : Nat := 86
def isPart : Sc → Option Bool
  | .z .nilIface => some false
  | .ifc t true [] => if t = tyPart then some true else none
  | _ => none
def scPart : Bool → Sc
  | false => .z .nilIface
  | true => .ifc tyPart true []
def partV (b : cron_bounds) (s : Str) : Option (Int × Bool) := (f_cron_values s b).bind fun r => (isPart r.2).map fun e => (r.1, e)
def f_cron_field (s : Str) (b : cron_bounds) : Option (Int × Sc) := gd (s.length ≤ 140737488355328) <| (fieldOf (partV b) s).map fun r => (r.1, scPart r.2)

def f_errors_Is (e t : Sc) : Option Bool := if isPart t = some true then isPart e else none

def f_cron_Parse_l13 (s : Str) (t : (List Str)) (t2 : (List cron_bounds)) : Nat → Int → (List Int) → Option ((Int × (List Int)) ⊕ (api_Cron × Int))
  | 0, _, _ => none
  | m_ + 1, v24, bits =>
    if (decide (v24 < 5)) then
      gd (t2.length = 5) <|
      (ix t2 v24).bind fun x =>
      (ix t v24).bind fun x2 =>
      (f_cron_field x2 x).bind fun t3 =>
      (f_errors_Is t3.2 (.ifc 86 true [])).bind fun t4 =>
      if t4 then
        some (.inr ((api_Cron.mk 0 0 0 0 0 false false), 6))
      else
        gd (0 ≤ v24 ∧ v24 < 5) <|
        gd (0 ≤ v24 ∧ v24 < (bits.length : Int)) <|
        f_cron_Parse_l13 s t t2 m_ (IntKind.i64.wrap (v24 + 1)) (bits.set v24.toNat t3.1)
    else
      some (.inl (v24, bits))
def f_cron_Parse (s : Str) : Option (api_Cron × Int) :=
  (f_strings_Split s ([32] : Str)).bind fun t =>
  Option.bind (
    if (decide ((s.length : Int) > 200)) then
      some true
    else
      (f_cron_fields).bind fun t2 =>
      some ((t.length : Int) != 5)) fun s2 : Bool =>
  if s2 then
    some ((api_Cron.mk 0 0 0 0 0 false false), 6)
  else
    (f_cron_fields).bind fun t2 =>
    Option.bind (f_cron_Parse_l13 s t t2 (((5 : Int) - 0).toNat + 1) 0 (List.replicate 5 0)) fun s3 : (Int × (List Int)) ⊕ (api_Cron × Int) => match s3 with
    | .inr z => some z
    | .inl s4 =>
      (ix s4.2 0).bind fun x =>
      (ix s4.2 1).bind fun x2 =>
      (ix s4.2 2).bind fun x3 =>
      (ix s4.2 3).bind fun x4 =>
      (ix s4.2 4).bind fun x5 =>
      (ix t 2).bind fun x6 =>
      (ix t 4).bind fun x7 =>
      some ((api_Cron.mk x x2 x3 x4 x5 (x6 == ([42] : Str)) (x7 == ([42] : Str))), 0)
def f_ref03_Split_l10 (s : Str) (byv : Int) : Nat → Str → Int → (List Str) → Option (Str × Int × (List Str))
  | 0, _, _, _ => none
  | m_ + 1, now, i, out =>
    if (decide (i < (s.length : Int))) then
      (ix s i).bind fun c =>
      if ((bn c) == byv) then
        gd ((out.length + 1) * 16 ≤ 140737488355328) <|
        f_ref03_Split_l10 s byv m_ ([] : Str) (IntKind.i64.wrap (i + 1)) (out ++ ([now] : List Str))
      else
        gd (0 ≤ i ∧ i ≤ (IntKind.i64.wrap (i + 1)) ∧ (IntKind.i64.wrap (i + 1)) ≤ (s.length : Int)) <|
        gd (now.length + (cut s i (IntKind.i64.wrap (i + 1))).length ≤ 9223372036854775807) <|
        f_ref03_Split_l10 s byv m_ (now ++ (cut s i (IntKind.i64.wrap (i + 1)))) (IntKind.i64.wrap (i + 1)) out
    else
      some (now, i, out)
def f_ref03_Split (s : Str) (byv : Int) : Option ((List Str)) :=
  Option.bind (f_ref03_Split_l10 s byv ((((s.length : Int) : Int) - 0).toNat + 1) ([] : Str) 0 ([] : List Str)) fun s2 : Str × Int × (List Str) =>
  gd ((s2.2.2.length + 1) * 16 ≤ 140737488355328) <|
  some (s2.2.2 ++ ([s2.1] : List Str))
def f_ref08_number_l8 (s : Str) (low : Int) (high : Int) : Nat → Int → Int → Option ((Int × Int) ⊕ (Int))
  | 0, _, _ => none
  | m_ + 1, n, i =>
    if (decide (i < (s.length : Int))) then
      (ix s i).bind fun c =>
      gd ((!(decide ((bn c) < 48))) = true → 0 ≤ i ∧ i < (s.length : Int)) <|
      if ((decide ((bn c) < 48)) || (decide ((bn (s.getD i.toNat 0)) > 57))) then
        some (.inr (-1))
      else
        (ix s i).bind fun c2 =>
        (some (IntKind.i64.wrap ((IntKind.i64.wrap (10 * n)) + (IntKind.i64.wrap (IntKind.u8.wrap ((bn c2) - 48)))))).bind fun n2 =>
        f_ref08_number_l8 s low high m_ n2 (IntKind.i64.wrap (i + 1))
    else
      some (.inl (n, i))
def f_ref08_number (s : Str) (low : Int) (high : Int) : Option (Int) :=
  Option.bind (f_ref08_number_l8 s low high ((((s.length : Int) : Int) - 0).toNat + 1) 0 0) fun s2 : (Int × Int) ⊕ (Int) => match s2 with
  | .inr z => some z
  | .inl s3 =>
    if ((((((s.length : Int) == 0) || (decide ((s.length : Int) > 2))) || (((s.length : Int) == 2) && (decide (s3.1 < 10)))) || (decide (s3.1 < low))) || (decide (s3.1 > high))) then
      some (-1)
    else
      some s3.1
def f_ref08_part (s : Str) (low : Int) (high : Int) : Option (consignorref08_P) :=
  (f_ref03_Split s 47).bind fun t =>
  (ix t 0).bind fun x =>
  (f_ref03_Split x 45).bind fun t2 =>
  Option.bind (
    (ix t 0).bind fun x2 =>
    if (!(x2 == ([42] : Str))) then
      (ix t2 0).bind fun x3 =>
      (f_ref08_number x3 low high).bind fun t3 =>
      (ix t2 (IntKind.i64.wrap ((t2.length : Int) - 1))).bind fun x4 =>
      (f_ref08_number x4 low high).bind fun t4 =>
      if (((decide ((t2.length : Int) > 2)) || (decide (t3 < 0))) || (decide (t4 < t3))) then
        some (.inr (consignorref08_P.mk 0 0 0))
      else
        some (.inl (t3, t4))
    else
      some (.inl (low, high))) fun s2 : (Int × Int) ⊕ (consignorref08_P) => match s2 with
  | .inr z => some z
  | .inl s3 =>
    if (decide ((t.length : Int) > 1)) then
      (ix t 1).bind fun x2 =>
      (f_ref08_number x2 1 59).bind fun t3 =>
      (gx (!((decide ((t.length : Int) > 2)) || (decide (t3 < 0)))) (ix t 0) default).bind fun x3 =>
      if (((decide ((t.length : Int) > 2)) || (decide (t3 < 0))) || ((!(x3 == ([42] : Str))) && ((t2.length : Int) == 1))) then
        some (consignorref08_P.mk 0 0 0)
      else
        some (consignorref08_P.mk s3.1 s3.2 t3)
    else
      some (consignorref08_P.mk s3.1 s3.2 1)
def f_ref08_Field_l7 (s : Str) (low : Int) (high : Int) : Nat → Int → Int → Option (Int × Int)
  | 0, _, _ => none
  | m_ + 1, bit, i =>
    if (decide (i < low)) then
      f_ref08_Field_l7 s low high m_ (IntKind.u64.wrap (2 * bit)) (IntKind.i64.wrap (i + 1))
    else
      some (bit, i)
def f_ref08_Field_l17 (s : Str) (low : Int) (high : Int) (s2 : Int × Int) (t : (List Str)) : Nat → Int → (List consignorref08_P) → Option ((Int × (List consignorref08_P)) ⊕ (Int × Bool))
  | 0, _, _ => none
  | m_ + 1, v30, parts =>
    if (decide (v30 < (t.length : Int))) then
      (ix t v30).bind fun x =>
      (f_ref08_part x low high).bind fun t2 =>
      if (t2.Step == 0) then
        some (.inr (0, false))
      else
        gd ((parts.length + 1) * 24 ≤ 140737488355328) <|
        f_ref08_Field_l17 s low high s2 t m_ (IntKind.i64.wrap (v30 + 1)) (parts ++ ([t2] : List consignorref08_P))
    else
      some (.inl (v30, parts))
def f_ref08_Field_l27 (s : Str) (high : Int) (s4 : Int × (List consignorref08_P)) (n : Int) (bit : Int) (v : Int) : Nat → Bool → Int → Option (Bool × Int)
  | 0, _, _ => none
  | m_ + 1, is, v54 =>
    if (decide (v54 < (s4.2.length : Int))) then
      (ix s4.2 v54).bind fun x =>
      gd (((decide (v ≥ x.Low)) && (decide (v ≤ x.High))) = true → x.Step ≠ 0) <|
      if (((decide (v ≥ x.Low)) && (decide (v ≤ x.High))) && (((IntKind.i64.wrap (v - x.Low)).tmod x.Step) == 0)) then
        f_ref08_Field_l27 s high s4 n bit v m_ true (IntKind.i64.wrap (v54 + 1))
      else
        f_ref08_Field_l27 s high s4 n bit v m_ is (IntKind.i64.wrap (v54 + 1))
    else
      some (is, v54)
def f_ref08_Field_l32 (s : Str) (high : Int) (s4 : Int × (List consignorref08_P)) : Nat → Int → Int → Int → Option (Int × Int × Int)
  | 0, _, _, _ => none
  | m_ + 1, n, bit, v =>
    if (decide (v ≤ high)) then
      Option.bind (f_ref08_Field_l27 s high s4 n bit v ((((s4.2.length : Int) : Int) - 0).toNat + 1) false 0) fun s3 : Bool × Int =>
      if s3.1 then
        f_ref08_Field_l32 s high s4 m_ (IntKind.u64.wrap (n + bit)) (IntKind.u64.wrap (2 * bit)) (IntKind.i64.wrap (v + 1))
      else
        f_ref08_Field_l32 s high s4 m_ n (IntKind.u64.wrap (2 * bit)) (IntKind.i64.wrap (v + 1))
    else
      some (n, bit, v)
def f_ref08_Field (s : Str) (low : Int) (high : Int) : Option (Int × Bool) :=
  Option.bind (f_ref08_Field_l7 s low high (((low : Int) - 0).toNat + 1) 1 0) fun s2 : Int × Int =>
  (f_ref03_Split s 44).bind fun t =>
  Option.bind (f_ref08_Field_l17 s low high s2 t ((((t.length : Int) : Int) - 0).toNat + 1) 0 ([] : List consignorref08_P)) fun s3 : (Int × (List consignorref08_P)) ⊕ (Int × Bool) => match s3 with
  | .inr z => some z
  | .inl s4 =>
    Option.bind (f_ref08_Field_l32 s high s4 (((high : Int) - low).toNat + 2) 0 s2.1 low) fun s3 : Int × Int × Int =>
    some (s3.1, true)
def f_ref08_Parse (s : Str) : Option (api_Cron × Bool) :=
  (f_ref03_Split s 32).bind fun t =>
  if ((decide ((s.length : Int) > 200)) || ((t.length : Int) != 5)) then
    some ((api_Cron.mk 0 0 0 0 0 false false), false)
  else
    (ix t 0).bind fun x =>
    (f_ref08_Field x 0 59).bind fun t2 =>
    (ix t 1).bind fun x2 =>
    (f_ref08_Field x2 0 23).bind fun t3 =>
    (ix t 2).bind fun x3 =>
    (f_ref08_Field x3 1 31).bind fun t4 =>
    (ix t 3).bind fun x4 =>
    (f_ref08_Field x4 1 12).bind fun t5 =>
    (ix t 4).bind fun x5 =>
    (f_ref08_Field x5 0 6).bind fun t6 =>
    if (((((!t2.2) || (!t3.2)) || (!t4.2)) || (!t5.2)) || (!t6.2)) then
      some ((api_Cron.mk 0 0 0 0 0 false false), false)
    else
      (ix t 2).bind fun x6 =>
      (ix t 4).bind fun x7 =>
      some ((api_Cron.mk t2.1 t3.1 t4.1 t5.1 t6.1 (x6 == ([42] : Str)) (x7 == ([42] : Str))), true)
def f_cron_leap (year : Int) : Option (Bool) :=
  some ((((year.tmod 4) == 0) && ((year.tmod 100) != 0)) || ((year.tmod 400) == 0))
def f_cron_days (month : Int) (year : Int) : Option (Int) :=
  if (month == 2) then
    (f_cron_leap year).bind fun t =>
    if t then
      some 29
    else
      some 28
  else
    if (month == 4) then
      if (month == 4) then
        some 30
      else
        some 31
    else
      if (month == 6) then
        if (month == 6) then
          some 30
        else
          some 31
      else
        if (month == 9) then
          if (month == 9) then
            some 30
          else
            some 31
        else
          if (month == 11) then
            some 30
          else
            some 31
def f_cron_At_l12 (tick : Int) : Nat → Int → Int → Option (Int × Int × Int)
  | 0, _, _ => none
  | m_ + 1, n, c =>
    Option.bind (
      (f_cron_leap c).bind fun t =>
      if t then
        some (IntKind.i64.wrap (365 + 1))
      else
        some 365) fun s : Int =>
    if (decide (n < s)) then
      some (n, s, c)
    else
      f_cron_At_l12 tick m_ (IntKind.i64.wrap (n - s)) (IntKind.i64.wrap (c + 1))
def f_cron_At_l16 (tick : Int) (s : Int × Int × Int) : Nat → Int → Int → Option (Int × Int)
  | 0, _, _ => none
  | m_ + 1, n, c =>
    (f_cron_days c s.2.2).bind fun t =>
    if (decide (n ≥ t)) then
      (f_cron_days c s.2.2).bind fun t2 =>
      f_cron_At_l16 tick s m_ (IntKind.i64.wrap (n - t2)) (IntKind.i64.wrap (c + 1))
    else
      some (n, c)
def f_cron_At (tick : Int) : Option (api_Clock × Int) :=
  if ((decide (tick < 0)) || (decide (tick > 1099511627776))) then
    some ((api_Clock.mk 0 0 0 0 0 0), 1)
  else
    Option.bind (f_cron_At_l12 tick 401 ((IntKind.i64.wrap (tick.tdiv 1440)).tmod 146097) (IntKind.i64.wrap (1970 + (IntKind.i64.wrap ((IntKind.i64.wrap ((IntKind.i64.wrap (tick.tdiv 1440)).tdiv 146097)) * 400))))) fun s : Int × Int × Int =>
    Option.bind (f_cron_At_l16 tick s 13 s.1 1) fun s2 : Int × Int =>
    some ((api_Clock.mk (tick.tmod 60) (IntKind.i64.wrap ((tick.tmod 1440).tdiv 60)) (IntKind.i64.wrap (s2.1 + 1)) s2.2 s.2.2 ((IntKind.i64.wrap ((IntKind.i64.wrap (tick.tdiv 1440)) + 4)).tmod 7)), 0)
def f_cron_set (bits : Int) (n : Int) : Option (Bool) :=
  gd (0 ≤ n) <|
  some ((IntKind.u64.wrap ((BitVec.ofInt IntKind.u64.bits (bits.fdiv (2 ^ (min n.toNat IntKind.u64.bits))) &&& BitVec.ofInt IntKind.u64.bits 1).toNat)) == 1)
def f_cron_Fires (c : api_Cron) (tick : Int) : Option (Bool) :=
  (f_cron_At tick).bind fun t =>
  (gx (!(t.2 != 0)) (f_cron_set c.Minutes t.1.Minute) default).bind fun t2 =>
  (gx (!((t.2 != 0) || (!t2))) (f_cron_set c.Hours t.1.Hour) default).bind fun t3 =>
  (gx (!(((t.2 != 0) || (!t2)) || (!t3))) (f_cron_set c.Months t.1.Month) default).bind fun t4 =>
  if ((((t.2 != 0) || (!t2)) || (!t3)) || (!t4)) then
    some false
  else
    if (c.AnyDay && c.AnyWeek) then
      some true
    else
      if c.AnyDay then
        (f_cron_set c.Week t.1.Week).bind fun t5 =>
        some t5
      else
        if c.AnyWeek then
          (f_cron_set c.Days t.1.Day).bind fun t5 =>
          some t5
        else
          (f_cron_set c.Days t.1.Day).bind fun t5 =>
          (gx (!t5) (f_cron_set c.Week t.1.Week) default).bind fun t6 =>
          some (t5 || t6)
def f_law08_alive : Option (Bool) :=
  (f_cron_Parse ([42, 32, 42, 32, 42, 32, 42, 32, 42] : Str)).bind fun t =>
  (f_cron_At 0).bind fun t2 =>
  (gx ((t.2 == 0) && (t2.2 == 0)) (f_cron_Fires t.1 0) default).bind fun t3 =>
  some ((((t.2 == 0) && (t2.2 == 0)) && t3) && ((t2.1.Minute == 0) && ((t2.1.Hour == 0) && ((t2.1.Day == 1) && ((t2.1.Month == 1) && ((t2.1.Year == 1970) && (t2.1.Week == 4)))))))
def f_law08_CronParses (s : Str) : Option (Bool) :=
  gd (0 ≤ (if 210 < (s.length : Int) then 210 else (s.length : Int)) ∧ (if 210 < (s.length : Int) then 210 else (s.length : Int)) ≤ (s.length : Int)) <|
  (f_cron_Parse (cut s 0 (if 210 < (s.length : Int) then 210 else (s.length : Int)))).bind fun t =>
  (f_ref08_Parse (cut s 0 (if 210 < (s.length : Int) then 210 else (s.length : Int)))).bind fun t2 =>
  (f_law08_alive).bind fun t3 =>
  some (((t3 && ((t.1.Minutes == t2.1.Minutes) && ((t.1.Hours == t2.1.Hours) && ((t.1.Days == t2.1.Days) && ((t.1.Months == t2.1.Months) && ((t.1.Week == t2.1.Week) && ((t.1.AnyDay == t2.1.AnyDay) && (t.1.AnyWeek == t2.1.AnyWeek)))))))) && ((t.2 == 0) == t2.2)) && (t2.2 || (t.2 == 6)))
def f_ref08_Long (year : Int) : Option (Bool) :=
  some (((year.tmod 4) == 0) && (((year.tmod 100) != 0) || ((year.tmod 400) == 0)))
def f_ref08_Days (month : Int) (year : Int) : Option (Int) :=
  (ix ([31, 28, 31, 30, 31, 30, 31, 31, 30, 31, 30, 31] : List Int) (IntKind.i64.wrap (month - 1))).bind fun x =>
  (gx (month == 2) (f_ref08_Long year) default).bind fun t =>
  if ((month == 2) && t) then
    some 29
  else
    some x
def f_ref08_Tick_l8 (c : api_Clock) : Nat → Int → Int → Option (Int × Int)
  | 0, _, _ => none
  | m_ + 1, n2, mv =>
    if (decide (mv < c.Month)) then
      (f_ref08_Days mv c.Year).bind fun t =>
      f_ref08_Tick_l8 c m_ (IntKind.i64.wrap (n2 + t)) (IntKind.i64.wrap (mv + 1))
    else
      some (n2, mv)
def f_ref08_Tick (c : api_Clock) : Option (Int) :=
  (some (IntKind.i64.wrap ((IntKind.i64.wrap ((IntKind.i64.wrap ((IntKind.i64.wrap (365 * c.Year)) + (IntKind.i64.wrap ((IntKind.i64.wrap (c.Year - 1)).tdiv 4)))) - (IntKind.i64.wrap ((IntKind.i64.wrap (c.Year - 1)).tdiv 100)))) + (IntKind.i64.wrap ((IntKind.i64.wrap (c.Year - 1)).tdiv 400))))).bind fun n =>
  Option.bind (f_ref08_Tick_l8 c (((c.Month : Int) - 1).toNat + 1) (IntKind.i64.wrap (n - 719527)) 1) fun s : Int × Int =>
  some (IntKind.i64.wrap ((IntKind.i64.wrap ((IntKind.i64.wrap (1440 * (IntKind.i64.wrap ((IntKind.i64.wrap (s.1 + c.Day)) - 1)))) + (IntKind.i64.wrap (60 * c.Hour)))) + c.Minute))
def f_law08_CronTimes (tick : Int) : Option (Bool) :=
  (f_cron_At tick).bind fun t =>
  if ((decide (tick < 0)) || (decide (tick > 1099511627776))) then
    (f_law08_alive).bind fun t2 =>
    some ((t2 && (t.2 == 1)) && ((t.1.Minute == 0) && ((t.1.Hour == 0) && ((t.1.Day == 0) && ((t.1.Month == 0) && ((t.1.Year == 0) && (t.1.Week == 0)))))))
  else
    (gx (!((((((((((t.2 != 0) || (decide (t.1.Minute < 0))) || (decide (t.1.Minute > 59))) || (decide (t.1.Hour < 0))) || (decide (t.1.Hour > 23))) || (decide (t.1.Month < 1))) || (decide (t.1.Month > 12))) || (decide (t.1.Year < 1970))) || (decide (t.1.Year > 3000000))) || (decide (t.1.Day < 1)))) (f_ref08_Days t.1.Month t.1.Year) default).bind fun t2 =>
    if (((((((((((t.2 != 0) || (decide (t.1.Minute < 0))) || (decide (t.1.Minute > 59))) || (decide (t.1.Hour < 0))) || (decide (t.1.Hour > 23))) || (decide (t.1.Month < 1))) || (decide (t.1.Month > 12))) || (decide (t.1.Year < 1970))) || (decide (t.1.Year > 3000000))) || (decide (t.1.Day < 1))) || (decide (t.1.Day > t2))) then
      some false
    else
      (f_law08_alive).bind fun t3 =>
      (gx t3 (f_ref08_Tick t.1) default).bind fun t4 =>
      some ((t3 && (t4 == tick)) && (t.1.Week == ((IntKind.i64.wrap ((IntKind.i64.wrap (tick.tdiv 1440)) + 4)).tmod 7)))
def f_law08_CronDays_l17 (tick : Int) (t : api_Cron × Int) : Nat → Int → Int → Option ((Int × Int) ⊕ (Bool))
  | 0, _, _ => none
  | m_ + 1, fired, v37 =>
    if (decide (v37 < 7)) then
      (f_cron_At (IntKind.i64.wrap (((IntKind.i64.wrap ((tick.tmod 1000000000) + 1000000000)).tmod 1000000000) + (IntKind.i64.wrap (1440 * v37))))).bind fun t3 =>
      (f_cron_At (IntKind.i64.wrap (((IntKind.i64.wrap ((tick.tmod 1000000000) + 1000000000)).tmod 1000000000) + (IntKind.i64.wrap (1440 * (IntKind.i64.wrap (v37 + 1))))))).bind fun t4 =>
      if ((((((t3.2 != 0) || (t4.2 != 0)) || (t3.1.Minute != t4.1.Minute)) || (t3.1.Hour != t4.1.Hour)) || (t4.1.Week != ((IntKind.i64.wrap (t3.1.Week + 1)).tmod 7))) || ((t4.1.Day != (IntKind.i64.wrap (t3.1.Day + 1))) && (t4.1.Day != 1))) then
        some (.inr false)
      else
        (f_cron_Fires t.1 (IntKind.i64.wrap (((IntKind.i64.wrap ((tick.tmod 1000000000) + 1000000000)).tmod 1000000000) + (IntKind.i64.wrap (1440 * v37))))).bind fun t5 =>
        if t5 then
          f_law08_CronDays_l17 tick t m_ (IntKind.i64.wrap (fired + 1)) (IntKind.i64.wrap (v37 + 1))
        else
          f_law08_CronDays_l17 tick t m_ fired (IntKind.i64.wrap (v37 + 1))
    else
      some (.inl (fired, v37))
def f_law08_CronDays (tick : Int) (day : Int) : Option (Bool) :=
  gd (8 + 1 ≤ 9223372036854775807) <|
  (f_cron_Parse (([42, 32, 42, 32, 42, 32, 42, 32] : Str) ++ (([(IntKind.u8.wrap (IntKind.i64.wrap (48 + ((IntKind.i64.wrap ((day.tmod 7) + 7)).tmod 7))))] : List Int).map nb))).bind fun t =>
  (gx (!(t.2 != 0)) (f_law08_alive) default).bind fun t2 =>
  if ((t.2 != 0) || (!t2)) then
    some false
  else
    Option.bind (f_law08_CronDays_l17 tick t (((7 : Int) - 0).toNat + 1) 0 0) fun s : (Int × Int) ⊕ (Bool) => match s with
    | .inr z => some z
    | .inl s2 =>
      some (s2.1 == 1)
def f_cron_Next_l8 (c : api_Cron) (tick : Int) (most : Int) : Nat → Int → Option ((Int) ⊕ (Int × Int))
  | 0, _ => none
  | m_ + 1, t =>
    if ((decide (t ≤ (IntKind.i64.wrap (tick + most)))) && (decide (t ≤ 1099511627776))) then
      (f_cron_Fires c t).bind fun t2 =>
      if t2 then
        some (.inr (t, 0))
      else
        f_cron_Next_l8 c tick most m_ (IntKind.i64.wrap (t + 1))
    else
      some (.inl t)
def f_cron_Next (c : api_Cron) (tick : Int) (most : Int) : Option (Int × Int) :=
  if ((((decide (tick < 0)) || (decide (tick > 1099511627776))) || (decide (most < 0))) || (decide (most > 100000))) then
    some (0, 1)
  else
    Option.bind (f_cron_Next_l8 c tick most ((((IntKind.i64.wrap (tick + most)) : Int) - (IntKind.i64.wrap (tick + 1))).toNat + 2) (IntKind.i64.wrap (tick + 1))) fun s : (Int) ⊕ (Int × Int) => match s with
    | .inr z => some z
    | .inl s2 =>
      some (0, 9)
def f_ref08_set_l5 (n : Int) : Nat → Int → Int → Option (Int × Int)
  | 0, _, _ => none
  | m_ + 1, bits2, i =>
    if (decide (i < n)) then
      f_ref08_set_l5 n m_ (IntKind.u64.wrap (bits2.tdiv 2)) (IntKind.i64.wrap (i + 1))
    else
      some (bits2, i)
def f_ref08_set (bits : Int) (n : Int) : Option (Bool) :=
  Option.bind (f_ref08_set_l5 n (((n : Int) - 0).toNat + 1) bits 0) fun s : Int × Int =>
  some ((s.1.tmod 2) == 1)
def f_ref08_Fires (c : api_Cron) (t : api_Clock) : Option (Bool) :=
  (f_ref08_set c.Days t.Day).bind fun t2 =>
  (f_ref08_set c.Week t.Week).bind fun t3 =>
  Option.bind (
    if c.AnyDay then
      some t3
    else
      some (t2 || t3)) fun s : Bool =>
  Option.bind (
    if c.AnyWeek then
      some t2
    else
      some s) fun s2 : Bool =>
  (f_ref08_set c.Minutes t.Minute).bind fun t4 =>
  (gx t4 (f_ref08_set c.Hours t.Hour) default).bind fun t5 =>
  (gx (t4 && t5) (f_ref08_set c.Months t.Month) default).bind fun t6 =>
  some (((t4 && t5) && t6) && (s2 || (c.AnyDay && c.AnyWeek)))
def f_law08_CronFires_l17 (c : api_Cron) (tick : Int) (most : Int) (t2 : Int × Int) : Nat → Int → Option ((Int) ⊕ (Bool))
  | 0, _ => none
  | m_ + 1, kv =>
    if ((decide (kv ≤ (IntKind.i64.wrap (tick + most)))) && (decide (kv ≤ 1099511627776))) then
      (f_cron_At kv).bind fun t6 =>
      if (t6.2 != 0) then
        some (.inr false)
      else
        (f_ref08_Fires c t6.1).bind fun t7 =>
        if t7 then
          some (.inr ((t2.2 == 0) && (t2.1 == kv)))
        else
          f_law08_CronFires_l17 c tick most t2 m_ (IntKind.i64.wrap (kv + 1))
    else
      some (.inl kv)
def f_law08_CronFires (c : api_Cron) (tick : Int) (most : Int) : Option (Bool) :=
  (f_cron_At tick).bind fun t =>
  (f_cron_Next c tick most).bind fun t2 =>
  (f_cron_Fires c tick).bind fun t3 =>
  (gx (t.2 == 0) (f_ref08_Fires c t.1) default).bind fun t4 =>
  (gx (!(!(t3 == ((t.2 == 0) && t4)))) (f_law08_alive) default).bind fun t5 =>
  if ((!(t3 == ((t.2 == 0) && t4))) || (!t5)) then
    some false
  else
    if (((t.2 != 0) || (decide (most < 0))) || (decide (most > 100000))) then
      some ((t2.2 == 1) && (t2.1 == 0))
    else
      if (decide (most > 400)) then
        some ((((t2.2 == 0) && (decide (t2.1 > tick))) && (decide (t2.1 ≤ (IntKind.i64.wrap (tick + most))))) || ((t2.2 == 9) && (t2.1 == 0)))
      else
        Option.bind (f_law08_CronFires_l17 c tick most t2 ((((IntKind.i64.wrap (tick + most)) : Int) - (IntKind.i64.wrap (tick + 1))).toNat + 2) (IntKind.i64.wrap (tick + 1))) fun s : (Int) ⊕ (Bool) => match s with
        | .inr z => some z
        | .inl s2 =>
          some ((t2.2 == 9) && (t2.1 == 0))
def f_law08_CronEvery_l16 (tick : Int) (t : api_Cron × Int) (t2 : api_Cron × Int) : Nat → Int → Int → Option ((Int × Int) ⊕ (Bool))
  | 0, _, _ => none
  | m_ + 1, fired, v55 =>
    if (decide (v55 < 60)) then
      Option.bind (
        (f_cron_Fires t.1 (IntKind.i64.wrap (((IntKind.i64.wrap ((tick.tmod 1000000000) + 1000000000)).tmod 1000000000) + v55))).bind fun t4 =>
        if t4 then
          some (IntKind.i64.wrap (fired + 1))
        else
          some fired) fun s : Int =>
      (f_cron_Fires t2.1 (IntKind.i64.wrap (((IntKind.i64.wrap ((tick.tmod 1000000000) + 1000000000)).tmod 1000000000) + v55))).bind fun t4 =>
      if (!t4) then
        some (.inr false)
      else
        f_law08_CronEvery_l16 tick t t2 m_ s (IntKind.i64.wrap (v55 + 1))
    else
      some (.inl (fired, v55))
def f_law08_CronEvery (tick : Int) (minute : Int) : Option (Bool) :=
  gd (0 ≤ (if 1 < (if (IntKind.i64.wrap (10 - ((IntKind.i64.wrap ((minute.tmod 60) + 60)).tmod 60))) < 0 then 0 else (IntKind.i64.wrap (10 - ((IntKind.i64.wrap ((minute.tmod 60) + 60)).tmod 60)))) then 1 else (if (IntKind.i64.wrap (10 - ((IntKind.i64.wrap ((minute.tmod 60) + 60)).tmod 60))) < 0 then 0 else (IntKind.i64.wrap (10 - ((IntKind.i64.wrap ((minute.tmod 60) + 60)).tmod 60))))) ∧ (if 1 < (if (IntKind.i64.wrap (10 - ((IntKind.i64.wrap ((minute.tmod 60) + 60)).tmod 60))) < 0 then 0 else (IntKind.i64.wrap (10 - ((IntKind.i64.wrap ((minute.tmod 60) + 60)).tmod 60)))) then 1 else (if (IntKind.i64.wrap (10 - ((IntKind.i64.wrap ((minute.tmod 60) + 60)).tmod 60))) < 0 then 0 else (IntKind.i64.wrap (10 - ((IntKind.i64.wrap ((minute.tmod 60) + 60)).tmod 60))))) ≤ 2) <|
  gd ((cut (([(IntKind.u8.wrap (IntKind.i64.wrap (48 + (IntKind.i64.wrap (((IntKind.i64.wrap ((minute.tmod 60) + 60)).tmod 60).tdiv 10))))), (IntKind.u8.wrap (IntKind.i64.wrap (48 + (((IntKind.i64.wrap ((minute.tmod 60) + 60)).tmod 60).tmod 10))))] : List Int).map nb) (if 1 < (if (IntKind.i64.wrap (10 - ((IntKind.i64.wrap ((minute.tmod 60) + 60)).tmod 60))) < 0 then 0 else (IntKind.i64.wrap (10 - ((IntKind.i64.wrap ((minute.tmod 60) + 60)).tmod 60)))) then 1 else (if (IntKind.i64.wrap (10 - ((IntKind.i64.wrap ((minute.tmod 60) + 60)).tmod 60))) < 0 then 0 else (IntKind.i64.wrap (10 - ((IntKind.i64.wrap ((minute.tmod 60) + 60)).tmod 60))))) 2).length + 8 ≤ 9223372036854775807) <|
  (f_cron_Parse ((cut (([(IntKind.u8.wrap (IntKind.i64.wrap (48 + (IntKind.i64.wrap (((IntKind.i64.wrap ((minute.tmod 60) + 60)).tmod 60).tdiv 10))))), (IntKind.u8.wrap (IntKind.i64.wrap (48 + (((IntKind.i64.wrap ((minute.tmod 60) + 60)).tmod 60).tmod 10))))] : List Int).map nb) (if 1 < (if (IntKind.i64.wrap (10 - ((IntKind.i64.wrap ((minute.tmod 60) + 60)).tmod 60))) < 0 then 0 else (IntKind.i64.wrap (10 - ((IntKind.i64.wrap ((minute.tmod 60) + 60)).tmod 60)))) then 1 else (if (IntKind.i64.wrap (10 - ((IntKind.i64.wrap ((minute.tmod 60) + 60)).tmod 60))) < 0 then 0 else (IntKind.i64.wrap (10 - ((IntKind.i64.wrap ((minute.tmod 60) + 60)).tmod 60))))) 2) ++ ([32, 42, 32, 42, 32, 42, 32, 42] : Str))).bind fun t =>
  (f_cron_Parse ([42, 32, 42, 32, 42, 32, 42, 32, 42] : Str)).bind fun t2 =>
  (gx (!((t.2 != 0) || (t2.2 != 0))) (f_law08_alive) default).bind fun t3 =>
  if (((t.2 != 0) || (t2.2 != 0)) || (!t3)) then
    some false
  else
    Option.bind (f_law08_CronEvery_l16 tick t t2 (((60 : Int) - 0).toNat + 1) 0 0) fun s : (Int × Int) ⊕ (Bool) => match s with
    | .inr z => some z
    | .inl s2 =>
      (f_cron_Next t2.1 ((IntKind.i64.wrap ((tick.tmod 1000000000) + 1000000000)).tmod 1000000000) 1).bind fun t4 =>
      some (((s2.1 == 1) && (t4.2 == 0)) && (t4.1 == (IntKind.i64.wrap (((IntKind.i64.wrap ((tick.tmod 1000000000) + 1000000000)).tmod 1000000000) + 1))))
def f_law08_CronNext_l10 (c : api_Cron) (tick : Int) (most : Int) (t : Int × Int) : Nat → Int → Option ((Int) ⊕ (Bool))
  | 0, _ => none
  | m_ + 1, t2 =>
    if (decide (t2 < t.1)) then
      (f_cron_Fires c t2).bind fun t3 =>
      if t3 then
        some (.inr false)
      else
        f_law08_CronNext_l10 c tick most t m_ (IntKind.i64.wrap (t2 + 1))
    else
      some (.inl t2)
def f_law08_CronNext (c : api_Cron) (tick : Int) (most : Int) : Option (Bool) :=
  (f_cron_Next c tick ((IntKind.i64.wrap ((most.tmod 300) + 300)).tmod 300)).bind fun t =>
  if (t.2 != 0) then
    (f_law08_alive).bind fun t2 =>
    some ((t2 && (t.1 == 0)) && ((t.2 == 9) || (t.2 == 1)))
  else
    Option.bind (f_law08_CronNext_l10 c tick most t (((t.1 : Int) - (IntKind.i64.wrap (tick + 1))).toNat + 1) (IntKind.i64.wrap (tick + 1))) fun s : (Int) ⊕ (Bool) => match s with
    | .inr z => some z
    | .inl s2 =>
      (f_cron_Next c (IntKind.i64.wrap (t.1 - 1)) 1).bind fun t2 =>
      (f_law08_alive).bind fun t3 =>
      (gx ((t3 && (decide (t.1 > tick))) && (decide (t.1 ≤ (IntKind.i64.wrap (tick + ((IntKind.i64.wrap ((most.tmod 300) + 300)).tmod 300)))))) (f_cron_Fires c t.1) default).bind fun t4 =>
      some (((((t3 && (decide (t.1 > tick))) && (decide (t.1 ≤ (IntKind.i64.wrap (tick + ((IntKind.i64.wrap ((most.tmod 300) + 300)).tmod 300)))))) && t4) && (t2.2 == 0)) && (t2.1 == t.1))
end Go.Proofs.YthcngbbceahdlaaDoor.V
end

section
/- The shelf contracts that this seat uses, in plain words. -/
namespace Go.Proofs
open Go.Shelf
def Tryd.lays170_ren : Go.Shelf.Ren := ⟨fun | 170 => 45 | n => n, fun | 70 => 63 | 3 => 3 | 0 => 0 | 72 => 65 | 37 => 24 | 5 => 5 | n => n, fun | n => n⟩
theorem Tryd.lays170 : Go.Proofs.Lays.n170 Tryd.prog Tryd.lays170_ren := {
  mixed := by kernel_rfl
  f170 := Tryd.func45.trans (congrArg some (by kernel_rfl))
  t0 := Tryd.underlying0
  a0 := Tryd.isAgg0
  z0 := Tryd.sizeOf0
  v0 := Tryd.zeroValue0
  t3 := Tryd.underlying3
  a3 := Tryd.isAgg3
  z3 := Tryd.sizeOf3
  v3 := Tryd.zeroValue3
  t37 := Tryd.underlying24
  a37 := Tryd.isAgg24
  z37 := Tryd.sizeOf24
  v37 := Tryd.zeroValue24
  t70 := Tryd.underlying63
  a70 := Tryd.isAgg63
  z70 := Tryd.sizeOf63
  v70 := Tryd.zeroValue63
  t72 := Tryd.underlying65
  a72 := Tryd.isAgg65
  z72 := Tryd.sizeOf65
  v72 := Tryd.zeroValue65 }
open Go.RowKit in
theorem Tryd.Builder_Len (B b : Nat) (bs : List Value) (w : World) (h : Lib.IsBuilder 65 5 B b bs w) :
    Calls Tryd.prog 45 #[.pointer (some ⟨b, 0, none⟩)] w fun e w' => e = .returned (.int .i64 bs.length) ∧ w' = w := Any.Builder_Len Tryd.lays170 B b bs w h
def Tryd.lays169_ren : Go.Shelf.Ren := ⟨fun | 169 => 43 | n => n, fun | 70 => 63 | 9 => 9 | 0 => 0 | 72 => 65 | 37 => 24 | 127 => 106 | 3 => 3 | 5 => 5 | n => n, fun | n => n⟩
theorem Tryd.lays169 : Go.Proofs.Lays.n169 Tryd.prog Tryd.lays169_ren := {
  mixed := by kernel_rfl
  f169 := Tryd.func43.trans (congrArg some (by kernel_rfl))
  t0 := Tryd.underlying0
  a0 := Tryd.isAgg0
  z0 := Tryd.sizeOf0
  v0 := Tryd.zeroValue0
  t3 := Tryd.underlying3
  a3 := Tryd.isAgg3
  z3 := Tryd.sizeOf3
  v3 := Tryd.zeroValue3
  t9 := Tryd.underlying9
  a9 := Tryd.isAgg9
  z9 := Tryd.sizeOf9
  v9 := Tryd.zeroValue9
  t37 := Tryd.underlying24
  a37 := Tryd.isAgg24
  z37 := Tryd.sizeOf24
  v37 := Tryd.zeroValue24
  t70 := Tryd.underlying63
  a70 := Tryd.isAgg63
  z70 := Tryd.sizeOf63
  v70 := Tryd.zeroValue63
  t72 := Tryd.underlying65
  a72 := Tryd.isAgg65
  z72 := Tryd.sizeOf65
  v72 := Tryd.zeroValue65
  t127 := Tryd.underlying106
  a127 := Tryd.isAgg106
  z127 := Tryd.sizeOf106
  v127 := Tryd.zeroValue106 }
theorem Tryd.Builder_Extra_169 : Builder.Extra Tryd.prog Tryd.lays169_ren := {
  sizeBuilder := by kernel_rfl
  liesBuilder := by kernel_rfl
  t5 := Tryd.underlying5
  a5 := Tryd.isAgg5
  z5 := Tryd.sizeOf5
  v5 := Tryd.zeroValue5
  infoByte := by kernel_rfl
  cellsByte := by kernel_rfl
  sizeByte := by kernel_rfl
  neB5 := by decide }
open Go.RowKit in
theorem Tryd.Builder_String (B b : Nat) (l : List UInt8) (w : World) (h : Lib.IsBuilder 65 5 B b (Lib.byteCells l) w) (h0 : l ≠ []) :
    Calls Tryd.prog 43 #[.pointer (some ⟨b, 0, none⟩)] w fun e w' => e = .returned (.string ⟨l.toArray⟩) ∧ Below B w w' := Any.Builder_String Tryd.lays169 Tryd.Builder_Extra_169 B b l w h h0
open Go.RowKit in
theorem Tryd.Builder_String_empty (B b : Nat) (w : World) (h : Lib.IsBuilder 65 5 B b [] w) (hBw : B ≤ w.heap.size) :
    Calls Tryd.prog 43 #[.pointer (some ⟨b, 0, none⟩)] w fun e w' => e = .returned (.string ⟨#[]⟩) ∧ Below B w w' := Any.Builder_String_empty Tryd.lays169 Tryd.Builder_Extra_169 B b w h hBw
open Go.RowKit in
theorem Tryd.Builder_String_any (B b : Nat) (l : List UInt8) (w : World) (h : Lib.IsBuilder 65 5 B b (Lib.byteCells l) w) (hBw : B ≤ w.heap.size) :
    Calls Tryd.prog 43 #[.pointer (some ⟨b, 0, none⟩)] w fun e w' => e = .returned (.string ⟨l.toArray⟩) ∧ Below B w w' := Any.Builder_String_any Tryd.lays169 Tryd.Builder_Extra_169 B b l w h hBw
def Tryd.lays241_ren : Go.Shelf.Ren := ⟨fun | 241 => 64 | 277 => 79 | n => n, fun | 70 => 63 | 3 => 3 | 0 => 0 | 72 => 65 | 37 => 24 | 5 => 5 | n => n, fun | n => n⟩
theorem Tryd.lays241 : Go.Proofs.Lays.n241 Tryd.prog Tryd.lays241_ren := {
  mixed := by kernel_rfl
  f241 := Tryd.func64.trans (congrArg some (by kernel_rfl))
  f277 := Tryd.func79.trans (congrArg some (by kernel_rfl))
  t0 := Tryd.underlying0
  a0 := Tryd.isAgg0
  z0 := Tryd.sizeOf0
  v0 := Tryd.zeroValue0
  t3 := Tryd.underlying3
  a3 := Tryd.isAgg3
  z3 := Tryd.sizeOf3
  v3 := Tryd.zeroValue3
  t37 := Tryd.underlying24
  a37 := Tryd.isAgg24
  z37 := Tryd.sizeOf24
  v37 := Tryd.zeroValue24
  t70 := Tryd.underlying63
  a70 := Tryd.isAgg63
  z70 := Tryd.sizeOf63
  v70 := Tryd.zeroValue63
  t72 := Tryd.underlying65
  a72 := Tryd.isAgg65
  z72 := Tryd.sizeOf65
  v72 := Tryd.zeroValue65 }
theorem Tryd.Builder_Extra_241 : Builder.Extra Tryd.prog Tryd.lays241_ren := {
  sizeBuilder := by kernel_rfl
  liesBuilder := by kernel_rfl
  t5 := Tryd.underlying5
  a5 := Tryd.isAgg5
  z5 := Tryd.sizeOf5
  v5 := Tryd.zeroValue5
  infoByte := by kernel_rfl
  cellsByte := by kernel_rfl
  sizeByte := by kernel_rfl
  neB5 := by decide }
open Go.RowKit in
theorem Tryd.Builder_grow_fresh (B b n : Nat) (w : World) (hB : B ≤ b) (hbk : w.heap[b]? = some (.cells #[.pointer (some ⟨b, 0, none⟩), .slice none 0 0] 65 (0, 0))) (hBw : B ≤ w.heap.size) (hn : n ≤ 281474976710656) :
    Calls Tryd.prog 64 #[.pointer (some ⟨b, 0, none⟩), .int .i64 n] w fun e w' => e = .returned (.tuple #[]) ∧ (Lib.BuilderAt 65 5 B b (.pointer (some ⟨b, 0, none⟩)) [] w' ∧ Below B w w') := Any.Builder_grow_fresh Tryd.lays241 Tryd.Builder_Extra_241 B b n w hB hbk hBw hn
def Tryd.lays165_ren : Go.Shelf.Ren := ⟨fun | 165 => 41 | 240 => 63 | 241 => 64 | 276 => 78 | 277 => 79 | n => n, fun | 70 => 63 | 3 => 3 | 0 => 0 | 4 => 4 | 9 => 9 | 20 => 20 | 72 => 65 | 37 => 24 | 164 => 126 | 5 => 5 | n => n, fun | n => n⟩
theorem Tryd.lays165 : Go.Proofs.Lays.n165 Tryd.prog Tryd.lays165_ren := {
  mixed := by kernel_rfl
  f165 := Tryd.func41.trans (congrArg some (by kernel_rfl))
  f240 := Tryd.func63.trans (congrArg some (by kernel_rfl))
  f241 := Tryd.func64.trans (congrArg some (by kernel_rfl))
  f276 := Tryd.func78.trans (congrArg some (by kernel_rfl))
  f277 := Tryd.func79.trans (congrArg some (by kernel_rfl))
  t0 := Tryd.underlying0
  a0 := Tryd.isAgg0
  z0 := Tryd.sizeOf0
  v0 := Tryd.zeroValue0
  t3 := Tryd.underlying3
  a3 := Tryd.isAgg3
  z3 := Tryd.sizeOf3
  v3 := Tryd.zeroValue3
  t4 := Tryd.underlying4
  a4 := Tryd.isAgg4
  z4 := Tryd.sizeOf4
  v4 := Tryd.zeroValue4
  t9 := Tryd.underlying9
  a9 := Tryd.isAgg9
  z9 := Tryd.sizeOf9
  v9 := Tryd.zeroValue9
  t20 := Tryd.underlying20
  a20 := Tryd.isAgg20
  z20 := Tryd.sizeOf20
  v20 := Tryd.zeroValue20
  t37 := Tryd.underlying24
  a37 := Tryd.isAgg24
  z37 := Tryd.sizeOf24
  v37 := Tryd.zeroValue24
  t70 := Tryd.underlying63
  a70 := Tryd.isAgg63
  z70 := Tryd.sizeOf63
  v70 := Tryd.zeroValue63
  t72 := Tryd.underlying65
  a72 := Tryd.isAgg65
  z72 := Tryd.sizeOf65
  v72 := Tryd.zeroValue65
  t164 := Tryd.underlying126
  a164 := Tryd.isAgg126
  z164 := Tryd.sizeOf126
  v164 := Tryd.zeroValue126 }
theorem Tryd.Builder_Extra_165 : Builder.Extra Tryd.prog Tryd.lays165_ren := {
  sizeBuilder := by kernel_rfl
  liesBuilder := by kernel_rfl
  t5 := Tryd.underlying5
  a5 := Tryd.isAgg5
  z5 := Tryd.sizeOf5
  v5 := Tryd.zeroValue5
  infoByte := by kernel_rfl
  cellsByte := by kernel_rfl
  sizeByte := by kernel_rfl
  neB5 := by decide }
open Go.RowKit in
theorem Tryd.Builder_Grow_fresh (B b n : Nat) (w : World) (hB : B ≤ b) (hbk : w.heap[b]? = some (.cells #[.pointer none, .slice none 0 0] 65 (0, 0))) (hBw : B ≤ w.heap.size) (hn : n ≤ 281474976710656) :
    Calls Tryd.prog 41 #[.pointer (some ⟨b, 0, none⟩), .int .i64 n] w fun e w' => e = .returned (.tuple #[]) ∧ (Lib.BuilderAt 65 5 B b (.pointer (some ⟨b, 0, none⟩)) [] w' ∧ Below B w w') := Any.Builder_Grow_fresh Tryd.lays165 Tryd.Builder_Extra_165 B b n w hB hbk hBw hn
def Tryd.lays156_ren : Go.Shelf.Ren := ⟨fun | 156 => 21 | 165 => 41 | 166 => 42 | 169 => 43 | 240 => 63 | 241 => 64 | 276 => 78 | 277 => 79 | n => n, fun | 31 => 27 | 9 => 9 | 3 => 3 | 4 => 4 | 0 => 0 | 20 => 20 | 72 => 65 | 76 => 69 | 70 => 63 | 37 => 24 | 75 => 68 | 127 => 106 | 164 => 126 | 5 => 5 | 80 => 71 | n => n, fun | n => n⟩
theorem Tryd.lays156 : Go.Proofs.Lays.n156 Tryd.prog Tryd.lays156_ren := {
  mixed := by kernel_rfl
  f156 := Tryd.func21.trans (congrArg some (by kernel_rfl))
  f165 := Tryd.func41.trans (congrArg some (by kernel_rfl))
  f166 := Tryd.func42.trans (congrArg some (by kernel_rfl))
  f169 := Tryd.func43.trans (congrArg some (by kernel_rfl))
  f240 := Tryd.func63.trans (congrArg some (by kernel_rfl))
  f241 := Tryd.func64.trans (congrArg some (by kernel_rfl))
  f276 := Tryd.func78.trans (congrArg some (by kernel_rfl))
  f277 := Tryd.func79.trans (congrArg some (by kernel_rfl))
  t0 := Tryd.underlying0
  a0 := Tryd.isAgg0
  z0 := Tryd.sizeOf0
  v0 := Tryd.zeroValue0
  t3 := Tryd.underlying3
  a3 := Tryd.isAgg3
  z3 := Tryd.sizeOf3
  v3 := Tryd.zeroValue3
  t4 := Tryd.underlying4
  a4 := Tryd.isAgg4
  z4 := Tryd.sizeOf4
  v4 := Tryd.zeroValue4
  t9 := Tryd.underlying9
  a9 := Tryd.isAgg9
  z9 := Tryd.sizeOf9
  v9 := Tryd.zeroValue9
  t20 := Tryd.underlying20
  a20 := Tryd.isAgg20
  z20 := Tryd.sizeOf20
  v20 := Tryd.zeroValue20
  t31 := Tryd.underlying27
  a31 := Tryd.isAgg27
  z31 := Tryd.sizeOf27
  v31 := Tryd.zeroValue27
  t37 := Tryd.underlying24
  a37 := Tryd.isAgg24
  z37 := Tryd.sizeOf24
  v37 := Tryd.zeroValue24
  t70 := Tryd.underlying63
  a70 := Tryd.isAgg63
  z70 := Tryd.sizeOf63
  v70 := Tryd.zeroValue63
  t72 := Tryd.underlying65
  a72 := Tryd.isAgg65
  z72 := Tryd.sizeOf65
  v72 := Tryd.zeroValue65
  t75 := Tryd.underlying68
  a75 := Tryd.isAgg68
  z75 := Tryd.sizeOf68
  v75 := Tryd.zeroValue68
  t76 := Tryd.underlying69
  a76 := Tryd.isAgg69
  z76 := Tryd.sizeOf69
  v76 := Tryd.zeroValue69
  t127 := Tryd.underlying106
  a127 := Tryd.isAgg106
  z127 := Tryd.sizeOf106
  v127 := Tryd.zeroValue106
  t164 := Tryd.underlying126
  a164 := Tryd.isAgg126
  z164 := Tryd.sizeOf126
  v164 := Tryd.zeroValue126 }
theorem Tryd.Builder_Extra_156 : Builder.Extra Tryd.prog Tryd.lays156_ren := {
  sizeBuilder := by kernel_rfl
  liesBuilder := by kernel_rfl
  t5 := Tryd.underlying5
  a5 := Tryd.isAgg5
  z5 := Tryd.sizeOf5
  v5 := Tryd.zeroValue5
  infoByte := by kernel_rfl
  cellsByte := by kernel_rfl
  sizeByte := by kernel_rfl
  neB5 := by decide }
open Go.RowKit in
theorem Tryd.strings_Join_none (a : Option Addr) (c : Nat) (sep : ByteArray) (w : World) :
    Calls Tryd.prog 21 #[.slice a 0 c, .string sep] w fun e w' => e = .returned (.string ⟨#[]⟩) ∧ w' = w := Any.strings_Join_none Tryd.lays156 Tryd.Builder_Extra_156 a c sep w
open Go.RowKit in
theorem Tryd.strings_Join (bk o c : Nat) (xs : List ByteArray) (sep : ByteArray) (w : World) (hcells : ∀ (j : Nat) x, xs[j]? = some x → w.cell? ⟨bk, o + j, none⟩ = some (.string x)) (hbk : bk < w.heap.size) (hN : xs.length ≤ 140737488355328) (hcap : xs.length ≤ c) (hlen : (Lib.join (xs.map (·.data.toList)) sep.data.toList).length ≤ 140737488355328) :
    Calls Tryd.prog 21 #[.slice (some ⟨bk, o, none⟩) xs.length c, .string sep] w fun e w' => e = .returned (.string ⟨(Lib.join (xs.map (·.data.toList)) sep.data.toList).toArray⟩) ∧ Below w.heap.size w w' := Any.strings_Join Tryd.lays156 Tryd.Builder_Extra_156 bk o c xs sep w hcells hbk hN hcap hlen
def Tryd.lays231_ren : Go.Shelf.Ren := ⟨fun | 231 => 93 | n => n, fun | 9 => 9 | 5 => 5 | 3 => 3 | 4 => 4 | n => n, fun | n => n⟩
theorem Tryd.lays231 : Go.Proofs.Lays.n231 Tryd.prog Tryd.lays231_ren := {
  mixed := by kernel_rfl
  f231 := Tryd.func93.trans (congrArg some (by kernel_rfl))
  t3 := Tryd.underlying3
  a3 := Tryd.isAgg3
  z3 := Tryd.sizeOf3
  v3 := Tryd.zeroValue3
  t4 := Tryd.underlying4
  a4 := Tryd.isAgg4
  z4 := Tryd.sizeOf4
  v4 := Tryd.zeroValue4
  t5 := Tryd.underlying5
  a5 := Tryd.isAgg5
  z5 := Tryd.sizeOf5
  v5 := Tryd.zeroValue5
  t9 := Tryd.underlying9
  a9 := Tryd.isAgg9
  z9 := Tryd.sizeOf9
  v9 := Tryd.zeroValue9 }
open Go.RowKit in
theorem Tryd.strings_trimLeftByte (s : ByteArray) (c : UInt8) (w : World) :
    Calls Tryd.prog 93 #[.string s, .int .u8 c.toNat] w fun e w' => e = .returned (.string ⟨(Lib.trimLeftB s.data.toList c).toArray⟩) ∧ w' = w := Any.strings_trimLeftByte Tryd.lays231 s c w
def Tryd.lays232_ren : Go.Shelf.Ren := ⟨fun | 232 => 94 | n => n, fun | 9 => 9 | 5 => 5 | 3 => 3 | 4 => 4 | n => n, fun | n => n⟩
theorem Tryd.lays232 : Go.Proofs.Lays.n232 Tryd.prog Tryd.lays232_ren := {
  mixed := by kernel_rfl
  f232 := Tryd.func94.trans (congrArg some (by kernel_rfl))
  t3 := Tryd.underlying3
  a3 := Tryd.isAgg3
  z3 := Tryd.sizeOf3
  v3 := Tryd.zeroValue3
  t4 := Tryd.underlying4
  a4 := Tryd.isAgg4
  z4 := Tryd.sizeOf4
  v4 := Tryd.zeroValue4
  t5 := Tryd.underlying5
  a5 := Tryd.isAgg5
  z5 := Tryd.sizeOf5
  v5 := Tryd.zeroValue5
  t9 := Tryd.underlying9
  a9 := Tryd.isAgg9
  z9 := Tryd.sizeOf9
  v9 := Tryd.zeroValue9 }
open Go.RowKit in
theorem Tryd.strings_trimRightByte (s : ByteArray) (c : UInt8) (w : World) (hs : s.size ≤ 9223372036854775807) :
    Calls Tryd.prog 94 #[.string s, .int .u8 c.toNat] w fun e w' => e = .returned (.string ⟨(Lib.trimRightB s.data.toList c).toArray⟩) ∧ w' = w := Any.strings_trimRightByte Tryd.lays232 s c w hs
def Tryd.lays160_ren : Go.Shelf.Ren := ⟨fun | 160 => 91 | 232 => 94 | 231 => 93 | 227 => 95 | 234 => 97 | 233 => 96 | 236 => 99 | 235 => 98 | 228 => 100 | 271 => 102 | 151 => 101 | 197 => 88 | 120 => 104 | 152 => 103 | 260 => 92 | 137 => 15 | 119 => 105 | 224 => 76 | 225 => 75 | 217 => 34 | 266 => 60 | n => n, fun | 9 => 9 | 4 => 4 | 3 => 3 | 5 => 5 | 117 => 154 | 116 => 153 | 0 => 0 | 124 => 157 | 21 => 21 | 105 => 148 | 46 => 72 | 119 => 158 | 139 => 161 | 138 => 160 | n => n, fun | 3 => 1 | 4 => 2 | n => n⟩
theorem Tryd.lays160 : Go.Proofs.Lays.n160 Tryd.prog Tryd.lays160_ren := {
  mixed := by kernel_rfl
  f119 := Tryd.func105.trans (congrArg some (by kernel_rfl))
  f120 := Tryd.func104.trans (congrArg some (by kernel_rfl))
  f137 := Tryd.func15.trans (congrArg some (by kernel_rfl))
  f151 := Tryd.func101.trans (congrArg some (by kernel_rfl))
  f152 := Tryd.func103.trans (congrArg some (by kernel_rfl))
  f160 := Tryd.func91.trans (congrArg some (by kernel_rfl))
  f197 := Tryd.func88.trans (congrArg some (by kernel_rfl))
  f217 := Tryd.func34.trans (congrArg some (by kernel_rfl))
  f224 := Tryd.func76.trans (congrArg some (by kernel_rfl))
  f225 := Tryd.func75.trans (congrArg some (by kernel_rfl))
  f227 := Tryd.func95.trans (congrArg some (by kernel_rfl))
  f228 := Tryd.func100.trans (congrArg some (by kernel_rfl))
  f231 := Tryd.func93.trans (congrArg some (by kernel_rfl))
  f232 := Tryd.func94.trans (congrArg some (by kernel_rfl))
  f233 := Tryd.func96.trans (congrArg some (by kernel_rfl))
  f234 := Tryd.func97.trans (congrArg some (by kernel_rfl))
  f235 := Tryd.func98.trans (congrArg some (by kernel_rfl))
  f236 := Tryd.func99.trans (congrArg some (by kernel_rfl))
  f260 := Tryd.func92.trans (congrArg some (by kernel_rfl))
  f266 := Tryd.func60.trans (congrArg some (by kernel_rfl))
  f271 := Tryd.func102.trans (congrArg some (by kernel_rfl))
  t0 := Tryd.underlying0
  a0 := Tryd.isAgg0
  z0 := Tryd.sizeOf0
  v0 := Tryd.zeroValue0
  t3 := Tryd.underlying3
  a3 := Tryd.isAgg3
  z3 := Tryd.sizeOf3
  v3 := Tryd.zeroValue3
  t4 := Tryd.underlying4
  a4 := Tryd.isAgg4
  z4 := Tryd.sizeOf4
  v4 := Tryd.zeroValue4
  t5 := Tryd.underlying5
  a5 := Tryd.isAgg5
  z5 := Tryd.sizeOf5
  v5 := Tryd.zeroValue5
  t9 := Tryd.underlying9
  a9 := Tryd.isAgg9
  z9 := Tryd.sizeOf9
  v9 := Tryd.zeroValue9
  t21 := Tryd.underlying21
  a21 := Tryd.isAgg21
  z21 := Tryd.sizeOf21
  v21 := Tryd.zeroValue21
  t46 := Tryd.underlying72
  a46 := Tryd.isAgg72
  z46 := Tryd.sizeOf72
  v46 := Tryd.zeroValue72
  t105 := Tryd.underlying148
  a105 := Tryd.isAgg148
  z105 := Tryd.sizeOf148
  v105 := Tryd.zeroValue148
  t116 := Tryd.underlying153
  a116 := Tryd.isAgg153
  z116 := Tryd.sizeOf153
  t117 := Tryd.underlying154
  a117 := Tryd.isAgg154
  z117 := Tryd.sizeOf154
  v117 := Tryd.zeroValue154
  t119 := Tryd.underlying158
  a119 := Tryd.isAgg158
  z119 := Tryd.sizeOf158
  t124 := Tryd.underlying157
  a124 := Tryd.isAgg157
  z124 := Tryd.sizeOf157
  v124 := Tryd.zeroValue157
  t138 := Tryd.underlying160
  a138 := Tryd.isAgg160
  z138 := Tryd.sizeOf160
  v138 := Tryd.zeroValue160
  t139 := Tryd.underlying161
  a139 := Tryd.isAgg161
  z139 := Tryd.sizeOf161
  v139 := Tryd.zeroValue161
  g3 := by kernel_rfl
  g4 := by kernel_rfl }
open Go.RowKit in
theorem Tryd.strings_Trim_one (s : ByteArray) (c : UInt8) (hc : c.toNat < 128) (w : World) (hs : s.size ≤ 9223372036854775807) :
    Calls Tryd.prog 91 #[.string s, .string ⟨#[c]⟩] w fun e w' => e = .returned (.string ⟨(Lib.trimB s.data.toList c).toArray⟩) ∧ (w' = w ∨ w' = w.drew) := Any.strings_Trim_one Tryd.lays160 s c hc w hs
def Tryd.lays119_ren : Go.Shelf.Ren := ⟨fun | 119 => 105 | n => n, fun | 21 => 21 | 4 => 4 | n => n, fun | n => n⟩
theorem Tryd.lays119 : Go.Proofs.Lays.n119 Tryd.prog Tryd.lays119_ren := {
  mixed := by kernel_rfl
  f119 := Tryd.func105.trans (congrArg some (by kernel_rfl))
  t4 := Tryd.underlying4
  a4 := Tryd.isAgg4
  z4 := Tryd.sizeOf4
  v4 := Tryd.zeroValue4
  t21 := Tryd.underlying21
  a21 := Tryd.isAgg21
  z21 := Tryd.sizeOf21
  v21 := Tryd.zeroValue21 }
theorem Tryd.utf8_ValidRune (r : Int) (w : World) :
    Calls Tryd.prog 105 #[.int .i32 r] w fun e w' => e = .returned (.bool (Lib.validRune r)) ∧ w' = w := Any.utf8_ValidRune Tryd.lays119 r w
def Tryd.lays120_ren : Go.Shelf.Ren := ⟨fun | 120 => 104 | n => n, fun | 5 => 5 | 4 => 4 | n => n, fun | n => n⟩
theorem Tryd.lays120 : Go.Proofs.Lays.n120 Tryd.prog Tryd.lays120_ren := {
  mixed := by kernel_rfl
  f120 := Tryd.func104.trans (congrArg some (by kernel_rfl))
  t4 := Tryd.underlying4
  a4 := Tryd.isAgg4
  z4 := Tryd.sizeOf4
  v4 := Tryd.zeroValue4
  t5 := Tryd.underlying5
  a5 := Tryd.isAgg5
  z5 := Tryd.sizeOf5
  v5 := Tryd.zeroValue5 }
theorem Tryd.utf8_RuneStart (b : Int) (w : World) (h0 : 0 ≤ b) (h1 : b < 256) :
    Calls Tryd.prog 104 #[.int .u8 b] w fun e w' => e = .returned (.bool (Lib.runeStart b)) ∧ w' = w := Any.utf8_RuneStart Tryd.lays120 b w h0 h1
def Tryd.lays137_ren : Go.Shelf.Ren := ⟨fun | 137 => 15 | 217 => 34 | 266 => 60 | n => n, fun | 9 => 9 | 5 => 5 | 3 => 3 | n => n, fun | n => n⟩
theorem Tryd.lays137 : Go.Proofs.Lays.n137 Tryd.prog Tryd.lays137_ren := {
  mixed := by kernel_rfl
  f137 := Tryd.func15.trans (congrArg some (by kernel_rfl))
  f217 := Tryd.func34.trans (congrArg some (by kernel_rfl))
  f266 := Tryd.func60.trans (congrArg some (by kernel_rfl))
  t3 := Tryd.underlying3
  a3 := Tryd.isAgg3
  z3 := Tryd.sizeOf3
  v3 := Tryd.zeroValue3
  t5 := Tryd.underlying5
  a5 := Tryd.isAgg5
  z5 := Tryd.sizeOf5
  v5 := Tryd.zeroValue5
  t9 := Tryd.underlying9
  a9 := Tryd.isAgg9
  z9 := Tryd.sizeOf9
  v9 := Tryd.zeroValue9 }
open Go.RowKit in
theorem Tryd.strings_IndexByte (s : ByteArray) (c : Int) (w : World) :
    Calls Tryd.prog 15 #[.string s, .int .u8 c] w fun e w' => e = .returned (.int .i64 (Lib.indexByte s.data.toList c.toNat.toUInt8)) ∧ w' = w := Any.strings_IndexByte Tryd.lays137 s c w
open Go.RowKit in
theorem Tryd.Builder_Len_f (B b : Nat) (bs : List Value) (w : World) (h : Lib.IsBuilderF 65 5 B b bs w) :
    Calls Tryd.prog 45 #[.pointer (some ⟨b, 0, none⟩)] w fun e w' => e = .returned (.int .i64 bs.length) ∧ w' = w := Any.Builder_Len_f Tryd.lays170 B b bs w h
open Go.RowKit in
theorem Tryd.Builder_String_f (B b : Nat) (l : List UInt8) (w : World) (h : Lib.IsBuilderF 65 5 B b (Lib.byteCells l) w) (h0 : l ≠ []) :
    Calls Tryd.prog 43 #[.pointer (some ⟨b, 0, none⟩)] w fun e w' => e = .returned (.string ⟨l.toArray⟩) ∧ (Lib.IsBuilderF 65 5 B b (Lib.byteCells l) w' ∧ Below B w w') := Any.Builder_String_f Tryd.lays169 Tryd.Builder_Extra_169 B b l w h h0
open Go.RowKit in
theorem Tryd.Builder_String_empty_f (B b : Nat) (w : World) (h : Lib.IsBuilderF 65 5 B b [] w) (hBw : B ≤ w.heap.size) :
    Calls Tryd.prog 43 #[.pointer (some ⟨b, 0, none⟩)] w fun e w' => e = .returned (.string ⟨#[]⟩) ∧ (Lib.IsBuilderF 65 5 B b [] w' ∧ Below B w w') := Any.Builder_String_empty_f Tryd.lays169 Tryd.Builder_Extra_169 B b w h hBw
open Go.RowKit in
theorem Tryd.Builder_String_any_f (B b : Nat) (l : List UInt8) (w : World) (h : Lib.IsBuilderF 65 5 B b (Lib.byteCells l) w) (hBw : B ≤ w.heap.size) :
    Calls Tryd.prog 43 #[.pointer (some ⟨b, 0, none⟩)] w fun e w' => e = .returned (.string ⟨l.toArray⟩) ∧ (Lib.IsBuilderF 65 5 B b (Lib.byteCells l) w' ∧ Below B w w') := Any.Builder_String_any_f Tryd.lays169 Tryd.Builder_Extra_169 B b l w h hBw
open Go.RowKit in
theorem Tryd.Builder_String_k (B b : Nat) (l : List UInt8) (w : World) (h : Lib.IsBuilderF 65 5 B b (Lib.byteCells l) w) (h0 : l ≠ []) :
    Calls Tryd.prog 43 #[.pointer (some ⟨b, 0, none⟩)] w fun e w' => e = .returned (.string ⟨l.toArray⟩) ∧ (Lib.IsBuilderF 65 5 B b (Lib.byteCells l) w' ∧ Below B w w' ∧ Lib.OthersKept 5 (some b) w w') := Any.Builder_String_k Tryd.lays169 Tryd.Builder_Extra_169 B b l w h h0
open Go.RowKit in
theorem Tryd.Builder_String_empty_k (B b : Nat) (w : World) (h : Lib.IsBuilderF 65 5 B b [] w) (hBw : B ≤ w.heap.size) :
    Calls Tryd.prog 43 #[.pointer (some ⟨b, 0, none⟩)] w fun e w' => e = .returned (.string ⟨#[]⟩) ∧ (Lib.IsBuilderF 65 5 B b [] w' ∧ Below B w w' ∧ Lib.OthersKept 5 (some b) w w') := Any.Builder_String_empty_k Tryd.lays169 Tryd.Builder_Extra_169 B b w h hBw
open Go.RowKit in
theorem Tryd.Builder_String_any_k (B b : Nat) (l : List UInt8) (w : World) (h : Lib.IsBuilderF 65 5 B b (Lib.byteCells l) w) (hBw : B ≤ w.heap.size) :
    Calls Tryd.prog 43 #[.pointer (some ⟨b, 0, none⟩)] w fun e w' => e = .returned (.string ⟨l.toArray⟩) ∧ (Lib.IsBuilderF 65 5 B b (Lib.byteCells l) w' ∧ Below B w w' ∧ Lib.OthersKept 5 (some b) w w') := Any.Builder_String_any_k Tryd.lays169 Tryd.Builder_Extra_169 B b l w h hBw
def Tryd.lays195_ren : Go.Shelf.Ren := ⟨fun | 195 => 87 | n => n, fun | 9 => 9 | 3 => 3 | 0 => 0 | 4 => 4 | n => n, fun | n => n⟩
theorem Tryd.lays195 : Go.Proofs.Lays.n195 Tryd.prog Tryd.lays195_ren := {
  mixed := by kernel_rfl
  f195 := Tryd.func87.trans (congrArg some (by kernel_rfl))
  t0 := Tryd.underlying0
  a0 := Tryd.isAgg0
  z0 := Tryd.sizeOf0
  v0 := Tryd.zeroValue0
  t3 := Tryd.underlying3
  a3 := Tryd.isAgg3
  z3 := Tryd.sizeOf3
  v3 := Tryd.zeroValue3
  t4 := Tryd.underlying4
  a4 := Tryd.isAgg4
  z4 := Tryd.sizeOf4
  v4 := Tryd.zeroValue4
  t9 := Tryd.underlying9
  a9 := Tryd.isAgg9
  z9 := Tryd.sizeOf9
  v9 := Tryd.zeroValue9 }
open Go.RowKit in
theorem Tryd.utf8_RuneCountInString (s : ByteArray) (w : World) (hs : s.size < 9223372036854775807) :
    Calls Tryd.prog 87 #[.string s] w fun e w' => e = .returned (.int .i64 (Lib.runeCount s)) ∧ ∃ pos, w' = w.iter s pos := Any.utf8_RuneCountInString Tryd.lays195 s w hs
open Go.RowKit in
theorem Tryd.Builder_grow_fresh_cap (B b n : Nat) (w : World) (hB : B ≤ b) (hbk : w.heap[b]? = some (.cells #[.pointer (some ⟨b, 0, none⟩), .slice none 0 0] 65 (0, 0))) (hBw : B ≤ w.heap.size) (hn : n ≤ 281474976710656) :
    Calls Tryd.prog 64 #[.pointer (some ⟨b, 0, none⟩), .int .i64 n] w fun e w' => e = .returned (.tuple #[]) ∧ (Lib.BuilderAt 65 5 B b (.pointer (some ⟨b, 0, none⟩)) [] w' ∧ Below B w w') ∧ ∃ p cap, w'.cell? ⟨b, 1, none⟩ = some (.slice p 0 cap) ∧ n ≤ cap := Any.Builder_grow_fresh_cap Tryd.lays241 Tryd.Builder_Extra_241 B b n w hB hbk hBw hn
open Go.RowKit in
theorem Tryd.Builder_Grow_fresh_cap (B b n : Nat) (w : World) (hB : B ≤ b) (hbk : w.heap[b]? = some (.cells #[.pointer none, .slice none 0 0] 65 (0, 0))) (hBw : B ≤ w.heap.size) (hn : n ≤ 281474976710656) :
    Calls Tryd.prog 41 #[.pointer (some ⟨b, 0, none⟩), .int .i64 n] w fun e w' => e = .returned (.tuple #[]) ∧ (Lib.BuilderAt 65 5 B b (.pointer (some ⟨b, 0, none⟩)) [] w' ∧ Below B w w') ∧ ∃ p cap, w'.cell? ⟨b, 1, none⟩ = some (.slice p 0 cap) ∧ n ≤ cap := Any.Builder_Grow_fresh_cap Tryd.lays165 Tryd.Builder_Extra_165 B b n w hB hbk hBw hn
def Tryd.lays217_ren : Go.Shelf.Ren := ⟨fun | 217 => 34 | 266 => 60 | n => n, fun | 9 => 9 | 5 => 5 | 3 => 3 | n => n, fun | n => n⟩
theorem Tryd.lays217 : Go.Proofs.Lays.n217 Tryd.prog Tryd.lays217_ren := {
  mixed := by kernel_rfl
  f217 := Tryd.func34.trans (congrArg some (by kernel_rfl))
  f266 := Tryd.func60.trans (congrArg some (by kernel_rfl))
  t3 := Tryd.underlying3
  a3 := Tryd.isAgg3
  z3 := Tryd.sizeOf3
  v3 := Tryd.zeroValue3
  t5 := Tryd.underlying5
  a5 := Tryd.isAgg5
  z5 := Tryd.sizeOf5
  v5 := Tryd.zeroValue5
  t9 := Tryd.underlying9
  a9 := Tryd.isAgg9
  z9 := Tryd.sizeOf9
  v9 := Tryd.zeroValue9 }
open Go.RowKit Go.Lib in
theorem Tryd.stringslite_IndexByte (s : ByteArray) (c : Int) (w : World) :
    Calls Tryd.prog 34 #[.string s, .int .u8 c] w fun e w' => e = .returned (.int .i64 (Lib.indexByte s.data.toList c.toNat.toUInt8)) ∧ w' = w := Any.stringslite_IndexByte Tryd.lays217 s c w
def Tryd.lays224_ren : Go.Shelf.Ren := ⟨fun | 224 => 76 | n => n, fun | 3 => 3 | n => n, fun | n => n⟩
theorem Tryd.lays224 : Go.Proofs.Lays.n224 Tryd.prog Tryd.lays224_ren := {
  mixed := by kernel_rfl
  f224 := Tryd.func76.trans (congrArg some (by kernel_rfl))
  t3 := Tryd.underlying3
  a3 := Tryd.isAgg3
  z3 := Tryd.sizeOf3
  v3 := Tryd.zeroValue3 }
open Go.RowKit Go.Lib in
theorem Tryd.bytealg_Cutover (n : Int) (h0 : 0 ≤ n) (h1 : n < 4611686018427387904) (w : World) :
    Calls Tryd.prog 76 #[.int .i64 n] w fun e w' => e = .returned (.int .i64 ((n + 16) / 8)) ∧ w' = w := Any.bytealg_Cutover Tryd.lays224 n h0 h1 w
def Tryd.lays314_ren : Go.Shelf.Ren := ⟨fun | 314 => 86 | n => n, fun | 9 => 9 | 51 => 107 | 3 => 3 | 4 => 4 | 5 => 5 | 46 => 72 | n => n, fun | n => n⟩
theorem Tryd.lays314 : Go.Proofs.Lays.n314 Tryd.prog Tryd.lays314_ren := {
  mixed := by kernel_rfl
  f314 := Tryd.func86.trans (congrArg some (by kernel_rfl))
  t3 := Tryd.underlying3
  a3 := Tryd.isAgg3
  z3 := Tryd.sizeOf3
  v3 := Tryd.zeroValue3
  t4 := Tryd.underlying4
  a4 := Tryd.isAgg4
  z4 := Tryd.sizeOf4
  v4 := Tryd.zeroValue4
  t5 := Tryd.underlying5
  a5 := Tryd.isAgg5
  z5 := Tryd.sizeOf5
  v5 := Tryd.zeroValue5
  t9 := Tryd.underlying9
  a9 := Tryd.isAgg9
  z9 := Tryd.sizeOf9
  v9 := Tryd.zeroValue9
  t46 := Tryd.underlying72
  a46 := Tryd.isAgg72
  z46 := Tryd.sizeOf72
  v46 := Tryd.zeroValue72
  t51 := Tryd.underlying107
  a51 := Tryd.isAgg107
  z51 := Tryd.sizeOf107
  v51 := Tryd.zeroValue107 }
open Go.RowKit Go.Lib in
theorem Tryd.bytealg_hashStr (sep : ByteArray) (hs : sep.size < 4294967281) (w : World) :
    Calls Tryd.prog 86 #[.string sep] w fun e w' => e = .returned (.tuple #[.int .u32 (RK.H sep.data.toList % 4294967296), .int .u32 (16777619 ^ sep.size % 4294967296)]) ∧ w' = w := Any.bytealg_hashStr Tryd.lays314 sep hs w
def Tryd.lays267_ren : Go.Shelf.Ren := ⟨fun | 267 => 77 | 314 => 86 | n => n, fun | 9 => 9 | 3 => 3 | 146 => 108 | 51 => 107 | 4 => 4 | 5 => 5 | 46 => 72 | n => n, fun | n => n⟩
theorem Tryd.lays267 : Go.Proofs.Lays.n267 Tryd.prog Tryd.lays267_ren := {
  mixed := by kernel_rfl
  f267 := Tryd.func77.trans (congrArg some (by kernel_rfl))
  f314 := Tryd.func86.trans (congrArg some (by kernel_rfl))
  t3 := Tryd.underlying3
  a3 := Tryd.isAgg3
  z3 := Tryd.sizeOf3
  v3 := Tryd.zeroValue3
  t4 := Tryd.underlying4
  a4 := Tryd.isAgg4
  z4 := Tryd.sizeOf4
  v4 := Tryd.zeroValue4
  t5 := Tryd.underlying5
  a5 := Tryd.isAgg5
  z5 := Tryd.sizeOf5
  v5 := Tryd.zeroValue5
  t9 := Tryd.underlying9
  a9 := Tryd.isAgg9
  z9 := Tryd.sizeOf9
  v9 := Tryd.zeroValue9
  t46 := Tryd.underlying72
  a46 := Tryd.isAgg72
  z46 := Tryd.sizeOf72
  v46 := Tryd.zeroValue72
  t51 := Tryd.underlying107
  a51 := Tryd.isAgg107
  z51 := Tryd.sizeOf107
  v51 := Tryd.zeroValue107
  t146 := Tryd.underlying108
  a146 := Tryd.isAgg108
  z146 := Tryd.sizeOf108
  v146 := Tryd.zeroValue108 }
open Go.RowKit Go.Lib in
theorem Tryd.bytealg_IndexRabinKarp (s sep : ByteArray) (h1 : 1 ≤ sep.size) (h2 : sep.size ≤ s.size) (hs : s.size < 4294967281) (w : World) :
    Calls Tryd.prog 77 #[.string s, .string sep] w fun e w' => e = .returned (.int .i64 (Lib.index s.data.toList sep.data.toList)) ∧ w' = w := Any.bytealg_IndexRabinKarp Tryd.lays267 s sep h1 h2 hs w
def Tryd.lays219_ren : Go.Shelf.Ren := ⟨fun | 219 => 61 | 217 => 34 | 225 => 75 | 224 => 76 | 267 => 77 | 266 => 60 | 314 => 86 | n => n, fun | 9 => 9 | 3 => 3 | 4 => 4 | 5 => 5 | 46 => 72 | 146 => 108 | 51 => 107 | n => n, fun | 1 => 0 | n => n⟩
theorem Tryd.lays219 : Go.Proofs.Lays.n219 Tryd.prog Tryd.lays219_ren := {
  mixed := by kernel_rfl
  f217 := Tryd.func34.trans (congrArg some (by kernel_rfl))
  f219 := Tryd.func61.trans (congrArg some (by kernel_rfl))
  f224 := Tryd.func76.trans (congrArg some (by kernel_rfl))
  f225 := Tryd.func75.trans (congrArg some (by kernel_rfl))
  f266 := Tryd.func60.trans (congrArg some (by kernel_rfl))
  f267 := Tryd.func77.trans (congrArg some (by kernel_rfl))
  f314 := Tryd.func86.trans (congrArg some (by kernel_rfl))
  t3 := Tryd.underlying3
  a3 := Tryd.isAgg3
  z3 := Tryd.sizeOf3
  v3 := Tryd.zeroValue3
  t4 := Tryd.underlying4
  a4 := Tryd.isAgg4
  z4 := Tryd.sizeOf4
  v4 := Tryd.zeroValue4
  t5 := Tryd.underlying5
  a5 := Tryd.isAgg5
  z5 := Tryd.sizeOf5
  v5 := Tryd.zeroValue5
  t9 := Tryd.underlying9
  a9 := Tryd.isAgg9
  z9 := Tryd.sizeOf9
  v9 := Tryd.zeroValue9
  t46 := Tryd.underlying72
  a46 := Tryd.isAgg72
  z46 := Tryd.sizeOf72
  v46 := Tryd.zeroValue72
  t51 := Tryd.underlying107
  a51 := Tryd.isAgg107
  z51 := Tryd.sizeOf107
  v51 := Tryd.zeroValue107
  t146 := Tryd.underlying108
  a146 := Tryd.isAgg108
  z146 := Tryd.sizeOf108
  v146 := Tryd.zeroValue108
  g1 := by kernel_rfl }
open Go.RowKit Go.Lib in
theorem Tryd.stringslite_Index_one (s : ByteArray) (c : UInt8) (w : World) :
    Calls Tryd.prog 61 #[.string s, .string ⟨#[c]⟩] w fun e w' => e = .returned (.int .i64 (Lib.indexByte s.data.toList c)) ∧ w' = w := Any.stringslite_Index_one Tryd.lays219 s c w
open Go.RowKit Go.Lib in
theorem Tryd.stringslite_Index (s sub : ByteArray) (m : Int) (w : World) (hs : s.size < 4294967281) (hm : w.cell? ⟨0, 0, none⟩ = some (.int .i64 m)) :
    Calls Tryd.prog 61 #[.string s, .string sub] w fun e w' => e = .returned (.int .i64 (Lib.index s.data.toList sub.data.toList)) ∧ w' = w := Any.stringslite_Index Tryd.lays219 s sub m w hs hm
def Tryd.lays143_ren : Go.Shelf.Ren := ⟨fun | 143 => 37 | 219 => 61 | 217 => 34 | 225 => 75 | 224 => 76 | 267 => 77 | 266 => 60 | 314 => 86 | n => n, fun | 9 => 9 | 3 => 3 | 4 => 4 | 5 => 5 | 46 => 72 | 146 => 108 | 51 => 107 | n => n, fun | 1 => 0 | n => n⟩
theorem Tryd.lays143 : Go.Proofs.Lays.n143 Tryd.prog Tryd.lays143_ren := {
  mixed := by kernel_rfl
  f143 := Tryd.func37.trans (congrArg some (by kernel_rfl))
  f217 := Tryd.func34.trans (congrArg some (by kernel_rfl))
  f219 := Tryd.func61.trans (congrArg some (by kernel_rfl))
  f224 := Tryd.func76.trans (congrArg some (by kernel_rfl))
  f225 := Tryd.func75.trans (congrArg some (by kernel_rfl))
  f266 := Tryd.func60.trans (congrArg some (by kernel_rfl))
  f267 := Tryd.func77.trans (congrArg some (by kernel_rfl))
  f314 := Tryd.func86.trans (congrArg some (by kernel_rfl))
  t3 := Tryd.underlying3
  a3 := Tryd.isAgg3
  z3 := Tryd.sizeOf3
  v3 := Tryd.zeroValue3
  t4 := Tryd.underlying4
  a4 := Tryd.isAgg4
  z4 := Tryd.sizeOf4
  v4 := Tryd.zeroValue4
  t5 := Tryd.underlying5
  a5 := Tryd.isAgg5
  z5 := Tryd.sizeOf5
  v5 := Tryd.zeroValue5
  t9 := Tryd.underlying9
  a9 := Tryd.isAgg9
  z9 := Tryd.sizeOf9
  v9 := Tryd.zeroValue9
  t46 := Tryd.underlying72
  a46 := Tryd.isAgg72
  z46 := Tryd.sizeOf72
  v46 := Tryd.zeroValue72
  t51 := Tryd.underlying107
  a51 := Tryd.isAgg107
  z51 := Tryd.sizeOf107
  v51 := Tryd.zeroValue107
  t146 := Tryd.underlying108
  a146 := Tryd.isAgg108
  z146 := Tryd.sizeOf108
  v146 := Tryd.zeroValue108
  g1 := by kernel_rfl }
open Go.RowKit Go.Lib in
theorem Tryd.strings_Index_one (s : ByteArray) (c : UInt8) (w : World) :
    Calls Tryd.prog 37 #[.string s, .string ⟨#[c]⟩] w fun e w' => e = .returned (.int .i64 (Lib.indexByte s.data.toList c)) ∧ w' = w := Any.strings_Index_one Tryd.lays143 s c w
open Go.RowKit Go.Lib in
theorem Tryd.strings_Index (s sub : ByteArray) (m : Int) (w : World) (hs : s.size < 4294967281) (hm : w.cell? ⟨0, 0, none⟩ = some (.int .i64 m)) :
    Calls Tryd.prog 37 #[.string s, .string sub] w fun e w' => e = .returned (.int .i64 (Lib.index s.data.toList sub.data.toList)) ∧ w' = w := Any.strings_Index Tryd.lays143 s sub m w hs hm
def Tryd.lays144_ren : Go.Shelf.Ren := ⟨fun | 144 => 18 | 143 => 37 | 219 => 61 | 217 => 34 | 225 => 75 | 224 => 76 | 267 => 77 | 266 => 60 | 314 => 86 | n => n, fun | 9 => 9 | 4 => 4 | 3 => 3 | 5 => 5 | 46 => 72 | 146 => 108 | 51 => 107 | n => n, fun | 1 => 0 | n => n⟩
theorem Tryd.lays144 : Go.Proofs.Lays.n144 Tryd.prog Tryd.lays144_ren := {
  mixed := by kernel_rfl
  f143 := Tryd.func37.trans (congrArg some (by kernel_rfl))
  f144 := Tryd.func18.trans (congrArg some (by kernel_rfl))
  f217 := Tryd.func34.trans (congrArg some (by kernel_rfl))
  f219 := Tryd.func61.trans (congrArg some (by kernel_rfl))
  f224 := Tryd.func76.trans (congrArg some (by kernel_rfl))
  f225 := Tryd.func75.trans (congrArg some (by kernel_rfl))
  f266 := Tryd.func60.trans (congrArg some (by kernel_rfl))
  f267 := Tryd.func77.trans (congrArg some (by kernel_rfl))
  f314 := Tryd.func86.trans (congrArg some (by kernel_rfl))
  t3 := Tryd.underlying3
  a3 := Tryd.isAgg3
  z3 := Tryd.sizeOf3
  v3 := Tryd.zeroValue3
  t4 := Tryd.underlying4
  a4 := Tryd.isAgg4
  z4 := Tryd.sizeOf4
  v4 := Tryd.zeroValue4
  t5 := Tryd.underlying5
  a5 := Tryd.isAgg5
  z5 := Tryd.sizeOf5
  v5 := Tryd.zeroValue5
  t9 := Tryd.underlying9
  a9 := Tryd.isAgg9
  z9 := Tryd.sizeOf9
  v9 := Tryd.zeroValue9
  t46 := Tryd.underlying72
  a46 := Tryd.isAgg72
  z46 := Tryd.sizeOf72
  v46 := Tryd.zeroValue72
  t51 := Tryd.underlying107
  a51 := Tryd.isAgg107
  z51 := Tryd.sizeOf107
  v51 := Tryd.zeroValue107
  t146 := Tryd.underlying108
  a146 := Tryd.isAgg108
  z146 := Tryd.sizeOf108
  v146 := Tryd.zeroValue108
  g1 := by kernel_rfl }
open Go.RowKit Go.Lib in
theorem Tryd.strings_Contains_one (s : ByteArray) (c : UInt8) (w : World) :
    Calls Tryd.prog 18 #[.string s, .string ⟨#[c]⟩] w fun e w' => e = .returned (.bool (decide (0 ≤ Lib.indexByte s.data.toList c))) ∧ w' = w := Any.strings_Contains_one Tryd.lays144 s c w
open Go.RowKit Go.Lib in
theorem Tryd.strings_Contains (s sub : ByteArray) (m : Int) (w : World) (hs : s.size < 4294967281) (hm : w.cell? ⟨0, 0, none⟩ = some (.int .i64 m)) :
    Calls Tryd.prog 18 #[.string s, .string sub] w fun e w' => e = .returned (.bool (Lib.contains s.data.toList sub.data.toList)) ∧ w' = w := Any.strings_Contains Tryd.lays144 s sub m w hs hm
def Tryd.lays220_ren : Go.Shelf.Ren := ⟨fun | 220 => 74 | 219 => 61 | 217 => 34 | 225 => 75 | 224 => 76 | 267 => 77 | 266 => 60 | 314 => 86 | n => n, fun | 9 => 9 | 4 => 4 | 3 => 3 | 5 => 5 | 46 => 72 | 146 => 108 | 51 => 107 | n => n, fun | 1 => 0 | n => n⟩
theorem Tryd.lays220 : Go.Proofs.Lays.n220 Tryd.prog Tryd.lays220_ren := {
  mixed := by kernel_rfl
  f217 := Tryd.func34.trans (congrArg some (by kernel_rfl))
  f219 := Tryd.func61.trans (congrArg some (by kernel_rfl))
  f220 := Tryd.func74.trans (congrArg some (by kernel_rfl))
  f224 := Tryd.func76.trans (congrArg some (by kernel_rfl))
  f225 := Tryd.func75.trans (congrArg some (by kernel_rfl))
  f266 := Tryd.func60.trans (congrArg some (by kernel_rfl))
  f267 := Tryd.func77.trans (congrArg some (by kernel_rfl))
  f314 := Tryd.func86.trans (congrArg some (by kernel_rfl))
  t3 := Tryd.underlying3
  a3 := Tryd.isAgg3
  z3 := Tryd.sizeOf3
  v3 := Tryd.zeroValue3
  t4 := Tryd.underlying4
  a4 := Tryd.isAgg4
  z4 := Tryd.sizeOf4
  v4 := Tryd.zeroValue4
  t5 := Tryd.underlying5
  a5 := Tryd.isAgg5
  z5 := Tryd.sizeOf5
  v5 := Tryd.zeroValue5
  t9 := Tryd.underlying9
  a9 := Tryd.isAgg9
  z9 := Tryd.sizeOf9
  v9 := Tryd.zeroValue9
  t46 := Tryd.underlying72
  a46 := Tryd.isAgg72
  z46 := Tryd.sizeOf72
  v46 := Tryd.zeroValue72
  t51 := Tryd.underlying107
  a51 := Tryd.isAgg107
  z51 := Tryd.sizeOf107
  v51 := Tryd.zeroValue107
  t146 := Tryd.underlying108
  a146 := Tryd.isAgg108
  z146 := Tryd.sizeOf108
  v146 := Tryd.zeroValue108
  g1 := by kernel_rfl }
open Go.RowKit Go.Lib in
theorem Tryd.stringslite_Cut (s sep : ByteArray) (m : Int) (w : World) (hs : s.size < 4294967281) (hm : w.cell? ⟨0, 0, none⟩ = some (.int .i64 m)) :
    Calls Tryd.prog 74 #[.string s, .string sep] w fun e w' => e = .returned (.tuple #[.string ⟨(Lib.cut s.data.toList sep.data.toList).1.toArray⟩, .string ⟨(Lib.cut s.data.toList sep.data.toList).2.1.toArray⟩, .bool (Lib.cut s.data.toList sep.data.toList).2.2]) ∧ ∃ n, w' = w.drewN n := Any.stringslite_Cut Tryd.lays220 s sep m w hs hm
def Tryd.lays145_ren : Go.Shelf.Ren := ⟨fun | 145 => 59 | 220 => 74 | 219 => 61 | 217 => 34 | 225 => 75 | 224 => 76 | 267 => 77 | 266 => 60 | 314 => 86 | n => n, fun | 9 => 9 | 4 => 4 | 59 => 97 | 3 => 3 | 5 => 5 | 46 => 72 | 146 => 108 | 51 => 107 | n => n, fun | 1 => 0 | n => n⟩
theorem Tryd.lays145 : Go.Proofs.Lays.n145 Tryd.prog Tryd.lays145_ren := {
  mixed := by kernel_rfl
  f145 := Tryd.func59.trans (congrArg some (by kernel_rfl))
  f217 := Tryd.func34.trans (congrArg some (by kernel_rfl))
  f219 := Tryd.func61.trans (congrArg some (by kernel_rfl))
  f220 := Tryd.func74.trans (congrArg some (by kernel_rfl))
  f224 := Tryd.func76.trans (congrArg some (by kernel_rfl))
  f225 := Tryd.func75.trans (congrArg some (by kernel_rfl))
  f266 := Tryd.func60.trans (congrArg some (by kernel_rfl))
  f267 := Tryd.func77.trans (congrArg some (by kernel_rfl))
  f314 := Tryd.func86.trans (congrArg some (by kernel_rfl))
  t3 := Tryd.underlying3
  a3 := Tryd.isAgg3
  z3 := Tryd.sizeOf3
  v3 := Tryd.zeroValue3
  t4 := Tryd.underlying4
  a4 := Tryd.isAgg4
  z4 := Tryd.sizeOf4
  v4 := Tryd.zeroValue4
  t5 := Tryd.underlying5
  a5 := Tryd.isAgg5
  z5 := Tryd.sizeOf5
  v5 := Tryd.zeroValue5
  t9 := Tryd.underlying9
  a9 := Tryd.isAgg9
  z9 := Tryd.sizeOf9
  v9 := Tryd.zeroValue9
  t46 := Tryd.underlying72
  a46 := Tryd.isAgg72
  z46 := Tryd.sizeOf72
  v46 := Tryd.zeroValue72
  t51 := Tryd.underlying107
  a51 := Tryd.isAgg107
  z51 := Tryd.sizeOf107
  v51 := Tryd.zeroValue107
  t59 := Tryd.underlying97
  a59 := Tryd.isAgg97
  z59 := Tryd.sizeOf97
  v59 := Tryd.zeroValue97
  t146 := Tryd.underlying108
  a146 := Tryd.isAgg108
  z146 := Tryd.sizeOf108
  v146 := Tryd.zeroValue108
  g1 := by kernel_rfl }
open Go.RowKit Go.Lib in
theorem Tryd.strings_Cut (s sep : ByteArray) (m : Int) (w : World) (hs : s.size < 4294967281) (hm : w.cell? ⟨0, 0, none⟩ = some (.int .i64 m)) :
    Calls Tryd.prog 59 #[.string s, .string sep] w fun e w' => e = .returned (.tuple #[.string ⟨(Lib.cut s.data.toList sep.data.toList).1.toArray⟩, .string ⟨(Lib.cut s.data.toList sep.data.toList).2.1.toArray⟩, .bool (Lib.cut s.data.toList sep.data.toList).2.2]) ∧ ∃ n, w' = w.drewN n := Any.strings_Cut Tryd.lays145 s sep m w hs hm
def Tryd.lays138_ren : Go.Shelf.Ren := ⟨fun | 138 => 81 | 195 => 87 | 218 => 89 | 143 => 37 | 219 => 61 | 217 => 34 | 225 => 75 | 224 => 76 | 267 => 77 | 266 => 60 | 314 => 86 | n => n, fun | 9 => 9 | 3 => 3 | 4 => 4 | 5 => 5 | 0 => 0 | 46 => 72 | 146 => 108 | 51 => 107 | n => n, fun | 1 => 0 | n => n⟩
theorem Tryd.lays138 : Go.Proofs.Lays.n138 Tryd.prog Tryd.lays138_ren := {
  mixed := by kernel_rfl
  f138 := Tryd.func81.trans (congrArg some (by kernel_rfl))
  f143 := Tryd.func37.trans (congrArg some (by kernel_rfl))
  f195 := Tryd.func87.trans (congrArg some (by kernel_rfl))
  f217 := Tryd.func34.trans (congrArg some (by kernel_rfl))
  f218 := Tryd.func89.trans (congrArg some (by kernel_rfl))
  f219 := Tryd.func61.trans (congrArg some (by kernel_rfl))
  f224 := Tryd.func76.trans (congrArg some (by kernel_rfl))
  f225 := Tryd.func75.trans (congrArg some (by kernel_rfl))
  f266 := Tryd.func60.trans (congrArg some (by kernel_rfl))
  f267 := Tryd.func77.trans (congrArg some (by kernel_rfl))
  f314 := Tryd.func86.trans (congrArg some (by kernel_rfl))
  t0 := Tryd.underlying0
  a0 := Tryd.isAgg0
  z0 := Tryd.sizeOf0
  v0 := Tryd.zeroValue0
  t3 := Tryd.underlying3
  a3 := Tryd.isAgg3
  z3 := Tryd.sizeOf3
  v3 := Tryd.zeroValue3
  t4 := Tryd.underlying4
  a4 := Tryd.isAgg4
  z4 := Tryd.sizeOf4
  v4 := Tryd.zeroValue4
  t5 := Tryd.underlying5
  a5 := Tryd.isAgg5
  z5 := Tryd.sizeOf5
  v5 := Tryd.zeroValue5
  t9 := Tryd.underlying9
  a9 := Tryd.isAgg9
  z9 := Tryd.sizeOf9
  v9 := Tryd.zeroValue9
  t46 := Tryd.underlying72
  a46 := Tryd.isAgg72
  z46 := Tryd.sizeOf72
  v46 := Tryd.zeroValue72
  t51 := Tryd.underlying107
  a51 := Tryd.isAgg107
  z51 := Tryd.sizeOf107
  v51 := Tryd.zeroValue107
  t146 := Tryd.underlying108
  a146 := Tryd.isAgg108
  z146 := Tryd.sizeOf108
  v146 := Tryd.zeroValue108
  g1 := by kernel_rfl }
open Go.RowKit Go.Lib in
theorem Tryd.strings_Count_one (s : ByteArray) (c : UInt8) (w : World) :
    Calls Tryd.prog 81 #[.string s, .string ⟨#[c]⟩] w fun e w' => e = .returned (.int .i64 (Lib.countByte s.data.toList c)) ∧ w' = w := Any.strings_Count_one Tryd.lays138 s c w
open Go.RowKit Go.Lib in
theorem Tryd.strings_Count (s sub : ByteArray) (m : Int) (w : World) (hs : s.size < 4294967281) (hm : w.cell? ⟨0, 0, none⟩ = some (.int .i64 m)) (h2 : 2 ≤ sub.size) :
    Calls Tryd.prog 81 #[.string s, .string sub] w fun e w' => e = .returned (.int .i64 (Lib.countB s sub)) ∧ w' = w := Any.strings_Count Tryd.lays138 s sub m w hs hm h2
def Tryd.laysM219_ren : Go.Shelf.Ren := ⟨fun | 219 => 61 | 217 => 34 | 225 => 75 | 224 => 76 | 267 => 77 | 266 => 60 | 314 => 86 | n => n, fun | 9 => 9 | 3 => 3 | 4 => 4 | 5 => 5 | 46 => 72 | 146 => 108 | 51 => 107 | n => n, fun | 1 => 0 | n => n⟩
theorem Tryd.laysM219 : Go.Proofs.LaysM.n219 Tryd.prog Tryd.laysM219_ren := {
  mixed := by kernel_rfl
  f217 := Tryd.func34.trans (congrArg some (by kernel_rfl))
  f219 := Tryd.func61.trans (congrArg some (by kernel_rfl))
  f224 := Tryd.func76.trans (congrArg some (by kernel_rfl))
  f225 := Tryd.func75.trans (congrArg some (by kernel_rfl))
  f266 := Tryd.func60.trans (congrArg some (by kernel_rfl))
  f267 := Tryd.func77.trans (congrArg some (by kernel_rfl))
  f314 := Tryd.func86.trans (congrArg some (by kernel_rfl))
  t3 := Tryd.underlying3
  a3 := Tryd.isAgg3
  z3 := Tryd.sizeOf3
  v3 := Tryd.zeroValue3
  t4 := Tryd.underlying4
  a4 := Tryd.isAgg4
  z4 := Tryd.sizeOf4
  v4 := Tryd.zeroValue4
  t5 := Tryd.underlying5
  a5 := Tryd.isAgg5
  z5 := Tryd.sizeOf5
  v5 := Tryd.zeroValue5
  t9 := Tryd.underlying9
  a9 := Tryd.isAgg9
  z9 := Tryd.sizeOf9
  v9 := Tryd.zeroValue9
  t46 := Tryd.underlying72
  a46 := Tryd.isAgg72
  z46 := Tryd.sizeOf72
  v46 := Tryd.zeroValue72
  t51 := Tryd.underlying107
  a51 := Tryd.isAgg107
  z51 := Tryd.sizeOf107
  v51 := Tryd.zeroValue107
  t146 := Tryd.underlying108
  a146 := Tryd.isAgg108
  z146 := Tryd.sizeOf108
  v146 := Tryd.zeroValue108
  g1 := by kernel_rfl
  i3 := by kernel_rfl
  i4 := by kernel_rfl
  i5 := by kernel_rfl
  i9 := by kernel_rfl
  i46 := by kernel_rfl
  i51 := by kernel_rfl
  i146 := by kernel_rfl
  m1 := by kernel_rfl
  s1_3 := fun w h => Go.Proofs.cell_of_shapedOpen_int (zero := #[.int .i64 0]) (t := 3) h (of_decide_eq_true (by kernel_rfl)) (by kernel_rfl) rfl (by kernel_rfl) (by kernel_rfl) Tryd.underlying3 }
open Go.RowKit Go.Lib in
theorem Tryd.stringslite_Index_shaped (s sub : ByteArray) (w : World) (h : w.ShapedOpen Tryd.prog) (hs : s.size < 4294967281) :
    Calls Tryd.prog 61 #[.string s, .string sub] w fun e w' => e = .returned (.int .i64 (Lib.index s.data.toList sub.data.toList)) ∧ w' = w := Any.stringslite_Index_shaped Tryd.laysM219 s sub w h hs
def Tryd.laysM143_ren : Go.Shelf.Ren := ⟨fun | 143 => 37 | 219 => 61 | 217 => 34 | 225 => 75 | 224 => 76 | 267 => 77 | 266 => 60 | 314 => 86 | n => n, fun | 9 => 9 | 3 => 3 | 4 => 4 | 5 => 5 | 46 => 72 | 146 => 108 | 51 => 107 | n => n, fun | 1 => 0 | n => n⟩
theorem Tryd.laysM143 : Go.Proofs.LaysM.n143 Tryd.prog Tryd.laysM143_ren := {
  mixed := by kernel_rfl
  f143 := Tryd.func37.trans (congrArg some (by kernel_rfl))
  f217 := Tryd.func34.trans (congrArg some (by kernel_rfl))
  f219 := Tryd.func61.trans (congrArg some (by kernel_rfl))
  f224 := Tryd.func76.trans (congrArg some (by kernel_rfl))
  f225 := Tryd.func75.trans (congrArg some (by kernel_rfl))
  f266 := Tryd.func60.trans (congrArg some (by kernel_rfl))
  f267 := Tryd.func77.trans (congrArg some (by kernel_rfl))
  f314 := Tryd.func86.trans (congrArg some (by kernel_rfl))
  t3 := Tryd.underlying3
  a3 := Tryd.isAgg3
  z3 := Tryd.sizeOf3
  v3 := Tryd.zeroValue3
  t4 := Tryd.underlying4
  a4 := Tryd.isAgg4
  z4 := Tryd.sizeOf4
  v4 := Tryd.zeroValue4
  t5 := Tryd.underlying5
  a5 := Tryd.isAgg5
  z5 := Tryd.sizeOf5
  v5 := Tryd.zeroValue5
  t9 := Tryd.underlying9
  a9 := Tryd.isAgg9
  z9 := Tryd.sizeOf9
  v9 := Tryd.zeroValue9
  t46 := Tryd.underlying72
  a46 := Tryd.isAgg72
  z46 := Tryd.sizeOf72
  v46 := Tryd.zeroValue72
  t51 := Tryd.underlying107
  a51 := Tryd.isAgg107
  z51 := Tryd.sizeOf107
  v51 := Tryd.zeroValue107
  t146 := Tryd.underlying108
  a146 := Tryd.isAgg108
  z146 := Tryd.sizeOf108
  v146 := Tryd.zeroValue108
  g1 := by kernel_rfl
  i3 := by kernel_rfl
  i4 := by kernel_rfl
  i5 := by kernel_rfl
  i9 := by kernel_rfl
  i46 := by kernel_rfl
  i51 := by kernel_rfl
  i146 := by kernel_rfl
  m1 := by kernel_rfl
  s1_3 := fun w h => Go.Proofs.cell_of_shapedOpen_int (zero := #[.int .i64 0]) (t := 3) h (of_decide_eq_true (by kernel_rfl)) (by kernel_rfl) rfl (by kernel_rfl) (by kernel_rfl) Tryd.underlying3 }
open Go.RowKit Go.Lib in
theorem Tryd.strings_Index_shaped (s sub : ByteArray) (w : World) (h : w.ShapedOpen Tryd.prog) (hs : s.size < 4294967281) :
    Calls Tryd.prog 37 #[.string s, .string sub] w fun e w' => e = .returned (.int .i64 (Lib.index s.data.toList sub.data.toList)) ∧ w' = w := Any.strings_Index_shaped Tryd.laysM143 s sub w h hs
def Tryd.laysM144_ren : Go.Shelf.Ren := ⟨fun | 144 => 18 | 143 => 37 | 219 => 61 | 217 => 34 | 225 => 75 | 224 => 76 | 267 => 77 | 266 => 60 | 314 => 86 | n => n, fun | 9 => 9 | 4 => 4 | 3 => 3 | 5 => 5 | 46 => 72 | 146 => 108 | 51 => 107 | n => n, fun | 1 => 0 | n => n⟩
theorem Tryd.laysM144 : Go.Proofs.LaysM.n144 Tryd.prog Tryd.laysM144_ren := {
  mixed := by kernel_rfl
  f143 := Tryd.func37.trans (congrArg some (by kernel_rfl))
  f144 := Tryd.func18.trans (congrArg some (by kernel_rfl))
  f217 := Tryd.func34.trans (congrArg some (by kernel_rfl))
  f219 := Tryd.func61.trans (congrArg some (by kernel_rfl))
  f224 := Tryd.func76.trans (congrArg some (by kernel_rfl))
  f225 := Tryd.func75.trans (congrArg some (by kernel_rfl))
  f266 := Tryd.func60.trans (congrArg some (by kernel_rfl))
  f267 := Tryd.func77.trans (congrArg some (by kernel_rfl))
  f314 := Tryd.func86.trans (congrArg some (by kernel_rfl))
  t3 := Tryd.underlying3
  a3 := Tryd.isAgg3
  z3 := Tryd.sizeOf3
  v3 := Tryd.zeroValue3
  t4 := Tryd.underlying4
  a4 := Tryd.isAgg4
  z4 := Tryd.sizeOf4
  v4 := Tryd.zeroValue4
  t5 := Tryd.underlying5
  a5 := Tryd.isAgg5
  z5 := Tryd.sizeOf5
  v5 := Tryd.zeroValue5
  t9 := Tryd.underlying9
  a9 := Tryd.isAgg9
  z9 := Tryd.sizeOf9
  v9 := Tryd.zeroValue9
  t46 := Tryd.underlying72
  a46 := Tryd.isAgg72
  z46 := Tryd.sizeOf72
  v46 := Tryd.zeroValue72
  t51 := Tryd.underlying107
  a51 := Tryd.isAgg107
  z51 := Tryd.sizeOf107
  v51 := Tryd.zeroValue107
  t146 := Tryd.underlying108
  a146 := Tryd.isAgg108
  z146 := Tryd.sizeOf108
  v146 := Tryd.zeroValue108
  g1 := by kernel_rfl
  i3 := by kernel_rfl
  i4 := by kernel_rfl
  i5 := by kernel_rfl
  i9 := by kernel_rfl
  i46 := by kernel_rfl
  i51 := by kernel_rfl
  i146 := by kernel_rfl
  m1 := by kernel_rfl
  s1_3 := fun w h => Go.Proofs.cell_of_shapedOpen_int (zero := #[.int .i64 0]) (t := 3) h (of_decide_eq_true (by kernel_rfl)) (by kernel_rfl) rfl (by kernel_rfl) (by kernel_rfl) Tryd.underlying3 }
open Go.RowKit Go.Lib in
theorem Tryd.strings_Contains_shaped (s sub : ByteArray) (w : World) (h : w.ShapedOpen Tryd.prog) (hs : s.size < 4294967281) :
    Calls Tryd.prog 18 #[.string s, .string sub] w fun e w' => e = .returned (.bool (Lib.contains s.data.toList sub.data.toList)) ∧ w' = w := Any.strings_Contains_shaped Tryd.laysM144 s sub w h hs
def Tryd.laysM220_ren : Go.Shelf.Ren := ⟨fun | 220 => 74 | 219 => 61 | 217 => 34 | 225 => 75 | 224 => 76 | 267 => 77 | 266 => 60 | 314 => 86 | n => n, fun | 9 => 9 | 4 => 4 | 3 => 3 | 5 => 5 | 46 => 72 | 146 => 108 | 51 => 107 | n => n, fun | 1 => 0 | n => n⟩
theorem Tryd.laysM220 : Go.Proofs.LaysM.n220 Tryd.prog Tryd.laysM220_ren := {
  mixed := by kernel_rfl
  f217 := Tryd.func34.trans (congrArg some (by kernel_rfl))
  f219 := Tryd.func61.trans (congrArg some (by kernel_rfl))
  f220 := Tryd.func74.trans (congrArg some (by kernel_rfl))
  f224 := Tryd.func76.trans (congrArg some (by kernel_rfl))
  f225 := Tryd.func75.trans (congrArg some (by kernel_rfl))
  f266 := Tryd.func60.trans (congrArg some (by kernel_rfl))
  f267 := Tryd.func77.trans (congrArg some (by kernel_rfl))
  f314 := Tryd.func86.trans (congrArg some (by kernel_rfl))
  t3 := Tryd.underlying3
  a3 := Tryd.isAgg3
  z3 := Tryd.sizeOf3
  v3 := Tryd.zeroValue3
  t4 := Tryd.underlying4
  a4 := Tryd.isAgg4
  z4 := Tryd.sizeOf4
  v4 := Tryd.zeroValue4
  t5 := Tryd.underlying5
  a5 := Tryd.isAgg5
  z5 := Tryd.sizeOf5
  v5 := Tryd.zeroValue5
  t9 := Tryd.underlying9
  a9 := Tryd.isAgg9
  z9 := Tryd.sizeOf9
  v9 := Tryd.zeroValue9
  t46 := Tryd.underlying72
  a46 := Tryd.isAgg72
  z46 := Tryd.sizeOf72
  v46 := Tryd.zeroValue72
  t51 := Tryd.underlying107
  a51 := Tryd.isAgg107
  z51 := Tryd.sizeOf107
  v51 := Tryd.zeroValue107
  t146 := Tryd.underlying108
  a146 := Tryd.isAgg108
  z146 := Tryd.sizeOf108
  v146 := Tryd.zeroValue108
  g1 := by kernel_rfl
  i3 := by kernel_rfl
  i4 := by kernel_rfl
  i5 := by kernel_rfl
  i9 := by kernel_rfl
  i46 := by kernel_rfl
  i51 := by kernel_rfl
  i146 := by kernel_rfl
  m1 := by kernel_rfl
  s1_3 := fun w h => Go.Proofs.cell_of_shapedOpen_int (zero := #[.int .i64 0]) (t := 3) h (of_decide_eq_true (by kernel_rfl)) (by kernel_rfl) rfl (by kernel_rfl) (by kernel_rfl) Tryd.underlying3 }
open Go.RowKit Go.Lib in
theorem Tryd.stringslite_Cut_shaped (s sep : ByteArray) (w : World) (h : w.ShapedOpen Tryd.prog) (hs : s.size < 4294967281) :
    Calls Tryd.prog 74 #[.string s, .string sep] w fun e w' => e = .returned (.tuple #[.string ⟨(Lib.cut s.data.toList sep.data.toList).1.toArray⟩, .string ⟨(Lib.cut s.data.toList sep.data.toList).2.1.toArray⟩, .bool (Lib.cut s.data.toList sep.data.toList).2.2]) ∧ ∃ n, w' = w.drewN n := Any.stringslite_Cut_shaped Tryd.laysM220 s sep w h hs
def Tryd.laysM145_ren : Go.Shelf.Ren := ⟨fun | 145 => 59 | 220 => 74 | 219 => 61 | 217 => 34 | 225 => 75 | 224 => 76 | 267 => 77 | 266 => 60 | 314 => 86 | n => n, fun | 9 => 9 | 4 => 4 | 59 => 97 | 3 => 3 | 5 => 5 | 46 => 72 | 146 => 108 | 51 => 107 | n => n, fun | 1 => 0 | n => n⟩
theorem Tryd.laysM145 : Go.Proofs.LaysM.n145 Tryd.prog Tryd.laysM145_ren := {
  mixed := by kernel_rfl
  f145 := Tryd.func59.trans (congrArg some (by kernel_rfl))
  f217 := Tryd.func34.trans (congrArg some (by kernel_rfl))
  f219 := Tryd.func61.trans (congrArg some (by kernel_rfl))
  f220 := Tryd.func74.trans (congrArg some (by kernel_rfl))
  f224 := Tryd.func76.trans (congrArg some (by kernel_rfl))
  f225 := Tryd.func75.trans (congrArg some (by kernel_rfl))
  f266 := Tryd.func60.trans (congrArg some (by kernel_rfl))
  f267 := Tryd.func77.trans (congrArg some (by kernel_rfl))
  f314 := Tryd.func86.trans (congrArg some (by kernel_rfl))
  t3 := Tryd.underlying3
  a3 := Tryd.isAgg3
  z3 := Tryd.sizeOf3
  v3 := Tryd.zeroValue3
  t4 := Tryd.underlying4
  a4 := Tryd.isAgg4
  z4 := Tryd.sizeOf4
  v4 := Tryd.zeroValue4
  t5 := Tryd.underlying5
  a5 := Tryd.isAgg5
  z5 := Tryd.sizeOf5
  v5 := Tryd.zeroValue5
  t9 := Tryd.underlying9
  a9 := Tryd.isAgg9
  z9 := Tryd.sizeOf9
  v9 := Tryd.zeroValue9
  t46 := Tryd.underlying72
  a46 := Tryd.isAgg72
  z46 := Tryd.sizeOf72
  v46 := Tryd.zeroValue72
  t51 := Tryd.underlying107
  a51 := Tryd.isAgg107
  z51 := Tryd.sizeOf107
  v51 := Tryd.zeroValue107
  t59 := Tryd.underlying97
  a59 := Tryd.isAgg97
  z59 := Tryd.sizeOf97
  v59 := Tryd.zeroValue97
  t146 := Tryd.underlying108
  a146 := Tryd.isAgg108
  z146 := Tryd.sizeOf108
  v146 := Tryd.zeroValue108
  g1 := by kernel_rfl
  i3 := by kernel_rfl
  i4 := by kernel_rfl
  i5 := by kernel_rfl
  i9 := by kernel_rfl
  i46 := by kernel_rfl
  i51 := by kernel_rfl
  i59 := by kernel_rfl
  i146 := by kernel_rfl
  m1 := by kernel_rfl
  s1_3 := fun w h => Go.Proofs.cell_of_shapedOpen_int (zero := #[.int .i64 0]) (t := 3) h (of_decide_eq_true (by kernel_rfl)) (by kernel_rfl) rfl (by kernel_rfl) (by kernel_rfl) Tryd.underlying3 }
open Go.RowKit Go.Lib in
theorem Tryd.strings_Cut_shaped (s sep : ByteArray) (w : World) (h : w.ShapedOpen Tryd.prog) (hs : s.size < 4294967281) :
    Calls Tryd.prog 59 #[.string s, .string sep] w fun e w' => e = .returned (.tuple #[.string ⟨(Lib.cut s.data.toList sep.data.toList).1.toArray⟩, .string ⟨(Lib.cut s.data.toList sep.data.toList).2.1.toArray⟩, .bool (Lib.cut s.data.toList sep.data.toList).2.2]) ∧ ∃ n, w' = w.drewN n := Any.strings_Cut_shaped Tryd.laysM145 s sep w h hs
def Tryd.laysM138_ren : Go.Shelf.Ren := ⟨fun | 138 => 81 | 195 => 87 | 218 => 89 | 143 => 37 | 219 => 61 | 217 => 34 | 225 => 75 | 224 => 76 | 267 => 77 | 266 => 60 | 314 => 86 | n => n, fun | 9 => 9 | 3 => 3 | 4 => 4 | 5 => 5 | 0 => 0 | 46 => 72 | 146 => 108 | 51 => 107 | n => n, fun | 1 => 0 | n => n⟩
theorem Tryd.laysM138 : Go.Proofs.LaysM.n138 Tryd.prog Tryd.laysM138_ren := {
  mixed := by kernel_rfl
  f138 := Tryd.func81.trans (congrArg some (by kernel_rfl))
  f143 := Tryd.func37.trans (congrArg some (by kernel_rfl))
  f195 := Tryd.func87.trans (congrArg some (by kernel_rfl))
  f217 := Tryd.func34.trans (congrArg some (by kernel_rfl))
  f218 := Tryd.func89.trans (congrArg some (by kernel_rfl))
  f219 := Tryd.func61.trans (congrArg some (by kernel_rfl))
  f224 := Tryd.func76.trans (congrArg some (by kernel_rfl))
  f225 := Tryd.func75.trans (congrArg some (by kernel_rfl))
  f266 := Tryd.func60.trans (congrArg some (by kernel_rfl))
  f267 := Tryd.func77.trans (congrArg some (by kernel_rfl))
  f314 := Tryd.func86.trans (congrArg some (by kernel_rfl))
  t0 := Tryd.underlying0
  a0 := Tryd.isAgg0
  z0 := Tryd.sizeOf0
  v0 := Tryd.zeroValue0
  t3 := Tryd.underlying3
  a3 := Tryd.isAgg3
  z3 := Tryd.sizeOf3
  v3 := Tryd.zeroValue3
  t4 := Tryd.underlying4
  a4 := Tryd.isAgg4
  z4 := Tryd.sizeOf4
  v4 := Tryd.zeroValue4
  t5 := Tryd.underlying5
  a5 := Tryd.isAgg5
  z5 := Tryd.sizeOf5
  v5 := Tryd.zeroValue5
  t9 := Tryd.underlying9
  a9 := Tryd.isAgg9
  z9 := Tryd.sizeOf9
  v9 := Tryd.zeroValue9
  t46 := Tryd.underlying72
  a46 := Tryd.isAgg72
  z46 := Tryd.sizeOf72
  v46 := Tryd.zeroValue72
  t51 := Tryd.underlying107
  a51 := Tryd.isAgg107
  z51 := Tryd.sizeOf107
  v51 := Tryd.zeroValue107
  t146 := Tryd.underlying108
  a146 := Tryd.isAgg108
  z146 := Tryd.sizeOf108
  v146 := Tryd.zeroValue108
  g1 := by kernel_rfl
  i0 := by kernel_rfl
  i3 := by kernel_rfl
  i4 := by kernel_rfl
  i5 := by kernel_rfl
  i9 := by kernel_rfl
  i46 := by kernel_rfl
  i51 := by kernel_rfl
  i146 := by kernel_rfl
  m1 := by kernel_rfl
  s1_3 := fun w h => Go.Proofs.cell_of_shapedOpen_int (zero := #[.int .i64 0]) (t := 3) h (of_decide_eq_true (by kernel_rfl)) (by kernel_rfl) rfl (by kernel_rfl) (by kernel_rfl) Tryd.underlying3 }
open Go.RowKit Go.Lib in
theorem Tryd.strings_Count_shaped (s sub : ByteArray) (w : World) (h : w.ShapedOpen Tryd.prog) (hs : s.size < 4294967281) (h2 : 2 ≤ sub.size) :
    Calls Tryd.prog 81 #[.string s, .string sub] w fun e w' => e = .returned (.int .i64 (Lib.countB s sub)) ∧ w' = w := Any.strings_Count_shaped Tryd.laysM138 s sub w h hs h2
def Tryd.lays206_ren : Go.Shelf.Ren := ⟨fun | 206 => 35 | n => n, fun | 9 => 9 | 4 => 4 | 3 => 3 | n => n, fun | n => n⟩
theorem Tryd.lays206 : Go.Proofs.Lays.n206 Tryd.prog Tryd.lays206_ren := {
  mixed := by kernel_rfl
  f206 := Tryd.func35.trans (congrArg some (by kernel_rfl))
  t3 := Tryd.underlying3
  a3 := Tryd.isAgg3
  z3 := Tryd.sizeOf3
  v3 := Tryd.zeroValue3
  t4 := Tryd.underlying4
  a4 := Tryd.isAgg4
  z4 := Tryd.sizeOf4
  v4 := Tryd.zeroValue4
  t9 := Tryd.underlying9
  a9 := Tryd.isAgg9
  z9 := Tryd.sizeOf9
  v9 := Tryd.zeroValue9 }
open Go.RowKit Go.Lib in
theorem Tryd.stringslite_HasPrefix (s p : ByteArray) (w : World) :
    Calls Tryd.prog 35 #[.string s, .string p] w fun e w' => e = .returned (.bool (Lib.hasPrefix s.data.toList p.data.toList)) ∧ w' = w := Any.stringslite_HasPrefix Tryd.lays206 s p w
def Tryd.lays99_ren : Go.Shelf.Ren := ⟨fun | 99 => 16 | 206 => 35 | n => n, fun | 9 => 9 | 4 => 4 | 3 => 3 | n => n, fun | n => n⟩
theorem Tryd.lays99 : Go.Proofs.Lays.n99 Tryd.prog Tryd.lays99_ren := {
  mixed := by kernel_rfl
  f99 := Tryd.func16.trans (congrArg some (by kernel_rfl))
  f206 := Tryd.func35.trans (congrArg some (by kernel_rfl))
  t3 := Tryd.underlying3
  a3 := Tryd.isAgg3
  z3 := Tryd.sizeOf3
  v3 := Tryd.zeroValue3
  t4 := Tryd.underlying4
  a4 := Tryd.isAgg4
  z4 := Tryd.sizeOf4
  v4 := Tryd.zeroValue4
  t9 := Tryd.underlying9
  a9 := Tryd.isAgg9
  z9 := Tryd.sizeOf9
  v9 := Tryd.zeroValue9 }
open Go.RowKit Go.Lib in
theorem Tryd.strings_HasPrefix (s p : ByteArray) (w : World) :
    Calls Tryd.prog 16 #[.string s, .string p] w fun e w' => e = .returned (.bool (Lib.hasPrefix s.data.toList p.data.toList)) ∧ w' = w := Any.strings_HasPrefix Tryd.lays99 s p w
def Tryd.lays207_ren : Go.Shelf.Ren := ⟨fun | 207 => 36 | n => n, fun | 9 => 9 | 4 => 4 | 3 => 3 | n => n, fun | n => n⟩
theorem Tryd.lays207 : Go.Proofs.Lays.n207 Tryd.prog Tryd.lays207_ren := {
  mixed := by kernel_rfl
  f207 := Tryd.func36.trans (congrArg some (by kernel_rfl))
  t3 := Tryd.underlying3
  a3 := Tryd.isAgg3
  z3 := Tryd.sizeOf3
  v3 := Tryd.zeroValue3
  t4 := Tryd.underlying4
  a4 := Tryd.isAgg4
  z4 := Tryd.sizeOf4
  v4 := Tryd.zeroValue4
  t9 := Tryd.underlying9
  a9 := Tryd.isAgg9
  z9 := Tryd.sizeOf9
  v9 := Tryd.zeroValue9 }
open Go.RowKit Go.Lib in
theorem Tryd.stringslite_HasSuffix (s p : ByteArray) (w : World) (hs : s.size ≤ 9223372036854775807) :
    Calls Tryd.prog 36 #[.string s, .string p] w fun e w' => e = .returned (.bool (Lib.hasSuffix s.data.toList p.data.toList)) ∧ w' = w := Any.stringslite_HasSuffix Tryd.lays207 s p w hs
def Tryd.lays100_ren : Go.Shelf.Ren := ⟨fun | 100 => 17 | 207 => 36 | n => n, fun | 9 => 9 | 4 => 4 | 3 => 3 | n => n, fun | n => n⟩
theorem Tryd.lays100 : Go.Proofs.Lays.n100 Tryd.prog Tryd.lays100_ren := {
  mixed := by kernel_rfl
  f100 := Tryd.func17.trans (congrArg some (by kernel_rfl))
  f207 := Tryd.func36.trans (congrArg some (by kernel_rfl))
  t3 := Tryd.underlying3
  a3 := Tryd.isAgg3
  z3 := Tryd.sizeOf3
  v3 := Tryd.zeroValue3
  t4 := Tryd.underlying4
  a4 := Tryd.isAgg4
  z4 := Tryd.sizeOf4
  v4 := Tryd.zeroValue4
  t9 := Tryd.underlying9
  a9 := Tryd.isAgg9
  z9 := Tryd.sizeOf9
  v9 := Tryd.zeroValue9 }
open Go.RowKit Go.Lib in
theorem Tryd.strings_HasSuffix (s p : ByteArray) (w : World) (hs : s.size ≤ 9223372036854775807) :
    Calls Tryd.prog 17 #[.string s, .string p] w fun e w' => e = .returned (.bool (Lib.hasSuffix s.data.toList p.data.toList)) ∧ w' = w := Any.strings_HasSuffix Tryd.lays100 s p w hs
open Go.RowKit Go.Lib in
theorem Tryd.strings_Count_any (s sep : ByteArray) (m : Int) (w : World) (hs : s.size < 4294967281) (hm : w.cell? ⟨0, 0, none⟩ = some (.int .i64 m)) (h1 : 1 ≤ sep.size) :
    Calls Tryd.prog 81 #[.string s, .string sep] w fun e w' => e = .returned (.int .i64 (Lib.countB s sep)) ∧ w' = w := Any.strings_Count_any Tryd.lays138 s sep m w hs hm h1
def Tryd.lays221_ren : Go.Shelf.Ren := ⟨fun | 221 => 67 | 268 => 80 | 138 => 81 | 143 => 37 | 195 => 87 | 197 => 88 | 218 => 89 | 219 => 61 | 260 => 92 | 217 => 34 | 225 => 75 | 224 => 76 | 267 => 77 | 266 => 60 | 314 => 86 | n => n, fun | 9 => 9 | 3 => 3 | 31 => 27 | 4 => 4 | 0 => 0 | 105 => 148 | 21 => 21 | 5 => 5 | 46 => 72 | 119 => 158 | 139 => 161 | 138 => 160 | 146 => 108 | 51 => 107 | n => n, fun | 1 => 0 | 3 => 1 | 4 => 2 | n => n⟩
theorem Tryd.lays221 : Go.Proofs.Lays.n221 Tryd.prog Tryd.lays221_ren := {
  mixed := by kernel_rfl
  f138 := Tryd.func81.trans (congrArg some (by kernel_rfl))
  f143 := Tryd.func37.trans (congrArg some (by kernel_rfl))
  f195 := Tryd.func87.trans (congrArg some (by kernel_rfl))
  f197 := Tryd.func88.trans (congrArg some (by kernel_rfl))
  f217 := Tryd.func34.trans (congrArg some (by kernel_rfl))
  f218 := Tryd.func89.trans (congrArg some (by kernel_rfl))
  f219 := Tryd.func61.trans (congrArg some (by kernel_rfl))
  f221 := Tryd.func67.trans (congrArg some (by kernel_rfl))
  f224 := Tryd.func76.trans (congrArg some (by kernel_rfl))
  f225 := Tryd.func75.trans (congrArg some (by kernel_rfl))
  f260 := Tryd.func92.trans (congrArg some (by kernel_rfl))
  f266 := Tryd.func60.trans (congrArg some (by kernel_rfl))
  f267 := Tryd.func77.trans (congrArg some (by kernel_rfl))
  f268 := Tryd.func80.trans (congrArg some (by kernel_rfl))
  f314 := Tryd.func86.trans (congrArg some (by kernel_rfl))
  t0 := Tryd.underlying0
  a0 := Tryd.isAgg0
  z0 := Tryd.sizeOf0
  v0 := Tryd.zeroValue0
  t3 := Tryd.underlying3
  a3 := Tryd.isAgg3
  z3 := Tryd.sizeOf3
  v3 := Tryd.zeroValue3
  t4 := Tryd.underlying4
  a4 := Tryd.isAgg4
  z4 := Tryd.sizeOf4
  v4 := Tryd.zeroValue4
  t5 := Tryd.underlying5
  a5 := Tryd.isAgg5
  z5 := Tryd.sizeOf5
  v5 := Tryd.zeroValue5
  t9 := Tryd.underlying9
  a9 := Tryd.isAgg9
  z9 := Tryd.sizeOf9
  v9 := Tryd.zeroValue9
  t21 := Tryd.underlying21
  a21 := Tryd.isAgg21
  z21 := Tryd.sizeOf21
  v21 := Tryd.zeroValue21
  t31 := Tryd.underlying27
  a31 := Tryd.isAgg27
  z31 := Tryd.sizeOf27
  v31 := Tryd.zeroValue27
  t46 := Tryd.underlying72
  a46 := Tryd.isAgg72
  z46 := Tryd.sizeOf72
  v46 := Tryd.zeroValue72
  t51 := Tryd.underlying107
  a51 := Tryd.isAgg107
  z51 := Tryd.sizeOf107
  v51 := Tryd.zeroValue107
  t105 := Tryd.underlying148
  a105 := Tryd.isAgg148
  z105 := Tryd.sizeOf148
  v105 := Tryd.zeroValue148
  t119 := Tryd.underlying158
  a119 := Tryd.isAgg158
  z119 := Tryd.sizeOf158
  t138 := Tryd.underlying160
  a138 := Tryd.isAgg160
  z138 := Tryd.sizeOf160
  v138 := Tryd.zeroValue160
  t139 := Tryd.underlying161
  a139 := Tryd.isAgg161
  z139 := Tryd.sizeOf161
  v139 := Tryd.zeroValue161
  t146 := Tryd.underlying108
  a146 := Tryd.isAgg108
  z146 := Tryd.sizeOf108
  v146 := Tryd.zeroValue108
  g1 := by kernel_rfl
  g3 := by kernel_rfl
  g4 := by kernel_rfl }
open Go.RowKit Go.Lib in
theorem Tryd.strings_genSplit (s sep : ByteArray) (sv : Nat) (n : Int) (N : Nat) (m : Int) (w : World) (hs : s.size < 4294967281) (hm : w.cell? ⟨0, 0, none⟩ = some (.int .i64 m)) (h1 : 1 ≤ sep.size) (hsv : sv ≤ sep.size) (hn0 : n ≠ 0) (hn63 : n ≤ 9223372036854775807) (hN : (N : Int) = min (if n < 0 then (Lib.countB s sep : Int) + 1 else n) ((s.size : Int) + 1)) :
    Calls Tryd.prog 67 #[.string s, .string sep, .int .i64 sv, .int .i64 n] w fun e w' =>
      e = .returned (.slice (some ⟨w.heap.size, 0, none⟩) (Lib.splitB sep sv (N - 1) s).length N) ∧ w' = w.alloc (.cells (Lib.cellsOf (Lib.splitB sep sv (N - 1) s) N) 9) := Any.strings_genSplit Tryd.lays221 (by kernel_rfl) s sep sv n N m w hs hm h1 hsv hn0 hn63 hN
def Tryd.lays146_ren : Go.Shelf.Ren := ⟨fun | 146 => 46 | 221 => 67 | 268 => 80 | 138 => 81 | 143 => 37 | 195 => 87 | 197 => 88 | 218 => 89 | 219 => 61 | 260 => 92 | 217 => 34 | 225 => 75 | 224 => 76 | 267 => 77 | 266 => 60 | 314 => 86 | n => n, fun | 9 => 9 | 31 => 27 | 3 => 3 | 4 => 4 | 0 => 0 | 105 => 148 | 21 => 21 | 5 => 5 | 46 => 72 | 119 => 158 | 139 => 161 | 138 => 160 | 146 => 108 | 51 => 107 | n => n, fun | 1 => 0 | 3 => 1 | 4 => 2 | n => n⟩
theorem Tryd.lays146 : Go.Proofs.Lays.n146 Tryd.prog Tryd.lays146_ren := {
  mixed := by kernel_rfl
  f138 := Tryd.func81.trans (congrArg some (by kernel_rfl))
  f143 := Tryd.func37.trans (congrArg some (by kernel_rfl))
  f146 := Tryd.func46.trans (congrArg some (by kernel_rfl))
  f195 := Tryd.func87.trans (congrArg some (by kernel_rfl))
  f197 := Tryd.func88.trans (congrArg some (by kernel_rfl))
  f217 := Tryd.func34.trans (congrArg some (by kernel_rfl))
  f218 := Tryd.func89.trans (congrArg some (by kernel_rfl))
  f219 := Tryd.func61.trans (congrArg some (by kernel_rfl))
  f221 := Tryd.func67.trans (congrArg some (by kernel_rfl))
  f224 := Tryd.func76.trans (congrArg some (by kernel_rfl))
  f225 := Tryd.func75.trans (congrArg some (by kernel_rfl))
  f260 := Tryd.func92.trans (congrArg some (by kernel_rfl))
  f266 := Tryd.func60.trans (congrArg some (by kernel_rfl))
  f267 := Tryd.func77.trans (congrArg some (by kernel_rfl))
  f268 := Tryd.func80.trans (congrArg some (by kernel_rfl))
  f314 := Tryd.func86.trans (congrArg some (by kernel_rfl))
  t0 := Tryd.underlying0
  a0 := Tryd.isAgg0
  z0 := Tryd.sizeOf0
  v0 := Tryd.zeroValue0
  t3 := Tryd.underlying3
  a3 := Tryd.isAgg3
  z3 := Tryd.sizeOf3
  v3 := Tryd.zeroValue3
  t4 := Tryd.underlying4
  a4 := Tryd.isAgg4
  z4 := Tryd.sizeOf4
  v4 := Tryd.zeroValue4
  t5 := Tryd.underlying5
  a5 := Tryd.isAgg5
  z5 := Tryd.sizeOf5
  v5 := Tryd.zeroValue5
  t9 := Tryd.underlying9
  a9 := Tryd.isAgg9
  z9 := Tryd.sizeOf9
  v9 := Tryd.zeroValue9
  t21 := Tryd.underlying21
  a21 := Tryd.isAgg21
  z21 := Tryd.sizeOf21
  v21 := Tryd.zeroValue21
  t31 := Tryd.underlying27
  a31 := Tryd.isAgg27
  z31 := Tryd.sizeOf27
  v31 := Tryd.zeroValue27
  t46 := Tryd.underlying72
  a46 := Tryd.isAgg72
  z46 := Tryd.sizeOf72
  v46 := Tryd.zeroValue72
  t51 := Tryd.underlying107
  a51 := Tryd.isAgg107
  z51 := Tryd.sizeOf107
  v51 := Tryd.zeroValue107
  t105 := Tryd.underlying148
  a105 := Tryd.isAgg148
  z105 := Tryd.sizeOf148
  v105 := Tryd.zeroValue148
  t119 := Tryd.underlying158
  a119 := Tryd.isAgg158
  z119 := Tryd.sizeOf158
  t138 := Tryd.underlying160
  a138 := Tryd.isAgg160
  z138 := Tryd.sizeOf160
  v138 := Tryd.zeroValue160
  t139 := Tryd.underlying161
  a139 := Tryd.isAgg161
  z139 := Tryd.sizeOf161
  v139 := Tryd.zeroValue161
  t146 := Tryd.underlying108
  a146 := Tryd.isAgg108
  z146 := Tryd.sizeOf108
  v146 := Tryd.zeroValue108
  g1 := by kernel_rfl
  g3 := by kernel_rfl
  g4 := by kernel_rfl }
open Go.RowKit Go.Lib in
theorem Tryd.strings_Split (s sep : ByteArray) (m : Int) (w : World) (hs : s.size < 4294967281) (hm : w.cell? ⟨0, 0, none⟩ = some (.int .i64 m)) (h1 : 1 ≤ sep.size) :
    Calls Tryd.prog 46 #[.string s, .string sep] w fun e w' =>
      e = .returned (.slice (some ⟨w.heap.size, 0, none⟩) (Lib.countB s sep + 1) (Lib.countB s sep + 1)) ∧ w' = w.alloc (.cells ((Lib.splitB sep 0 (Lib.countB s sep) s).map Value.string).toArray 9) := Any.strings_Split Tryd.lays146 (by kernel_rfl) s sep m w hs hm h1
def Tryd.laysM146_ren : Go.Shelf.Ren := ⟨fun | 146 => 46 | 221 => 67 | 268 => 80 | 138 => 81 | 143 => 37 | 195 => 87 | 197 => 88 | 218 => 89 | 219 => 61 | 260 => 92 | 217 => 34 | 225 => 75 | 224 => 76 | 267 => 77 | 266 => 60 | 314 => 86 | n => n, fun | 9 => 9 | 31 => 27 | 3 => 3 | 4 => 4 | 0 => 0 | 105 => 148 | 21 => 21 | 5 => 5 | 46 => 72 | 119 => 158 | 139 => 161 | 138 => 160 | 146 => 108 | 51 => 107 | n => n, fun | 1 => 0 | 3 => 1 | 4 => 2 | n => n⟩
theorem Tryd.laysM146 : Go.Proofs.LaysM.n146 Tryd.prog Tryd.laysM146_ren := {
  mixed := by kernel_rfl
  f138 := Tryd.func81.trans (congrArg some (by kernel_rfl))
  f143 := Tryd.func37.trans (congrArg some (by kernel_rfl))
  f146 := Tryd.func46.trans (congrArg some (by kernel_rfl))
  f195 := Tryd.func87.trans (congrArg some (by kernel_rfl))
  f197 := Tryd.func88.trans (congrArg some (by kernel_rfl))
  f217 := Tryd.func34.trans (congrArg some (by kernel_rfl))
  f218 := Tryd.func89.trans (congrArg some (by kernel_rfl))
  f219 := Tryd.func61.trans (congrArg some (by kernel_rfl))
  f221 := Tryd.func67.trans (congrArg some (by kernel_rfl))
  f224 := Tryd.func76.trans (congrArg some (by kernel_rfl))
  f225 := Tryd.func75.trans (congrArg some (by kernel_rfl))
  f260 := Tryd.func92.trans (congrArg some (by kernel_rfl))
  f266 := Tryd.func60.trans (congrArg some (by kernel_rfl))
  f267 := Tryd.func77.trans (congrArg some (by kernel_rfl))
  f268 := Tryd.func80.trans (congrArg some (by kernel_rfl))
  f314 := Tryd.func86.trans (congrArg some (by kernel_rfl))
  t0 := Tryd.underlying0
  a0 := Tryd.isAgg0
  z0 := Tryd.sizeOf0
  v0 := Tryd.zeroValue0
  t3 := Tryd.underlying3
  a3 := Tryd.isAgg3
  z3 := Tryd.sizeOf3
  v3 := Tryd.zeroValue3
  t4 := Tryd.underlying4
  a4 := Tryd.isAgg4
  z4 := Tryd.sizeOf4
  v4 := Tryd.zeroValue4
  t5 := Tryd.underlying5
  a5 := Tryd.isAgg5
  z5 := Tryd.sizeOf5
  v5 := Tryd.zeroValue5
  t9 := Tryd.underlying9
  a9 := Tryd.isAgg9
  z9 := Tryd.sizeOf9
  v9 := Tryd.zeroValue9
  t21 := Tryd.underlying21
  a21 := Tryd.isAgg21
  z21 := Tryd.sizeOf21
  v21 := Tryd.zeroValue21
  t31 := Tryd.underlying27
  a31 := Tryd.isAgg27
  z31 := Tryd.sizeOf27
  v31 := Tryd.zeroValue27
  t46 := Tryd.underlying72
  a46 := Tryd.isAgg72
  z46 := Tryd.sizeOf72
  v46 := Tryd.zeroValue72
  t51 := Tryd.underlying107
  a51 := Tryd.isAgg107
  z51 := Tryd.sizeOf107
  v51 := Tryd.zeroValue107
  t105 := Tryd.underlying148
  a105 := Tryd.isAgg148
  z105 := Tryd.sizeOf148
  v105 := Tryd.zeroValue148
  t119 := Tryd.underlying158
  a119 := Tryd.isAgg158
  z119 := Tryd.sizeOf158
  t138 := Tryd.underlying160
  a138 := Tryd.isAgg160
  z138 := Tryd.sizeOf160
  v138 := Tryd.zeroValue160
  t139 := Tryd.underlying161
  a139 := Tryd.isAgg161
  z139 := Tryd.sizeOf161
  v139 := Tryd.zeroValue161
  t146 := Tryd.underlying108
  a146 := Tryd.isAgg108
  z146 := Tryd.sizeOf108
  v146 := Tryd.zeroValue108
  g1 := by kernel_rfl
  g3 := by kernel_rfl
  g4 := by kernel_rfl
  i0 := by kernel_rfl
  i3 := by kernel_rfl
  i4 := by kernel_rfl
  i5 := by kernel_rfl
  i9 := by kernel_rfl
  i21 := by kernel_rfl
  i31 := by kernel_rfl
  i46 := by kernel_rfl
  i51 := by kernel_rfl
  i105 := by kernel_rfl
  i138 := by kernel_rfl
  i139 := by kernel_rfl
  i146 := by kernel_rfl
  m1 := by kernel_rfl
  s1_3 := fun w h => Go.Proofs.cell_of_shapedOpen_int (zero := #[.int .i64 0]) (t := 3) h (of_decide_eq_true (by kernel_rfl)) (by kernel_rfl) rfl (by kernel_rfl) (by kernel_rfl) Tryd.underlying3
  m3 := by kernel_rfl
  m4 := by kernel_rfl }
open Go.RowKit Go.Lib in
theorem Tryd.strings_Split_shaped (s sep : ByteArray) (w : World) (h : w.ShapedOpen Tryd.prog) (hs : s.size < 4294967281) (h1 : 1 ≤ sep.size) :
    Calls Tryd.prog 46 #[.string s, .string sep] w fun e w' =>
      e = .returned (.slice (some ⟨w.heap.size, 0, none⟩) (Lib.countB s sep + 1) (Lib.countB s sep + 1)) ∧ w' = w.alloc (.cells ((Lib.splitB sep 0 (Lib.countB s sep) s).map Value.string).toArray 9) := Any.strings_Split_shaped Tryd.laysM146 s sep w h hs h1
def Tryd.lays197_ren : Go.Shelf.Ren := ⟨fun | 197 => 88 | 260 => 92 | n => n, fun | 9 => 9 | 21 => 21 | 3 => 3 | 4 => 4 | 5 => 5 | 105 => 148 | 119 => 158 | 0 => 0 | 46 => 72 | 139 => 161 | 138 => 160 | n => n, fun | 3 => 1 | 4 => 2 | n => n⟩
theorem Tryd.lays197 : Go.Proofs.Lays.n197 Tryd.prog Tryd.lays197_ren := {
  mixed := by kernel_rfl
  f197 := Tryd.func88.trans (congrArg some (by kernel_rfl))
  f260 := Tryd.func92.trans (congrArg some (by kernel_rfl))
  t0 := Tryd.underlying0
  a0 := Tryd.isAgg0
  z0 := Tryd.sizeOf0
  v0 := Tryd.zeroValue0
  t3 := Tryd.underlying3
  a3 := Tryd.isAgg3
  z3 := Tryd.sizeOf3
  v3 := Tryd.zeroValue3
  t4 := Tryd.underlying4
  a4 := Tryd.isAgg4
  z4 := Tryd.sizeOf4
  v4 := Tryd.zeroValue4
  t5 := Tryd.underlying5
  a5 := Tryd.isAgg5
  z5 := Tryd.sizeOf5
  v5 := Tryd.zeroValue5
  t9 := Tryd.underlying9
  a9 := Tryd.isAgg9
  z9 := Tryd.sizeOf9
  v9 := Tryd.zeroValue9
  t21 := Tryd.underlying21
  a21 := Tryd.isAgg21
  z21 := Tryd.sizeOf21
  v21 := Tryd.zeroValue21
  t46 := Tryd.underlying72
  a46 := Tryd.isAgg72
  z46 := Tryd.sizeOf72
  v46 := Tryd.zeroValue72
  t105 := Tryd.underlying148
  a105 := Tryd.isAgg148
  z105 := Tryd.sizeOf148
  v105 := Tryd.zeroValue148
  t119 := Tryd.underlying158
  a119 := Tryd.isAgg158
  z119 := Tryd.sizeOf158
  t138 := Tryd.underlying160
  a138 := Tryd.isAgg160
  z138 := Tryd.sizeOf160
  v138 := Tryd.zeroValue160
  t139 := Tryd.underlying161
  a139 := Tryd.isAgg161
  z139 := Tryd.sizeOf161
  v139 := Tryd.zeroValue161
  g3 := by kernel_rfl
  g4 := by kernel_rfl }
open Go.RowKit Go.Lib in
theorem Tryd.utf8_DecodeRuneInString_ascii (s : ByteArray) (x : UInt8) (w : World) (h0 : s.data.toList[0]? = some x) (hx : x.toNat < 128) :
    Calls Tryd.prog 88 #[.string s] w fun e w' => e = .returned (.tuple #[.int .i32 x.toNat, .int .i64 1]) ∧ w' = w := Any.utf8_DecodeRuneInString_ascii Tryd.lays197 s x w h0 hx
def Tryd.lays152_ren : Go.Shelf.Ren := ⟨fun | 152 => 103 | 137 => 15 | 119 => 105 | 224 => 76 | 225 => 75 | 217 => 34 | 266 => 60 | n => n, fun | 9 => 9 | 21 => 21 | 3 => 3 | 4 => 4 | 5 => 5 | 0 => 0 | 46 => 72 | n => n, fun | n => n⟩
theorem Tryd.lays152 : Go.Proofs.Lays.n152 Tryd.prog Tryd.lays152_ren := {
  mixed := by kernel_rfl
  f119 := Tryd.func105.trans (congrArg some (by kernel_rfl))
  f137 := Tryd.func15.trans (congrArg some (by kernel_rfl))
  f152 := Tryd.func103.trans (congrArg some (by kernel_rfl))
  f217 := Tryd.func34.trans (congrArg some (by kernel_rfl))
  f224 := Tryd.func76.trans (congrArg some (by kernel_rfl))
  f225 := Tryd.func75.trans (congrArg some (by kernel_rfl))
  f266 := Tryd.func60.trans (congrArg some (by kernel_rfl))
  t0 := Tryd.underlying0
  a0 := Tryd.isAgg0
  z0 := Tryd.sizeOf0
  v0 := Tryd.zeroValue0
  t3 := Tryd.underlying3
  a3 := Tryd.isAgg3
  z3 := Tryd.sizeOf3
  v3 := Tryd.zeroValue3
  t4 := Tryd.underlying4
  a4 := Tryd.isAgg4
  z4 := Tryd.sizeOf4
  v4 := Tryd.zeroValue4
  t5 := Tryd.underlying5
  a5 := Tryd.isAgg5
  z5 := Tryd.sizeOf5
  v5 := Tryd.zeroValue5
  t9 := Tryd.underlying9
  a9 := Tryd.isAgg9
  z9 := Tryd.sizeOf9
  v9 := Tryd.zeroValue9
  t21 := Tryd.underlying21
  a21 := Tryd.isAgg21
  z21 := Tryd.sizeOf21
  v21 := Tryd.zeroValue21
  t46 := Tryd.underlying72
  a46 := Tryd.isAgg72
  z46 := Tryd.sizeOf72
  v46 := Tryd.zeroValue72 }
open Go.RowKit Go.Lib in
theorem Tryd.strings_IndexRune_ascii (s : ByteArray) (r : Int) (w : World) (h0 : 0 ≤ r) (h1 : r < 128) :
    Calls Tryd.prog 103 #[.string s, .int .i32 r] w fun e w' => e = .returned (.int .i64 (Lib.indexByte s.data.toList r.toNat.toUInt8)) ∧ w' = w := Any.strings_IndexRune_ascii Tryd.lays152 s r w h0 h1
def Tryd.lays151_ren : Go.Shelf.Ren := ⟨fun | 151 => 101 | 152 => 103 | 137 => 15 | 119 => 105 | 224 => 76 | 225 => 75 | 217 => 34 | 266 => 60 | n => n, fun | 9 => 9 | 21 => 21 | 4 => 4 | 3 => 3 | 5 => 5 | 0 => 0 | 46 => 72 | n => n, fun | n => n⟩
theorem Tryd.lays151 : Go.Proofs.Lays.n151 Tryd.prog Tryd.lays151_ren := {
  mixed := by kernel_rfl
  f119 := Tryd.func105.trans (congrArg some (by kernel_rfl))
  f137 := Tryd.func15.trans (congrArg some (by kernel_rfl))
  f151 := Tryd.func101.trans (congrArg some (by kernel_rfl))
  f152 := Tryd.func103.trans (congrArg some (by kernel_rfl))
  f217 := Tryd.func34.trans (congrArg some (by kernel_rfl))
  f224 := Tryd.func76.trans (congrArg some (by kernel_rfl))
  f225 := Tryd.func75.trans (congrArg some (by kernel_rfl))
  f266 := Tryd.func60.trans (congrArg some (by kernel_rfl))
  t0 := Tryd.underlying0
  a0 := Tryd.isAgg0
  z0 := Tryd.sizeOf0
  v0 := Tryd.zeroValue0
  t3 := Tryd.underlying3
  a3 := Tryd.isAgg3
  z3 := Tryd.sizeOf3
  v3 := Tryd.zeroValue3
  t4 := Tryd.underlying4
  a4 := Tryd.isAgg4
  z4 := Tryd.sizeOf4
  v4 := Tryd.zeroValue4
  t5 := Tryd.underlying5
  a5 := Tryd.isAgg5
  z5 := Tryd.sizeOf5
  v5 := Tryd.zeroValue5
  t9 := Tryd.underlying9
  a9 := Tryd.isAgg9
  z9 := Tryd.sizeOf9
  v9 := Tryd.zeroValue9
  t21 := Tryd.underlying21
  a21 := Tryd.isAgg21
  z21 := Tryd.sizeOf21
  v21 := Tryd.zeroValue21
  t46 := Tryd.underlying72
  a46 := Tryd.isAgg72
  z46 := Tryd.sizeOf72
  v46 := Tryd.zeroValue72 }
open Go.RowKit Go.Lib in
theorem Tryd.strings_ContainsRune_ascii (s : ByteArray) (r : Int) (w : World) (h0 : 0 ≤ r) (h1 : r < 128) :
    Calls Tryd.prog 101 #[.string s, .int .i32 r] w fun e w' => e = .returned (.bool (decide (0 ≤ Lib.indexByte s.data.toList r.toNat.toUInt8))) ∧ w' = w := Any.strings_ContainsRune_ascii Tryd.lays151 s r w h0 h1
open Go.RowKit Go.Lib in
theorem Tryd.utf8_RuneCountInString_ascii (s : ByteArray) (w : World) (hs : s.size < 4294967281) (hascii : ∀ (j : Nat) b, s.data.toList[j]? = some b → b.toNat < 128) :
    Calls Tryd.prog 87 #[.string s] w fun e w' => e = .returned (.int .i64 s.size) ∧ w' = w.iter s s.size := Any.utf8_RuneCountInString_ascii Tryd.lays195 s w hs hascii
def Tryd.lays227_ren : Go.Shelf.Ren := ⟨fun | 227 => 95 | n => n, fun | 9 => 9 | 116 => 153 | 4 => 4 | 0 => 0 | 3 => 3 | 5 => 5 | n => n, fun | n => n⟩
theorem Tryd.lays227 : Go.Proofs.Lays.n227 Tryd.prog Tryd.lays227_ren := {
  mixed := by kernel_rfl
  f227 := Tryd.func95.trans (congrArg some (by kernel_rfl))
  t0 := Tryd.underlying0
  a0 := Tryd.isAgg0
  z0 := Tryd.sizeOf0
  v0 := Tryd.zeroValue0
  t3 := Tryd.underlying3
  a3 := Tryd.isAgg3
  z3 := Tryd.sizeOf3
  v3 := Tryd.zeroValue3
  t4 := Tryd.underlying4
  a4 := Tryd.isAgg4
  z4 := Tryd.sizeOf4
  v4 := Tryd.zeroValue4
  t5 := Tryd.underlying5
  a5 := Tryd.isAgg5
  z5 := Tryd.sizeOf5
  v5 := Tryd.zeroValue5
  t9 := Tryd.underlying9
  a9 := Tryd.isAgg9
  z9 := Tryd.sizeOf9
  v9 := Tryd.zeroValue9
  t116 := Tryd.underlying153
  a116 := Tryd.isAgg153
  z116 := Tryd.sizeOf153 }
open Go.RowKit Go.Lib in
theorem Tryd.strings_makeASCIISet (hv116 : ∀ w, (zeroValue 153).run Tryd.prog w = .ok (.agg (Array.replicate 256 (.bool false))) w) (chars : ByteArray) (w : World) (hs : chars.size < 4294967281) (hascii : ∀ (j : Nat) b, chars.data.toList[j]? = some b → b.toNat < 128) :
    Calls Tryd.prog 95 #[.string chars] w fun e w' => e = .returned (.tuple #[.agg (Lib.setCells chars.data.toList), .bool true]) ∧ w' = w.alloc (.cells (Lib.setCells chars.data.toList) 153) := Any.strings_makeASCIISet Tryd.lays227 hv116 (by kernel_rfl) chars w hs hascii
def Tryd.lays228_ren : Go.Shelf.Ren := ⟨fun | 228 => 100 | n => n, fun | 124 => 157 | 5 => 5 | 4 => 4 | 0 => 0 | 116 => 153 | n => n, fun | n => n⟩
theorem Tryd.lays228 : Go.Proofs.Lays.n228 Tryd.prog Tryd.lays228_ren := {
  mixed := by kernel_rfl
  f228 := Tryd.func100.trans (congrArg some (by kernel_rfl))
  t0 := Tryd.underlying0
  a0 := Tryd.isAgg0
  z0 := Tryd.sizeOf0
  v0 := Tryd.zeroValue0
  t4 := Tryd.underlying4
  a4 := Tryd.isAgg4
  z4 := Tryd.sizeOf4
  v4 := Tryd.zeroValue4
  t5 := Tryd.underlying5
  a5 := Tryd.isAgg5
  z5 := Tryd.sizeOf5
  v5 := Tryd.zeroValue5
  t116 := Tryd.underlying153
  a116 := Tryd.isAgg153
  z116 := Tryd.sizeOf153
  t124 := Tryd.underlying157
  a124 := Tryd.isAgg157
  z124 := Tryd.sizeOf157
  v124 := Tryd.zeroValue157 }
open Go.RowKit Go.Lib in
theorem Tryd.asciiSet_contains (b : Nat) (x : UInt8) (v : Bool) (w : World) (hc : w.cell? ⟨b, x.toNat, none⟩ = some (.bool v)) :
    Calls Tryd.prog 100 #[.pointer (some ⟨b, 0, none⟩), .int .u8 x.toNat] w fun e w' => e = .returned (.bool v) ∧ w' = w := Any.asciiSet_contains Tryd.lays228 b x v w hc
def Tryd.lays268_ren : Go.Shelf.Ren := ⟨fun | 268 => 80 | 195 => 87 | 197 => 88 | 260 => 92 | n => n, fun | 9 => 9 | 3 => 3 | 31 => 27 | 4 => 4 | 105 => 148 | 21 => 21 | 0 => 0 | 5 => 5 | 119 => 158 | 46 => 72 | 139 => 161 | 138 => 160 | n => n, fun | 3 => 1 | 4 => 2 | n => n⟩
theorem Tryd.lays268 : Go.Proofs.Lays.n268 Tryd.prog Tryd.lays268_ren := {
  mixed := by kernel_rfl
  f195 := Tryd.func87.trans (congrArg some (by kernel_rfl))
  f197 := Tryd.func88.trans (congrArg some (by kernel_rfl))
  f260 := Tryd.func92.trans (congrArg some (by kernel_rfl))
  f268 := Tryd.func80.trans (congrArg some (by kernel_rfl))
  t0 := Tryd.underlying0
  a0 := Tryd.isAgg0
  z0 := Tryd.sizeOf0
  v0 := Tryd.zeroValue0
  t3 := Tryd.underlying3
  a3 := Tryd.isAgg3
  z3 := Tryd.sizeOf3
  v3 := Tryd.zeroValue3
  t4 := Tryd.underlying4
  a4 := Tryd.isAgg4
  z4 := Tryd.sizeOf4
  v4 := Tryd.zeroValue4
  t5 := Tryd.underlying5
  a5 := Tryd.isAgg5
  z5 := Tryd.sizeOf5
  v5 := Tryd.zeroValue5
  t9 := Tryd.underlying9
  a9 := Tryd.isAgg9
  z9 := Tryd.sizeOf9
  v9 := Tryd.zeroValue9
  t21 := Tryd.underlying21
  a21 := Tryd.isAgg21
  z21 := Tryd.sizeOf21
  v21 := Tryd.zeroValue21
  t31 := Tryd.underlying27
  a31 := Tryd.isAgg27
  z31 := Tryd.sizeOf27
  v31 := Tryd.zeroValue27
  t46 := Tryd.underlying72
  a46 := Tryd.isAgg72
  z46 := Tryd.sizeOf72
  v46 := Tryd.zeroValue72
  t105 := Tryd.underlying148
  a105 := Tryd.isAgg148
  z105 := Tryd.sizeOf148
  v105 := Tryd.zeroValue148
  t119 := Tryd.underlying158
  a119 := Tryd.isAgg158
  z119 := Tryd.sizeOf158
  t138 := Tryd.underlying160
  a138 := Tryd.isAgg160
  z138 := Tryd.sizeOf160
  v138 := Tryd.zeroValue160
  t139 := Tryd.underlying161
  a139 := Tryd.isAgg161
  z139 := Tryd.sizeOf161
  v139 := Tryd.zeroValue161
  g3 := by kernel_rfl
  g4 := by kernel_rfl }
open Go.RowKit Go.Lib in
theorem Tryd.strings_explode_all (s : ByteArray) (n : Int) (w : World) (hn : n < 0) (hs : s.size < 4294967281) (hascii : ∀ (j : Nat) b, s.data.toList[j]? = some b → b.toNat < 128) :
    Calls Tryd.prog 80 #[.string s, .int .i64 n] w fun e w' =>
      e = .returned (.slice (some ⟨(w.iter s s.size).heap.size, 0, none⟩) s.size s.size) ∧ w' = (w.iter s s.size).alloc (.cells ((Lib.charsB s).map Value.string).toArray 9) := Any.strings_explode_all Tryd.lays268 (by kernel_rfl) s n w hn hs hascii
open Go.RowKit Go.Lib in
theorem Tryd.strings_genSplit_chars (s sep : ByteArray) (sv n : Int) (w : World) (h0 : sep.size = 0) (hn : n < 0) (hs : s.size < 4294967281) (hascii : ∀ (j : Nat) b, s.data.toList[j]? = some b → b.toNat < 128) :
    Calls Tryd.prog 67 #[.string s, .string sep, .int .i64 sv, .int .i64 n] w fun e w' =>
      e = .returned (.slice (some ⟨(w.iter s s.size).heap.size, 0, none⟩) s.size s.size) ∧ w' = (w.iter s s.size).alloc (.cells ((Lib.charsB s).map Value.string).toArray 9) := Any.strings_genSplit_chars Tryd.lays221 (by kernel_rfl) s sep sv n w h0 hn hs hascii
open Go.RowKit Go.Lib in
theorem Tryd.strings_Split_chars (s sep : ByteArray) (w : World) (h0 : sep.size = 0) (hs : s.size < 4294967281) (hascii : ∀ (j : Nat) b, s.data.toList[j]? = some b → b.toNat < 128) :
    Calls Tryd.prog 46 #[.string s, .string sep] w fun e w' =>
      e = .returned (.slice (some ⟨(w.iter s s.size).heap.size, 0, none⟩) s.size s.size) ∧ w' = (w.iter s s.size).alloc (.cells ((Lib.charsB s).map Value.string).toArray 9) := Any.strings_Split_chars Tryd.lays146 (by kernel_rfl) s sep w h0 hs hascii
def Tryd.lays264_ren : Go.Shelf.Ren := ⟨fun | 264 => 66 | n => n, fun | 53 => 37 | 46 => 72 | n => n, fun | n => n⟩
theorem Tryd.lays264 : Go.Proofs.Lays.n264 Tryd.prog Tryd.lays264_ren := {
  mixed := by kernel_rfl
  f264 := Tryd.func66.trans (congrArg some (by kernel_rfl))
  t46 := Tryd.underlying72
  a46 := Tryd.isAgg72
  z46 := Tryd.sizeOf72
  v46 := Tryd.zeroValue72
  t53 := Tryd.underlying37
  a53 := Tryd.isAgg37
  z53 := Tryd.sizeOf37
  v53 := Tryd.zeroValue37 }
open Go.RowKit Go.Lib in
theorem Tryd.bits_Mul64 (x y : Nat) (hx : x < 18446744073709551616) (hy : y < 18446744073709551616) (w : World) :
    Calls Tryd.prog 66 #[.int .u64 x, .int .u64 y] w fun e w' => e = .returned (.tuple #[.int .u64 ((x * y / 18446744073709551616 : Nat) : Int), .int .u64 ((x * y % 18446744073709551616 : Nat) : Int)]) ∧ w' = w := Any.bits_Mul64 Tryd.lays264 x y hx hy w
def Tryd.lays212_ren : Go.Shelf.Ren := ⟨fun | 212 => 44 | 263 => 65 | 264 => 66 | n => n, fun | 46 => 72 | 51 => 107 | 146 => 108 | 53 => 37 | 148 => 110 | n => n, fun | n => n⟩
theorem Tryd.lays212 : Go.Proofs.Lays.n212 Tryd.prog Tryd.lays212_ren := {
  mixed := by kernel_rfl
  f212 := Tryd.func44.trans (congrArg some (by kernel_rfl))
  f263 := Tryd.func65.trans (congrArg some (by kernel_rfl))
  f264 := Tryd.func66.trans (congrArg some (by kernel_rfl))
  t46 := Tryd.underlying72
  a46 := Tryd.isAgg72
  z46 := Tryd.sizeOf72
  v46 := Tryd.zeroValue72
  t51 := Tryd.underlying107
  a51 := Tryd.isAgg107
  z51 := Tryd.sizeOf107
  v51 := Tryd.zeroValue107
  t53 := Tryd.underlying37
  a53 := Tryd.isAgg37
  z53 := Tryd.sizeOf37
  v53 := Tryd.zeroValue37
  t146 := Tryd.underlying108
  a146 := Tryd.isAgg108
  z146 := Tryd.sizeOf108
  v146 := Tryd.zeroValue108
  t148 := Tryd.underlying110
  a148 := Tryd.isAgg110
  z148 := Tryd.sizeOf110
  v148 := Tryd.zeroValue110 }
open Go.RowKit Go.Lib in
theorem Tryd.bits_Mul (x y : Nat) (hx : x < 18446744073709551616) (hy : y < 18446744073709551616) (w : World) :
    Calls Tryd.prog 44 #[.int .u64 x, .int .u64 y] w fun e w' => e = .returned (.tuple #[.int .u64 ((x * y / 18446744073709551616 : Nat) : Int), .int .u64 ((x * y % 18446744073709551616 : Nat) : Int)]) ∧ w' = w := Any.bits_Mul Tryd.lays212 x y hx hy w
def Tryd.lays105_ren : Go.Shelf.Ren := ⟨fun | 105 => 22 | 212 => 44 | 99 => 16 | 165 => 41 | 166 => 42 | 170 => 45 | 169 => 43 | 263 => 65 | 264 => 66 | 206 => 35 | 240 => 63 | 241 => 64 | 276 => 78 | 277 => 79 | n => n, fun | 9 => 9 | 3 => 3 | 4 => 4 | 20 => 20 | 0 => 0 | 46 => 72 | 109 => 73 | 5 => 5 | 72 => 65 | 76 => 69 | 51 => 107 | 146 => 108 | 53 => 37 | 148 => 110 | 70 => 63 | 37 => 24 | 75 => 68 | 127 => 106 | 164 => 126 | 80 => 71 | n => n, fun | n => n⟩
theorem Tryd.lays105 : Go.Proofs.Lays.n105 Tryd.prog Tryd.lays105_ren := {
  mixed := by kernel_rfl
  f99 := Tryd.func16.trans (congrArg some (by kernel_rfl))
  f105 := Tryd.func22.trans (congrArg some (by kernel_rfl))
  f165 := Tryd.func41.trans (congrArg some (by kernel_rfl))
  f166 := Tryd.func42.trans (congrArg some (by kernel_rfl))
  f169 := Tryd.func43.trans (congrArg some (by kernel_rfl))
  f170 := Tryd.func45.trans (congrArg some (by kernel_rfl))
  f206 := Tryd.func35.trans (congrArg some (by kernel_rfl))
  f212 := Tryd.func44.trans (congrArg some (by kernel_rfl))
  f240 := Tryd.func63.trans (congrArg some (by kernel_rfl))
  f241 := Tryd.func64.trans (congrArg some (by kernel_rfl))
  f263 := Tryd.func65.trans (congrArg some (by kernel_rfl))
  f264 := Tryd.func66.trans (congrArg some (by kernel_rfl))
  f276 := Tryd.func78.trans (congrArg some (by kernel_rfl))
  f277 := Tryd.func79.trans (congrArg some (by kernel_rfl))
  t0 := Tryd.underlying0
  a0 := Tryd.isAgg0
  z0 := Tryd.sizeOf0
  v0 := Tryd.zeroValue0
  t3 := Tryd.underlying3
  a3 := Tryd.isAgg3
  z3 := Tryd.sizeOf3
  v3 := Tryd.zeroValue3
  t4 := Tryd.underlying4
  a4 := Tryd.isAgg4
  z4 := Tryd.sizeOf4
  v4 := Tryd.zeroValue4
  t5 := Tryd.underlying5
  a5 := Tryd.isAgg5
  z5 := Tryd.sizeOf5
  v5 := Tryd.zeroValue5
  t9 := Tryd.underlying9
  a9 := Tryd.isAgg9
  z9 := Tryd.sizeOf9
  v9 := Tryd.zeroValue9
  t20 := Tryd.underlying20
  a20 := Tryd.isAgg20
  z20 := Tryd.sizeOf20
  v20 := Tryd.zeroValue20
  t37 := Tryd.underlying24
  a37 := Tryd.isAgg24
  z37 := Tryd.sizeOf24
  v37 := Tryd.zeroValue24
  t46 := Tryd.underlying72
  a46 := Tryd.isAgg72
  z46 := Tryd.sizeOf72
  v46 := Tryd.zeroValue72
  t51 := Tryd.underlying107
  a51 := Tryd.isAgg107
  z51 := Tryd.sizeOf107
  v51 := Tryd.zeroValue107
  t53 := Tryd.underlying37
  a53 := Tryd.isAgg37
  z53 := Tryd.sizeOf37
  v53 := Tryd.zeroValue37
  t70 := Tryd.underlying63
  a70 := Tryd.isAgg63
  z70 := Tryd.sizeOf63
  v70 := Tryd.zeroValue63
  t72 := Tryd.underlying65
  a72 := Tryd.isAgg65
  z72 := Tryd.sizeOf65
  v72 := Tryd.zeroValue65
  t75 := Tryd.underlying68
  a75 := Tryd.isAgg68
  z75 := Tryd.sizeOf68
  v75 := Tryd.zeroValue68
  t76 := Tryd.underlying69
  a76 := Tryd.isAgg69
  z76 := Tryd.sizeOf69
  v76 := Tryd.zeroValue69
  t109 := Tryd.underlying73
  a109 := Tryd.isAgg73
  z109 := Tryd.sizeOf73
  v109 := Tryd.zeroValue73
  t127 := Tryd.underlying106
  a127 := Tryd.isAgg106
  z127 := Tryd.sizeOf106
  v127 := Tryd.zeroValue106
  t146 := Tryd.underlying108
  a146 := Tryd.isAgg108
  z146 := Tryd.sizeOf108
  v146 := Tryd.zeroValue108
  t148 := Tryd.underlying110
  a148 := Tryd.isAgg110
  z148 := Tryd.sizeOf110
  v148 := Tryd.zeroValue110
  t164 := Tryd.underlying126
  a164 := Tryd.isAgg126
  z164 := Tryd.sizeOf126
  v164 := Tryd.zeroValue126 }
theorem Tryd.Builder_Extra_105 : Builder.Extra Tryd.prog Tryd.lays105_ren := {
  sizeBuilder := by kernel_rfl
  liesBuilder := by kernel_rfl
  t5 := Tryd.underlying5
  a5 := Tryd.isAgg5
  z5 := Tryd.sizeOf5
  v5 := Tryd.zeroValue5
  infoByte := by kernel_rfl
  cellsByte := by kernel_rfl
  sizeByte := by kernel_rfl
  neB5 := by decide }
open Go.RowKit Go.Lib in
theorem Tryd.strings_Repeat_main (s : ByteArray) (c : Nat) (w : World) (hc2 : 2 ≤ c) (hc : c ≤ 9223372036854775807) (hlen : s.size * c ≤ 140737488355328) (h0 : 0 < s.size) :
    Calls Tryd.prog 22 #[.string s, .int .i64 c] w fun e w' => e = .returned (.string ⟨(Lib.repeatL s.data.toList c).toArray⟩) ∧ Below w.heap.size w w' := Any.strings_Repeat_main Tryd.lays105 Tryd.Builder_Extra_105 s c w hc2 hc hlen h0
open Go.RowKit Go.Lib in
theorem Tryd.strings_Repeat_zero (s : ByteArray) (w : World) :
    Calls Tryd.prog 22 #[.string s, .int .i64 0] w fun e w' => e = .returned (.string ⟨#[]⟩) ∧ w' = w := Any.strings_Repeat_zero Tryd.lays105 s w
open Go.RowKit Go.Lib in
theorem Tryd.strings_Repeat_one (s : ByteArray) (w : World) :
    Calls Tryd.prog 22 #[.string s, .int .i64 1] w fun e w' => e = .returned (.string s) ∧ w' = w := Any.strings_Repeat_one Tryd.lays105 s w
open Go.RowKit Go.Lib in
theorem Tryd.strings_Repeat_empty (s : ByteArray) (c : Nat) (w : World) (hc2 : 2 ≤ c) (hc : c ≤ 9223372036854775807) (h0 : s.size = 0) :
    Calls Tryd.prog 22 #[.string s, .int .i64 c] w fun e w' => e = .returned (.string ⟨#[]⟩) ∧ w' = w := Any.strings_Repeat_empty Tryd.lays105 s c w hc2 hc h0
open Go.RowKit Go.Lib in
theorem Tryd.strings_Repeat_negative (s : ByteArray) (c : Int) (w : World) (hc : c < 0) :
    Calls Tryd.prog 22 #[.string s, .int .i64 c] w fun e w' => e = .panicked [{ v := repeatPanic Tryd.lays105_ren "strings: negative Repeat count", recovered := false }] ∧ w' = w := Any.strings_Repeat_negative Tryd.lays105 s c w hc
open Go.RowKit Go.Lib in
theorem Tryd.strings_Repeat_overflow (s : ByteArray) (c : Nat) (w : World) (hc : c ≤ 9223372036854775807) (hs : s.size ≤ 9223372036854775807) (hbig : 9223372036854775807 < s.size * c) :
    Calls Tryd.prog 22 #[.string s, .int .i64 c] w fun e w' => e = .panicked [{ v := repeatPanic Tryd.lays105_ren "strings: Repeat output length overflow", recovered := false }] ∧ w' = w := Any.strings_Repeat_overflow Tryd.lays105 s c w hc hs hbig
open Go.RowKit Go.Lib in
theorem Tryd.strings_Repeat (s : ByteArray) (c : Nat) (w : World) (hc : c ≤ 9223372036854775807) (hlen : s.size * c ≤ 140737488355328) :
    Calls Tryd.prog 22 #[.string s, .int .i64 c] w fun e w' => e = .returned (.string ⟨(Lib.repeatL s.data.toList c).toArray⟩) ∧ Below w.heap.size w w' := Any.strings_Repeat Tryd.lays105 Tryd.Builder_Extra_105 s c w hc hlen
def Tryd.lays260_ren : Go.Shelf.Ren := ⟨fun | 260 => 92 | n => n, fun | 9 => 9 | 21 => 21 | 3 => 3 | 4 => 4 | 5 => 5 | 119 => 158 | 0 => 0 | 46 => 72 | 139 => 161 | 138 => 160 | n => n, fun | 3 => 1 | 4 => 2 | n => n⟩
theorem Tryd.lays260 : Go.Proofs.Lays.n260 Tryd.prog Tryd.lays260_ren := {
  mixed := by kernel_rfl
  f260 := Tryd.func92.trans (congrArg some (by kernel_rfl))
  t0 := Tryd.underlying0
  a0 := Tryd.isAgg0
  z0 := Tryd.sizeOf0
  v0 := Tryd.zeroValue0
  t3 := Tryd.underlying3
  a3 := Tryd.isAgg3
  z3 := Tryd.sizeOf3
  v3 := Tryd.zeroValue3
  t4 := Tryd.underlying4
  a4 := Tryd.isAgg4
  z4 := Tryd.sizeOf4
  v4 := Tryd.zeroValue4
  t5 := Tryd.underlying5
  a5 := Tryd.isAgg5
  z5 := Tryd.sizeOf5
  v5 := Tryd.zeroValue5
  t9 := Tryd.underlying9
  a9 := Tryd.isAgg9
  z9 := Tryd.sizeOf9
  v9 := Tryd.zeroValue9
  t21 := Tryd.underlying21
  a21 := Tryd.isAgg21
  z21 := Tryd.sizeOf21
  v21 := Tryd.zeroValue21
  t46 := Tryd.underlying72
  a46 := Tryd.isAgg72
  z46 := Tryd.sizeOf72
  v46 := Tryd.zeroValue72
  t119 := Tryd.underlying158
  a119 := Tryd.isAgg158
  z119 := Tryd.sizeOf158
  t138 := Tryd.underlying160
  a138 := Tryd.isAgg160
  z138 := Tryd.sizeOf160
  v138 := Tryd.zeroValue160
  t139 := Tryd.underlying161
  a139 := Tryd.isAgg161
  z139 := Tryd.sizeOf161
  v139 := Tryd.zeroValue161
  g3 := by kernel_rfl
  g4 := by kernel_rfl }
open Go.RowKit Go.Lib in
theorem Tryd.utf8_decodeRuneInStringSlow (s : ByteArray) (w : World) (hT : Lib.Utf8Tabs 1 2 w) :
    Calls Tryd.prog 92 #[.string s] w fun e w' => e = .returned (.tuple #[.int .i32 (Lib.decodeGo s).1, .int .i64 (Lib.decodeGo s).2]) ∧ Below w.heap.size w w' := Any.utf8_decodeRuneInStringSlow Tryd.lays260 s w hT
open Go.RowKit Go.Lib in
theorem Tryd.utf8_DecodeRuneInString (s : ByteArray) (w : World) (hT : Lib.Utf8Tabs 1 2 w) :
    Calls Tryd.prog 88 #[.string s] w fun e w' => e = .returned (.tuple #[.int .i32 (Lib.decodeGo s).1, .int .i64 (Lib.decodeGo s).2]) ∧ Below w.heap.size w w' := Any.utf8_DecodeRuneInString Tryd.lays197 s w hT
def Tryd.lays271_ren : Go.Shelf.Ren := ⟨fun | 271 => 102 | 120 => 104 | 197 => 88 | 260 => 92 | n => n, fun | 9 => 9 | 21 => 21 | 3 => 3 | 4 => 4 | 5 => 5 | 105 => 148 | 119 => 158 | 0 => 0 | 46 => 72 | 139 => 161 | 138 => 160 | n => n, fun | 3 => 1 | 4 => 2 | n => n⟩
theorem Tryd.lays271 : Go.Proofs.Lays.n271 Tryd.prog Tryd.lays271_ren := {
  mixed := by kernel_rfl
  f120 := Tryd.func104.trans (congrArg some (by kernel_rfl))
  f197 := Tryd.func88.trans (congrArg some (by kernel_rfl))
  f260 := Tryd.func92.trans (congrArg some (by kernel_rfl))
  f271 := Tryd.func102.trans (congrArg some (by kernel_rfl))
  t0 := Tryd.underlying0
  a0 := Tryd.isAgg0
  z0 := Tryd.sizeOf0
  v0 := Tryd.zeroValue0
  t3 := Tryd.underlying3
  a3 := Tryd.isAgg3
  z3 := Tryd.sizeOf3
  v3 := Tryd.zeroValue3
  t4 := Tryd.underlying4
  a4 := Tryd.isAgg4
  z4 := Tryd.sizeOf4
  v4 := Tryd.zeroValue4
  t5 := Tryd.underlying5
  a5 := Tryd.isAgg5
  z5 := Tryd.sizeOf5
  v5 := Tryd.zeroValue5
  t9 := Tryd.underlying9
  a9 := Tryd.isAgg9
  z9 := Tryd.sizeOf9
  v9 := Tryd.zeroValue9
  t21 := Tryd.underlying21
  a21 := Tryd.isAgg21
  z21 := Tryd.sizeOf21
  v21 := Tryd.zeroValue21
  t46 := Tryd.underlying72
  a46 := Tryd.isAgg72
  z46 := Tryd.sizeOf72
  v46 := Tryd.zeroValue72
  t105 := Tryd.underlying148
  a105 := Tryd.isAgg148
  z105 := Tryd.sizeOf148
  v105 := Tryd.zeroValue148
  t119 := Tryd.underlying158
  a119 := Tryd.isAgg158
  z119 := Tryd.sizeOf158
  t138 := Tryd.underlying160
  a138 := Tryd.isAgg160
  z138 := Tryd.sizeOf160
  v138 := Tryd.zeroValue160
  t139 := Tryd.underlying161
  a139 := Tryd.isAgg161
  z139 := Tryd.sizeOf161
  v139 := Tryd.zeroValue161
  g3 := by kernel_rfl
  g4 := by kernel_rfl }
open Go.RowKit Go.Lib in
theorem Tryd.utf8_DecodeLastRuneInString (s : ByteArray) (w : World) (hs : s.size ≤ 9223372036854775807) (hT : Lib.Utf8Tabs 1 2 w) :
    Calls Tryd.prog 102 #[.string s] w fun e w' => e = .returned (.tuple #[.int .i32 (Lib.decodeLastL s.data.toList).1, .int .i64 (Lib.decodeLastL s.data.toList).2]) ∧ Below w.heap.size w w' := Any.utf8_DecodeLastRuneInString Tryd.lays271 s w hs hT
def Tryd.lays108_ren : Go.Shelf.Ren := ⟨fun | 108 => 127 | n => n, fun | 28 => 90 | 3 => 3 | 0 => 0 | 4 => 4 | n => n, fun | n => n⟩
theorem Tryd.lays108 : Go.Proofs.Lays.n108 Tryd.prog Tryd.lays108_ren := {
  mixed := by kernel_rfl
  f108 := Tryd.func127.trans (congrArg some (by kernel_rfl))
  t0 := Tryd.underlying0
  a0 := Tryd.isAgg0
  z0 := Tryd.sizeOf0
  v0 := Tryd.zeroValue0
  t3 := Tryd.underlying3
  a3 := Tryd.isAgg3
  z3 := Tryd.sizeOf3
  v3 := Tryd.zeroValue3
  t4 := Tryd.underlying4
  a4 := Tryd.isAgg4
  z4 := Tryd.sizeOf4
  v4 := Tryd.zeroValue4
  t28 := Tryd.underlying90
  a28 := Tryd.isAgg90
  z28 := Tryd.sizeOf90
  v28 := Tryd.zeroValue90 }
open Go.Lib in
theorem Tryd.slices_Index_int (b off n c : Nat) (zs : List Int) (x : Int) (w : World) (hz : n ≤ zs.length) (hbig : n ≤ 9223372036854775807) (hc : ∀ j, j < zs.length → w.cell? ⟨b, off + j, none⟩ = some (.int .i64 (zs.getD j 0))) :
    Calls Tryd.prog 127 #[.slice (some ⟨b, off, none⟩) n c, .int .i64 x] w fun e w' => e = .returned (.int .i64 (Lib.idxOf (zs.take n) x)) ∧ w' = w := Any.slices_Index_int Tryd.lays108 b off n c zs x w hz hbig hc
open Go.Lib in
theorem Tryd.slices_Index_int_empty (a : Option Addr) (c : Nat) (x : Int) (w : World) :
    Calls Tryd.prog 127 #[.slice a 0 c, .int .i64 x] w fun e w' => e = .returned (.int .i64 (Lib.idxOf [] x)) ∧ w' = w := Any.slices_Index_int_empty Tryd.lays108 a c x w
def Tryd.lays107_ren : Go.Shelf.Ren := ⟨fun | 107 => 126 | 108 => 127 | n => n, fun | 28 => 90 | 3 => 3 | 4 => 4 | 0 => 0 | n => n, fun | n => n⟩
theorem Tryd.lays107 : Go.Proofs.Lays.n107 Tryd.prog Tryd.lays107_ren := {
  mixed := by kernel_rfl
  f107 := Tryd.func126.trans (congrArg some (by kernel_rfl))
  f108 := Tryd.func127.trans (congrArg some (by kernel_rfl))
  t0 := Tryd.underlying0
  a0 := Tryd.isAgg0
  z0 := Tryd.sizeOf0
  v0 := Tryd.zeroValue0
  t3 := Tryd.underlying3
  a3 := Tryd.isAgg3
  z3 := Tryd.sizeOf3
  v3 := Tryd.zeroValue3
  t4 := Tryd.underlying4
  a4 := Tryd.isAgg4
  z4 := Tryd.sizeOf4
  v4 := Tryd.zeroValue4
  t28 := Tryd.underlying90
  a28 := Tryd.isAgg90
  z28 := Tryd.sizeOf90
  v28 := Tryd.zeroValue90 }
open Go.Lib in
theorem Tryd.slices_Contains_int (b off n c : Nat) (zs : List Int) (x : Int) (w : World) (hz : n ≤ zs.length) (hbig : n ≤ 9223372036854775807) (hc : ∀ j, j < zs.length → w.cell? ⟨b, off + j, none⟩ = some (.int .i64 (zs.getD j 0))) :
    Calls Tryd.prog 126 #[.slice (some ⟨b, off, none⟩) n c, .int .i64 x] w fun e w' => e = .returned (.bool ((zs.take n).contains x)) ∧ w' = w := Any.slices_Contains_int Tryd.lays107 b off n c zs x w hz hbig hc
open Go.Lib in
theorem Tryd.slices_Contains_int_empty (a : Option Addr) (c : Nat) (x : Int) (w : World) :
    Calls Tryd.prog 126 #[.slice a 0 c, .int .i64 x] w fun e w' => e = .returned (.bool false) ∧ w' = w := Any.slices_Contains_int_empty Tryd.lays107 a c x w
end Go.Proofs
end

section
/- Package variables that hold rows of numbers, as the rows tell; a law whose function reads them. -/
namespace Go.Proofs.YthcngbbceahdlaaDoor.V
open Go Go.RowKit
set_option linter.unusedVariables false
set_option linter.unusedSimpArgs false
theorem laid_ints {P : Program} {w : World} {nm : String} {g t e n base fuel : Nat} {k : IntKind} {l : List Int} {cs : Array Value} {H : Type} {enc : TypeId × Value → H} {spare : Nat → Bool} {held : Bool} {ps : List MemPlace} (hg : P.globalNamed nm = some g) (hu : P.underlying t = some (.array n e)) (hi : P.underlying e = some (.int k)) (hc : P.cellsOf e = 1) (hv : w.var? P nm = some cs)
    (hd : DataW.trod enc P w base spare held fuel t cs.toList = some (.agg (l.map fun x => .lit (.int k x)), ps)) : ∀ (j : Nat) x, l[j]? = some x → w.cell? ⟨g, j, none⟩ = some (.int k x) := by
  obtain ⟨xs, m, rfl, hx, hl, hn, hel⟩ := DataW.trod_array hu hd
  simp only [Prod.mk.injEq, DataW.agg.injEq] at hx
  intro j x hj
  have h1 : (xs.map (·.1))[j]? = some (.lit (.int k x)) := by rw [← hx.1, List.getElem?_map, hj]; rfl
  rw [List.getElem?_map, Option.map_eq_some_iff] at h1
  obtain ⟨y, hy, hy2⟩ := h1
  have hjn : j < n := by rw [← hn]; exact (List.getElem?_eq_some_iff.1 hy).1
  have h2 := hel j hjn
  rw [hy, hc] at h2
  obtain ⟨q, hq, hq2, _⟩ := DataW.trod_int hi h2
  rw [hq2] at hy2
  simp only [DataW.lit.injEq, Lit.int.injEq, true_and] at hy2
  subst hy2
  have h3 : cs.toList[j]? = some (.int k q) := by
    have h4 : ((cs.toList.drop (j * 1)).take 1)[0]? = some (.int k q) := by rw [hq]; rfl
    simpa using h4
  rw [World.var?_cell hg hv j]
  simpa using h3
theorem flat_eI (k : IntKind) (l : List Int) : (l.map (eI k)).flatten = l.map (Sc.int k) := by
  induction l with
  | nil => rfl
  | cons x l ih => rw [List.map_cons, List.flatten_cons, ih]; rfl
theorem glrep {w : World} {g : Nat} {k : IntKind} {l : List Int} (h : ∀ (j : Nat) (x : Int), l[j]? = some x → w.cell? ⟨g, j, none⟩ = some (.int k x)) (hne : l ≠ []) : RepD w (fun b => b < w.heap.size) (.ref ((l.map (eI k)).flatten) 0) (.pointer (some ⟨g, 0, none⟩)) := by
  have key : ∀ (j : Nat) (sc : Sc), ((l.map (eI k)).flatten)[j]? = some sc → ∃ x : Int, l[j]? = some x ∧ sc = Sc.int k x := by
    intro j sc hj
    rw [flat_eI, List.getElem?_map, Option.map_eq_some_iff] at hj
    obtain ⟨x, hx, rfl⟩ := hj
    exact ⟨x, hx, rfl⟩
  have hb : g < w.heap.size := by
    cases l with
    | nil => exact absurd rfl hne
    | cons x l => exact cell?_lt (h 0 x rfl)
  refine .ref _ 0 g 0 (fun j => (w.cell? ⟨g, j, none⟩).getD undef) hb (fun j sc hj => ?_) (fun j sc hj => ?_)
  · obtain ⟨x, hx, rfl⟩ := key j sc hj
    rw [Nat.zero_add, h j x hx]; rfl
  · obtain ⟨x, hx, rfl⟩ := key j sc hj
    simp only [h j x hx, Option.getD_some]
    exact .int k x
/-- A law whose function reads package variables, out of what is shown of its function. -/
theorem Fun.lawG {P : Program} {gl : Gl} {f : FuncId} {xs : List Vb} {b : Bool} {vs : List Value} {w : World} (h : Fun P gl f (xs.map Va.b) (.bo b)) (hg : GlOk gl w (fun k => k < w.heap.size)) (hx : AtAll w xs vs) : Calls P f vs.toArray w fun e w1 => e = .returned (.bool b) ∧ Below w.heap.size w w1 := by
  obtain ⟨hl, hg2⟩ := hx.get
  refine (h.2 w (fun k => k < w.heap.size) vs.toArray (fun _ h => h) hg ⟨by simpa using hl, fun j x hj => ?_⟩).mono fun e w1 => ?_
  · rw [List.getElem?_map, Option.map_eq_some_iff] at hj
    obtain ⟨y, hj, rfl⟩ := hj
    have := hg2 j y hj
    show At w y _
    simpa [Array.getD_eq_getD_getElem?, List.getD] using this
  · rintro ⟨u, S1, rfl, _, _, hr, hb⟩
    refine ⟨?_, hb⟩
    cases hr with
    | d _ _ h => cases h with | bool _ => rfl
end Go.Proofs.YthcngbbceahdlaaDoor.V
end

section
/- A range over a function whose iterator turns blocks of its own: the statement, by what the iterator says and what a round keeps. -/
namespace Go.Proofs.YthcngbbceahdlaaDoor.V
open Go Go.RowKit
set_option linter.unusedVariables false
set_option linter.unusedSimpArgs false
/-- From one world to a later one: blocks of S lie as they lay. -/
structure Kp (S : Nat → Prop) (w w1 : World) : Prop where
  os : w1.os = w.os
  tape : w1.tape = w.tape
  output : w1.output = w.output
  size : w.heap.size ≤ w1.heap.size
  block : ∀ b, S b → b < w.heap.size → w1.heap[b]? = w.heap[b]?
theorem Kp.refl (S : Nat → Prop) (w : World) : Kp S w w := ⟨rfl, rfl, rfl, Nat.le_refl _, fun _ _ _ => rfl⟩
theorem Kp.trans {S : Nat → Prop} {w w1 w2 : World} (h : Kp S w w1) (h2 : Kp S w1 w2) : Kp S w w2 :=
  ⟨h2.os.trans h.os, h2.tape.trans h.tape, h2.output.trans h.output, Nat.le_trans h.size h2.size, fun b hb hl => (h2.block b hb (Nat.lt_of_lt_of_le hl h.size)).trans (h.block b hb hl)⟩
theorem Kp.mono {S S1 : Nat → Prop} {w w1 : World} (h : Kp S w w1) (hs : ∀ b, S1 b → b < w.heap.size → S b) : Kp S1 w w1 := ⟨h.os, h.tape, h.output, h.size, fun b hb hl => h.block b (hs b hb hl) hl⟩
theorem Kp.of_below {S : Nat → Prop} {w w1 : World} (h : Below w.heap.size w w1) : Kp S w w1 := ⟨h.os, h.tape, h.output, h.size, fun b _ hl => h.block b hl⟩
theorem Kp.below {S : Nat → Prop} {B : Nat} {w w1 : World} (h : Kp S w w1) (hs : ∀ b, b < B → S b) (hB : B ≤ w.heap.size) : Below B w w1 := ⟨h.os, h.tape, h.output, h.size, fun b hb => h.block b (hs b hb) (Nat.lt_of_lt_of_le hb hB)⟩
theorem Kp.alloc (S : Nat → Prop) (w : World) (o : Obj) : Kp S w (w.alloc o) := ⟨rfl, rfl, rfl, by simp, fun b _ hl => Below.heap_alloc w o b hl⟩
theorem Kp.putObj {S : Nat → Prop} (w : World) (l : Nat) (o : Obj) (h : ¬ S l) : Kp S w (w.putObj l o) := ⟨rfl, rfl, rfl, by rw [World.putObj_size]; exact Nat.le_refl _, fun b hb _ => World.putObj_heap_other (by rintro rfl; exact h hb)⟩
theorem Kp.setCell {S : Nat → Prop} (w : World) (b o : Nat) (v : Value) (h : ¬ S b) : Kp S w (w.setCell ⟨b, o, none⟩ v) := by
  refine ⟨rfl, rfl, rfl, by show w.heap.size ≤ (w.heap.modify _ _).size; rw [Array.size_modify]; exact Nat.le_refl _, fun k hk hl => ?_⟩
  exact Below.heap_setCell w ⟨b, o, none⟩ v k (by rintro rfl; exact h hk)
/-- What an iterator says: it hands over just these, one by one; between two rounds it turns the blocks of T alone, and lays new ones. -/
def Hands (P : Program) (k : FuncId) (lb : Array Value) (T : Nat → Prop) (xs : List Str) (enc : Str → Array Value) (w : World) : Prop :=
  ∀ (l : Nat) (J Jx : List Str → World → Prop) (W : World), Kp (fun _ => True) w W →
    (∀ pre W W', J pre W → Kp (fun b => ¬ T b) W W' → J pre W') →
    (∀ pre W W', Jx pre W → Kp (fun b => ¬ T b) W W' → Jx pre W') →
    (∀ pre x W, J pre W → pre ++ [x] <+: xs → YieldAt Fence.wide 0 P l (enc x) W fun e W' =>
      (e = .returned (.bool true) ∧ J (pre ++ [x]) W' ∧ Kp T W W') ∨ (e = .returned (.bool false) ∧ Jx (pre ++ [x]) W')) →
    J [] W →
    Calls P k (#[.func (.yield l) #[] #[]] ++ lb) W fun e W' => (∃ v, e = .returned v) ∧ (J xs W' ∨ ∃ pre, pre <+: xs ∧ Jx pre W')
/-- How a round's body may be left. -/
def handsPost (B : Nat) (I : List Str → World → Prop) (Ix : Code → List Str → World → Prop) (xs : List Str) (W : World) : Exit → Act → World → Prop
  | .normal, _, W' => Kp (fun b => B ≤ b) W W' ∧ I xs W'
  | .ret, _, W' => Kp (fun b => B ≤ b) W W' ∧ Ix .ret xs W'
  | .exit id, _, W' => Kp (fun b => B ≤ b) W W' ∧ Ix (.exit id) xs W'
  | _, _, _ => False
variable {P : Program}
theorem yieldAt_any {m n : Nat} {l : Nat} {args : Array Value} {W : World} {R : Ending → World → Prop} (h : YieldAt Fence.wide m P l args W R) : YieldAt Fence.wide n P l args W R := by
  obtain ⟨fn, tmps, assign, body, h1, h2, h3⟩ := h
  exact ⟨fn, tmps, assign, body, h1, h2, fun c cs _ => h3 c cs (room_wide _)⟩
set_option maxHeartbeats 1000000 in
/-- **The statement.** B: the heap's size where the loop begins, less what is the iterator's own: its blocks T lie from B on. -/
theorem wp_range {g : Operand} {ps : Array Tmp} {assign body : Code} {Q : Exit → Act → World → Prop} {a : Act} {w : World} {n B : Nat}
    {gf : Nat} {lb : Array Value} (hg : a.eval g = .func (.func gf) #[] lb) (eg : ∀ args w, (callFunc gf args).run P w = .ok (.enter gf args) w)
    {T : Nat → Prop} {xs : List Str} {enc : Str → Array Value} (hit : Hands P gf lb T xs enc w) (hT : ∀ b, T b → B ≤ b ∧ b < w.heap.size) (hps : ∀ x, (enc x).size = ps.size)
    (I : List Str → World → Prop) (Ix : Code → List Str → World → Prop)
    (hI : ∀ pre W W', I pre W → Kp (fun b => b < B) W W' → I pre W')
    (hIx : ∀ c pre W W', Ix c pre W → Kp (fun b => b < B) W W' → Ix c pre W')
    (hBw : B ≤ w.heap.size) (h0 : I [] w) (a₁ : Str → Act)
    (hassign : ∀ (l : Nat) (x : Str) (W : World) (K : Act → World → Prop), K (a₁ x) W →
      assign.wpIn (Fence.wide.inRound l) n P (Exit.then K (fun _ _ _ => False)) { tmps := (ps.zip (enc x)).foldl (fun t (p, v) => t.setIfInBounds p v) a.tmps, defers := [] } W)
    (hbody : ∀ (l : Nat) (pre : List Str) (x : Str) (W : World), I pre W → B ≤ W.heap.size → pre ++ [x] <+: xs → body.wpIn (Fence.wide.inRound l) n P (handsPost B I Ix (pre ++ [x]) W) (a₁ x) W)
    (hdone : ∀ (D : Nat) (W : World), I xs W → B ≤ D → W.heap[D]? = some (.deferred (some [])) → Q .normal { a with defers := { target := .collected D, args := #[] } :: a.defers } W)
    (hstop : ∀ (D : Nat) (c : Code) (pre : List Str) (W : World), Ix c pre W → pre <+: xs → B ≤ D → W.heap[D]? = some (.deferred (some [])) → c.wpIn Fence.wide n P Q { a with defers := { target := .collected D, args := #[] } :: a.defers } W) :
    (Code.rangeFunc g ps assign body).wpIn Fence.wide n P Q a w := by
  refine wpIn_rangeFunc ?_
  intro fn hfn
  obtain ⟨rec, hrec⟩ : ∃ rec : LoopState → Option Code → Loop, rec = fun st pe => { state := st, pending := pe, fn, tmps := a.tmps, params := ps, assign, body, defers := w.heap.size } := ⟨_, rfl⟩
  obtain ⟨W1, hW1⟩ : ∃ W1, (w.alloc (.deferred (some []))).alloc (.loop (rec .ready none)) = W1 := ⟨_, rfl⟩
  have k1 : Kp (fun _ => True) w W1 := by rw [← hW1]; exact (Kp.alloc _ _ _).trans (Kp.alloc _ _ _)
  have s1 : W1.heap.size = w.heap.size + 2 := by rw [← hW1]; simp
  have l1 : W1.heap[w.heap.size + 1]? = some (.loop (rec .ready none)) := by
    rw [← hW1]; have := World.alloc_heap_new (w.alloc (.deferred (some []))) (.loop (rec .ready none)); rwa [World.size_alloc] at this
  have d1 : W1.heap[w.heap.size]? = some (.deferred (some [])) := by
    rw [← hW1]; exact (Below.heap_alloc _ _ _ (by simp)).trans (World.alloc_heap_new w _)
  have i1 : I [] W1 := hI _ _ _ h0 (k1.mono fun _ _ _ => trivial)
  refine ⟨w.heap.size + 1, [{ target := .collected w.heap.size, args := #[] }], W1, { target := .fn (.func gf) lb, args := #[.func (.yield (w.heap.size + 1)) #[] #[]] }, W1, gf, #[.func (.yield (w.heap.size + 1)) #[] #[]] ++ lb, W1, ?_, ?_, ?_, ?_, (fun h => absurd h (by decide)), ?_⟩
  · rw [← hW1, hrec]; exact run_enterLoop_outer _ _ _ _ _
  · simp only [resolve, hg]
    simp [go_sem]
  · intro f' hf'; trivial
  · simp [invoke, go_sem, eg]
  · rw [callsIn_wide]
    have pb : ∀ (W : World) (o : Obj), Kp (fun b => b < B) W (W.putObj (w.heap.size + 1) o) := fun W o => .putObj _ _ _ (by omega)
    have nT : ∀ b, w.heap.size ≤ b → ¬ T b := fun b hb ht => by have := (hT b ht).2; omega
    have sub : ∀ b, b < B → ¬ T b := fun b hb ht => by have := (hT b ht).1; omega
    refine (hit (w.heap.size + 1)
      (fun pre W => I pre W ∧ W.heap[w.heap.size + 1]? = some (.loop (rec .ready none)) ∧ W.heap[w.heap.size]? = some (.deferred (some [])))
      (fun pre W => ∃ c, Ix c pre W ∧ W.heap[w.heap.size + 1]? = some (.loop (rec .done (some c))) ∧ W.heap[w.heap.size]? = some (.deferred (some [])))
      W1 k1 ?_ ?_ ?_ ⟨i1, l1, d1⟩).mono ?_
    · rintro pre W W' ⟨h1, h2, h3⟩ hk
      have q2 := (Array.getElem?_eq_some_iff.1 h2).1
      exact ⟨hI _ _ _ h1 (hk.mono fun b hb _ => sub b hb), (hk.block _ (nT _ (by omega)) q2).trans h2, (hk.block _ (nT _ (Nat.le_refl _)) (by omega)).trans h3⟩
    · rintro pre W W' ⟨c, h1, h2, h3⟩ hk
      have q2 := (Array.getElem?_eq_some_iff.1 h2).1
      exact ⟨c, hIx _ _ _ _ h1 (hk.mono fun b hb _ => sub b hb), (hk.block _ (nT _ (by omega)) q2).trans h2, (hk.block _ (nT _ (Nat.le_refl _)) (by omega)).trans h3⟩
    · rintro pre x W ⟨hi, hl, hk⟩ hpre
      have hlt : w.heap.size + 1 < W.heap.size := (Array.getElem?_eq_some_iff.1 hl).1
      have hy := run_yield (P := P) (args := enc x) hl (by rw [hrec]; exact hps x)
      rw [hrec] at hy
      refine yieldAt_any (m := n) ⟨fn, _, assign, body, hy, roundIn_of_wpIn hfn (hassign _ x W _ ⟨_, run_beginRound hl (by rw [hrec]), ?_⟩)⟩
      obtain ⟨W2, hW2⟩ : ∃ W2, W.putObj (w.heap.size + 1) (.loop { rec .ready none with state := .busy }) = W2 := ⟨_, rfl⟩
      have p2 : Kp (fun b => b ≠ w.heap.size + 1) W W2 := by rw [← hW2]; exact .putObj _ _ _ (fun h => h rfl)
      have z2 : W2.heap.size = W.heap.size := by rw [← hW2]; exact World.putObj_size
      have l2 : W2.heap[w.heap.size + 1]? = some (.loop { rec .ready none with state := .busy }) := by rw [← hW2]; exact World.putObj_heap_same hlt
      have d2 : W2.heap[w.heap.size]? = some (.deferred (some [])) := (p2.block _ (by omega) (by omega)).trans hk
      have i2 : I pre W2 := hI _ _ _ hi (p2.mono fun b hb _ => by omega)
      rw [hW2]
      refine wpIn_mono (hbody _ pre x _ i2 (by omega) hpre) ?_
      have fin : ∀ (jump : Option Code) (W3 : World), Kp (fun b => B ≤ b) W2 W3 →
          (Instr.endRound (w.heap.size + 1) jump).run P W3 = .ok (.bool jump.isNone) (W3.putObj (w.heap.size + 1) (.loop (rec (if jump.isNone then .ready else .done) jump))) ∧
          (W3.putObj (w.heap.size + 1) (.loop (rec (if jump.isNone then .ready else .done) jump))).heap[w.heap.size + 1]? = some (.loop (rec (if jump.isNone then .ready else .done) jump)) ∧
          (W3.putObj (w.heap.size + 1) (.loop (rec (if jump.isNone then .ready else .done) jump))).heap[w.heap.size]? = some (.deferred (some [])) ∧
          Kp T W (W3.putObj (w.heap.size + 1) (.loop (rec (if jump.isNone then .ready else .done) jump))) := fun jump W3 hk3 => by
        have hl3 := (hk3.block _ (by omega) (by omega)).trans l2
        have hd3 := (hk3.block _ hBw (by omega)).trans d2
        have := run_endRound (P := P) jump hl3
        rw [hrec] at this ⊢
        refine ⟨this, World.putObj_heap_same (Array.getElem?_eq_some_iff.1 hl3).1, (World.putObj_heap_other (by omega)).trans hd3, ((p2.mono fun b hb _ => ?_).trans (hk3.mono fun b hb _ => (hT b hb).1)).trans (.putObj _ _ _ fun hb => ?_)⟩
        · have := (hT b hb).2; omega
        · have := (hT _ hb).2; omega
      rintro e a3 W3 hp
      cases e with
      | normal =>
        obtain ⟨hk3, hi3⟩ := hp
        obtain ⟨hr, hl4, hk4, ht4⟩ := fin none W3 hk3
        exact ⟨_, _, hr, .inl ⟨rfl, ⟨hI _ _ _ hi3 (pb _ _), hl4, hk4⟩, ht4⟩⟩
      | ret =>
        obtain ⟨hk3, hi3⟩ := hp
        obtain ⟨hr, hl4, hk4, ht4⟩ := fin (some .ret) W3 hk3
        exact ⟨_, _, hr, .inr ⟨rfl, .ret, hIx _ _ _ _ hi3 (pb _ _), hl4, hk4⟩⟩
      | exit id =>
        obtain ⟨hk3, hi3⟩ := hp
        obtain ⟨hr, hl4, hk4, ht4⟩ := fin (some (.exit id)) W3 hk3
        exact ⟨_, _, hr, .inr ⟨rfl, .exit id, hIx _ _ _ _ hi3 (pb _ _), hl4, hk4⟩⟩
      | goto t => exact hp.elim
      | panic ch => exact hp.elim
      | outgrown => exact hp.elim
    · rintro e W2 ⟨⟨v, rfl⟩, (⟨hi, hl, hk⟩ | ⟨pre, hp, c, hi, hl, hk⟩)⟩
      · have := run_endLoop (P := P) hl (by rw [hrec]; simp)
        rw [hrec] at this
        exact ⟨none, _, this, hdone _ _ (hI _ _ _ hi (pb _ _)) hBw ((World.putObj_heap_other (by omega)).trans hk)⟩
      · have := run_endLoop (P := P) hl (by rw [hrec]; simp)
        rw [hrec] at this
        exact ⟨some c, _, this, hstop _ c pre _ (hIx _ _ _ _ hi (pb _ _)) hp hBw ((World.putObj_heap_other (by omega)).trans hk)⟩
/-- A contract of one's own typing whose function calls printed ones. -/
theorem Fun.flatG {gl : Gl} {f : FuncId} {xs : List Va} {y : Va} {v : Value} (hc : callable P f = true) (hy : ∀ w S, RepV w S (fun _ => none) (fun _ => none) y v) (h : ∀ w (S : Nat → Prop) vs, (∀ k, S k → k < w.heap.size) → GlOk gl w S → RepA w S xs vs → Calls P f vs w fun e w1 => e = .returned v ∧ Below w.heap.size w w1) : Fun P gl f xs y := by
  refine ⟨hc, fun w S vs hS hgl hA => (h w S vs hS hgl hA).mono fun e w1 => ?_⟩
  rintro ⟨rfl, hb⟩
  exact ⟨v, S, rfl, fun _ h => h, fun k hk => ⟨.inl hk, Nat.lt_of_lt_of_le (hS k hk) hb.size⟩, hy _ _, hb⟩
/-- A new row, as one that nobody changes. -/
theorem FunO.frozen {gl : Gl} {f : FuncId} {xs : List Va} {st : Nat} {rows : List (List Sc)} (h : FunO P gl f xs st rows) : Fun P gl f xs (.b (.s (.d (.sl rows)))) := by
  refine ⟨h.1, fun w S vs hS hgl hA => (h.2 w S vs hS hgl hA).mono fun e w1 => ?_⟩
  rintro ⟨u, S1, ρ1, rfl, k1, k2, k3, k5, k4⟩
  have hbk := k3.blk 0 ⟨st, rows.map (fun r => r.map Lc.d), false⟩ (by simp [updG])
  refine ⟨u, fun k => S1 k ∨ ρ1 0 = some k, rfl, fun k hk => .inl (k1 k hk), fun k hk => ?_, ?_, k4⟩
  · rcases hk with hk | hk
    · exact k2 k hk
    · exact ⟨.inr (k3.own 0 k hk), k3.bound hk⟩
  · refine .d _ _ ?_
    cases k5 with
    | own _ _ e0 _ hG0 hn hone hh =>
      simp only [updG, if_true, Option.some.injEq] at hG0
      subst hG0
      obtain ⟨a, c, rfl, hd⟩ := hh (by simp)
      have hrl : ∀ r, r ∈ rows → r.length = st := fun r hr => by have := hbk.1 (r.map Lc.d) (List.mem_map.2 ⟨r, hr, rfl⟩); simpa using this
      rcases hd with ⟨h0, rfl⟩ | ⟨b, arr, ty, fz, h1, rfl, h3, h4, h5⟩
      · obtain rfl : rows = [] := List.length_eq_zero_iff.1 h0
        exact .sl [] a 0 0 0 0 (fun _ => undef) (by simp) (fun _ => rfl) (fun r hr => by cases hr) (fun h => absurd rfl h) (fun j sc h => by simp at h) (fun j sc h => by simp at h)
      · rcases hbk.2 with ⟨g1, _⟩ | ⟨b1, arr1, ty1, fz1, g1, g2, g3, g4, g5⟩
        · rw [h1] at g1; cases g1
        · rw [h1] at g1; cases g1
          rw [h4] at g3; cases g3
          have key : ∀ (j : Nat) sc, rows.flatten[j]? = some sc → ∃ v, arr[j]? = some v ∧ RepD w1 S1 sc v := by
            intro j sc hj
            obtain ⟨v, q1, q2⟩ := g5 j (.d sc) (by rw [map_d_flatten, List.getElem?_map, hj]; rfl)
            cases q2 with | d _ _ q2 => exact ⟨v, q1, q2⟩
          refine .sl rows _ c st b 0 (fun j => arr.getD j undef) h3 (fun h => by cases h) hrl (fun _ => ⟨rfl, .inr h1⟩) (fun j sc hj => ?_) (fun j sc hj => ?_)
          · obtain ⟨v, q1, q2⟩ := key j sc hj
            rw [Nat.zero_add]
            simp [World.cell?, h4, q1, Array.getD_eq_getD_getElem?]
          · obtain ⟨v, q1, q2⟩ := key j sc hj
            rw [Array.getD_eq_getD_getElem?, q1]
            exact q2.mono (fun k hk => .inl hk) (fun _ _ => rfl)
theorem GlOk.later {gl : Gl} {w w1 : World} {S : Nat → Prop} (hS : ∀ k, S k → k < w.heap.size) (hG : GlOk gl w S) (hb : Below w.heap.size w w1) : GlOk gl w1 S := fun g cs hg => (hG g cs hg).mono (fun _ h => h) (fun k hk => hb.block k (hS k hk))
theorem Fun.boolAt {gl : Gl} {f : FuncId} {xs : List Va} {b : Bool} {w w1 : World} {S : Nat → Prop} {vs : Array Value} (h : Fun P gl f xs (.bo b)) (hS : ∀ k, S k → k < w.heap.size) (hG : GlOk gl w S) (hb : Below w.heap.size w w1) (hA : RepA w1 S xs vs) : Calls P f vs w1 fun e w' => e = .returned (.bool b) ∧ Below w1.heap.size w1 w' :=
  (h.2 w1 S vs (fun k hk => Nat.lt_of_lt_of_le (hS k hk) hb.size) (hG.later hS hb) hA).mono fun e w' => by
    rintro ⟨u, S1, rfl, _, _, hr, hb⟩
    refine ⟨?_, hb⟩
    cases hr with
    | d _ _ h => cases h with | bool _ => rfl
theorem repA_str {w : World} {S : Nat → Prop} (x : List UInt8) : RepA w S [.b (.s (.d (.str x)))] #[strV x] := by
  refine ⟨rfl, fun j y hj => ?_⟩
  cases j with
  | zero => simp only [List.getElem?_cons_zero, Option.some.injEq] at hj; subst hj; exact .d _ _ (.str _)
  | succ j => simp at hj
/-- A package variable that holds a type's handle. -/
theorem ifa_one {w : World} {S : Nat → Prop} {t : TypeId} {x : Sc} {u : Value} (h : RepD w S (.ifc t true [x]) u) : ∃ v, u = .iface t (.agg #[v]) ∧ RepD w S x v := by
  cases h with
  | ifa _ _ vs hl hu =>
    obtain ⟨vs⟩ := vs
    match vs, hl with
    | [v], _ => exact ⟨v, rfl, hu 0 x rfl⟩
theorem ifa_two {w : World} {S : Nat → Prop} {t : TypeId} {x y : Sc} {u : Value} (h : RepD w S (.ifc t true [x, y]) u) : ∃ v v2, u = .iface t (.agg #[v, v2]) ∧ RepD w S x v ∧ RepD w S y v2 := by
  cases h with
  | ifa _ _ vs hl hu =>
    obtain ⟨vs⟩ := vs
    match vs, hl with
    | [v, v2], _ => exact ⟨v, v2, rfl, hu 0 x rfl, hu 1 y rfl⟩
theorem ifa_none {w : World} {S : Nat → Prop} {t : TypeId} {u : Value} (h : RepD w S (.ifc t true []) u) : u = .iface t (.agg #[]) := by
  cases h with
  | ifa _ _ vs hl hu =>
    obtain ⟨vs⟩ := vs
    match vs, hl with
    | [], _ => rfl
theorem repD_int {w : World} {S : Nat → Prop} {k : IntKind} {n : Int} {u : Value} (h : RepD w S (.int k n) u) : u = .int k n := by cases h; rfl
theorem gl_handle {gl : Gl} {w : World} {S : Nat → Prop} {g t b o : Nat} (hG : GlOk gl w S) (h : gl g = some [.ifc t true [.z (.hnd b o)]]) : w.cell? ⟨g, 0, none⟩ = some (.iface t (.agg #[.pointer (some ⟨b, o, none⟩)])) := by
  have h1 := hG g _ h
  cases h1 with
  | ref _ _ b1 o1 us hS hcell hu =>
    have h2 := hu 0 _ rfl
    obtain ⟨v, h3, h4⟩ := ifa_one h2
    have h5 := hcell 0 _ rfl
    rw [h3] at h5
    cases h4 with
    | z _ => exact h5
/-- Two plain values, handed back, or handed in. -/
theorem repV_two {w : World} {S : Nat → Prop} {x y : Sc} {u v : Value} (h1 : RepD w S x u) (h2 : RepD w S y v) : RepV w S (fun _ => none) (fun _ => none) (.tup [.s (.d x), .s (.d y)]) (.tuple #[u, v]) := by
  refine ⟨_, rfl, rfl, fun j z hj => ?_⟩
  match j, hj with
  | 0, hj => cases hj; exact .d _ _ h1
  | 1, hj => cases hj; exact .d _ _ h2
theorem repA_two {w : World} {S : Nat → Prop} {x y : Va} {u v : Value} (h1 : RepV w S (fun _ => none) (fun _ => none) x u) (h2 : RepV w S (fun _ => none) (fun _ => none) y v) : RepA w S [x, y] #[u, v] := by
  refine ⟨rfl, fun j z hj => ?_⟩
  match j, hj with
  | 0, hj => cases hj; exact h1
  | 1, hj => cases hj; exact h2
theorem Fun.strInt {gl : Gl} {f : FuncId} {xs : List Va} {s : List UInt8} {k : IntKind} {n : Int} {w w1 : World} {S : Nat → Prop} {vs : Array Value} (h : Fun P gl f xs (.tup [.s (.d (.str s)), .s (.d (.int k n))])) (hS : ∀ k, S k → k < w.heap.size) (hG : GlOk gl w S) (hb : Below w.heap.size w w1) (hA : RepA w1 S xs vs) : Calls P f vs w1 fun e w' => e = .returned (.tuple #[strV s, .int k n]) ∧ Below w1.heap.size w1 w' :=
  (h.2 w1 S vs (fun k hk => Nat.lt_of_lt_of_le (hS k hk) hb.size) (hG.later hS hb) hA).mono fun e w' => by
    rintro ⟨u, S1, rfl, _, _, hr, hb⟩
    refine ⟨?_, hb⟩
    obtain ⟨vs, rfl, hl, hr⟩ := hr
    obtain ⟨vs⟩ := vs
    match vs, hl with
    | [a, b], _ =>
      have h1 := hr 0 _ rfl
      have h2 := hr 1 _ rfl
      cases h1 with
      | d _ _ h1 => cases h2 with
        | d _ _ h2 => cases h1; cases h2; rfl
/-- A row of texts that is handed in. -/
theorem rep_strs {w : World} {S : Nat → Prop} {l : List (List UInt8)} {v : Value} (hS : ∀ k, S k → k < w.heap.size) (h : RepV w S (fun _ => none) (fun _ => none) (.b (.s (.d (.sl (l.map eS))))) v) :
    ∃ A b o c, v = .slice A l.length c ∧ (l ≠ [] → A = some ⟨b, o, none⟩) ∧ (∀ (j : Nat) x, l[j]? = some x → w.cell? ⟨b, o + j, none⟩ = some (strV x)) ∧ (l ≠ [] → b < w.heap.size) ∧ l.length ≤ c := by
  have hfl : (l.map eS).flatten = l.map Sc.str := by
    clear h
    induction l with
    | nil => rfl
    | cons x l ih => rw [List.map_cons, List.flatten_cons, ih]; rfl
  cases h with
  | d _ _ h =>
    cases h with
    | sl _ a c st b o us hc h0 hst ha hcell hu =>
      rw [List.length_map] at hc
      refine ⟨a, b, o, c, by rw [List.length_map], fun hne => (ha (by simpa using hne)).1, fun j x hj => ?_, fun hne => hS _ (ha (by simpa using hne)).2, hc⟩
      have hj2 : (l.map eS).flatten[j]? = some (.str x) := by rw [hfl, List.getElem?_map, hj]; rfl
      rw [hcell j _ hj2]
      have := hu j _ hj2
      generalize us j = q at this
      cases this; rfl
end Go.Proofs.YthcngbbceahdlaaDoor.V
end

section
/- The iterator of strings.SplitSeq at a separator of one byte. -/
namespace Go.Proofs.YthcngbbceahdlaaDoor
open Go.RowKit
set_option linter.unusedVariables false
set_option linter.unusedSimpArgs false
open V
attribute [local go_sem] Oper.semAt_some
theorem cell_of_block {w w1 : World} {b : Nat} (h : w1.heap[b]? = w.heap[b]?) (o : Nat) : w1.cell? ⟨b, o, none⟩ = w.cell? ⟨b, o, none⟩ := World.cell?_of_block (w := w) h
theorem frozen_of_block {w w1 : World} {b : Nat} (h : w1.heap[b]? = w.heap[b]?) (o : Nat) : w1.frozen? ⟨b, o, none⟩ = w.frozen? ⟨b, o, none⟩ := by simp [World.frozen?, h]
def strLen (w : World) (a : Addr) : Nat := match w.cell? a with
  | some (.string l) => l.size
  | _ => 0
theorem ext_drop (l : List UInt8) (k : Nat) : (⟨⟨l⟩⟩ : ByteArray).extract k l.length = ⟨⟨l.drop k⟩⟩ := by
  apply ByteArray.ext; simp [List.take_of_length_le]
set_option maxHeartbeats 4000000 in
theorem splitSeq_hands (c : UInt8) (s : List UInt8) (bp bs bz : Nat) (w : World) (hlen : s.length ≤ 140737488355328) (hp : w.cell? ⟨bp, 0, none⟩ = some (strV [c])) (hs : w.cell? ⟨bs, 0, none⟩ = some (strV s)) (hz : w.cell? ⟨bz, 0, none⟩ = some (.int .i64 0)) (hf : w.frozen? ⟨bs, 0, none⟩ = false) (n1 : bp ≠ bs) (n2 : bz ≠ bs) :
    Hands Tryd.prog 90 #[.pointer (some ⟨bp, 0, none⟩), .pointer (some ⟨bs, 0, none⟩), .pointer (some ⟨bz, 0, none⟩)] (fun b => b = bp ∨ b = bs ∨ b = bz) (splitOnB c s) (fun x => #[strV x]) w := by
  intro l J Jx W hW hJ hJx hY h0
  have hp0 := (cell_of_block (hW.block bp trivial (cell?_lt hp)) 0).trans hp
  have hs0 := (cell_of_block (hW.block bs trivial (cell?_lt hs)) 0).trans hs
  have hz0 := (cell_of_block (hW.block bz trivial (cell?_lt hz)) 0).trans hz
  have hf0 := (frozen_of_block (hW.block bs trivial (cell?_lt hs)) 0).trans hf
  refine (callsIn_wide (n := 3)).1 ?_
  refine callsIn_of_wp Tryd.func90 rfl trivial ?_ rfl
  simp only [Tryd.ntmps90, List.size_toArray, List.length_cons, List.length_nil, Nat.reduceAdd, Nat.reduceSub, Array.replicate_succ, Array.replicate_zero, List.push_toArray, List.append_toArray, List.nil_append, List.cons_append]
  have hidx : ∀ (x : List UInt8) (W : World), Calls Tryd.prog 37 #[.string ⟨⟨x⟩⟩, .string ⟨#[c]⟩] W fun e W' => e = .returned (.int .i64 (Lib.indexByte x c)) ∧ W' = W := by
    intro x W
    go_enter Tryd.func37, Tryd.ntmps37
    go_wp2_with (go_at_call 61; refine (Tryd.stringslite_Index_one ⟨⟨x⟩⟩ c W).mono ?_; rintro e W' ⟨rfl, rfl⟩)
    go_ret
    exact ⟨rfl, rfl⟩
  have hsv : ∀ x : List UInt8, strV x = .string ⟨⟨x⟩⟩ := fun _ => rfl
  have hsc : strV [c] = .string ⟨#[c]⟩ := rfl
  rw [hsc] at hp0
  rw [hsv] at hs0
  gi_wp2
  gi_loopw [7] (fun i wr => ∃ (pre : List (List UInt8)) (rest : List UInt8), splitOnB c s = pre ++ splitOnB c rest ∧ rest.length ≤ 140737488355328 ∧ wr.cell? ⟨bs, 0, none⟩ = some (.string ⟨⟨rest⟩⟩) ∧ wr.frozen? ⟨bs, 0, none⟩ = false ∧ wr.cell? ⟨bp, 0, none⟩ = some (.string ⟨#[c]⟩) ∧ wr.cell? ⟨bz, 0, none⟩ = some (.int .i64 0) ∧ J pre wr) (fun i wr => strLen wr ⟨bs, 0, none⟩)
  case atStart =>
    exact ⟨[], s, rfl, hlen, hs0, hf0, hp0, hz0, h0⟩
  case round =>
    obtain ⟨pre, rest, hx, hl, hc1, hc2, hc3, hc4, hJ1⟩ := hrel
    gi_wp2
    refine ⟨trivial, ?_⟩
    refine (callsIn_wide.2 (hidx rest wr)).mono ?_
    rintro e W2 ⟨rfl, rfl⟩
    dsimp only
    by_cases hneg : Lib.indexByte rest c < 0
    · have h1 := splitOnB_none hneg
      obtain ⟨fn, tmps, assign, body, hy, hR⟩ := yieldAt_any (n := 2) (hY pre rest W2 hJ1 (by rw [hx, h1]; exact List.prefix_refl _))
      rw [hsv] at hy
      gi_wp2
      refine hR.mono ?_
      rintro e W3 (⟨rfl, hJ3, hk3⟩ | ⟨rfl, hJx3⟩)
      · gi_wp2
        go_end0
        exact ⟨⟨_, rfl⟩, .inl (by rw [hx, h1]; exact hJ3)⟩
      · gi_wp2
        go_end0
        exact ⟨⟨_, rfl⟩, .inr ⟨_, by rw [hx, h1]; exact List.prefix_refl _, hJx3⟩⟩
    · obtain ⟨i, hi, hil, h1⟩ := splitOnB_some hneg
      have hex : (⟨⟨rest⟩⟩ : ByteArray).extract 0 i = ⟨⟨rest.take i⟩⟩ := by
        apply ByteArray.ext; simp
      obtain ⟨fn, tmps, assign, body, hy, hR⟩ := yieldAt_any (n := 2) (hY pre (rest.take i) W2 hJ1 (by rw [hx, h1]; exact ⟨splitOnB c (rest.drop (i + 1)), by simp⟩))
      rw [hsv] at hy
      rw [hi] at hneg ⊢
      gi_wp2
      refine hR.mono ?_
      rintro e W3 (⟨rfl, hJ3, hk3⟩ | ⟨rfl, hJx3⟩)
      · have q1 := (cell_of_block (hk3.block bs (.inr (.inl rfl)) (cell?_lt hc1)) 0).trans hc1
        have q2 := (frozen_of_block (hk3.block bs (.inr (.inl rfl)) (cell?_lt hc1)) 0).trans hc2
        have q3 := (cell_of_block (hk3.block bp (.inl rfl) (cell?_lt hc3)) 0).trans hc3
        have q4 := (cell_of_block (hk3.block bz (.inr (.inr rfl)) (cell?_lt hc4)) 0).trans hc4
        gi_wp2
        go_roundw
        case rel =>
          refine ⟨pre ++ [rest.take i], rest.drop (i + 1), by rw [hx, h1]; simp, by simp; omega, ?_, ?_, ?_, ?_, ?_⟩
          · rw [World.cell?_setCell_same' _ _ _ (by rw [q1]; rfl), ext_drop]
          · rw [World.frozen?_setCell]; exact q2
          · exact (World.cell?_setCell_other _ _ _ _ (by intro e; injection e with e; exact n1 e.symm)).trans q3
          · exact (World.cell?_setCell_other _ _ _ _ (by intro e; injection e with e; exact n2 e.symm)).trans q4
          · exact hJ _ _ _ hJ3 (.setCell _ _ _ _ (by simp))
        case measure =>
          have e1 : strLen (W3.setCell ⟨bs, 0, none⟩ (.string ((⟨⟨rest⟩⟩ : ByteArray).extract (i + 1) rest.length))) ⟨bs, 0, none⟩ = rest.length - (i + 1) := by
            rw [strLen, World.cell?_setCell_same' _ _ _ (by rw [q1]; rfl), ext_drop]
            show (rest.drop (i + 1)).length = _
            simp
          have e2 : strLen W2 ⟨bs, 0, none⟩ = rest.length := by rw [strLen, hc1]; rfl
          omega
      · gi_wp2
        refine bodyPost_ret (results_none rfl _ _ _) rfl ?_
        exact ⟨⟨_, rfl⟩, .inr ⟨_, by rw [hx, h1]; exact ⟨splitOnB c (rest.drop (i + 1)), by simp⟩, hJx3⟩⟩
end Go.Proofs.YthcngbbceahdlaaDoor
end

section
/- The contract of cron.field, over what is known of cron.values. -/
namespace Go.Proofs.YthcngbbceahdlaaDoor
open Go.RowKit
set_option linter.unusedVariables false
set_option linter.unusedSimpArgs false
open V
attribute [local go_sem] Oper.semAt_some
theorem cs_other {w : World} {a b : Addr} {u v : Value} (hv : w.cell? b = some v) (h : a.block ≠ b.block) : (w.setCell a u).cell? b = some v := by
  rw [World.cell?_setCell_other (a := a) (b := b) (h := fun e => h (by rw [e]))]; exact hv
theorem splitSeq_newC (s : List UInt8) (c : UInt8) (w : World) : Calls Tryd.prog 68 #[.string ⟨⟨s⟩⟩, .string ⟨#[c]⟩] w fun e w' => e = .returned (.func (.func 90) #[] #[.pointer (some ⟨w.heap.size + 1, 0, none⟩), .pointer (some ⟨w.heap.size, 0, none⟩), .pointer (some ⟨w.heap.size + 1 + 1, 0, none⟩)]) ∧
    Below w.heap.size w w' ∧ w'.heap.size = w.heap.size + 3 ∧ w'.cell? ⟨w.heap.size + 1, 0, none⟩ = some (strV [c]) ∧ w'.cell? ⟨w.heap.size, 0, none⟩ = some (strV s) ∧ w'.cell? ⟨w.heap.size + 1 + 1, 0, none⟩ = some (.int .i64 0) ∧ w'.frozen? ⟨w.heap.size, 0, none⟩ = false := by
  go_enter Tryd.func68, Tryd.ntmps68
  go_wp2
  go_ret
  have b1 := (((Below.refl w.heap.size w).alloc (Nat.le_refl _) (.cells #[.string ⟨⟨s⟩⟩] 9)).alloc (by simp) (.cells #[.string ⟨#[c]⟩] 9)).alloc (by simp; omega) (.cells #[.int .i64 0] 3)
  refine ⟨rfl, b1, by simp, ?_, ?_, ?_, ?_⟩
  · rw [World.cell?_alloc_past _ _ _ (by simp), World.cell?_alloc_at _ _ _ _ (by simp)]; rfl
  · rw [World.cell?_alloc_past _ _ _ (by simp; omega), World.cell?_alloc_past _ _ _ (by simp), World.cell?_alloc_at _ _ _ _ (by simp)]; rfl
  · rw [World.cell?_alloc_at _ _ _ _ (by simp)]; rfl
  · rw [World.frozen?_alloc_past _ _ _ (by simp; omega), World.frozen?_alloc_past _ _ _ (by simp), World.frozen?_alloc_at _ _ _ _ rfl]
def flatDescC : TypeDesc → Bool
  | .struct _ => false
  | .array _ _ => false
  | _ => true
theorem run_loadVar_flatC {P : Program} {w : World} {ty : TypeId} {a : Addr} {v : Value} {d : TypeDesc} (hu : P.underlying ty = some d) (hd : flatDescC d = true) (hc : w.cell? a = some v) : (loadVar ty a).run P w = .ok v w := by
  cases d <;> first | (cases hd; done) | simp [loadVar, isAgg, underlying, hu, hc, Result.andThen, Sem.run_bind]
theorem results_cell2 {P : Program} {w : World} {fn : Func} {p q : Tmp} {ty t2 : TypeId} {a b : Addr} {v u : Value} {d d2 : TypeDesc} (h : fn.results = #[.cell p ty, .cell q t2]) (tmps : Array Value) (hp : tmps.getD p undef = .pointer (some a)) (hq : tmps.getD q undef = .pointer (some b)) (hu : P.underlying ty = some d) (hu2 : P.underlying t2 = some d2) (hd : flatDescC d = true) (hd2 : flatDescC d2 = true) (hc : w.cell? a = some v) (hc2 : w.cell? b = some u) : (results fn tmps).run P w = .ok (.tuple #[v, u]) w := by
  have hp' : tmps[p]?.getD undef = .pointer (some a) := by simpa using hp
  have hq' : tmps[q]?.getD undef = .pointer (some b) := by simpa using hq
  simp [results, h, hp', hq', asAddr, run_loadVar_flatC hu hd hc, run_loadVar_flatC hu2 hd2 hc2, Sem.run_bind, Result.andThen]
def errV : Bool → Value
  | false => .nilIface
  | true => .iface 86 (.agg #[])
def preF (f : List UInt8 → Option (Int × Bool)) : Int → List (List UInt8) → Option Int
  | n, [] => some n
  | n, x :: l => (f x).bind fun r => if r.2 then none else preF f (orU n r.1) l
theorem foldF_pre {f : List UInt8 → Option (Int × Bool)} : ∀ {pre l : List (List UInt8)} {n m : Int} {y : Int × Bool}, preF f n pre = some m → foldF f n (pre ++ l) = some y → foldF f m l = some y
  | [], l, n, m, y, h, h1 => by cases h; exact h1
  | x :: pre, l, n, m, y, h, h1 => by
    rw [preF] at h
    obtain ⟨r, hr, h⟩ := Option.bind_eq_some_iff.1 h
    rw [List.cons_append, foldF, hr, Option.bind_some] at h1
    split at h
    · cases h
    · rename_i hn
      rw [if_neg hn] at h1
      exact foldF_pre h h1
theorem preF_snoc {f : List UInt8 → Option (Int × Bool)} : ∀ {pre : List (List UInt8)} {x : List UInt8} {n m v : Int}, preF f n pre = some m → f x = some (v, false) → preF f n (pre ++ [x]) = some (orU m v)
  | [], x, n, m, v, h, h1 => by cases h; simp [preF, h1]
  | z :: pre, x, n, m, v, h, h1 => by
    rw [preF] at h
    obtain ⟨r, hr, h⟩ := Option.bind_eq_some_iff.1 h
    rw [List.cons_append, preF, hr, Option.bind_some]
    split at h
    · cases h
    · rename_i hn
      rw [if_neg hn]
      exact preF_snoc h h1
set_option maxHeartbeats 4000000 in
theorem cron_field_spec (f : List UInt8 → Option (Int × Bool)) (s : List UInt8) (lo hi : Int) (hlen : s.length ≤ 140737488355328) (y : Int × Bool) (h : fieldOf f s = some y) (w : World) (hf : ∀ x r, f x = some r → ∀ W : World, Below w.heap.size w W → Calls Tryd.prog 69 #[.string ⟨⟨x⟩⟩, .agg #[.int .i64 lo, .int .i64 hi]] W fun e w' => e = .returned (.tuple #[.int .u64 r.1, errV r.2]) ∧ Below W.heap.size W w') :
    Calls Tryd.prog 48 #[.string ⟨⟨s⟩⟩, .agg #[.int .i64 lo, .int .i64 hi]] w fun e w' => e = .returned (.tuple #[.int .u64 y.1, errV y.2]) ∧ Below w.heap.size w w' := by
  refine (callsIn_wide (n := 3)).1 ?_
  refine callsIn_of_wp_marks Tryd.func48 rfl trivial ?_ rfl
  simp only [Tryd.ntmps48, List.size_toArray, List.length_cons, List.length_nil, Nat.reduceAdd, Nat.reduceSub, Array.replicate_succ, Array.replicate_zero, List.push_toArray, List.append_toArray, List.nil_append, List.cons_append]
  gi_wp2
  refine ⟨trivial, ?_⟩
  have z0 : ((((w.alloc (.cells #[.int .i64 lo, .int .i64 hi] 78)).alloc (.cells #[.int .u64 0] 37)).alloc (.cells #[.nilIface] 68)).alloc (.cells #[.int .u64 0] 37)).heap.size = w.heap.size + 4 := by simp
  have bw : Below w.heap.size w ((((w.alloc (.cells #[.int .i64 lo, .int .i64 hi] 78)).alloc (.cells #[.int .u64 0] 37)).alloc (.cells #[.nilIface] 68)).alloc (.cells #[.int .u64 0] 37)) :=
    ((((Below.refl w.heap.size w).alloc (Nat.le_refl _) _).alloc (by simp) _).alloc (by simp <;> omega) _).alloc (by simp <;> omega) _
  have k0 : ∀ o v, (#[.int .i64 lo, .int .i64 hi] : Array Value)[o]? = some v → ((((w.alloc (.cells #[.int .i64 lo, .int .i64 hi] 78)).alloc (.cells #[.int .u64 0] 37)).alloc (.cells #[.nilIface] 68)).alloc (.cells #[.int .u64 0] 37)).cell? ⟨w.heap.size, o, none⟩ = some v := by
    intro o v hv
    rw [World.cell?_alloc_past _ _ _ (by simp <;> omega), World.cell?_alloc_past _ _ _ (by simp <;> omega), World.cell?_alloc_past _ _ _ (by simp), World.cell?_alloc_at _ _ _ _ rfl]; exact hv
  have k1 : ((((w.alloc (.cells #[.int .i64 lo, .int .i64 hi] 78)).alloc (.cells #[.int .u64 0] 37)).alloc (.cells #[.nilIface] 68)).alloc (.cells #[.int .u64 0] 37)).cell? ⟨w.heap.size + 1, 0, none⟩ = some (.int .u64 0) := by
    rw [World.cell?_alloc_past _ _ _ (by simp <;> omega), World.cell?_alloc_past _ _ _ (by simp), World.cell?_alloc_at _ _ _ _ (by simp)]; rfl
  have k2 : ((((w.alloc (.cells #[.int .i64 lo, .int .i64 hi] 78)).alloc (.cells #[.int .u64 0] 37)).alloc (.cells #[.nilIface] 68)).alloc (.cells #[.int .u64 0] 37)).cell? ⟨w.heap.size + 1 + 1, 0, none⟩ = some .nilIface := by
    rw [World.cell?_alloc_past _ _ _ (by simp), World.cell?_alloc_at _ _ _ _ (by simp)]; rfl
  have k3 : ((((w.alloc (.cells #[.int .i64 lo, .int .i64 hi] 78)).alloc (.cells #[.int .u64 0] 37)).alloc (.cells #[.nilIface] 68)).alloc (.cells #[.int .u64 0] 37)).cell? ⟨w.heap.size + 1 + 1 + 1, 0, none⟩ = some (.int .u64 0) := by
    rw [World.cell?_alloc_at _ _ _ _ (by simp)]; rfl
  have q1 : ((((w.alloc (.cells #[.int .i64 lo, .int .i64 hi] 78)).alloc (.cells #[.int .u64 0] 37)).alloc (.cells #[.nilIface] 68)).alloc (.cells #[.int .u64 0] 37)).frozen? ⟨w.heap.size + 1, 0, none⟩ = false := by
    rw [World.frozen?_alloc_past _ _ _ (by simp <;> omega), World.frozen?_alloc_past _ _ _ (by simp), World.frozen?_alloc_at _ _ _ _ (by simp)]
  have q2 : ((((w.alloc (.cells #[.int .i64 lo, .int .i64 hi] 78)).alloc (.cells #[.int .u64 0] 37)).alloc (.cells #[.nilIface] 68)).alloc (.cells #[.int .u64 0] 37)).frozen? ⟨w.heap.size + 1 + 1, 0, none⟩ = false := by
    rw [World.frozen?_alloc_past _ _ _ (by simp), World.frozen?_alloc_at _ _ _ _ (by simp)]
  have q3 : ((((w.alloc (.cells #[.int .i64 lo, .int .i64 hi] 78)).alloc (.cells #[.int .u64 0] 37)).alloc (.cells #[.nilIface] 68)).alloc (.cells #[.int .u64 0] 37)).frozen? ⟨w.heap.size + 1 + 1 + 1, 0, none⟩ = false := by
    rw [World.frozen?_alloc_at _ _ _ _ (by simp)]
  generalize ((((w.alloc (.cells #[.int .i64 lo, .int .i64 hi] 78)).alloc (.cells #[.int .u64 0] 37)).alloc (.cells #[.nilIface] 68)).alloc (.cells #[.int .u64 0] 37)) = W0 at z0 bw k0 k1 k2 k3 q1 q2 q3 ⊢
  refine (callsIn_wide.2 (splitSeq_newC s 44 W0)).mono ?_
  rintro e W1 ⟨rfl, b1, z1, c1, c2, c3, f1⟩
  dsimp only
  rw [z0] at b1 z1 c1 c2 c3 f1 ⊢
  have r3 : Below w.heap.size w W1 := bw.trans (b1.mono (by omega))
  have e0 : W1.cell? ⟨w.heap.size, 0, none⟩ = some (.int .i64 lo) := (b1.cell (p := ⟨w.heap.size, 0, none⟩) (by simp)).trans (k0 0 _ rfl)
  have e1 : W1.cell? ⟨w.heap.size, 1, none⟩ = some (.int .i64 hi) := (b1.cell (p := ⟨w.heap.size, 1, none⟩) (by simp)).trans (k0 1 _ rfl)
  have g1 : W1.cell? ⟨w.heap.size + 1, 0, none⟩ = some (.int .u64 0) := (b1.cell (p := ⟨w.heap.size + 1, 0, none⟩) (by simp)).trans k1
  have g2 : W1.cell? ⟨w.heap.size + 1 + 1, 0, none⟩ = some .nilIface := (b1.cell (p := ⟨w.heap.size + 1 + 1, 0, none⟩) (by simp <;> omega)).trans k2
  have g3 : W1.cell? ⟨w.heap.size + 1 + 1 + 1, 0, none⟩ = some (.int .u64 0) := (b1.cell (p := ⟨w.heap.size + 1 + 1 + 1, 0, none⟩) (by simp <;> omega)).trans k3
  have p1 : W1.frozen? ⟨w.heap.size + 1, 0, none⟩ = false := (b1.frozen (p := ⟨w.heap.size + 1, 0, none⟩) (by simp)).trans q1
  have p2 : W1.frozen? ⟨w.heap.size + 1 + 1, 0, none⟩ = false := (b1.frozen (p := ⟨w.heap.size + 1 + 1, 0, none⟩) (by simp <;> omega)).trans q2
  have p3 : W1.frozen? ⟨w.heap.size + 1 + 1 + 1, 0, none⟩ = false := (b1.frozen (p := ⟨w.heap.size + 1 + 1 + 1, 0, none⟩) (by simp <;> omega)).trans q3
  clear k0 k1 k2 k3 q1 q2 q3 z0
  gi_wp2
  refine wp_range (B := w.heap.size + 4) rfl (enters_of Tryd.func90 (by kernel_rfl) rfl) (splitSeq_hands 44 s _ _ _ W1 hlen c1 c2 c3 f1 (by omega) (by omega)) (by rintro b (rfl | rfl | rfl) <;> omega) (fun _ => rfl)
    (fun pre W => (∃ n, preF f 0 pre = some n ∧ W.cell? ⟨w.heap.size + 1 + 1 + 1, 0, none⟩ = some (.int .u64 n)) ∧ W.cell? ⟨w.heap.size, 0, none⟩ = some (.int .i64 lo) ∧ W.cell? ⟨w.heap.size, 1, none⟩ = some (.int .i64 hi) ∧ W.cell? ⟨w.heap.size + 1, 0, none⟩ = some (.int .u64 0) ∧ W.cell? ⟨w.heap.size + 1 + 1, 0, none⟩ = some .nilIface ∧
      W.frozen? ⟨w.heap.size + 1, 0, none⟩ = false ∧ W.frozen? ⟨w.heap.size + 1 + 1, 0, none⟩ = false ∧ W.frozen? ⟨w.heap.size + 1 + 1 + 1, 0, none⟩ = false ∧ Below w.heap.size w W)
    (fun c pre W => c = .ret ∧ (∃ p x n v, pre = p ++ [x] ∧ preF f 0 p = some n ∧ f x = some (v, true)) ∧ W.cell? ⟨w.heap.size + 1, 0, none⟩ = some (.int .u64 0) ∧ W.cell? ⟨w.heap.size + 1 + 1, 0, none⟩ = some (errV true) ∧ Below w.heap.size w W)
    ?_ ?_ (by omega) ⟨⟨0, rfl, g3⟩, e0, e1, g1, g2, p1, p2, p3, r3⟩ (fun x => { tmps := #[.string ⟨⟨s⟩⟩, .agg #[.int .i64 lo, .int .i64 hi], undef, .pointer (some ⟨w.heap.size, 0, none⟩), .pointer (some ⟨w.heap.size + 1, 0, none⟩), .pointer (some ⟨w.heap.size + 1 + 1, 0, none⟩), .pointer (some ⟨w.heap.size + 1 + 1 + 1, 0, none⟩), .string ⟨⟨x⟩⟩, undef, undef, .string ⟨⟨s⟩⟩, .func (.func 90) #[] #[.pointer (some ⟨w.heap.size + 4 + 1, 0, none⟩), .pointer (some ⟨w.heap.size + 4, 0, none⟩), .pointer (some ⟨w.heap.size + 4 + 1 + 1, 0, none⟩)], .string ⟨⟨x⟩⟩, undef, undef, undef, undef, undef, undef, undef, undef, undef, undef, undef, undef, undef], defers := [] }) ?assign ?body ?done ?stop
  · rintro pre W W' ⟨⟨n, h0, h1⟩, h2, h3, h4, h5, h6, h7, h8, h9⟩ hk
    have c0 := hk.block w.heap.size (by omega) (cell?_lt h2)
    have c1 := hk.block (w.heap.size + 1) (by omega) (cell?_lt h4)
    have c2 := hk.block (w.heap.size + 1 + 1) (by omega) (cell?_lt h5)
    have c3 := hk.block (w.heap.size + 1 + 1 + 1) (by omega) (cell?_lt h1)
    exact ⟨⟨n, h0, (cell_of_block c3 0).trans h1⟩, (cell_of_block c0 0).trans h2, (cell_of_block c0 1).trans h3, (cell_of_block c1 0).trans h4, (cell_of_block c2 0).trans h5, (frozen_of_block c1 0).trans h6, (frozen_of_block c2 0).trans h7, (frozen_of_block c3 0).trans h8, h9.trans (hk.below (fun b hb => by omega) h9.size)⟩
  · rintro c pre W W' ⟨h0, h1, h2, h3, h4⟩ hk
    have c1 := hk.block (w.heap.size + 1) (by omega) (cell?_lt h2)
    have c2 := hk.block (w.heap.size + 1 + 1) (by omega) (cell?_lt h3)
    exact ⟨h0, h1, (cell_of_block c1 0).trans h2, (cell_of_block c2 0).trans h3, h4.trans (hk.below (fun b hb => by omega) h4.size)⟩
  case assign =>
    intro l x W K hK
    gi_wp2
    exact hK
  case body =>
    rintro l pre x W ⟨⟨n, h0, h1⟩, h2, h3, h4, h5, h6, h7, h8, h9⟩ hB ⟨t, ht⟩
    have h' := h
    unfold fieldOf at h'
    rw [← ht, List.append_assoc] at h'
    have h10 := foldF_pre h0 h'
    rw [List.singleton_append, foldF] at h10
    obtain ⟨r, hr, h11⟩ := Option.bind_eq_some_iff.1 h10
    gi_wp2
    refine ⟨trivial, ?_⟩
    refine (CallsIn.inRound l (callsIn_wide.2 (hf x r hr W h9))).mono ?_
    rintro e W2 ⟨rfl, kk⟩
    have u1 := (kk.cell (p := ⟨w.heap.size + 1 + 1 + 1, 0, none⟩) (by simp <;> omega)).trans h1
    have u2 := (kk.cell (p := ⟨w.heap.size, 0, none⟩) (by simp <;> omega)).trans h2
    have u3 := (kk.cell (p := ⟨w.heap.size, 1, none⟩) (by simp <;> omega)).trans h3
    have u4 := (kk.cell (p := ⟨w.heap.size + 1, 0, none⟩) (by simp <;> omega)).trans h4
    have u5 := (kk.cell (p := ⟨w.heap.size + 1 + 1, 0, none⟩) (by simp <;> omega)).trans h5
    have u6 := (kk.frozen (p := ⟨w.heap.size + 1, 0, none⟩) (by simp <;> omega)).trans h6
    have u7 := (kk.frozen (p := ⟨w.heap.size + 1 + 1, 0, none⟩) (by simp <;> omega)).trans h7
    have u8 := (kk.frozen (p := ⟨w.heap.size + 1 + 1 + 1, 0, none⟩) (by simp <;> omega)).trans h8
    have u9 := h9.trans (kk.mono (by omega))
    obtain ⟨v, b⟩ := r
    cases b with
    | false =>
      have hpre := preF_snoc h0 hr
      clear h10 h11 h' ht
      dsimp only [errV]
      gi_wp2
      refine ⟨(Kp.of_below kk).trans (.setCell _ _ _ _ (by omega)), ⟨_, hpre, World.cell?_setCell_same' _ _ _ (by rw [u1]; rfl)⟩, ?_, ?_, ?_, ?_, by rw [World.frozen?_setCell]; exact u6, by rw [World.frozen?_setCell]; exact u7, by rw [World.frozen?_setCell]; exact u8, u9.setCell (p := ⟨w.heap.size + 1 + 1 + 1, 0, none⟩) (by simp <;> omega) _⟩
      · exact cs_other u2 (by simp <;> omega)
      · exact cs_other u3 (by simp <;> omega)
      · exact cs_other u4 (by simp <;> omega)
      · exact cs_other u5 (by simp <;> omega)
    | true =>
      clear h10 h11 h' ht
      dsimp only [errV]
      gi_wp2
      refine ⟨((Kp.of_below kk).trans (.setCell _ _ _ _ (by omega))).trans (.setCell _ _ _ _ (by omega)), rfl, ⟨pre, x, n, v, rfl, h0, hr⟩, ?_, ?_, (u9.setCell (p := ⟨w.heap.size + 1, 0, none⟩) (by simp <;> omega) _).setCell (p := ⟨w.heap.size + 1 + 1, 0, none⟩) (by simp <;> omega) _⟩
      · exact cs_other (World.cell?_setCell_same' _ _ _ (by rw [u4]; rfl)) (by simp)
      · exact World.cell?_setCell_same' _ _ _ (by rw [cs_other u5 (by simp)]; rfl)
  case done =>
    rintro D W ⟨⟨n, h0, h1⟩, h2, h3, h4, h5, h6, h7, h8, h9⟩ hD hK
    have hy : y = (n, false) := by
      have := foldF_pre (pre := splitOnB 44 s) (l := []) h0 (by rw [List.append_nil]; exact h)
      exact (Option.some.inj this).symm
    subst hy
    clear h
    gi_wp2
    have hK' : ((W.setCell ⟨w.heap.size + 1, 0, none⟩ (.int .u64 n)).setCell ⟨w.heap.size + 1 + 1, 0, none⟩ .nilIface).heap[D]? = some (.deferred (some [])) := (Below.heap_setCell _ ⟨w.heap.size + 1 + 1, 0, none⟩ _ D (by simp <;> omega)).trans ((Below.heap_setCell W ⟨w.heap.size + 1, 0, none⟩ _ D (by simp <;> omega)).trans hK)
    refine ⟨by simp, .inl ⟨_, _, rfl, run_takeDeferred hK', ?_⟩⟩
    refine ⟨_, results_cell2 rfl _ rfl rfl Tryd.underlying37 Tryd.underlying68 rfl rfl ((cell_of_block (World.putObj_heap_other (by omega)) 0).trans (cs_other (World.cell?_setCell_same' _ _ _ (by rw [h4]; rfl)) (by simp))) ((cell_of_block (World.putObj_heap_other (by omega)) 0).trans (World.cell?_setCell_same' _ _ _ (by rw [cs_other h5 (by simp)]; rfl))), rfl, ?_⟩
    exact ((h9.setCell (p := ⟨w.heap.size + 1, 0, none⟩) (by simp <;> omega) _).setCell (p := ⟨w.heap.size + 1 + 1, 0, none⟩) (by simp <;> omega) _).trans ((Kp.putObj (S := fun b => b < w.heap.size) _ _ _ (by omega)).below (fun _ h => h) (by have := h9.size; simp; omega))
  case stop =>
    rintro D c pre W ⟨rfl, ⟨p, x, n, v, rfl, h1, hx⟩, h2, h3, h4⟩ ⟨t, ht⟩ hD hK
    have hy : y = (0, true) := by
      have h' := h
      unfold fieldOf at h'
      rw [← ht, List.append_assoc] at h'
      have h10 := foldF_pre h1 h'
      rw [List.singleton_append, foldF, hx, Option.bind_some] at h10
      exact (Option.some.inj h10).symm
    subst hy
    clear h ht
    gi_wp2
    refine ⟨by simp, .inl ⟨_, _, rfl, run_takeDeferred hK, ?_⟩⟩
    refine ⟨_, results_cell2 rfl _ rfl rfl Tryd.underlying37 Tryd.underlying68 rfl rfl ((cell_of_block (World.putObj_heap_other (by omega)) 0).trans h2) ((cell_of_block (World.putObj_heap_other (by omega)) 0).trans h3), rfl, ?_⟩
    exact h4.trans ((Kp.putObj (S := fun b => b < w.heap.size) _ _ _ (by omega)).below (fun _ h => h) h4.size)
end Go.Proofs.YthcngbbceahdlaaDoor
end

section
/- errors.Is of an error that is none, or a part's. -/
namespace Go.Proofs.YthcngbbceahdlaaDoor
open Go.RowKit
set_option linter.unusedVariables false
set_option linter.unusedSimpArgs false
open Go.Stop Go.Extern
/-- Neither is one. -/
theorem is_nil_part (w : World) : Calls Tryd.prog 49 #[.nilIface, .iface 86 (.agg #[])] w fun e w' => e = .returned (.bool false) ∧ w' = w := by
  have hn := run_eql_iface_nil_left (P := Tryd.prog) (w := w) 86 (.agg #[]) Tryd.underlying68
  go_enter Tryd.func49, Tryd.ntmps49
  go_wp2
  go_ret
  exact ⟨rfl, rfl⟩
theorem is_part (w : World) : Calls Tryd.prog 49 #[.iface 86 (.agg #[]), .iface 86 (.agg #[])] w fun e w' => e = .returned (.bool true) ∧ w' = w := by
  have h8 := @run_callFunc_extern Tryd.prog 70 _ Extern.ReflectliteType.typeOf Tryd.func70 (by kernel_rfl) (by kernel_rfl) (by kernel_rfl) (by kernel_rfl)
  have tT : ∀ (v : Value) (w : World), (Extern.ReflectliteType.typeOf #[.iface 86 v]).run Tryd.prog w = .ok (.iface 135 (.agg #[typeHandle Tryd.prog 86])) w := by intro v w; kernel_rfl
  have h32 : ∀ (w : World), (callFunc 132 #[.agg #[typeHandle Tryd.prog 86]]).run Tryd.prog w = .ok (.value (.bool true)) w := by
    intro w
    refine (@run_callFunc_extern Tryd.prog 132 _ (Extern.ReflectliteType.method fun t => do Go.Extern.Rtype.noPackHeld "Comparable" t; pure (.bool (← typeInfo t).comparable)) Tryd.func132 (by kernel_rfl) (by kernel_rfl) (by kernel_rfl) (by kernel_rfl) _ w).trans ?_
    kernel_rfl
  have mR : ∀ (n : Nat) (v : Value) (w : World), (Go.method (n + 1) 135 v "Comparable").run Tryd.prog w = .ok (132, v) w := by intro n v w; exact V.run_methF (by kernel_rfl) _ (by omega)
  have heq : ∀ (w : World), (binOp .eql 68 (.iface 86 (.agg #[])) (.iface 86 (.agg #[]))).run Tryd.prog w = .ok (.bool true) w := by intro w; kernel_rfl
  generalize typeHandle Tryd.prog 86 = H at tT h32
  go_enter Tryd.func49, Tryd.ntmps49
  go_wp2
  refine wp_loop_rounds 1 ?_
  rw [rounds_succ]
  go_wp2
  go_ret
  exact ⟨rfl, rfl⟩
end Go.Proofs.YthcngbbceahdlaaDoor
end
