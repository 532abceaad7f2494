/- Go functions compute what Lean functions do. -/
import Derived.Test.YtjhelpeglgigbaaQLedgerStepsB
import Derived.Lib.Join
import Derived.Lib.Repeat
import Derived.Shelf.Strings.Builder1
import Derived.Shelf.Strings.Builder2
import Derived.Shelf.Strings.OnBuilder
import Derived.Shelf.Strings.BuilderF
import Derived.Shelf.Strings.BuilderK
import Derived.Shelf.Strings.Builder2Cap
import Derived.Shelf.Strings.Prefix
import Derived.Shelf.Bits.Mul64
import Derived.Shelf.Strings.Repeat
import Derived.Shelf.Strings.BuilderCap
import Derived.Test.YtjhelpeglgigbaaProg
import Derived.Shelf.Small.Strs
import Derived.Deep.Draws
import Derived.Below
import Derived.OpenShut
import Derived.OwnWalk
import Derived.Laws.BytesArg
import Derived.Laws.MakeOwn
import Derived.Laws.OwnMore
import Derived.Deep.OwnRows
import Derived.Tactics
import Derived.Lib.ConvBytes
import Derived.Laws.Slices
import Derived.WalkKit
import Derived.KernelRfl
import Derived.RowKit3
import Derived.Deep.LoopGhost
import Derived.Deep.QuietTactic
import Derived.BigQuiet
import Derived.WideLaws
import Derived.Deep.DeepCutAuto
import Derived.Deep.CutBlock
import Derived.Deep.RegionHeld3
import Derived.Laws.Rows
import Derived.Lib.AppendStr
import Derived.ArgAppend
import Derived.Laws.BitsLemmas
import Derived.RowKit
import Derived.Orders
import Derived.FnData
import Derived.LaidMore
import Derived.MakeChecks
import Derived.RangeFuncKeeps
import Derived.RangeFuncCalls
import Derived.RangeFuncLeaves
import Derived.Laws.CopyOwn
import Derived.Deep.RegionLaw
import Derived.IntWalk
section
/- What Go functions compute, as Lean functions. -/
namespace Go.Proofs.Ytjhelpeglgigbaa.V
open Go Go.RowKit
set_option linter.unusedVariables false
set_option linter.unusedSimpArgs false
set_option maxHeartbeats 1000000
set_option maxRecDepth 20000
abbrev glP : Gl := fun _ => none
structure api_Write where
  At : Int
  Data : Str
deriving DecidableEq, Inhabited
def e_api_Write (x : api_Write) : List Sc := [(.int .i64 x.At), (.str x.Data)]
theorem e_api_Write_len (x : api_Write) : (e_api_Write x).length = 2 := rfl
def W_api_Write (x : api_Write) : Prop := (Lit.int .i64 x.At).wf = true ∧ x.Data.length ≤ 9223372036854775807
structure api_Disk where
  Sectors : (List Str)
  Dirty : (List api_Write)
deriving DecidableEq, Inhabited
def e_api_Disk (x : api_Disk) : List Sc := [(.sl (x.Sectors.map eS)), (.sl (x.Dirty.map e_api_Write))]
theorem e_api_Disk_len (x : api_Disk) : (e_api_Disk x).length = 2 := rfl
def W_api_Disk (x : api_Disk) : Prop := (x.Sectors.length ≤ 9223372036854775807 ∧ ∀ y0 ∈ x.Sectors, y0.length ≤ 9223372036854775807) ∧ (x.Dirty.length ≤ 9223372036854775807 ∧ ∀ y0 ∈ x.Dirty, W_api_Write y0)
structure api_Ledger where
  Disk : api_Disk
  Half : Int
  Gen : Int
  Used : Int
  Entries : (List Str)
deriving DecidableEq, Inhabited
def e_api_Ledger (x : api_Ledger) : List Sc := [(.sl (x.Disk.Sectors.map eS)), (.sl (x.Disk.Dirty.map e_api_Write)), (.int .i64 x.Half), (.int .i64 x.Gen), (.int .i64 x.Used), (.sl (x.Entries.map eS))]
theorem e_api_Ledger_len (x : api_Ledger) : (e_api_Ledger x).length = 6 := rfl
def W_api_Ledger (x : api_Ledger) : Prop := W_api_Disk x.Disk ∧ (Lit.int .i64 x.Half).wf = true ∧ (Lit.int .i64 x.Gen).wf = true ∧ (Lit.int .i64 x.Used).wf = true ∧ (x.Entries.length ≤ 9223372036854775807 ∧ ∀ y0 ∈ x.Entries, y0.length ≤ 9223372036854775807)
def f_slices_Clone_string_string (s : List Str) : Option (List Str) := gd (s.length ≤ 1099511627776) <| some s
theorem flat_eS (l : List Str) : (l.map eS).flatten = l.map Sc.str := by
  induction l with
  | nil => rfl
  | cons x l ih => rw [List.map_cons, List.flatten_cons, ih]; rfl
def f_strings_Join (l : List Str) (sep : Str) : Option Str := gd (l.length ≤ 140737488355328 ∧ (Lib.join l sep).length ≤ 140737488355328) <| some (Lib.join l sep)
def f_strings_Repeat (s : Str) (n : Int) : Option Str := gd (0 ≤ n ∧ n ≤ 9223372036854775807 ∧ s.length * n.toNat ≤ 140737488355328) <| some (Lib.repeatL s n.toNat)
def f_law10_few (d : api_Disk) : Option (api_Disk) :=
  gd (0 ≤ (if 66 < (d.Sectors.length : Int) then 66 else (d.Sectors.length : Int)) ∧ (if 66 < (d.Sectors.length : Int) then 66 else (d.Sectors.length : Int)) ≤ (d.Sectors.length : Int)) <|
  gd (0 ≤ (if 3 < (d.Dirty.length : Int) then 3 else (d.Dirty.length : Int)) ∧ (if 3 < (d.Dirty.length : Int) then 3 else (d.Dirty.length : Int)) ≤ (d.Dirty.length : Int)) <|
  some (api_Disk.mk (cut d.Sectors 0 (if 66 < (d.Sectors.length : Int) then 66 else (d.Sectors.length : Int))) (cut d.Dirty 0 (if 3 < (d.Dirty.length : Int) then 3 else (d.Dirty.length : Int))))
def f_law10_texts_l7 (l : (List Str)) : Nat → Int → (List Str) → Option (Int × (List Str))
  | 0, _, _ => none
  | m_ + 1, v14, l2 =>
    if (decide (v14 < ((([] : List Str) ++ (cut l 0 (if 66 < (l.length : Int) then 66 else (l.length : Int)))).length : Int))) then
      (ix l2 v14).bind fun x =>
      gd (0 ≤ (if 4100 < (x.length : Int) then 4100 else (x.length : Int)) ∧ (if 4100 < (x.length : Int) then 4100 else (x.length : Int)) ≤ (x.length : Int)) <|
      (ix l2 v14).bind fun x2 =>
      f_law10_texts_l7 l m_ (IntKind.i64.wrap (v14 + 1)) (l2.set v14.toNat (cut x 0 (if 4100 < (x.length : Int) then 4100 else (x.length : Int))))
    else
      some (v14, l2)
def f_law10_texts (l : (List Str)) : Option ((List Str)) :=
  gd (0 ≤ (if 66 < (l.length : Int) then 66 else (l.length : Int)) ∧ (if 66 < (l.length : Int) then 66 else (l.length : Int)) ≤ (l.length : Int)) <|
  gd ((0 + (cut l 0 (if 66 < (l.length : Int) then 66 else (l.length : Int))).length) * 16 ≤ 140737488355328) <|
  Option.bind (f_law10_texts_l7 l (((((([] : List Str) ++ (cut l 0 (if 66 < (l.length : Int) then 66 else (l.length : Int)))).length : Int) : Int) - 0).toNat + 1) 0 (([] : List Str) ++ (cut l 0 (if 66 < (l.length : Int) then 66 else (l.length : Int))))) fun s : Int × (List Str) =>
  some s.2
def f_ref09_Well_l7 (l : (List api_Write)) (sectors : Int) : Nat → Int → Option ((Int) ⊕ (Bool))
  | 0, _ => none
  | m_ + 1, v9 =>
    if (decide (v9 < (l.length : Int))) then
      (ix l v9).bind fun x =>
      if (((decide (x.At < 0)) || (decide (x.At ≥ sectors))) || ((x.Data.length : Int) != 128)) then
        some (.inr false)
      else
        f_ref09_Well_l7 l sectors m_ (IntKind.i64.wrap (v9 + 1))
    else
      some (.inl v9)
def f_ref09_Well (l : (List api_Write)) (sectors : Int) : Option (Bool) :=
  Option.bind (f_ref09_Well_l7 l sectors ((((l.length : Int) : Int) - 0).toNat + 1) 0) fun s : (Int) ⊕ (Bool) => match s with
  | .inr z => some z
  | .inl s2 =>
    some true
def f_ref09_Right_l7 (d : api_Disk) : Nat → Int → Option ((Int) ⊕ (Bool))
  | 0, _ => none
  | m_ + 1, v8 =>
    if (decide (v8 < (d.Sectors.length : Int))) then
      (ix d.Sectors v8).bind fun x =>
      if ((x.length : Int) != 128) then
        some (.inr false)
      else
        f_ref09_Right_l7 d m_ (IntKind.i64.wrap (v8 + 1))
    else
      some (.inl v8)
def f_ref09_Right (d : api_Disk) : Option (Bool) :=
  Option.bind (f_ref09_Right_l7 d ((((d.Sectors.length : Int) : Int) - 0).toNat + 1) 0) fun s : (Int) ⊕ (Bool) => match s with
  | .inr z => some z
  | .inl s2 =>
    (gx (((decide ((d.Sectors.length : Int) ≥ 4)) && (decide ((d.Sectors.length : Int) ≤ 64))) && (decide ((d.Dirty.length : Int) ≤ 200))) (f_ref09_Well d.Dirty (d.Sectors.length : Int)) default).bind fun t =>
    some ((((decide ((d.Sectors.length : Int) ≥ 4)) && (decide ((d.Sectors.length : Int) ≤ 64))) && (decide ((d.Dirty.length : Int) ≤ 200))) && t)
def f_ref10_At (d : api_Disk) (half : Int) : Option (Int) :=
  some (IntKind.i64.wrap (half * (IntKind.i64.wrap ((d.Sectors.length : Int).tdiv 2))))
def f_ref01_Whole_l6 (s : Str) : Nat → Int → Int → Option (Int × Int)
  | 0, _, _ => none
  | m_ + 1, n, i =>
    if (decide (i ≥ 0)) then
      (ix s i).bind fun c =>
      f_ref01_Whole_l6 s m_ (IntKind.u64.wrap ((IntKind.u64.wrap (256 * n)) + (IntKind.u64.wrap (bn c)))) (IntKind.i64.wrap (i - 1))
    else
      some (n, i)
def f_ref01_Whole (s : Str) : Option (Int) :=
  Option.bind (f_ref01_Whole_l6 s ((((IntKind.i64.wrap ((s.length : Int) - 1)) : Int) - 0).toNat + 2) 0 (IntKind.i64.wrap ((s.length : Int) - 1))) fun s2 : Int × Int =>
  some s2.1
def f_ref10_Room_l7 (d : api_Disk) (half : Int) : Nat → Str → Int → Option (Str × Int)
  | 0, _, _ => none
  | m_ + 1, out, i =>
    if (decide (i < (IntKind.i64.wrap ((d.Sectors.length : Int).tdiv 2)))) then
      (ix d.Sectors (IntKind.i64.wrap ((IntKind.i64.wrap (half * (IntKind.i64.wrap ((d.Sectors.length : Int).tdiv 2)))) + i))).bind fun x =>
      gd (out.length + x.length ≤ 9223372036854775807) <|
      f_ref10_Room_l7 d half m_ (out ++ x) (IntKind.i64.wrap (i + 1))
    else
      some (out, i)
def f_ref10_Room (d : api_Disk) (half : Int) : Option (Str) :=
  Option.bind (f_ref10_Room_l7 d half ((((IntKind.i64.wrap ((d.Sectors.length : Int).tdiv 2)) : Int) - 1).toNat + 1) ([] : Str) 1) fun s : Str × Int =>
  some s.1
def f_ref01_Wide_l7 (size : Int) : Nat → Int → Int → (List Int) → Option (Int × Int × (List Int))
  | 0, _, _, _ => none
  | m_ + 1, n2, i, b =>
    if (decide (i < size)) then
      gd ((b.length + 1) * 1 ≤ 140737488355328) <|
      f_ref01_Wide_l7 size m_ (IntKind.u64.wrap (n2.tdiv 256)) (IntKind.i64.wrap (i + 1)) (b ++ ([(IntKind.u8.wrap (n2.tmod 256))] : List Int))
    else
      some (n2, i, b)
def f_ref01_Wide (n : Int) (size : Int) : Option (Str) :=
  Option.bind (f_ref01_Wide_l7 size (((size : Int) - 0).toNat + 1) n 0 ([] : List Int)) fun s : Int × Int × (List Int) =>
  some (s.2.2.map nb)
def f_ref10_Head_l4 : Nat → Str → Option (Str)
  | 0, _ => none
  | m_ + 1, s =>
    if (decide ((s.length : Int) < 128)) then
      gd (s.length + 1 ≤ 9223372036854775807) <|
      f_ref10_Head_l4 m_ (s ++ ([0] : Str))
    else
      some s
theorem f_ref10_Head_l4_e1 (s : Str) : f_ref10_Head_l4 0 s = none := rfl
theorem f_ref10_Head_l4_e2 (m_ : Nat) (s : Str) : f_ref10_Head_l4 (m_ + 1) s =
    if (decide ((s.length : Int) < 128)) then
      gd (s.length + 1 ≤ 9223372036854775807) <|
      f_ref10_Head_l4 m_ (s ++ ([0] : Str))
    else
      some s := rfl
def f_ref10_Head (gen : Int) (used : Int) : Option (Str) :=
  (f_ref01_Wide (IntKind.u64.wrap gen) 6).bind fun t =>
  gd (3 + t.length ≤ 9223372036854775807) <|
  (f_ref01_Wide (IntKind.u64.wrap used) 3).bind fun t2 =>
  gd ((([108, 101, 100] : Str) ++ t).length + t2.length ≤ 9223372036854775807) <|
  Option.bind (f_ref10_Head_l4 (((128 : Int) - (((([108, 101, 100] : Str) ++ t) ++ t2).length : Int)).toNat + 1) ((([108, 101, 100] : Str) ++ t) ++ t2)) fun s : Str =>
  some s
def f_ref10_Gen (d : api_Disk) (half : Int) : Option (Int) :=
  (f_ref10_At d half).bind fun t =>
  (ix d.Sectors t).bind fun x =>
  gd (9 ≤ (x.length : Int)) <|
  (f_ref01_Whole (cut x 3 9)).bind fun t2 =>
  gd (12 ≤ (x.length : Int)) <|
  (f_ref01_Whole (cut x 9 12)).bind fun t3 =>
  (gx (!((decide (t2 < 1)) || (decide (t2 > 1099511627776)))) (f_ref10_Room d half) default).bind fun t4 =>
  (gx (!(((decide (t2 < 1)) || (decide (t2 > 1099511627776))) || (decide (t3 > (IntKind.u64.wrap (t4.length : Int)))))) (f_ref10_Head (IntKind.i64.wrap t2) (IntKind.i64.wrap t3)) default).bind fun t5 =>
  if ((((decide (t2 < 1)) || (decide (t2 > 1099511627776))) || (decide (t3 > (IntKind.u64.wrap (t4.length : Int))))) || (!(t5 == x))) then
    some 0
  else
    some (IntKind.i64.wrap t2)
def f_ref10_Used (d : api_Disk) (half : Int) : Option (Int) :=
  (f_ref10_At d half).bind fun t =>
  (ix d.Sectors t).bind fun x =>
  gd (12 ≤ (x.length : Int)) <|
  (f_ref01_Whole (cut x 9 12)).bind fun t2 =>
  some (IntKind.i64.wrap t2)
def f_ref10_Entries_l11 (s : Str) : Nat → Int → (List Str) → Option ((Int × (List Str)) ⊕ ((List Str) × Bool))
  | 0, _, _ => none
  | m_ + 1, atv, out =>
    if (decide (atv < (s.length : Int))) then
      if (decide ((IntKind.i64.wrap ((s.length : Int) - atv)) < 2)) then
        some (.inr (([] : (List Str)), false))
      else
        gd (0 ≤ atv ∧ atv ≤ (IntKind.i64.wrap (atv + 2)) ∧ (IntKind.i64.wrap (atv + 2)) ≤ (s.length : Int)) <|
        (f_ref01_Whole (cut s atv (IntKind.i64.wrap (atv + 2)))).bind fun t =>
        if ((decide ((IntKind.i64.wrap t) > 4096)) || (decide ((IntKind.i64.wrap t) > (IntKind.i64.wrap ((IntKind.i64.wrap ((s.length : Int) - atv)) - 2))))) then
          some (.inr (([] : (List Str)), false))
        else
          gd (0 ≤ (IntKind.i64.wrap (atv + 2)) ∧ (IntKind.i64.wrap (atv + 2)) ≤ (IntKind.i64.wrap ((IntKind.i64.wrap (atv + 2)) + (IntKind.i64.wrap t))) ∧ (IntKind.i64.wrap ((IntKind.i64.wrap (atv + 2)) + (IntKind.i64.wrap t))) ≤ (s.length : Int)) <|
          gd ((out.length + 1) * 16 ≤ 140737488355328) <|
          f_ref10_Entries_l11 s m_ (IntKind.i64.wrap ((IntKind.i64.wrap (atv + 2)) + (IntKind.i64.wrap t))) (out ++ ([(cut s (IntKind.i64.wrap (atv + 2)) (IntKind.i64.wrap ((IntKind.i64.wrap (atv + 2)) + (IntKind.i64.wrap t))))] : List Str))
    else
      some (.inl (atv, out))
def f_ref10_Entries (s : Str) : Option ((List Str) × Bool) :=
  Option.bind (f_ref10_Entries_l11 s ((((s.length : Int) : Int) - 0).toNat + 1) 0 ([] : List Str)) fun s2 : (Int × (List Str)) ⊕ ((List Str) × Bool) => match s2 with
  | .inr z => some z
  | .inl s3 =>
    some (s3.2, true)
def f_ref10_Open (d : api_Disk) : Option (api_Ledger × Int) :=
  (f_ref09_Right d).bind fun t =>
  if ((!t) || (decide ((d.Dirty.length : Int) > 0))) then
    some ((api_Ledger.mk (api_Disk.mk ([] : (List Str)) ([] : (List api_Write))) 0 0 0 ([] : (List Str))), 1)
  else
    (f_ref10_Gen d 0).bind fun t2 =>
    (f_ref10_Gen d 1).bind fun t3 =>
    if ((t2 == 0) && (t3 == 0)) then
      some ((api_Ledger.mk (api_Disk.mk ([] : (List Str)) ([] : (List api_Write))) 0 0 0 ([] : (List Str))), 14)
    else
      Option.bind (
        if (decide (t3 > t2)) then
          some (1, t3)
        else
          some (0, t2)) fun s : Int × Int =>
      (f_ref10_Used d s.1).bind fun t4 =>
      (f_ref10_Room d s.1).bind fun t5 =>
      gd (0 ≤ t4 ∧ t4 ≤ (t5.length : Int)) <|
      (f_ref10_Entries (cut t5 0 t4)).bind fun t6 =>
      if (!t6.2) then
        some ((api_Ledger.mk (api_Disk.mk ([] : (List Str)) ([] : (List api_Write))) 0 0 0 ([] : (List Str))), 14)
      else
        some ((api_Ledger.mk d s.1 s.2 t4 t6.1), 0)
def f_slices_IndexFunc_string_string_l7 (s : (List Str)) (f : Str → Option (Bool)) : Nat → Int → Option ((Int) ⊕ (Int))
  | 0, _ => none
  | m_ + 1, v8 =>
    if (decide (v8 < (s.length : Int))) then
      (ix s v8).bind fun x =>
      (f x).bind fun b =>
      if b then
        some (.inr v8)
      else
        f_slices_IndexFunc_string_string_l7 s f m_ (IntKind.i64.wrap (v8 + 1))
    else
      some (.inl v8)
def f_slices_IndexFunc_string_string (s : (List Str)) (f : Str → Option (Bool)) : Option (Int) :=
  Option.bind (f_slices_IndexFunc_string_string_l7 s f ((((s.length : Int) : Int) - 0).toNat + 1) 0) fun s2 : (Int) ⊕ (Int) => match s2 with
  | .inr z => some z
  | .inl s3 =>
    some (-1)
def f_slices_ContainsFunc_string_string (s : (List Str)) (f : Str → Option (Bool)) : Option (Bool) :=
  (f_slices_IndexFunc_string_string s f).bind fun t =>
  some (decide (t ≥ 0))
def f_disk_Right_1 (s : Str) : Option (Bool) :=
  some ((s.length : Int) != 128)
def f_slices_IndexFunc_api_Write_api_Write_l7 (s : (List api_Write)) (f : api_Write → Option (Bool)) : Nat → Int → Option ((Int) ⊕ (Int))
  | 0, _ => none
  | m_ + 1, v8 =>
    if (decide (v8 < (s.length : Int))) then
      (ix s v8).bind fun x =>
      (f x).bind fun b =>
      if b then
        some (.inr v8)
      else
        f_slices_IndexFunc_api_Write_api_Write_l7 s f m_ (IntKind.i64.wrap (v8 + 1))
    else
      some (.inl v8)
def f_slices_IndexFunc_api_Write_api_Write (s : (List api_Write)) (f : api_Write → Option (Bool)) : Option (Int) :=
  Option.bind (f_slices_IndexFunc_api_Write_api_Write_l7 s f ((((s.length : Int) : Int) - 0).toNat + 1) 0) fun s2 : (Int) ⊕ (Int) => match s2 with
  | .inr z => some z
  | .inl s3 =>
    some (-1)
def f_slices_ContainsFunc_api_Write_api_Write (s : (List api_Write)) (f : api_Write → Option (Bool)) : Option (Bool) :=
  (f_slices_IndexFunc_api_Write_api_Write s f).bind fun t =>
  some (decide (t ≥ 0))
def f_disk_well_1 (w : api_Write) (p1 : Int) : Option (Bool) :=
  some (((decide (w.At < 0)) || (decide (w.At ≥ p1))) || ((w.Data.length : Int) != 128))
def f_disk_well (l : (List api_Write)) (sectors : Int) : Option (Bool) :=
  (f_slices_ContainsFunc_api_Write_api_Write l (fun a0 => f_disk_well_1 a0 sectors)).bind fun t =>
  some (!t)
def f_disk_Right (d : api_Disk) : Option (Bool) :=
  (gx (((decide ((d.Sectors.length : Int) ≥ 4)) && (decide ((d.Sectors.length : Int) ≤ 64))) && (decide ((d.Dirty.length : Int) ≤ 200))) (f_slices_ContainsFunc_string_string d.Sectors f_disk_Right_1) default).bind fun t =>
  (gx ((((decide ((d.Sectors.length : Int) ≥ 4)) && (decide ((d.Sectors.length : Int) ≤ 64))) && (decide ((d.Dirty.length : Int) ≤ 200))) && (!t)) (f_disk_well d.Dirty (d.Sectors.length : Int)) default).bind fun t2 =>
  some (((((decide ((d.Sectors.length : Int) ≥ 4)) && (decide ((d.Sectors.length : Int) ≤ 64))) && (decide ((d.Dirty.length : Int) ≤ 200))) && (!t)) && t2)
def f_ledger_room (d : api_Disk) (half : Int) : Option (Int × Str) :=
  gd (0 ≤ (IntKind.i64.wrap ((IntKind.i64.wrap (half * (IntKind.i64.wrap ((d.Sectors.length : Int).tdiv 2)))) + 1)) ∧ (IntKind.i64.wrap ((IntKind.i64.wrap (half * (IntKind.i64.wrap ((d.Sectors.length : Int).tdiv 2)))) + 1)) ≤ (IntKind.i64.wrap ((IntKind.i64.wrap (half + 1)) * (IntKind.i64.wrap ((d.Sectors.length : Int).tdiv 2)))) ∧ (IntKind.i64.wrap ((IntKind.i64.wrap (half + 1)) * (IntKind.i64.wrap ((d.Sectors.length : Int).tdiv 2)))) ≤ (d.Sectors.length : Int)) <|
  (f_strings_Join (cut d.Sectors (IntKind.i64.wrap ((IntKind.i64.wrap (half * (IntKind.i64.wrap ((d.Sectors.length : Int).tdiv 2)))) + 1)) (IntKind.i64.wrap ((IntKind.i64.wrap (half + 1)) * (IntKind.i64.wrap ((d.Sectors.length : Int).tdiv 2))))) ([] : Str)).bind fun t =>
  some ((IntKind.i64.wrap (half * (IntKind.i64.wrap ((d.Sectors.length : Int).tdiv 2)))), t)
def f_octet_Whole_l9 (s : Str) : Nat → Int → Int → Option (Int × Int)
  | 0, _, _ => none
  | m_ + 1, n, v11 =>
    if (decide (v11 < (s.length : Int))) then
      (ix s v11).bind fun c =>
      gd (0 ≤ (IntKind.i64.wrap (8 * v11))) <|
      (some (IntKind.u64.wrap ((BitVec.ofInt IntKind.u64.bits n ||| BitVec.ofInt IntKind.u64.bits (IntKind.u64.wrap ((IntKind.u64.wrap (bn c)) * 2 ^ (min (IntKind.i64.wrap (8 * v11)).toNat IntKind.u64.bits)))).toNat))).bind fun n2 =>
      f_octet_Whole_l9 s m_ n2 (IntKind.i64.wrap (v11 + 1))
    else
      some (n, v11)
def f_octet_Whole (s : Str) : Option (Int × Int) :=
  if (decide ((s.length : Int) > 8)) then
    some (0, 2)
  else
    Option.bind (f_octet_Whole_l9 s ((((s.length : Int) : Int) - 0).toNat + 1) 0 0) fun s2 : Int × Int =>
    some (s2.1, 0)
def f_octet_Wide_l11 (n : Int) (size : Int) : Nat → Int → (List Int) → Option (Int × (List Int))
  | 0, _, _ => none
  | m_ + 1, v29, out =>
    if (decide (v29 < (size.toNat : Int))) then
      gd (0 ≤ (IntKind.i64.wrap (8 * v29))) <|
      (ix out v29).bind fun x =>
      f_octet_Wide_l11 n size m_ (IntKind.i64.wrap (v29 + 1)) (out.set v29.toNat (IntKind.u8.wrap (n.fdiv (2 ^ (min (IntKind.i64.wrap (8 * v29)).toNat IntKind.u64.bits)))))
    else
      some (v29, out)
def f_octet_Wide (n : Int) (size : Int) : Option (Str × Int) :=
  if ((decide (size < 0)) || (decide (size > 8))) then
    some (([] : Str), 1)
  else
    gd ((decide (size < 8)) = true → 0 ≤ (IntKind.i64.wrap (8 * size))) <|
    if ((decide (size < 8)) && ((n.fdiv (2 ^ (min (IntKind.i64.wrap (8 * size)).toNat IntKind.u64.bits))) != 0)) then
      some (([] : Str), 2)
    else
      gd (0 ≤ size ∧ size ≤ size ∧ size * 1 ≤ 140737488355328 ∧ size < 9223372036854775808) <|
      Option.bind (f_octet_Wide_l11 n size ((((size.toNat : Int) : Int) - 0).toNat + 1) 0 (List.replicate size.toNat 0)) fun s : Int × (List Int) =>
      some ((s.2.map nb), 0)
def f_ledger_head (gen : Int) (used : Int) : Option (Str) :=
  (f_octet_Wide (IntKind.u64.wrap gen) 6).bind fun t =>
  (f_octet_Wide (IntKind.u64.wrap used) 3).bind fun t2 =>
  gd (3 + t.1.length ≤ 9223372036854775807) <|
  gd ((([108, 101, 100] : Str) ++ t.1).length + t2.1.length ≤ 9223372036854775807) <|
  (f_strings_Repeat ([0] : Str) (IntKind.i64.wrap (128 - (((([108, 101, 100] : Str) ++ t.1) ++ t2.1).length : Int)))).bind fun t3 =>
  gd (((([108, 101, 100] : Str) ++ t.1) ++ t2.1).length + t3.length ≤ 9223372036854775807) <|
  some (((([108, 101, 100] : Str) ++ t.1) ++ t2.1) ++ t3)
def f_ledger_tells (d : api_Disk) (half : Int) : Option (Int × Int) :=
  (f_ledger_room d half).bind fun t =>
  (ix d.Sectors t.1).bind fun x =>
  gd (9 ≤ (x.length : Int)) <|
  (f_octet_Whole (cut x 3 9)).bind fun t2 =>
  gd (12 ≤ (x.length : Int)) <|
  (f_octet_Whole (cut x 9 12)).bind fun t3 =>
  (gx (!(((decide (t2.1 < 1)) || (decide (t2.1 > 1099511627776))) || (decide (t3.1 > (IntKind.u64.wrap (t.2.length : Int)))))) (f_ledger_head (IntKind.i64.wrap t2.1) (IntKind.i64.wrap t3.1)) default).bind fun t4 =>
  if ((((decide (t2.1 < 1)) || (decide (t2.1 > 1099511627776))) || (decide (t3.1 > (IntKind.u64.wrap (t.2.length : Int))))) || (!(t4 == x))) then
    some (0, 0)
  else
    some ((IntKind.i64.wrap t2.1), (IntKind.i64.wrap t3.1))
def f_ledger_entries_l10 (s : Str) : Nat → Str → (List Str) → Option ((Str × (List Str)) ⊕ ((List Str) × Bool))
  | 0, _, _ => none
  | m_ + 1, s2, out =>
    if (!(s2 == ([] : Str))) then
      if (decide ((s2.length : Int) < 2)) then
        some (.inr (([] : (List Str)), false))
      else
        gd (2 ≤ (s2.length : Int)) <|
        (f_octet_Whole (cut s2 0 2)).bind fun t =>
        gd (2 ≤ (s2.length : Int)) <|
        if ((decide (t.1 > 4096)) || (decide (t.1 > (IntKind.u64.wrap ((cut s2 2 (s2.length : Int)).length : Int))))) then
          some (.inr (([] : (List Str)), false))
        else
          gd (0 ≤ t.1 ∧ t.1 ≤ ((cut s2 2 (s2.length : Int)).length : Int)) <|
          gd ((out.length + 1) * 16 ≤ 140737488355328) <|
          gd (0 ≤ t.1 ∧ t.1 ≤ ((cut s2 2 (s2.length : Int)).length : Int)) <|
          f_ledger_entries_l10 s m_ (cut (cut s2 2 (s2.length : Int)) t.1 ((cut s2 2 (s2.length : Int)).length : Int)) (out ++ ([(cut (cut s2 2 (s2.length : Int)) 0 t.1)] : List Str))
    else
      some (.inl (s2, out))
def f_ledger_entries (s : Str) : Option ((List Str) × Bool) :=
  Option.bind (f_ledger_entries_l10 s (s.length + 1) s []) fun s2 : (Str × (List Str)) ⊕ ((List Str) × Bool) => match s2 with
  | .inr z => some z
  | .inl s3 =>
    some (s3.2, true)
def f_ledger_Open_l11 (d : api_Disk) : Nat → Int → Int → Int → Int → Option (Int × Int × Int × Int)
  | 0, _, _, _, _ => none
  | m_ + 1, v24, l, l2, l3 =>
    if (decide (v24 < 2)) then
      (f_ledger_tells d v24).bind fun t2 =>
      if (decide (t2.1 > l2)) then
        f_ledger_Open_l11 d m_ (IntKind.i64.wrap (v24 + 1)) v24 t2.1 t2.2
      else
        f_ledger_Open_l11 d m_ (IntKind.i64.wrap (v24 + 1)) l l2 l3
    else
      some (v24, l, l2, l3)
def f_ledger_Open (d : api_Disk) : Option (api_Ledger × Int) :=
  (f_disk_Right d).bind fun t =>
  if ((!t) || (decide ((d.Dirty.length : Int) > 0))) then
    some ((api_Ledger.mk (api_Disk.mk ([] : (List Str)) ([] : (List api_Write))) 0 0 0 ([] : (List Str))), 1)
  else
    Option.bind (f_ledger_Open_l11 d (((2 : Int) - 0).toNat + 1) 0 0 0 0) fun s : Int × Int × Int × Int =>
    (f_ledger_room d s.2.1).bind fun t2 =>
    gd (0 ≤ s.2.2.2 ∧ s.2.2.2 ≤ (t2.2.length : Int)) <|
    (f_ledger_entries (cut t2.2 0 s.2.2.2)).bind fun t3 =>
    if ((s.2.2.1 == 0) || (!t3.2)) then
      some ((api_Ledger.mk (api_Disk.mk ([] : (List Str)) ([] : (List api_Write))) 0 0 0 ([] : (List Str))), 14)
    else
      some ((api_Ledger.mk d s.2.1 s.2.2.1 s.2.2.2 t3.1), 0)
def f_slices_Equal_string_string_l9 (s1 : (List Str)) (s2 : (List Str)) : Nat → Int → Option ((Int) ⊕ (Bool))
  | 0, _ => none
  | m_ + 1, v13 =>
    if (decide (v13 < (s1.length : Int))) then
      (ix s1 v13).bind fun x =>
      (ix s2 v13).bind fun x2 =>
      if (!(x == x2)) then
        some (.inr false)
      else
        f_slices_Equal_string_string_l9 s1 s2 m_ (IntKind.i64.wrap (v13 + 1))
    else
      some (.inl v13)
def f_slices_Equal_string_string (s1 : (List Str)) (s2 : (List Str)) : Option (Bool) :=
  if ((s1.length : Int) != (s2.length : Int)) then
    some false
  else
    Option.bind (f_slices_Equal_string_string_l9 s1 s2 ((((s1.length : Int) : Int) - 0).toNat + 1) 0) fun s : (Int) ⊕ (Bool) => match s with
    | .inr z => some z
    | .inl s3 =>
      some true
def f_ledger_Right (l : api_Ledger) : Option (Bool) :=
  (f_ledger_Open l.Disk).bind fun t =>
  (gx ((((t.2 == 0) && (t.1.Half == l.Half)) && (t.1.Gen == l.Gen)) && (t.1.Used == l.Used)) (f_slices_Equal_string_string t.1.Entries l.Entries) default).bind fun t2 =>
  some (((((t.2 == 0) && (t.1.Half == l.Half)) && (t.1.Gen == l.Gen)) && (t.1.Used == l.Used)) && t2)
def f_octet_Bind (parts : List Str) : Option (Str × Int) := gd (parts.length ≤ 140737488355328) <| some (bindR parts)

def f_ledger_lay_l8 (d : api_Disk) (gen : Int) (used : Int) (s : Str) (t : Int × Str) (t2 : Str) : Nat → Int → (List api_Write) → Option (Int × (List api_Write))
  | 0, _, _ => none
  | m_ + 1, kv, out =>
    if (decide ((IntKind.i64.wrap (kv * 128)) < (IntKind.i64.wrap (used + (s.length : Int))))) then
      gd (0 ≤ (IntKind.i64.wrap (kv * 128)) ∧ (IntKind.i64.wrap (kv * 128)) ≤ (IntKind.i64.wrap ((IntKind.i64.wrap (kv + 1)) * 128)) ∧ (IntKind.i64.wrap ((IntKind.i64.wrap (kv + 1)) * 128)) ≤ ((((cut t.2 0 used) ++ s) ++ t2).length : Int)) <|
      gd ((out.length + 1) * 24 ≤ 140737488355328) <|
      f_ledger_lay_l8 d gen used s t t2 m_ (IntKind.i64.wrap (kv + 1)) (out ++ ([(api_Write.mk (IntKind.i64.wrap ((IntKind.i64.wrap (t.1 + 1)) + kv)) (cut (((cut t.2 0 used) ++ s) ++ t2) (IntKind.i64.wrap (kv * 128)) (IntKind.i64.wrap ((IntKind.i64.wrap (kv + 1)) * 128))))] : List api_Write))
    else
      some (kv, out)
def f_ledger_lay (d : api_Disk) (half : Int) (gen : Int) (used : Int) (s : Str) : Option ((List (List api_Write))) :=
  (f_ledger_room d half).bind fun t =>
  gd (0 ≤ used ∧ used ≤ (t.2.length : Int)) <|
  gd ((cut t.2 0 used).length + s.length ≤ 9223372036854775807) <|
  (f_strings_Repeat ([0] : Str) (IntKind.i64.wrap ((IntKind.i64.wrap ((t.2.length : Int) - used)) - (s.length : Int)))).bind fun t2 =>
  gd (((cut t.2 0 used) ++ s).length + t2.length ≤ 9223372036854775807) <|
  Option.bind (f_ledger_lay_l8 d gen used s t t2 ((((IntKind.i64.wrap (used + (s.length : Int))) : Int) - (IntKind.i64.wrap ((IntKind.i64.wrap (used.tdiv 128)) * 128))).toNat + 1) (IntKind.i64.wrap (used.tdiv 128)) []) fun s2 : Int × (List api_Write) =>
  Option.bind (
    if (s == ([] : Str)) then
      some []
    else
      some s2.2) fun s3 : (List api_Write) =>
  (f_ledger_head gen (IntKind.i64.wrap (used + (s.length : Int)))).bind fun t3 =>
  some ([s3, ([(api_Write.mk t.1 t3)] : List api_Write)] : (List (List api_Write)))
def f_ledger_Steps (l : api_Ledger) (renew : Bool) (news : (List Str)) : Option ((List (List api_Write)) × Int) :=
  (f_ledger_Right l).bind fun t =>
  if (!t) then
    some (([] : (List (List api_Write))), 1)
  else
    (f_octet_Bind news).bind fun t2 =>
    if (t2.2 != 0) then
      some (([] : (List (List api_Write))), t2.2)
    else
      Option.bind (
        if renew then
          some ((IntKind.i64.wrap (1 - l.Half)), (IntKind.i64.wrap (l.Gen + 1)), 0)
        else
          some (l.Half, l.Gen, l.Used)) fun s : Int × Int × Int =>
      (f_ledger_room l.Disk s.1).bind fun t3 =>
      if ((decide ((t2.1.length : Int) > (IntKind.i64.wrap ((t3.2.length : Int) - s.2.2)))) || (decide (s.2.1 > 1099511627776))) then
        some (([] : (List (List api_Write))), 13)
      else
        (f_ledger_lay l.Disk s.1 s.2.1 s.2.2 t2.1).bind fun t4 =>
        some (t4, 0)
def f_slices_Clip_api_Write_api_Write (s : (List api_Write)) : Option ((List api_Write)) :=
  gd (0 ≤ (s.length : Int) ∧ (s.length : Int) ≤ (s.length : Int) ∧ (s.length : Int) = (s.length : Int)) <|
  some (cut s 0 (s.length : Int))
def f_disk_Save (d : api_Disk) (w : (List api_Write)) : Option (api_Disk × Int) :=
  (f_disk_Right d).bind fun t =>
  (gx (!(!t)) (f_disk_well w (d.Sectors.length : Int)) default).bind fun t2 =>
  if ((!t) || (!t2)) then
    some ((api_Disk.mk ([] : (List Str)) ([] : (List api_Write))), 1)
  else
    if (decide ((IntKind.i64.wrap ((d.Dirty.length : Int) + (w.length : Int))) > 200)) then
      some ((api_Disk.mk ([] : (List Str)) ([] : (List api_Write))), 13)
    else
      (f_slices_Clip_api_Write_api_Write d.Dirty).bind fun t3 =>
      gd ((t3.length + w.length) * 24 ≤ 140737488355328) <|
      some ((api_Disk.mk d.Sectors (t3 ++ w)), 0)
def f_disk_ends_l12 (d : api_Disk) (fate : Int → Option (Int)) : Nat → Int → (List Str) → Option (Int × (List Str))
  | 0, _, _ => none
  | m_ + 1, v15, l =>
    if (decide (v15 < (d.Dirty.length : Int))) then
      (ix d.Dirty v15).bind fun x =>
      (fate v15).bind fun b =>
      if (b == 2) then
        (ix l x.At).bind fun x2 =>
        gd (64 ≤ (x2.length : Int)) <|
        gd (0 ≤ (IntKind.i64.wrap (128 - ((cut x2 64 (x2.length : Int)).length : Int))) ∧ (IntKind.i64.wrap (128 - ((cut x2 64 (x2.length : Int)).length : Int))) ≤ (x.Data.length : Int)) <|
        gd ((cut x.Data 0 (IntKind.i64.wrap (128 - ((cut x2 64 (x2.length : Int)).length : Int)))).length + (cut x2 64 (x2.length : Int)).length ≤ 9223372036854775807) <|
        (ix l x.At).bind fun x3 =>
        f_disk_ends_l12 d fate m_ (IntKind.i64.wrap (v15 + 1)) (l.set x.At.toNat ((cut x.Data 0 (IntKind.i64.wrap (128 - ((cut x2 64 (x2.length : Int)).length : Int)))) ++ (cut x2 64 (x2.length : Int))))
      else
        if (b == 1) then
          gd (0 ≤ (IntKind.i64.wrap (128 - 0)) ∧ (IntKind.i64.wrap (128 - 0)) ≤ (x.Data.length : Int)) <|
          gd ((cut x.Data 0 (IntKind.i64.wrap (128 - 0))).length + 0 ≤ 9223372036854775807) <|
          (ix l x.At).bind fun x2 =>
          f_disk_ends_l12 d fate m_ (IntKind.i64.wrap (v15 + 1)) (l.set x.At.toNat (cut x.Data 0 (IntKind.i64.wrap (128 - 0))))
        else
          f_disk_ends_l12 d fate m_ (IntKind.i64.wrap (v15 + 1)) l
    else
      some (v15, l)
def f_disk_ends (d : api_Disk) (fate : Int → Option (Int)) : Option (api_Disk) :=
  (f_slices_Clone_string_string d.Sectors).bind fun t =>
  Option.bind (f_disk_ends_l12 d fate ((((d.Dirty.length : Int) : Int) - 0).toNat + 1) 0 t) fun s : Int × (List Str) =>
  some (api_Disk.mk s.2 ([] : (List api_Write)))
def f_disk_Flush_1 (p0 : Int) : Option (Int) :=
  some 1
def f_disk_Flush (d : api_Disk) : Option (api_Disk × Int) :=
  (f_disk_Right d).bind fun t =>
  if (!t) then
    some ((api_Disk.mk ([] : (List Str)) ([] : (List api_Write))), 1)
  else
    (f_disk_ends d f_disk_Flush_1).bind fun t2 =>
    some (t2, 0)
def f_ledger_done_l11 (t : (List (List api_Write)) × Int) : Nat → Int → (List Str) → (List api_Write) → Option (Int × (List Str) × (List api_Write))
  | 0, _, _, _ => none
  | m_ + 1, v28, d, d2 =>
    if (decide (v28 < (t.1.length : Int))) then
      (ix t.1 v28).bind fun x =>
      (f_disk_Save (api_Disk.mk d d2) x).bind fun t2 =>
      (f_disk_Flush t2.1).bind fun t3 =>
      f_ledger_done_l11 t m_ (IntKind.i64.wrap (v28 + 1)) t3.1.Sectors t3.1.Dirty
    else
      some (v28, d, d2)
def f_ledger_done (l : api_Ledger) (renew : Bool) (news : (List Str)) : Option (api_Ledger × Int) :=
  (f_ledger_Steps l renew news).bind fun t =>
  if (t.2 != 0) then
    some ((api_Ledger.mk (api_Disk.mk ([] : (List Str)) ([] : (List api_Write))) 0 0 0 ([] : (List Str))), t.2)
  else
    Option.bind (f_ledger_done_l11 t ((((t.1.length : Int) : Int) - 0).toNat + 1) 0 l.Disk.Sectors l.Disk.Dirty) fun s : Int × (List Str) × (List api_Write) =>
    (f_ledger_Open (api_Disk.mk s.2.1 s.2.2)).bind fun t2 =>
    some (t2.1, t2.2)
def f_ledger_Renew (l : api_Ledger) (news : (List Str)) : Option (api_Ledger × Int) :=
  (f_ledger_done l true news).bind fun t =>
  some (t.1, t.2)
def f_ledger_Add (l : api_Ledger) (news : (List Str)) : Option (api_Ledger × Int) :=
  (f_ledger_done l false news).bind fun t =>
  some (t.1, t.2)
def f_ledger_Format (n : Int) : Option (api_Ledger × Int) :=
  if 4 ≤ n ∧ n ≤ 64 then (f_ledger_head 1 0).bind fun h => f_ledger_Open (api_Disk.mk ((List.replicate n.toNat (List.replicate 128 0)).set 0 h) [])
  else some (api_Ledger.mk (api_Disk.mk [] []) 0 0 0 [], 1)

def f_law10_alive : Option (Bool) :=
  (f_ledger_Format 8).bind fun t =>
  (f_ledger_Add t.1 ([([97] : Str), ([98] : Str)] : List Str)).bind fun t2 =>
  (gx (((t.2 == 0) && (t2.2 == 0)) && ((t2.1.Entries.length : Int) == 2)) (ix t2.1.Entries 1) default).bind fun x =>
  some ((((t.2 == 0) && (t2.2 == 0)) && ((t2.1.Entries.length : Int) == 2)) && (x == ([98] : Str)))
def f_ref01_May_l7 (l : (List Str)) : Nat → Int → Option ((Int) ⊕ (Bool))
  | 0, _ => none
  | m_ + 1, v7 =>
    if (decide (v7 < (l.length : Int))) then
      (ix l v7).bind fun x =>
      if (decide ((x.length : Int) > 4096)) then
        some (.inr false)
      else
        f_ref01_May_l7 l m_ (IntKind.i64.wrap (v7 + 1))
    else
      some (.inl v7)
def f_ref01_May (l : (List Str)) : Option (Bool) :=
  Option.bind (f_ref01_May_l7 l ((((l.length : Int) : Int) - 0).toNat + 1) 0) fun s : (Int) ⊕ (Bool) => match s with
  | .inr z => some z
  | .inl s2 =>
    some (decide ((l.length : Int) ≤ 64))
def f_ref01_Bind_l7 (l : (List Str)) : Nat → Str → Int → Option (Str × Int)
  | 0, _, _ => none
  | m_ + 1, out, v8 =>
    if (decide (v8 < (l.length : Int))) then
      (ix l v8).bind fun x =>
      (f_ref01_Wide (IntKind.u64.wrap (x.length : Int)) 2).bind fun t =>
      gd (out.length + t.length ≤ 9223372036854775807) <|
      gd ((out ++ t).length + x.length ≤ 9223372036854775807) <|
      f_ref01_Bind_l7 l m_ ((out ++ t) ++ x) (IntKind.i64.wrap (v8 + 1))
    else
      some (out, v8)
def f_ref01_Bind (l : (List Str)) : Option (Str) :=
  Option.bind (f_ref01_Bind_l7 l ((((l.length : Int) : Int) - 0).toNat + 1) ([] : Str) 0) fun s : Str × Int =>
  some s.1
def f_ref10_With_l7 (d : api_Disk) (half : Int) (gen : Int) (used : Int) (s : Str) (t : Str) : Nat → (List Int) → Option ((List Int))
  | 0, _ => none
  | m_ + 1, thenv =>
    if (decide ((thenv.length : Int) < (t.length : Int))) then
      gd ((thenv.length + 1) * 1 ≤ 140737488355328) <|
      f_ref10_With_l7 d half gen used s t m_ (thenv ++ ([0] : List Int))
    else
      some thenv
def f_ref10_With_l13 (d : api_Disk) (half : Int) (gen : Int) (used : Int) (s : Str) (t : Str) : Nat → (List Int) → Int → (List Str) → Option ((List Int) × Int × (List Str))
  | 0, _, _, _ => none
  | m_ + 1, thenv, kv, v20 =>
    if (decide ((IntKind.i64.wrap (128 * kv)) < (t.length : Int))) then
      if (((decide ((s.length : Int) > 0)) && (decide ((IntKind.i64.wrap ((IntKind.i64.wrap (128 * kv)) + 128)) > used))) && (decide ((IntKind.i64.wrap (128 * kv)) < (IntKind.i64.wrap (used + (s.length : Int)))))) then
        (f_ref10_At d half).bind fun t2 =>
        gd (0 ≤ (IntKind.i64.wrap (128 * kv)) ∧ (IntKind.i64.wrap (128 * kv)) ≤ (IntKind.i64.wrap ((IntKind.i64.wrap (128 * kv)) + 128)) ∧ (IntKind.i64.wrap ((IntKind.i64.wrap (128 * kv)) + 128)) ≤ (thenv.length : Int)) <|
        (ix v20 (IntKind.i64.wrap ((IntKind.i64.wrap (t2 + 1)) + kv))).bind fun x =>
        f_ref10_With_l13 d half gen used s t m_ thenv (IntKind.i64.wrap (kv + 1)) (v20.set (IntKind.i64.wrap ((IntKind.i64.wrap (t2 + 1)) + kv)).toNat ((cut thenv (IntKind.i64.wrap (128 * kv)) (IntKind.i64.wrap ((IntKind.i64.wrap (128 * kv)) + 128))).map nb))
      else
        f_ref10_With_l13 d half gen used s t m_ thenv (IntKind.i64.wrap (kv + 1)) v20
    else
      some (thenv, kv, v20)
def f_ref10_With (d : api_Disk) (half : Int) (gen : Int) (used : Int) (s : Str) : Option (api_Disk) :=
  gd (d.Sectors.length * 16 ≤ 140737488355328) <|
  (f_ref10_Room d half).bind fun t =>
  gd (0 ≤ used ∧ used ≤ (t.length : Int)) <|
  gd ((cut t 0 used).length + s.length ≤ 9223372036854775807) <|
  Option.bind (f_ref10_With_l7 d half gen used s t ((((t.length : Int) : Int) - (((cut t 0 used) ++ s).length : Int)).toNat + 1) (((cut t 0 used) ++ s).map bn)) fun s2 : (List Int) =>
  Option.bind (f_ref10_With_l13 d half gen used s t ((((t.length : Int) : Int) - (IntKind.i64.wrap (128 * 0))).toNat + 1) s2 0 d.Sectors) fun s3 : (List Int) × Int × (List Str) =>
  (f_ref10_At d half).bind fun t2 =>
  (f_ref10_Head gen (IntKind.i64.wrap (used + (s.length : Int)))).bind fun t3 =>
  (ix s3.2.2 t2).bind fun x =>
  some (api_Disk.mk (s3.2.2.set t2.toNat t3) ([] : (List api_Write)))
def f_ref09_Like_l9 (a : api_Disk) (b : api_Disk) : Nat → Int → Option ((Int) ⊕ (Bool))
  | 0, _ => none
  | m_ + 1, v26 =>
    if (decide (v26 < (a.Sectors.length : Int))) then
      (ix a.Sectors v26).bind fun x =>
      (ix b.Sectors v26).bind fun x2 =>
      if (!(x == x2)) then
        some (.inr false)
      else
        f_ref09_Like_l9 a b m_ (IntKind.i64.wrap (v26 + 1))
    else
      some (.inl v26)
def f_ref09_Like_l16 (a : api_Disk) (b : api_Disk) : Nat → Int → Option ((Int) ⊕ (Bool))
  | 0, _ => none
  | m_ + 1, v44 =>
    if (decide (v44 < (a.Dirty.length : Int))) then
      (ix a.Dirty v44).bind fun x =>
      (ix b.Dirty v44).bind fun x2 =>
      if (!((x.At == x2.At) && (x.Data == x2.Data))) then
        some (.inr false)
      else
        f_ref09_Like_l16 a b m_ (IntKind.i64.wrap (v44 + 1))
    else
      some (.inl v44)
def f_ref09_Like (a : api_Disk) (b : api_Disk) : Option (Bool) :=
  if (((a.Sectors.length : Int) != (b.Sectors.length : Int)) || ((a.Dirty.length : Int) != (b.Dirty.length : Int))) then
    some false
  else
    Option.bind (f_ref09_Like_l9 a b ((((a.Sectors.length : Int) : Int) - 0).toNat + 1) 0) fun s : (Int) ⊕ (Bool) => match s with
    | .inr z => some z
    | .inl s2 =>
      Option.bind (f_ref09_Like_l16 a b ((((a.Dirty.length : Int) : Int) - 0).toNat + 1) 0) fun s : (Int) ⊕ (Bool) => match s with
      | .inr z => some z
      | .inl s3 =>
        some true
def f_ref01_Same_l9 (a : (List Str)) (b : (List Str)) : Nat → Int → Option ((Int) ⊕ (Bool))
  | 0, _ => none
  | m_ + 1, v13 =>
    if (decide (v13 < (a.length : Int))) then
      (ix a v13).bind fun x =>
      (ix b v13).bind fun x2 =>
      if (!(x == x2)) then
        some (.inr false)
      else
        f_ref01_Same_l9 a b m_ (IntKind.i64.wrap (v13 + 1))
    else
      some (.inl v13)
def f_ref01_Same (a : (List Str)) (b : (List Str)) : Option (Bool) :=
  if ((a.length : Int) != (b.length : Int)) then
    some false
  else
    Option.bind (f_ref01_Same_l9 a b ((((a.length : Int) : Int) - 0).toNat + 1) 0) fun s : (Int) ⊕ (Bool) => match s with
    | .inr z => some z
    | .inl s2 =>
      some true
def f_ref10_Like (a : api_Ledger) (b : api_Ledger) : Option (Bool) :=
  (f_ref09_Like a.Disk b.Disk).bind fun t =>
  (gx (((t && (a.Half == b.Half)) && (a.Gen == b.Gen)) && (a.Used == b.Used)) (f_ref01_Same a.Entries b.Entries) default).bind fun t2 =>
  some ((((t && (a.Half == b.Half)) && (a.Gen == b.Gen)) && (a.Used == b.Used)) && t2)
def f_law10_LedgerSteps_l39 (d : api_Disk) (t : api_Disk) (t4 : (List (List api_Write)) × Int) (s : Int × (List Str) × (List api_Write) × Int × Int × Int × (List Str)) (t7 : Str) (s2 : Int × Int × Int) (t10 : api_Ledger × Int) (v155 : Int) (x2 : (List api_Write)) : Nat → Int → Int → (List Str) → (List api_Write) → Option ((Int × Int × (List Str) × (List api_Write)) ⊕ (Bool))
  | 0, _, _, _, _ => none
  | m_ + 1, last2, v161, now3, now4 =>
    if (decide (v161 < (x2.length : Int))) then
      (ix x2 v161).bind fun x3 =>
      if ((decide (x3.At ≤ last2)) && (decide ((x2.length : Int) > 1))) then
        some (.inr false)
      else
        (f_disk_Save (api_Disk.mk now3 now4) ([x3] : List api_Write)).bind fun t12 =>
        if (t12.2 != 0) then
          some (.inr false)
        else
          f_law10_LedgerSteps_l39 d t t4 s t7 s2 t10 v155 x2 m_ x3.At (IntKind.i64.wrap (v161 + 1)) t12.1.Sectors t12.1.Dirty
    else
      some (.inl (last2, v161, now3, now4))
def f_law10_LedgerSteps_l41 (d : api_Disk) (t : api_Disk) (t4 : (List (List api_Write)) × Int) (s : Int × (List Str) × (List api_Write) × Int × Int × Int × (List Str)) (t7 : Str) (s2 : Int × Int × Int) (t10 : api_Ledger × Int) : Nat → Int → Int → (List Str) → (List api_Write) → Option ((Int × Int × (List Str) × (List api_Write)) ⊕ (Bool))
  | 0, _, _, _, _ => none
  | m_ + 1, last, v155, now, now2 =>
    if (decide (v155 < (t4.1.length : Int))) then
      (ix t4.1 v155).bind fun x2 =>
      Option.bind (f_law10_LedgerSteps_l39 d t t4 s t7 s2 t10 v155 x2 ((((x2.length : Int) : Int) - 0).toNat + 1) last 0 now now2) fun s3 : (Int × Int × (List Str) × (List api_Write)) ⊕ (Bool) => match s3 with
      | .inr z => some (.inr z)
      | .inl s4 =>
        f_law10_LedgerSteps_l41 d t t4 s t7 s2 t10 m_ s4.1 (IntKind.i64.wrap (v155 + 1)) s4.2.2.1 s4.2.2.2
    else
      some (.inl (last, v155, now, now2))
def f_law10_LedgerSteps (d : api_Disk) (renew : Bool) (news : (List Str)) : Option (Bool) :=
  (f_law10_few d).bind fun t =>
  (f_law10_texts news).bind fun t2 =>
  (f_ref10_Open t).bind fun t3 =>
  (f_ledger_Steps t3.1 renew t2).bind fun t4 =>
  Option.bind (
    if renew then
      (f_ledger_Renew t3.1 t2).bind fun t5 =>
      some (t5.2, t5.1.Disk.Sectors, t5.1.Disk.Dirty, t5.1.Half, t5.1.Gen, t5.1.Used, t5.1.Entries)
    else
      (f_ledger_Add t3.1 t2).bind fun t5 =>
      some (t5.2, t5.1.Disk.Sectors, t5.1.Disk.Dirty, t5.1.Half, t5.1.Gen, t5.1.Used, t5.1.Entries)) fun s : Int × (List Str) × (List api_Write) × Int × Int × Int × (List Str) =>
  (gx (!(t4.2 != s.1)) (f_law10_alive) default).bind fun t5 =>
  if ((t4.2 != s.1) || (!t5)) then
    some false
  else
    if (t3.2 != 0) then
      some ((t4.2 == 1) && ((t4.1.length : Int) == 0))
    else
      (f_ref01_May t2).bind fun t6 =>
      if (!t6) then
        some ((t4.2 == 2) && ((t4.1.length : Int) == 0))
      else
        (f_ref01_Bind t2).bind fun t7 =>
        Option.bind (
          if renew then
            some ((IntKind.i64.wrap (1 - t3.1.Half)), (IntKind.i64.wrap (t3.1.Gen + 1)), 0)
          else
            some (t3.1.Half, t3.1.Gen, t3.1.Used)) fun s2 : Int × Int × Int =>
        (f_ref10_Room t s2.1).bind fun t8 =>
        if ((decide ((t7.length : Int) > (IntKind.i64.wrap ((t8.length : Int) - s2.2.2)))) || (decide (s2.2.1 > 1099511627776))) then
          some ((t4.2 == 13) && ((t4.1.length : Int) == 0))
        else
          (f_ref10_With t s2.1 s2.2.1 s2.2.2 t7).bind fun t9 =>
          (f_ref10_Open t9).bind fun t10 =>
          (gx (!((t4.2 != 0) || (t10.2 != 0))) (f_ref10_Like (api_Ledger.mk (api_Disk.mk s.2.1 s.2.2.1) s.2.2.2.1 s.2.2.2.2.1 s.2.2.2.2.2.1 s.2.2.2.2.2.2) t10.1) default).bind fun t11 =>
          (gx (!((((t4.2 != 0) || (t10.2 != 0)) || (!t11)) || ((t4.1.length : Int) != 2))) (ix t4.1 1) default).bind fun x =>
          if (((((t4.2 != 0) || (t10.2 != 0)) || (!t11)) || ((t4.1.length : Int) != 2)) || ((x.length : Int) != 1)) then
            some false
          else
            Option.bind (f_law10_LedgerSteps_l41 d t t4 s t7 s2 t10 ((((t4.1.length : Int) : Int) - 0).toNat + 1) (-1) 0 t.Sectors t.Dirty) fun s3 : (Int × Int × (List Str) × (List api_Write)) ⊕ (Bool) => match s3 with
            | .inr z => some z
            | .inl s4 =>
              (f_disk_Flush (api_Disk.mk s4.2.2.1 s4.2.2.2)).bind fun t12 =>
              (gx (t12.2 == 0) (f_ref09_Like t12.1 t10.1.Disk) default).bind fun t13 =>
              (gx ((t12.2 == 0) && t13) (ix t4.1 1) default).bind fun x2 =>
              (gx ((t12.2 == 0) && t13) (ix x2 0) default).bind fun x3 =>
              (gx ((t12.2 == 0) && t13) (f_ref10_At t s2.1) default).bind fun t14 =>
              (gx (((t12.2 == 0) && t13) && (x3.At == t14)) (ix t4.1 0) default).bind fun x4 =>
              some ((((t12.2 == 0) && t13) && (x3.At == t14)) && ((decide ((t7.length : Int) > 0)) == (decide ((x4.length : Int) > 0))))
end Go.Proofs.Ytjhelpeglgigbaa.V
end

section
/- The shelf contracts that this seat uses, in plain words. -/
namespace Go.Proofs
open Go.Shelf
def Try.lays170_ren : Go.Shelf.Ren := ⟨fun | 170 => 68 | n => n, fun | 70 => 91 | 3 => 3 | 0 => 0 | 72 => 93 | 37 => 61 | 5 => 5 | n => n, fun | n => n⟩
theorem Try.lays170 : Go.Proofs.Lays.n170 Try.prog Try.lays170_ren := {
  mixed := by kernel_rfl
  f170 := Try.func68.trans (congrArg some (by kernel_rfl))
  t0 := Try.underlying0
  a0 := Try.isAgg0
  z0 := Try.sizeOf0
  v0 := Try.zeroValue0
  t3 := Try.underlying3
  a3 := Try.isAgg3
  z3 := Try.sizeOf3
  v3 := Try.zeroValue3
  t37 := Try.underlying61
  a37 := Try.isAgg61
  z37 := Try.sizeOf61
  v37 := Try.zeroValue61
  t70 := Try.underlying91
  a70 := Try.isAgg91
  z70 := Try.sizeOf91
  v70 := Try.zeroValue91
  t72 := Try.underlying93
  a72 := Try.isAgg93
  z72 := Try.sizeOf93
  v72 := Try.zeroValue93 }
open Go.RowKit in
theorem Try.Builder_Len (B b : Nat) (bs : List Value) (w : World) (h : Lib.IsBuilder 93 5 B b bs w) :
    Calls Try.prog 68 #[.pointer (some ⟨b, 0, none⟩)] w fun e w' => e = .returned (.int .i64 bs.length) ∧ w' = w := Any.Builder_Len Try.lays170 B b bs w h
def Try.lays169_ren : Go.Shelf.Ren := ⟨fun | 169 => 60 | n => n, fun | 70 => 91 | 9 => 9 | 0 => 0 | 72 => 93 | 37 => 61 | 127 => 108 | 3 => 3 | 5 => 5 | n => n, fun | n => n⟩
theorem Try.lays169 : Go.Proofs.Lays.n169 Try.prog Try.lays169_ren := {
  mixed := by kernel_rfl
  f169 := Try.func60.trans (congrArg some (by kernel_rfl))
  t0 := Try.underlying0
  a0 := Try.isAgg0
  z0 := Try.sizeOf0
  v0 := Try.zeroValue0
  t3 := Try.underlying3
  a3 := Try.isAgg3
  z3 := Try.sizeOf3
  v3 := Try.zeroValue3
  t9 := Try.underlying9
  a9 := Try.isAgg9
  z9 := Try.sizeOf9
  v9 := Try.zeroValue9
  t37 := Try.underlying61
  a37 := Try.isAgg61
  z37 := Try.sizeOf61
  v37 := Try.zeroValue61
  t70 := Try.underlying91
  a70 := Try.isAgg91
  z70 := Try.sizeOf91
  v70 := Try.zeroValue91
  t72 := Try.underlying93
  a72 := Try.isAgg93
  z72 := Try.sizeOf93
  v72 := Try.zeroValue93
  t127 := Try.underlying108
  a127 := Try.isAgg108
  z127 := Try.sizeOf108
  v127 := Try.zeroValue108 }
theorem Try.Builder_Extra_169 : Builder.Extra Try.prog Try.lays169_ren := {
  sizeBuilder := by kernel_rfl
  liesBuilder := by kernel_rfl
  t5 := Try.underlying5
  a5 := Try.isAgg5
  z5 := Try.sizeOf5
  v5 := Try.zeroValue5
  infoByte := by kernel_rfl
  cellsByte := by kernel_rfl
  sizeByte := by kernel_rfl
  neB5 := by decide }
open Go.RowKit in
theorem Try.Builder_String (B b : Nat) (l : List UInt8) (w : World) (h : Lib.IsBuilder 93 5 B b (Lib.byteCells l) w) (h0 : l ≠ []) :
    Calls Try.prog 60 #[.pointer (some ⟨b, 0, none⟩)] w fun e w' => e = .returned (.string ⟨l.toArray⟩) ∧ Below B w w' := Any.Builder_String Try.lays169 Try.Builder_Extra_169 B b l w h h0
open Go.RowKit in
theorem Try.Builder_String_empty (B b : Nat) (w : World) (h : Lib.IsBuilder 93 5 B b [] w) (hBw : B ≤ w.heap.size) :
    Calls Try.prog 60 #[.pointer (some ⟨b, 0, none⟩)] w fun e w' => e = .returned (.string ⟨#[]⟩) ∧ Below B w w' := Any.Builder_String_empty Try.lays169 Try.Builder_Extra_169 B b w h hBw
open Go.RowKit in
theorem Try.Builder_String_any (B b : Nat) (l : List UInt8) (w : World) (h : Lib.IsBuilder 93 5 B b (Lib.byteCells l) w) (hBw : B ≤ w.heap.size) :
    Calls Try.prog 60 #[.pointer (some ⟨b, 0, none⟩)] w fun e w' => e = .returned (.string ⟨l.toArray⟩) ∧ Below B w w' := Any.Builder_String_any Try.lays169 Try.Builder_Extra_169 B b l w h hBw
def Try.lays241_ren : Go.Shelf.Ren := ⟨fun | 241 => 71 | 277 => 76 | n => n, fun | 70 => 91 | 3 => 3 | 0 => 0 | 72 => 93 | 37 => 61 | 5 => 5 | n => n, fun | n => n⟩
theorem Try.lays241 : Go.Proofs.Lays.n241 Try.prog Try.lays241_ren := {
  mixed := by kernel_rfl
  f241 := Try.func71.trans (congrArg some (by kernel_rfl))
  f277 := Try.func76.trans (congrArg some (by kernel_rfl))
  t0 := Try.underlying0
  a0 := Try.isAgg0
  z0 := Try.sizeOf0
  v0 := Try.zeroValue0
  t3 := Try.underlying3
  a3 := Try.isAgg3
  z3 := Try.sizeOf3
  v3 := Try.zeroValue3
  t37 := Try.underlying61
  a37 := Try.isAgg61
  z37 := Try.sizeOf61
  v37 := Try.zeroValue61
  t70 := Try.underlying91
  a70 := Try.isAgg91
  z70 := Try.sizeOf91
  v70 := Try.zeroValue91
  t72 := Try.underlying93
  a72 := Try.isAgg93
  z72 := Try.sizeOf93
  v72 := Try.zeroValue93 }
theorem Try.Builder_Extra_241 : Builder.Extra Try.prog Try.lays241_ren := {
  sizeBuilder := by kernel_rfl
  liesBuilder := by kernel_rfl
  t5 := Try.underlying5
  a5 := Try.isAgg5
  z5 := Try.sizeOf5
  v5 := Try.zeroValue5
  infoByte := by kernel_rfl
  cellsByte := by kernel_rfl
  sizeByte := by kernel_rfl
  neB5 := by decide }
open Go.RowKit in
theorem Try.Builder_grow_fresh (B b n : Nat) (w : World) (hB : B ≤ b) (hbk : w.heap[b]? = some (.cells #[.pointer (some ⟨b, 0, none⟩), .slice none 0 0] 93 (0, 0))) (hBw : B ≤ w.heap.size) (hn : n ≤ 281474976710656) :
    Calls Try.prog 71 #[.pointer (some ⟨b, 0, none⟩), .int .i64 n] w fun e w' => e = .returned (.tuple #[]) ∧ (Lib.BuilderAt 93 5 B b (.pointer (some ⟨b, 0, none⟩)) [] w' ∧ Below B w w') := Any.Builder_grow_fresh Try.lays241 Try.Builder_Extra_241 B b n w hB hbk hBw hn
def Try.lays165_ren : Go.Shelf.Ren := ⟨fun | 165 => 65 | 240 => 69 | 241 => 71 | 276 => 75 | 277 => 76 | n => n, fun | 70 => 91 | 3 => 3 | 0 => 0 | 4 => 4 | 9 => 9 | 20 => 20 | 72 => 93 | 37 => 61 | 164 => 115 | 5 => 5 | n => n, fun | n => n⟩
theorem Try.lays165 : Go.Proofs.Lays.n165 Try.prog Try.lays165_ren := {
  mixed := by kernel_rfl
  f165 := Try.func65.trans (congrArg some (by kernel_rfl))
  f240 := Try.func69.trans (congrArg some (by kernel_rfl))
  f241 := Try.func71.trans (congrArg some (by kernel_rfl))
  f276 := Try.func75.trans (congrArg some (by kernel_rfl))
  f277 := Try.func76.trans (congrArg some (by kernel_rfl))
  t0 := Try.underlying0
  a0 := Try.isAgg0
  z0 := Try.sizeOf0
  v0 := Try.zeroValue0
  t3 := Try.underlying3
  a3 := Try.isAgg3
  z3 := Try.sizeOf3
  v3 := Try.zeroValue3
  t4 := Try.underlying4
  a4 := Try.isAgg4
  z4 := Try.sizeOf4
  v4 := Try.zeroValue4
  t9 := Try.underlying9
  a9 := Try.isAgg9
  z9 := Try.sizeOf9
  v9 := Try.zeroValue9
  t20 := Try.underlying20
  a20 := Try.isAgg20
  z20 := Try.sizeOf20
  v20 := Try.zeroValue20
  t37 := Try.underlying61
  a37 := Try.isAgg61
  z37 := Try.sizeOf61
  v37 := Try.zeroValue61
  t70 := Try.underlying91
  a70 := Try.isAgg91
  z70 := Try.sizeOf91
  v70 := Try.zeroValue91
  t72 := Try.underlying93
  a72 := Try.isAgg93
  z72 := Try.sizeOf93
  v72 := Try.zeroValue93
  t164 := Try.underlying115
  a164 := Try.isAgg115
  z164 := Try.sizeOf115
  v164 := Try.zeroValue115 }
theorem Try.Builder_Extra_165 : Builder.Extra Try.prog Try.lays165_ren := {
  sizeBuilder := by kernel_rfl
  liesBuilder := by kernel_rfl
  t5 := Try.underlying5
  a5 := Try.isAgg5
  z5 := Try.sizeOf5
  v5 := Try.zeroValue5
  infoByte := by kernel_rfl
  cellsByte := by kernel_rfl
  sizeByte := by kernel_rfl
  neB5 := by decide }
open Go.RowKit in
theorem Try.Builder_Grow_fresh (B b n : Nat) (w : World) (hB : B ≤ b) (hbk : w.heap[b]? = some (.cells #[.pointer none, .slice none 0 0] 93 (0, 0))) (hBw : B ≤ w.heap.size) (hn : n ≤ 281474976710656) :
    Calls Try.prog 65 #[.pointer (some ⟨b, 0, none⟩), .int .i64 n] w fun e w' => e = .returned (.tuple #[]) ∧ (Lib.BuilderAt 93 5 B b (.pointer (some ⟨b, 0, none⟩)) [] w' ∧ Below B w w') := Any.Builder_Grow_fresh Try.lays165 Try.Builder_Extra_165 B b n w hB hbk hBw hn
def Try.lays156_ren : Go.Shelf.Ren := ⟨fun | 156 => 53 | 165 => 65 | 166 => 59 | 169 => 60 | 240 => 69 | 241 => 71 | 276 => 75 | 277 => 76 | n => n, fun | 31 => 22 | 9 => 9 | 3 => 3 | 4 => 4 | 0 => 0 | 20 => 20 | 72 => 93 | 76 => 96 | 70 => 91 | 37 => 61 | 75 => 95 | 127 => 108 | 164 => 115 | 5 => 5 | 80 => 98 | n => n, fun | n => n⟩
theorem Try.lays156 : Go.Proofs.Lays.n156 Try.prog Try.lays156_ren := {
  mixed := by kernel_rfl
  f156 := Try.func53.trans (congrArg some (by kernel_rfl))
  f165 := Try.func65.trans (congrArg some (by kernel_rfl))
  f166 := Try.func59.trans (congrArg some (by kernel_rfl))
  f169 := Try.func60.trans (congrArg some (by kernel_rfl))
  f240 := Try.func69.trans (congrArg some (by kernel_rfl))
  f241 := Try.func71.trans (congrArg some (by kernel_rfl))
  f276 := Try.func75.trans (congrArg some (by kernel_rfl))
  f277 := Try.func76.trans (congrArg some (by kernel_rfl))
  t0 := Try.underlying0
  a0 := Try.isAgg0
  z0 := Try.sizeOf0
  v0 := Try.zeroValue0
  t3 := Try.underlying3
  a3 := Try.isAgg3
  z3 := Try.sizeOf3
  v3 := Try.zeroValue3
  t4 := Try.underlying4
  a4 := Try.isAgg4
  z4 := Try.sizeOf4
  v4 := Try.zeroValue4
  t9 := Try.underlying9
  a9 := Try.isAgg9
  z9 := Try.sizeOf9
  v9 := Try.zeroValue9
  t20 := Try.underlying20
  a20 := Try.isAgg20
  z20 := Try.sizeOf20
  v20 := Try.zeroValue20
  t31 := Try.underlying22
  a31 := Try.isAgg22
  z31 := Try.sizeOf22
  v31 := Try.zeroValue22
  t37 := Try.underlying61
  a37 := Try.isAgg61
  z37 := Try.sizeOf61
  v37 := Try.zeroValue61
  t70 := Try.underlying91
  a70 := Try.isAgg91
  z70 := Try.sizeOf91
  v70 := Try.zeroValue91
  t72 := Try.underlying93
  a72 := Try.isAgg93
  z72 := Try.sizeOf93
  v72 := Try.zeroValue93
  t75 := Try.underlying95
  a75 := Try.isAgg95
  z75 := Try.sizeOf95
  v75 := Try.zeroValue95
  t76 := Try.underlying96
  a76 := Try.isAgg96
  z76 := Try.sizeOf96
  v76 := Try.zeroValue96
  t127 := Try.underlying108
  a127 := Try.isAgg108
  z127 := Try.sizeOf108
  v127 := Try.zeroValue108
  t164 := Try.underlying115
  a164 := Try.isAgg115
  z164 := Try.sizeOf115
  v164 := Try.zeroValue115 }
theorem Try.Builder_Extra_156 : Builder.Extra Try.prog Try.lays156_ren := {
  sizeBuilder := by kernel_rfl
  liesBuilder := by kernel_rfl
  t5 := Try.underlying5
  a5 := Try.isAgg5
  z5 := Try.sizeOf5
  v5 := Try.zeroValue5
  infoByte := by kernel_rfl
  cellsByte := by kernel_rfl
  sizeByte := by kernel_rfl
  neB5 := by decide }
open Go.RowKit in
theorem Try.strings_Join_none (a : Option Addr) (c : Nat) (sep : ByteArray) (w : World) :
    Calls Try.prog 53 #[.slice a 0 c, .string sep] w fun e w' => e = .returned (.string ⟨#[]⟩) ∧ w' = w := Any.strings_Join_none Try.lays156 Try.Builder_Extra_156 a c sep w
open Go.RowKit in
theorem Try.strings_Join (bk o c : Nat) (xs : List ByteArray) (sep : ByteArray) (w : World) (hcells : ∀ (j : Nat) x, xs[j]? = some x → w.cell? ⟨bk, o + j, none⟩ = some (.string x)) (hbk : bk < w.heap.size) (hN : xs.length ≤ 140737488355328) (hcap : xs.length ≤ c) (hlen : (Lib.join (xs.map (·.data.toList)) sep.data.toList).length ≤ 140737488355328) :
    Calls Try.prog 53 #[.slice (some ⟨bk, o, none⟩) xs.length c, .string sep] w fun e w' => e = .returned (.string ⟨(Lib.join (xs.map (·.data.toList)) sep.data.toList).toArray⟩) ∧ Below w.heap.size w w' := Any.strings_Join Try.lays156 Try.Builder_Extra_156 bk o c xs sep w hcells hbk hN hcap hlen
open Go.RowKit in
theorem Try.Builder_Len_f (B b : Nat) (bs : List Value) (w : World) (h : Lib.IsBuilderF 93 5 B b bs w) :
    Calls Try.prog 68 #[.pointer (some ⟨b, 0, none⟩)] w fun e w' => e = .returned (.int .i64 bs.length) ∧ w' = w := Any.Builder_Len_f Try.lays170 B b bs w h
open Go.RowKit in
theorem Try.Builder_String_f (B b : Nat) (l : List UInt8) (w : World) (h : Lib.IsBuilderF 93 5 B b (Lib.byteCells l) w) (h0 : l ≠ []) :
    Calls Try.prog 60 #[.pointer (some ⟨b, 0, none⟩)] w fun e w' => e = .returned (.string ⟨l.toArray⟩) ∧ (Lib.IsBuilderF 93 5 B b (Lib.byteCells l) w' ∧ Below B w w') := Any.Builder_String_f Try.lays169 Try.Builder_Extra_169 B b l w h h0
open Go.RowKit in
theorem Try.Builder_String_empty_f (B b : Nat) (w : World) (h : Lib.IsBuilderF 93 5 B b [] w) (hBw : B ≤ w.heap.size) :
    Calls Try.prog 60 #[.pointer (some ⟨b, 0, none⟩)] w fun e w' => e = .returned (.string ⟨#[]⟩) ∧ (Lib.IsBuilderF 93 5 B b [] w' ∧ Below B w w') := Any.Builder_String_empty_f Try.lays169 Try.Builder_Extra_169 B b w h hBw
open Go.RowKit in
theorem Try.Builder_String_any_f (B b : Nat) (l : List UInt8) (w : World) (h : Lib.IsBuilderF 93 5 B b (Lib.byteCells l) w) (hBw : B ≤ w.heap.size) :
    Calls Try.prog 60 #[.pointer (some ⟨b, 0, none⟩)] w fun e w' => e = .returned (.string ⟨l.toArray⟩) ∧ (Lib.IsBuilderF 93 5 B b (Lib.byteCells l) w' ∧ Below B w w') := Any.Builder_String_any_f Try.lays169 Try.Builder_Extra_169 B b l w h hBw
open Go.RowKit in
theorem Try.Builder_String_k (B b : Nat) (l : List UInt8) (w : World) (h : Lib.IsBuilderF 93 5 B b (Lib.byteCells l) w) (h0 : l ≠ []) :
    Calls Try.prog 60 #[.pointer (some ⟨b, 0, none⟩)] w fun e w' => e = .returned (.string ⟨l.toArray⟩) ∧ (Lib.IsBuilderF 93 5 B b (Lib.byteCells l) w' ∧ Below B w w' ∧ Lib.OthersKept 5 (some b) w w') := Any.Builder_String_k Try.lays169 Try.Builder_Extra_169 B b l w h h0
open Go.RowKit in
theorem Try.Builder_String_empty_k (B b : Nat) (w : World) (h : Lib.IsBuilderF 93 5 B b [] w) (hBw : B ≤ w.heap.size) :
    Calls Try.prog 60 #[.pointer (some ⟨b, 0, none⟩)] w fun e w' => e = .returned (.string ⟨#[]⟩) ∧ (Lib.IsBuilderF 93 5 B b [] w' ∧ Below B w w' ∧ Lib.OthersKept 5 (some b) w w') := Any.Builder_String_empty_k Try.lays169 Try.Builder_Extra_169 B b w h hBw
open Go.RowKit in
theorem Try.Builder_String_any_k (B b : Nat) (l : List UInt8) (w : World) (h : Lib.IsBuilderF 93 5 B b (Lib.byteCells l) w) (hBw : B ≤ w.heap.size) :
    Calls Try.prog 60 #[.pointer (some ⟨b, 0, none⟩)] w fun e w' => e = .returned (.string ⟨l.toArray⟩) ∧ (Lib.IsBuilderF 93 5 B b (Lib.byteCells l) w' ∧ Below B w w' ∧ Lib.OthersKept 5 (some b) w w') := Any.Builder_String_any_k Try.lays169 Try.Builder_Extra_169 B b l w h hBw
open Go.RowKit in
theorem Try.Builder_grow_fresh_cap (B b n : Nat) (w : World) (hB : B ≤ b) (hbk : w.heap[b]? = some (.cells #[.pointer (some ⟨b, 0, none⟩), .slice none 0 0] 93 (0, 0))) (hBw : B ≤ w.heap.size) (hn : n ≤ 281474976710656) :
    Calls Try.prog 71 #[.pointer (some ⟨b, 0, none⟩), .int .i64 n] w fun e w' => e = .returned (.tuple #[]) ∧ (Lib.BuilderAt 93 5 B b (.pointer (some ⟨b, 0, none⟩)) [] w' ∧ Below B w w') ∧ ∃ p cap, w'.cell? ⟨b, 1, none⟩ = some (.slice p 0 cap) ∧ n ≤ cap := Any.Builder_grow_fresh_cap Try.lays241 Try.Builder_Extra_241 B b n w hB hbk hBw hn
open Go.RowKit in
theorem Try.Builder_Grow_fresh_cap (B b n : Nat) (w : World) (hB : B ≤ b) (hbk : w.heap[b]? = some (.cells #[.pointer none, .slice none 0 0] 93 (0, 0))) (hBw : B ≤ w.heap.size) (hn : n ≤ 281474976710656) :
    Calls Try.prog 65 #[.pointer (some ⟨b, 0, none⟩), .int .i64 n] w fun e w' => e = .returned (.tuple #[]) ∧ (Lib.BuilderAt 93 5 B b (.pointer (some ⟨b, 0, none⟩)) [] w' ∧ Below B w w') ∧ ∃ p cap, w'.cell? ⟨b, 1, none⟩ = some (.slice p 0 cap) ∧ n ≤ cap := Any.Builder_Grow_fresh_cap Try.lays165 Try.Builder_Extra_165 B b n w hB hbk hBw hn
def Try.lays206_ren : Go.Shelf.Ren := ⟨fun | 206 => 74 | n => n, fun | 9 => 9 | 4 => 4 | 3 => 3 | n => n, fun | n => n⟩
theorem Try.lays206 : Go.Proofs.Lays.n206 Try.prog Try.lays206_ren := {
  mixed := by kernel_rfl
  f206 := Try.func74.trans (congrArg some (by kernel_rfl))
  t3 := Try.underlying3
  a3 := Try.isAgg3
  z3 := Try.sizeOf3
  v3 := Try.zeroValue3
  t4 := Try.underlying4
  a4 := Try.isAgg4
  z4 := Try.sizeOf4
  v4 := Try.zeroValue4
  t9 := Try.underlying9
  a9 := Try.isAgg9
  z9 := Try.sizeOf9
  v9 := Try.zeroValue9 }
open Go.RowKit Go.Lib in
theorem Try.stringslite_HasPrefix (s p : ByteArray) (w : World) :
    Calls Try.prog 74 #[.string s, .string p] w fun e w' => e = .returned (.bool (Lib.hasPrefix s.data.toList p.data.toList)) ∧ w' = w := Any.stringslite_HasPrefix Try.lays206 s p w
def Try.lays99_ren : Go.Shelf.Ren := ⟨fun | 99 => 67 | 206 => 74 | n => n, fun | 9 => 9 | 4 => 4 | 3 => 3 | n => n, fun | n => n⟩
theorem Try.lays99 : Go.Proofs.Lays.n99 Try.prog Try.lays99_ren := {
  mixed := by kernel_rfl
  f99 := Try.func67.trans (congrArg some (by kernel_rfl))
  f206 := Try.func74.trans (congrArg some (by kernel_rfl))
  t3 := Try.underlying3
  a3 := Try.isAgg3
  z3 := Try.sizeOf3
  v3 := Try.zeroValue3
  t4 := Try.underlying4
  a4 := Try.isAgg4
  z4 := Try.sizeOf4
  v4 := Try.zeroValue4
  t9 := Try.underlying9
  a9 := Try.isAgg9
  z9 := Try.sizeOf9
  v9 := Try.zeroValue9 }
open Go.RowKit Go.Lib in
theorem Try.strings_HasPrefix (s p : ByteArray) (w : World) :
    Calls Try.prog 67 #[.string s, .string p] w fun e w' => e = .returned (.bool (Lib.hasPrefix s.data.toList p.data.toList)) ∧ w' = w := Any.strings_HasPrefix Try.lays99 s p w
def Try.lays264_ren : Go.Shelf.Ren := ⟨fun | 264 => 73 | n => n, fun | 53 => 73 | 46 => 103 | n => n, fun | n => n⟩
theorem Try.lays264 : Go.Proofs.Lays.n264 Try.prog Try.lays264_ren := {
  mixed := by kernel_rfl
  f264 := Try.func73.trans (congrArg some (by kernel_rfl))
  t46 := Try.underlying103
  a46 := Try.isAgg103
  z46 := Try.sizeOf103
  v46 := Try.zeroValue103
  t53 := Try.underlying73
  a53 := Try.isAgg73
  z53 := Try.sizeOf73
  v53 := Try.zeroValue73 }
open Go.RowKit Go.Lib in
theorem Try.bits_Mul64 (x y : Nat) (hx : x < 18446744073709551616) (hy : y < 18446744073709551616) (w : World) :
    Calls Try.prog 73 #[.int .u64 x, .int .u64 y] w fun e w' => e = .returned (.tuple #[.int .u64 ((x * y / 18446744073709551616 : Nat) : Int), .int .u64 ((x * y % 18446744073709551616 : Nat) : Int)]) ∧ w' = w := Any.bits_Mul64 Try.lays264 x y hx hy w
def Try.lays212_ren : Go.Shelf.Ren := ⟨fun | 212 => 66 | 263 => 72 | 264 => 73 | n => n, fun | 46 => 103 | 51 => 110 | 146 => 111 | 53 => 73 | 148 => 113 | n => n, fun | n => n⟩
theorem Try.lays212 : Go.Proofs.Lays.n212 Try.prog Try.lays212_ren := {
  mixed := by kernel_rfl
  f212 := Try.func66.trans (congrArg some (by kernel_rfl))
  f263 := Try.func72.trans (congrArg some (by kernel_rfl))
  f264 := Try.func73.trans (congrArg some (by kernel_rfl))
  t46 := Try.underlying103
  a46 := Try.isAgg103
  z46 := Try.sizeOf103
  v46 := Try.zeroValue103
  t51 := Try.underlying110
  a51 := Try.isAgg110
  z51 := Try.sizeOf110
  v51 := Try.zeroValue110
  t53 := Try.underlying73
  a53 := Try.isAgg73
  z53 := Try.sizeOf73
  v53 := Try.zeroValue73
  t146 := Try.underlying111
  a146 := Try.isAgg111
  z146 := Try.sizeOf111
  v146 := Try.zeroValue111
  t148 := Try.underlying113
  a148 := Try.isAgg113
  z148 := Try.sizeOf113
  v148 := Try.zeroValue113 }
open Go.RowKit Go.Lib in
theorem Try.bits_Mul (x y : Nat) (hx : x < 18446744073709551616) (hy : y < 18446744073709551616) (w : World) :
    Calls Try.prog 66 #[.int .u64 x, .int .u64 y] w fun e w' => e = .returned (.tuple #[.int .u64 ((x * y / 18446744073709551616 : Nat) : Int), .int .u64 ((x * y % 18446744073709551616 : Nat) : Int)]) ∧ w' = w := Any.bits_Mul Try.lays212 x y hx hy w
def Try.lays105_ren : Go.Shelf.Ren := ⟨fun | 105 => 57 | 212 => 66 | 99 => 67 | 165 => 65 | 166 => 59 | 170 => 68 | 169 => 60 | 263 => 72 | 264 => 73 | 206 => 74 | 240 => 69 | 241 => 71 | 276 => 75 | 277 => 76 | n => n, fun | 9 => 9 | 3 => 3 | 4 => 4 | 20 => 20 | 0 => 0 | 46 => 103 | 109 => 104 | 5 => 5 | 72 => 93 | 76 => 96 | 51 => 110 | 146 => 111 | 53 => 73 | 148 => 113 | 70 => 91 | 37 => 61 | 75 => 95 | 127 => 108 | 164 => 115 | 80 => 98 | n => n, fun | n => n⟩
theorem Try.lays105 : Go.Proofs.Lays.n105 Try.prog Try.lays105_ren := {
  mixed := by kernel_rfl
  f99 := Try.func67.trans (congrArg some (by kernel_rfl))
  f105 := Try.func57.trans (congrArg some (by kernel_rfl))
  f165 := Try.func65.trans (congrArg some (by kernel_rfl))
  f166 := Try.func59.trans (congrArg some (by kernel_rfl))
  f169 := Try.func60.trans (congrArg some (by kernel_rfl))
  f170 := Try.func68.trans (congrArg some (by kernel_rfl))
  f206 := Try.func74.trans (congrArg some (by kernel_rfl))
  f212 := Try.func66.trans (congrArg some (by kernel_rfl))
  f240 := Try.func69.trans (congrArg some (by kernel_rfl))
  f241 := Try.func71.trans (congrArg some (by kernel_rfl))
  f263 := Try.func72.trans (congrArg some (by kernel_rfl))
  f264 := Try.func73.trans (congrArg some (by kernel_rfl))
  f276 := Try.func75.trans (congrArg some (by kernel_rfl))
  f277 := Try.func76.trans (congrArg some (by kernel_rfl))
  t0 := Try.underlying0
  a0 := Try.isAgg0
  z0 := Try.sizeOf0
  v0 := Try.zeroValue0
  t3 := Try.underlying3
  a3 := Try.isAgg3
  z3 := Try.sizeOf3
  v3 := Try.zeroValue3
  t4 := Try.underlying4
  a4 := Try.isAgg4
  z4 := Try.sizeOf4
  v4 := Try.zeroValue4
  t5 := Try.underlying5
  a5 := Try.isAgg5
  z5 := Try.sizeOf5
  v5 := Try.zeroValue5
  t9 := Try.underlying9
  a9 := Try.isAgg9
  z9 := Try.sizeOf9
  v9 := Try.zeroValue9
  t20 := Try.underlying20
  a20 := Try.isAgg20
  z20 := Try.sizeOf20
  v20 := Try.zeroValue20
  t37 := Try.underlying61
  a37 := Try.isAgg61
  z37 := Try.sizeOf61
  v37 := Try.zeroValue61
  t46 := Try.underlying103
  a46 := Try.isAgg103
  z46 := Try.sizeOf103
  v46 := Try.zeroValue103
  t51 := Try.underlying110
  a51 := Try.isAgg110
  z51 := Try.sizeOf110
  v51 := Try.zeroValue110
  t53 := Try.underlying73
  a53 := Try.isAgg73
  z53 := Try.sizeOf73
  v53 := Try.zeroValue73
  t70 := Try.underlying91
  a70 := Try.isAgg91
  z70 := Try.sizeOf91
  v70 := Try.zeroValue91
  t72 := Try.underlying93
  a72 := Try.isAgg93
  z72 := Try.sizeOf93
  v72 := Try.zeroValue93
  t75 := Try.underlying95
  a75 := Try.isAgg95
  z75 := Try.sizeOf95
  v75 := Try.zeroValue95
  t76 := Try.underlying96
  a76 := Try.isAgg96
  z76 := Try.sizeOf96
  v76 := Try.zeroValue96
  t109 := Try.underlying104
  a109 := Try.isAgg104
  z109 := Try.sizeOf104
  v109 := Try.zeroValue104
  t127 := Try.underlying108
  a127 := Try.isAgg108
  z127 := Try.sizeOf108
  v127 := Try.zeroValue108
  t146 := Try.underlying111
  a146 := Try.isAgg111
  z146 := Try.sizeOf111
  v146 := Try.zeroValue111
  t148 := Try.underlying113
  a148 := Try.isAgg113
  z148 := Try.sizeOf113
  v148 := Try.zeroValue113
  t164 := Try.underlying115
  a164 := Try.isAgg115
  z164 := Try.sizeOf115
  v164 := Try.zeroValue115 }
theorem Try.Builder_Extra_105 : Builder.Extra Try.prog Try.lays105_ren := {
  sizeBuilder := by kernel_rfl
  liesBuilder := by kernel_rfl
  t5 := Try.underlying5
  a5 := Try.isAgg5
  z5 := Try.sizeOf5
  v5 := Try.zeroValue5
  infoByte := by kernel_rfl
  cellsByte := by kernel_rfl
  sizeByte := by kernel_rfl
  neB5 := by decide }
open Go.RowKit Go.Lib in
theorem Try.strings_Repeat_main (s : ByteArray) (c : Nat) (w : World) (hc2 : 2 ≤ c) (hc : c ≤ 9223372036854775807) (hlen : s.size * c ≤ 140737488355328) (h0 : 0 < s.size) :
    Calls Try.prog 57 #[.string s, .int .i64 c] w fun e w' => e = .returned (.string ⟨(Lib.repeatL s.data.toList c).toArray⟩) ∧ Below w.heap.size w w' := Any.strings_Repeat_main Try.lays105 Try.Builder_Extra_105 s c w hc2 hc hlen h0
open Go.RowKit Go.Lib in
theorem Try.strings_Repeat_zero (s : ByteArray) (w : World) :
    Calls Try.prog 57 #[.string s, .int .i64 0] w fun e w' => e = .returned (.string ⟨#[]⟩) ∧ w' = w := Any.strings_Repeat_zero Try.lays105 s w
open Go.RowKit Go.Lib in
theorem Try.strings_Repeat_one (s : ByteArray) (w : World) :
    Calls Try.prog 57 #[.string s, .int .i64 1] w fun e w' => e = .returned (.string s) ∧ w' = w := Any.strings_Repeat_one Try.lays105 s w
open Go.RowKit Go.Lib in
theorem Try.strings_Repeat_empty (s : ByteArray) (c : Nat) (w : World) (hc2 : 2 ≤ c) (hc : c ≤ 9223372036854775807) (h0 : s.size = 0) :
    Calls Try.prog 57 #[.string s, .int .i64 c] w fun e w' => e = .returned (.string ⟨#[]⟩) ∧ w' = w := Any.strings_Repeat_empty Try.lays105 s c w hc2 hc h0
open Go.RowKit Go.Lib in
theorem Try.strings_Repeat_negative (s : ByteArray) (c : Int) (w : World) (hc : c < 0) :
    Calls Try.prog 57 #[.string s, .int .i64 c] w fun e w' => e = .panicked [{ v := repeatPanic Try.lays105_ren "strings: negative Repeat count", recovered := false }] ∧ w' = w := Any.strings_Repeat_negative Try.lays105 s c w hc
open Go.RowKit Go.Lib in
theorem Try.strings_Repeat_overflow (s : ByteArray) (c : Nat) (w : World) (hc : c ≤ 9223372036854775807) (hs : s.size ≤ 9223372036854775807) (hbig : 9223372036854775807 < s.size * c) :
    Calls Try.prog 57 #[.string s, .int .i64 c] w fun e w' => e = .panicked [{ v := repeatPanic Try.lays105_ren "strings: Repeat output length overflow", recovered := false }] ∧ w' = w := Any.strings_Repeat_overflow Try.lays105 s c w hc hs hbig
open Go.RowKit Go.Lib in
theorem Try.strings_Repeat (s : ByteArray) (c : Nat) (w : World) (hc : c ≤ 9223372036854775807) (hlen : s.size * c ≤ 140737488355328) :
    Calls Try.prog 57 #[.string s, .int .i64 c] w fun e w' => e = .returned (.string ⟨(Lib.repeatL s.data.toList c).toArray⟩) ∧ Below w.heap.size w w' := Any.strings_Repeat Try.lays105 Try.Builder_Extra_105 s c w hc hlen
end Go.Proofs
end

section
/- The contracts of strings.Builder's writing methods at this program: the shelf's theorems, with their tables of numbers typed by hand (the shelf's own command does not lay them where copyCheck's panic is refused by the loader). -/
namespace Go.Proofs
open Go.Shelf
def Try.bld_ren : Go.Shelf.Ren := ⟨fun
  | 166 => 59
    | 240 => 69 | 276 => 75 | n => n, fun | 70 => 91 | 9 => 9 | 0 => 0 | 72 => 93 | 37 => 61 | 3 => 3 | 4 => 4 | 5 => 5 | 20 => 20 | 75 => 95 | 80 => 98 | 164 => 115 | n => n, fun | n => n⟩
theorem Try.bld240 : Go.Proofs.Lays.n240 Try.prog Try.bld_ren := {
  mixed := by kernel_rfl
  f240 := Try.func69.trans (congrArg some (by kernel_rfl))
  f276 := Try.func75.trans (congrArg some (by kernel_rfl))
  t0 := Try.underlying0
  a0 := Try.isAgg0
  z0 := Try.sizeOf0
  v0 := Try.zeroValue0
  t4 := Try.underlying4
  a4 := Try.isAgg4
  z4 := Try.sizeOf4
  v4 := Try.zeroValue4
  t9 := Try.underlying9
  a9 := Try.isAgg9
  z9 := Try.sizeOf9
  v9 := Try.zeroValue9
  t20 := Try.underlying20
  a20 := Try.isAgg20
  z20 := Try.sizeOf20
  v20 := Try.zeroValue20
  t70 := Try.underlying91
  a70 := Try.isAgg91
  z70 := Try.sizeOf91
  v70 := Try.zeroValue91
  t72 := Try.underlying93
  a72 := Try.isAgg93
  z72 := Try.sizeOf93
  v72 := Try.zeroValue93
  t164 := Try.underlying115
  a164 := Try.isAgg115
  z164 := Try.sizeOf115
  v164 := Try.zeroValue115 }
theorem Try.bldX : Builder.Extra Try.prog Try.bld_ren := {
  sizeBuilder := by kernel_rfl
  liesBuilder := by kernel_rfl
  t5 := Try.underlying5
  a5 := Try.isAgg5
  z5 := Try.sizeOf5
  v5 := Try.zeroValue5
  infoByte := by kernel_rfl
  cellsByte := by kernel_rfl
  sizeByte := by kernel_rfl
  neB5 := by decide }
theorem Try.bld166 : Go.Proofs.Lays.n166 Try.prog Try.bld_ren := { Try.bld240 with
  f166 := Try.func59.trans (congrArg some (by kernel_rfl))
  t3 := Try.underlying3
  a3 := Try.isAgg3
  z3 := Try.sizeOf3
  v3 := Try.zeroValue3
  t37 := Try.underlying61
  a37 := Try.isAgg61
  z37 := Try.sizeOf61
  v37 := Try.zeroValue61
  t75 := Try.underlying95
  a75 := Try.isAgg95
  z75 := Try.sizeOf95
  v75 := Try.zeroValue95 }
open Go.RowKit in
theorem Try.WriteString_k (B b : Nat) (bs : List Value) (s : ByteArray) (w : World) (h : Lib.IsBuilderF 93 5 B b bs w) (hlen : bs.length + s.size ≤ 140737488355328) (hBw : B ≤ w.heap.size) :
    Calls Try.prog 59 #[.pointer (some ⟨b, 0, none⟩), .string s] w fun e w' => e = .returned (.tuple #[.int .i64 s.size, .nilIface]) ∧ (Lib.BuilderAtF 93 5 B b (.pointer (some ⟨b, 0, none⟩)) (bs ++ Lib.strCells s) w' ∧ Below B w w' ∧ Lib.OthersKept 5 (some b) w w') := Any.Builder_WriteString_k Try.bld166 Try.bldX B b bs s w h hlen hBw
end Go.Proofs
end

section
/- The contract of octet.Bind, over what is known of octet.Wide at a length. -/
namespace Go.Proofs.Ytjhelpeglgigbaa
open Go.RowKit
set_option linter.unusedVariables false
set_option linter.unusedSimpArgs false
theorem gr_below {w w1 : World} (h : Below w.heap.size w w1) (row : Option Nat) : w.grownBy w1 row := ⟨h.os, h.tape, h.output, h.size, fun i hi _ => h.block i hi⟩
theorem snoc_take {α : Type} (l : List α) (k : Nat) (x : α) (h : l[k]? = some x) : l.take (k + 1) = l.take k ++ [x] := by
  obtain ⟨hk, rfl⟩ := List.getElem?_eq_some_iff.1 h
  exact List.take_succ_eq_append_getElem hk
theorem bl_lt {T e B b : Nat} {p : Value} {bs : List Value} {w : World} (h : Lib.BuilderAtF T e B b p bs w) : b < w.heap.size := by
  obtain ⟨_, v, hb, _⟩ := h
  exact (Array.getElem?_eq_some_iff.1 hb).1
theorem bl_below {T e B b : Nat} {bs : List Value} {w w1 : World} (h : Lib.IsBuilderF T e B b bs w) (hb : Below w.heap.size w w1) : Lib.IsBuilderF T e B b bs w1 := by
  have go : ∀ p, Lib.BuilderAtF T e B b p bs w → Lib.BuilderAtF T e B b p bs w1 := by
    rintro p ⟨hB, v, hbk, hown, hne⟩
    exact ⟨hB, v, (hb.block b (Array.getElem?_eq_some_iff.1 hbk).1).trans hbk, hown.kept (gr_below hb none) (by cases v.ownBlock <;> simp), hne⟩
  exact h.elim (fun x => .inl (go _ x)) (fun x => .inr (go _ x))
theorem bcells (l : List UInt8) : (Lib.strCells ⟨⟨l⟩⟩) = Lib.byteCells l := by simp [Lib.strCells, Lib.byteCells]
set_option maxHeartbeats 2000000 in
set_option maxRecDepth 100000 in
theorem octet_Bind_spec (A : Option Addr) (b o c : Nat) (l : List (List UInt8)) (w : World) (hA : l ≠ [] → A = some ⟨b, o, none⟩) (hcell : ∀ (j : Nat) x, l[j]? = some x → w.cell? ⟨b, o + j, none⟩ = some (.string ⟨⟨x⟩⟩)) (hb0 : l ≠ [] → b < w.heap.size) (hc : l.length ≤ c) (hm : l.length ≤ 140737488355328)
    (hw : ∀ n : Nat, n ≤ 4096 → ∀ W : World, Below w.heap.size w W → Calls Try.prog 58 #[.int .u64 n, .int .i64 2] W fun e W' => e = .returned (.tuple #[.string ⟨⟨two n⟩⟩, .int .i64 0]) ∧ Below W.heap.size W W') :
    Calls Try.prog 44 #[.slice A l.length c] w fun e w' => e = .returned (.tuple #[.string ⟨⟨(bindR l).1⟩⟩, .int .i64 (bindR l).2]) ∧ Below w.heap.size w w' := by
  by_cases h64 : 64 < l.length
  · have hr : bindR l = ([], 2) := by unfold bindR; rw [if_neg (by rintro ⟨h, _⟩; omega)]
    rw [hr]
    go_enter Try.func44, Try.ntmps44
    go_wp2
    go_ret2
    exact ⟨rfl, Below.refl _ _⟩
  · have h65 : l.length ≤ 64 := by omega
    go_enter Try.func44, Try.ntmps44
    go_wp2
    go_loopw [14] (fun i wr => ∃ k : Nat, k ≤ l.length ∧ i = .int .i64 k ∧ Lib.IsBuilderF 93 5 w.heap.size w.heap.size (Lib.byteCells (bindP (l.take k))) wr ∧ Below w.heap.size w wr ∧ w.heap.size < wr.heap.size ∧ (∀ x ∈ l.take k, x.length ≤ 4096)) (fun i _ => l.length - (intOf i).toNat)
    case atStart => exact ⟨0, Nat.zero_le _, rfl, Lib.IsBuilderF.of (Lib.fresh_isBuilder 93 5 w), (Below.refl _ w).alloc (Nat.le_refl _) _, by simp, fun x hx => by simp at hx⟩
    case round =>
      obtain ⟨k, hk, rfl, hI, hb, hz, hA4⟩ := hrel
      by_cases hlt : k < l.length
      · obtain ⟨x, hx⟩ : ∃ x, l[k]? = some x := ⟨l[k], List.getElem?_eq_getElem hlt⟩
        have hne : l ≠ [] := by rintro rfl; simp at hlt
        obtain rfl := hA hne
        clear hA
        have hxc := (hb.cell (p := ⟨b, o + k, none⟩) (hb0 hne)).trans (hcell k x hx)
        have HB := snoc_take l k x hx
        have hlen := bindP_le _ hA4
        have htk : (l.take k).length = k := by rw [List.length_take]; omega
        rw [htk] at hlen
        have hln : (bindP (l.take k)).length ≤ 262272 := by omega
        by_cases h4 : 4096 < x.length
        · have hr : bindR l = ([], 2) := by unfold bindR; rw [if_neg (by rintro ⟨_, h⟩; have := h x (List.mem_of_getElem? hx); omega)]
          go_wp2
          go_ret2
          rw [hr]; exact ⟨rfl, hb⟩
        · have hA5 : ∀ y ∈ l.take (k + 1), y.length ≤ 4096 := fun y hy => by
            rw [HB, List.mem_append, List.mem_singleton] at hy
            rcases hy with hy | rfl
            · exact hA4 y hy
            · omega
          have hwide := hw x.length (by omega) wr hb
          go_wp2_with fail
          refine hwide.mono ?_
          rintro e w1 ⟨rfl, b1⟩
          have hz1 := b1.size
          go_wp2_with fail
          refine (Try.WriteString_k w.heap.size w.heap.size _ _ _ (bl_below hI b1) (by rw [Lib.byteCells_length]; have e2 : (⟨⟨two x.length⟩⟩ : ByteArray).size = 2 := rfl; omega) (by omega)).mono ?_
          rintro e w2 ⟨rfl, h2, b2, k2⟩
          have hz2 := b2.size
          have hlt2 := bl_lt h2
          go_wp2_with fail
          refine (Try.WriteString_k w.heap.size w.heap.size _ _ _ (Or.inr h2) (by rw [List.length_append, Lib.byteCells_length, bcells, Lib.byteCells_length]; have e2 : (two x.length).length = 2 := rfl; have e3 : (⟨⟨x⟩⟩ : ByteArray).size = x.length := rfl; omega) (by omega)).mono ?_
          rintro e w3 ⟨rfl, h3, b3, k3⟩
          have hlt3 := bl_lt h3
          go_wp2
          go_roundw
          case rel =>
            refine ⟨k + 1, by omega, by go_num, ?_, ((hb.trans (b1.mono (by omega))).trans b2).trans b3, hlt3, hA5⟩
            rw [bcells, bcells] at h3
            rw [HB, bindP_app, show bindP [x] = two x.length ++ x by simp [bindP], Lib.byteCells_append, Lib.byteCells_append, ← List.append_assoc]
            exact Or.inr h3
          case measure => simp [intOf]; omega
      · obtain rfl : k = l.length := by omega
        rw [List.take_length] at hI hA4
        have hr : bindR l = (bindP l, 0) := by unfold bindR; rw [if_pos ⟨by omega, hA4⟩]
        go_wp2_with fail
        refine (Try.Builder_String_any_k w.heap.size w.heap.size _ _ hI (by omega)).mono ?_
        rintro e w1 ⟨rfl, _, b1, _⟩
        go_wp2
        go_ret2
        rw [hr]; exact ⟨rfl, hb.trans b1⟩
end Go.Proofs.Ytjhelpeglgigbaa
end

section
/- Package variables that hold rows of numbers, as the rows tell; a law whose function reads them. -/
namespace Go.Proofs.Ytjhelpeglgigbaa.V
open Go Go.RowKit
set_option linter.unusedVariables false
set_option linter.unusedSimpArgs false
theorem laid_ints {P : Program} {w : World} {nm : String} {g t e n base fuel : Nat} {k : IntKind} {l : List Int} {cs : Array Value} {H : Type} {enc : TypeId × Value → H} {spare : Nat → Bool} {held : Bool} {ps : List MemPlace} (hg : P.globalNamed nm = some g) (hu : P.underlying t = some (.array n e)) (hi : P.underlying e = some (.int k)) (hc : P.cellsOf e = 1) (hv : w.var? P nm = some cs)
    (hd : DataW.trod enc P w base spare held fuel t cs.toList = some (.agg (l.map fun x => .lit (.int k x)), ps)) : ∀ (j : Nat) x, l[j]? = some x → w.cell? ⟨g, j, none⟩ = some (.int k x) := by
  obtain ⟨xs, m, rfl, hx, hl, hn, hel⟩ := DataW.trod_array hu hd
  simp only [Prod.mk.injEq, DataW.agg.injEq] at hx
  intro j x hj
  have h1 : (xs.map (·.1))[j]? = some (.lit (.int k x)) := by rw [← hx.1, List.getElem?_map, hj]; rfl
  rw [List.getElem?_map, Option.map_eq_some_iff] at h1
  obtain ⟨y, hy, hy2⟩ := h1
  have hjn : j < n := by rw [← hn]; exact (List.getElem?_eq_some_iff.1 hy).1
  have h2 := hel j hjn
  rw [hy, hc] at h2
  obtain ⟨q, hq, hq2, _⟩ := DataW.trod_int hi h2
  rw [hq2] at hy2
  simp only [DataW.lit.injEq, Lit.int.injEq, true_and] at hy2
  subst hy2
  have h3 : cs.toList[j]? = some (.int k q) := by
    have h4 : ((cs.toList.drop (j * 1)).take 1)[0]? = some (.int k q) := by rw [hq]; rfl
    simpa using h4
  rw [World.var?_cell hg hv j]
  simpa using h3
theorem flat_eI (k : IntKind) (l : List Int) : (l.map (eI k)).flatten = l.map (Sc.int k) := by
  induction l with
  | nil => rfl
  | cons x l ih => rw [List.map_cons, List.flatten_cons, ih]; rfl
theorem glrep {w : World} {g : Nat} {k : IntKind} {l : List Int} (h : ∀ (j : Nat) (x : Int), l[j]? = some x → w.cell? ⟨g, j, none⟩ = some (.int k x)) (hne : l ≠ []) : RepD w (fun b => b < w.heap.size) (.ref ((l.map (eI k)).flatten) 0) (.pointer (some ⟨g, 0, none⟩)) := by
  have key : ∀ (j : Nat) (sc : Sc), ((l.map (eI k)).flatten)[j]? = some sc → ∃ x : Int, l[j]? = some x ∧ sc = Sc.int k x := by
    intro j sc hj
    rw [flat_eI, List.getElem?_map, Option.map_eq_some_iff] at hj
    obtain ⟨x, hx, rfl⟩ := hj
    exact ⟨x, hx, rfl⟩
  have hb : g < w.heap.size := by
    cases l with
    | nil => exact absurd rfl hne
    | cons x l => exact cell?_lt (h 0 x rfl)
  refine .ref _ 0 g 0 (fun j => (w.cell? ⟨g, j, none⟩).getD undef) hb (fun j sc hj => ?_) (fun j sc hj => ?_)
  · obtain ⟨x, hx, rfl⟩ := key j sc hj
    rw [Nat.zero_add, h j x hx]; rfl
  · obtain ⟨x, hx, rfl⟩ := key j sc hj
    simp only [h j x hx, Option.getD_some]
    exact .int k x
/-- A law whose function reads package variables, out of what is shown of its function. -/
theorem Fun.lawG {P : Program} {gl : Gl} {f : FuncId} {xs : List Vb} {b : Bool} {vs : List Value} {w : World} (h : Fun P gl f (xs.map Va.b) (.bo b)) (hg : GlOk gl w (fun k => k < w.heap.size)) (hx : AtAll w xs vs) : Calls P f vs.toArray w fun e w1 => e = .returned (.bool b) ∧ Below w.heap.size w w1 := by
  obtain ⟨hl, hg2⟩ := hx.get
  refine (h.2 w (fun k => k < w.heap.size) vs.toArray (fun _ h => h) hg ⟨by simpa using hl, fun j x hj => ?_⟩).mono fun e w1 => ?_
  · rw [List.getElem?_map, Option.map_eq_some_iff] at hj
    obtain ⟨y, hj, rfl⟩ := hj
    have := hg2 j y hj
    show At w y _
    simpa [Array.getD_eq_getD_getElem?, List.getD] using this
  · rintro ⟨u, S1, rfl, _, _, hr, hb⟩
    refine ⟨?_, hb⟩
    cases hr with
    | d _ _ h => cases h with | bool _ => rfl
end Go.Proofs.Ytjhelpeglgigbaa.V
end

section
/- A range over a function whose iterator turns blocks of its own: the statement, by what the iterator says and what a round keeps. -/
namespace Go.Proofs.Ytjhelpeglgigbaa.V
open Go Go.RowKit
set_option linter.unusedVariables false
set_option linter.unusedSimpArgs false
/-- From one world to a later one: blocks of S lie as they lay. -/
structure Kp (S : Nat → Prop) (w w1 : World) : Prop where
  os : w1.os = w.os
  tape : w1.tape = w.tape
  output : w1.output = w.output
  size : w.heap.size ≤ w1.heap.size
  block : ∀ b, S b → b < w.heap.size → w1.heap[b]? = w.heap[b]?
theorem Kp.refl (S : Nat → Prop) (w : World) : Kp S w w := ⟨rfl, rfl, rfl, Nat.le_refl _, fun _ _ _ => rfl⟩
theorem Kp.trans {S : Nat → Prop} {w w1 w2 : World} (h : Kp S w w1) (h2 : Kp S w1 w2) : Kp S w w2 :=
  ⟨h2.os.trans h.os, h2.tape.trans h.tape, h2.output.trans h.output, Nat.le_trans h.size h2.size, fun b hb hl => (h2.block b hb (Nat.lt_of_lt_of_le hl h.size)).trans (h.block b hb hl)⟩
theorem Kp.mono {S S1 : Nat → Prop} {w w1 : World} (h : Kp S w w1) (hs : ∀ b, S1 b → b < w.heap.size → S b) : Kp S1 w w1 := ⟨h.os, h.tape, h.output, h.size, fun b hb hl => h.block b (hs b hb hl) hl⟩
theorem Kp.of_below {S : Nat → Prop} {w w1 : World} (h : Below w.heap.size w w1) : Kp S w w1 := ⟨h.os, h.tape, h.output, h.size, fun b _ hl => h.block b hl⟩
theorem Kp.below {S : Nat → Prop} {B : Nat} {w w1 : World} (h : Kp S w w1) (hs : ∀ b, b < B → S b) (hB : B ≤ w.heap.size) : Below B w w1 := ⟨h.os, h.tape, h.output, h.size, fun b hb => h.block b (hs b hb) (Nat.lt_of_lt_of_le hb hB)⟩
theorem Kp.alloc (S : Nat → Prop) (w : World) (o : Obj) : Kp S w (w.alloc o) := ⟨rfl, rfl, rfl, by simp, fun b _ hl => Below.heap_alloc w o b hl⟩
theorem Kp.putObj {S : Nat → Prop} (w : World) (l : Nat) (o : Obj) (h : ¬ S l) : Kp S w (w.putObj l o) := ⟨rfl, rfl, rfl, by rw [World.putObj_size]; exact Nat.le_refl _, fun b hb _ => World.putObj_heap_other (by rintro rfl; exact h hb)⟩
theorem Kp.setCell {S : Nat → Prop} (w : World) (b o : Nat) (v : Value) (h : ¬ S b) : Kp S w (w.setCell ⟨b, o, none⟩ v) := by
  refine ⟨rfl, rfl, rfl, by show w.heap.size ≤ (w.heap.modify _ _).size; rw [Array.size_modify]; exact Nat.le_refl _, fun k hk hl => ?_⟩
  exact Below.heap_setCell w ⟨b, o, none⟩ v k (by rintro rfl; exact h hk)
/-- What an iterator says: it hands over just these, one by one; between two rounds it turns the blocks of T alone, and lays new ones. -/
def Hands (P : Program) (k : FuncId) (lb : Array Value) (T : Nat → Prop) (xs : List Str) (enc : Str → Array Value) (w : World) : Prop :=
  ∀ (l : Nat) (J Jx : List Str → World → Prop) (W : World), Kp (fun _ => True) w W →
    (∀ pre W W', J pre W → Kp (fun b => ¬ T b) W W' → J pre W') →
    (∀ pre W W', Jx pre W → Kp (fun b => ¬ T b) W W' → Jx pre W') →
    (∀ pre x W, J pre W → pre ++ [x] <+: xs → YieldAt Fence.wide 0 P l (enc x) W fun e W' =>
      (e = .returned (.bool true) ∧ J (pre ++ [x]) W' ∧ Kp T W W') ∨ (e = .returned (.bool false) ∧ Jx (pre ++ [x]) W')) →
    J [] W →
    Calls P k (#[.func (.yield l) #[] #[]] ++ lb) W fun e W' => (∃ v, e = .returned v) ∧ (J xs W' ∨ ∃ pre, pre <+: xs ∧ Jx pre W')
/-- How a round's body may be left. -/
def handsPost (B : Nat) (I : List Str → World → Prop) (Ix : Code → List Str → World → Prop) (xs : List Str) (W : World) : Exit → Act → World → Prop
  | .normal, _, W' => Kp (fun b => B ≤ b) W W' ∧ I xs W'
  | .ret, _, W' => Kp (fun b => B ≤ b) W W' ∧ Ix .ret xs W'
  | .exit id, _, W' => Kp (fun b => B ≤ b) W W' ∧ Ix (.exit id) xs W'
  | _, _, _ => False
variable {P : Program}
theorem yieldAt_any {m n : Nat} {l : Nat} {args : Array Value} {W : World} {R : Ending → World → Prop} (h : YieldAt Fence.wide m P l args W R) : YieldAt Fence.wide n P l args W R := by
  obtain ⟨fn, tmps, assign, body, h1, h2, h3⟩ := h
  exact ⟨fn, tmps, assign, body, h1, h2, fun c cs _ => h3 c cs (room_wide _)⟩
set_option maxHeartbeats 1000000 in
/-- **The statement.** B: the heap's size where the loop begins, less what is the iterator's own: its blocks T lie from B on. -/
theorem wp_range {g : Operand} {ps : Array Tmp} {assign body : Code} {Q : Exit → Act → World → Prop} {a : Act} {w : World} {n B : Nat}
    {gf : Nat} {lb : Array Value} (hg : a.eval g = .func (.func gf) #[] lb) (eg : ∀ args w, (callFunc gf args).run P w = .ok (.enter gf args) w)
    {T : Nat → Prop} {xs : List Str} {enc : Str → Array Value} (hit : Hands P gf lb T xs enc w) (hT : ∀ b, T b → B ≤ b ∧ b < w.heap.size) (hps : ∀ x, (enc x).size = ps.size)
    (I : List Str → World → Prop) (Ix : Code → List Str → World → Prop)
    (hI : ∀ pre W W', I pre W → Kp (fun b => b < B) W W' → I pre W')
    (hIx : ∀ c pre W W', Ix c pre W → Kp (fun b => b < B) W W' → Ix c pre W')
    (hBw : B ≤ w.heap.size) (h0 : I [] w) (a₁ : Str → Act)
    (hassign : ∀ (l : Nat) (x : Str) (W : World) (K : Act → World → Prop), K (a₁ x) W →
      assign.wpIn (Fence.wide.inRound l) n P (Exit.then K (fun _ _ _ => False)) { tmps := (ps.zip (enc x)).foldl (fun t (p, v) => t.setIfInBounds p v) a.tmps, defers := [] } W)
    (hbody : ∀ (l : Nat) (pre : List Str) (x : Str) (W : World), I pre W → B ≤ W.heap.size → pre ++ [x] <+: xs → body.wpIn (Fence.wide.inRound l) n P (handsPost B I Ix (pre ++ [x]) W) (a₁ x) W)
    (hdone : ∀ (D : Nat) (W : World), I xs W → B ≤ D → W.heap[D]? = some (.deferred (some [])) → Q .normal { a with defers := { target := .collected D, args := #[] } :: a.defers } W)
    (hstop : ∀ (D : Nat) (c : Code) (pre : List Str) (W : World), Ix c pre W → pre <+: xs → B ≤ D → W.heap[D]? = some (.deferred (some [])) → c.wpIn Fence.wide n P Q { a with defers := { target := .collected D, args := #[] } :: a.defers } W) :
    (Code.rangeFunc g ps assign body).wpIn Fence.wide n P Q a w := by
  refine wpIn_rangeFunc ?_
  intro fn hfn
  obtain ⟨rec, hrec⟩ : ∃ rec : LoopState → Option Code → Loop, rec = fun st pe => { state := st, pending := pe, fn, tmps := a.tmps, params := ps, assign, body, defers := w.heap.size } := ⟨_, rfl⟩
  obtain ⟨W1, hW1⟩ : ∃ W1, (w.alloc (.deferred (some []))).alloc (.loop (rec .ready none)) = W1 := ⟨_, rfl⟩
  have k1 : Kp (fun _ => True) w W1 := by rw [← hW1]; exact (Kp.alloc _ _ _).trans (Kp.alloc _ _ _)
  have s1 : W1.heap.size = w.heap.size + 2 := by rw [← hW1]; simp
  have l1 : W1.heap[w.heap.size + 1]? = some (.loop (rec .ready none)) := by
    rw [← hW1]; have := World.alloc_heap_new (w.alloc (.deferred (some []))) (.loop (rec .ready none)); rwa [World.size_alloc] at this
  have d1 : W1.heap[w.heap.size]? = some (.deferred (some [])) := by
    rw [← hW1]; exact (Below.heap_alloc _ _ _ (by simp)).trans (World.alloc_heap_new w _)
  have i1 : I [] W1 := hI _ _ _ h0 (k1.mono fun _ _ _ => trivial)
  refine ⟨w.heap.size + 1, [{ target := .collected w.heap.size, args := #[] }], W1, { target := .fn (.func gf) lb, args := #[.func (.yield (w.heap.size + 1)) #[] #[]] }, W1, gf, #[.func (.yield (w.heap.size + 1)) #[] #[]] ++ lb, W1, ?_, ?_, ?_, ?_, (fun h => absurd h (by decide)), ?_⟩
  · rw [← hW1, hrec]; exact run_enterLoop_outer _ _ _ _ _
  · simp only [resolve, hg]
    simp [go_sem]
  · intro f' hf'; trivial
  · simp [invoke, go_sem, eg]
  · rw [callsIn_wide]
    have pb : ∀ (W : World) (o : Obj), Kp (fun b => b < B) W (W.putObj (w.heap.size + 1) o) := fun W o => .putObj _ _ _ (by omega)
    have nT : ∀ b, w.heap.size ≤ b → ¬ T b := fun b hb ht => by have := (hT b ht).2; omega
    have sub : ∀ b, b < B → ¬ T b := fun b hb ht => by have := (hT b ht).1; omega
    refine (hit (w.heap.size + 1)
      (fun pre W => I pre W ∧ W.heap[w.heap.size + 1]? = some (.loop (rec .ready none)) ∧ W.heap[w.heap.size]? = some (.deferred (some [])))
      (fun pre W => ∃ c, Ix c pre W ∧ W.heap[w.heap.size + 1]? = some (.loop (rec .done (some c))) ∧ W.heap[w.heap.size]? = some (.deferred (some [])))
      W1 k1 ?_ ?_ ?_ ⟨i1, l1, d1⟩).mono ?_
    · rintro pre W W' ⟨h1, h2, h3⟩ hk
      have q2 := (Array.getElem?_eq_some_iff.1 h2).1
      exact ⟨hI _ _ _ h1 (hk.mono fun b hb _ => sub b hb), (hk.block _ (nT _ (by omega)) q2).trans h2, (hk.block _ (nT _ (Nat.le_refl _)) (by omega)).trans h3⟩
    · rintro pre W W' ⟨c, h1, h2, h3⟩ hk
      have q2 := (Array.getElem?_eq_some_iff.1 h2).1
      exact ⟨c, hIx _ _ _ _ h1 (hk.mono fun b hb _ => sub b hb), (hk.block _ (nT _ (by omega)) q2).trans h2, (hk.block _ (nT _ (Nat.le_refl _)) (by omega)).trans h3⟩
    · rintro pre x W ⟨hi, hl, hk⟩ hpre
      have hlt : w.heap.size + 1 < W.heap.size := (Array.getElem?_eq_some_iff.1 hl).1
      have hy := run_yield (P := P) (args := enc x) hl (by rw [hrec]; exact hps x)
      rw [hrec] at hy
      refine yieldAt_any (m := n) ⟨fn, _, assign, body, hy, roundIn_of_wpIn hfn (hassign _ x W _ ⟨_, run_beginRound hl (by rw [hrec]), ?_⟩)⟩
      obtain ⟨W2, hW2⟩ : ∃ W2, W.putObj (w.heap.size + 1) (.loop { rec .ready none with state := .busy }) = W2 := ⟨_, rfl⟩
      have p2 : Kp (fun b => b ≠ w.heap.size + 1) W W2 := by rw [← hW2]; exact .putObj _ _ _ (fun h => h rfl)
      have z2 : W2.heap.size = W.heap.size := by rw [← hW2]; exact World.putObj_size
      have l2 : W2.heap[w.heap.size + 1]? = some (.loop { rec .ready none with state := .busy }) := by rw [← hW2]; exact World.putObj_heap_same hlt
      have d2 : W2.heap[w.heap.size]? = some (.deferred (some [])) := (p2.block _ (by omega) (by omega)).trans hk
      have i2 : I pre W2 := hI _ _ _ hi (p2.mono fun b hb _ => by omega)
      rw [hW2]
      refine wpIn_mono (hbody _ pre x _ i2 (by omega) hpre) ?_
      have fin : ∀ (jump : Option Code) (W3 : World), Kp (fun b => B ≤ b) W2 W3 →
          (Instr.endRound (w.heap.size + 1) jump).run P W3 = .ok (.bool jump.isNone) (W3.putObj (w.heap.size + 1) (.loop (rec (if jump.isNone then .ready else .done) jump))) ∧
          (W3.putObj (w.heap.size + 1) (.loop (rec (if jump.isNone then .ready else .done) jump))).heap[w.heap.size + 1]? = some (.loop (rec (if jump.isNone then .ready else .done) jump)) ∧
          (W3.putObj (w.heap.size + 1) (.loop (rec (if jump.isNone then .ready else .done) jump))).heap[w.heap.size]? = some (.deferred (some [])) ∧
          Kp T W (W3.putObj (w.heap.size + 1) (.loop (rec (if jump.isNone then .ready else .done) jump))) := fun jump W3 hk3 => by
        have hl3 := (hk3.block _ (by omega) (by omega)).trans l2
        have hd3 := (hk3.block _ hBw (by omega)).trans d2
        have := run_endRound (P := P) jump hl3
        rw [hrec] at this ⊢
        refine ⟨this, World.putObj_heap_same (Array.getElem?_eq_some_iff.1 hl3).1, (World.putObj_heap_other (by omega)).trans hd3, ((p2.mono fun b hb _ => ?_).trans (hk3.mono fun b hb _ => (hT b hb).1)).trans (.putObj _ _ _ fun hb => ?_)⟩
        · have := (hT b hb).2; omega
        · have := (hT _ hb).2; omega
      rintro e a3 W3 hp
      cases e with
      | normal =>
        obtain ⟨hk3, hi3⟩ := hp
        obtain ⟨hr, hl4, hk4, ht4⟩ := fin none W3 hk3
        exact ⟨_, _, hr, .inl ⟨rfl, ⟨hI _ _ _ hi3 (pb _ _), hl4, hk4⟩, ht4⟩⟩
      | ret =>
        obtain ⟨hk3, hi3⟩ := hp
        obtain ⟨hr, hl4, hk4, ht4⟩ := fin (some .ret) W3 hk3
        exact ⟨_, _, hr, .inr ⟨rfl, .ret, hIx _ _ _ _ hi3 (pb _ _), hl4, hk4⟩⟩
      | exit id =>
        obtain ⟨hk3, hi3⟩ := hp
        obtain ⟨hr, hl4, hk4, ht4⟩ := fin (some (.exit id)) W3 hk3
        exact ⟨_, _, hr, .inr ⟨rfl, .exit id, hIx _ _ _ _ hi3 (pb _ _), hl4, hk4⟩⟩
      | goto t => exact hp.elim
      | panic ch => exact hp.elim
      | outgrown => exact hp.elim
    · rintro e W2 ⟨⟨v, rfl⟩, (⟨hi, hl, hk⟩ | ⟨pre, hp, c, hi, hl, hk⟩)⟩
      · have := run_endLoop (P := P) hl (by rw [hrec]; simp)
        rw [hrec] at this
        exact ⟨none, _, this, hdone _ _ (hI _ _ _ hi (pb _ _)) hBw ((World.putObj_heap_other (by omega)).trans hk)⟩
      · have := run_endLoop (P := P) hl (by rw [hrec]; simp)
        rw [hrec] at this
        exact ⟨some c, _, this, hstop _ c pre _ (hIx _ _ _ _ hi (pb _ _)) hp hBw ((World.putObj_heap_other (by omega)).trans hk)⟩
/-- A contract of one's own typing whose function calls printed ones. -/
theorem Fun.flatG {gl : Gl} {f : FuncId} {xs : List Va} {y : Va} {v : Value} (hc : callable P f = true) (hy : ∀ w S, RepV w S (fun _ => none) (fun _ => none) y v) (h : ∀ w (S : Nat → Prop) vs, (∀ k, S k → k < w.heap.size) → GlOk gl w S → RepA w S xs vs → Calls P f vs w fun e w1 => e = .returned v ∧ Below w.heap.size w w1) : Fun P gl f xs y := by
  refine ⟨hc, fun w S vs hS hgl hA => (h w S vs hS hgl hA).mono fun e w1 => ?_⟩
  rintro ⟨rfl, hb⟩
  exact ⟨v, S, rfl, fun _ h => h, fun k hk => ⟨.inl hk, Nat.lt_of_lt_of_le (hS k hk) hb.size⟩, hy _ _, hb⟩
theorem GlOk.later {gl : Gl} {w w1 : World} {S : Nat → Prop} (hS : ∀ k, S k → k < w.heap.size) (hG : GlOk gl w S) (hb : Below w.heap.size w w1) : GlOk gl w1 S := fun g cs hg => (hG g cs hg).mono (fun _ h => h) (fun k hk => hb.block k (hS k hk))
theorem Fun.boolAt {gl : Gl} {f : FuncId} {xs : List Va} {b : Bool} {w w1 : World} {S : Nat → Prop} {vs : Array Value} (h : Fun P gl f xs (.bo b)) (hS : ∀ k, S k → k < w.heap.size) (hG : GlOk gl w S) (hb : Below w.heap.size w w1) (hA : RepA w1 S xs vs) : Calls P f vs w1 fun e w' => e = .returned (.bool b) ∧ Below w1.heap.size w1 w' :=
  (h.2 w1 S vs (fun k hk => Nat.lt_of_lt_of_le (hS k hk) hb.size) (hG.later hS hb) hA).mono fun e w' => by
    rintro ⟨u, S1, rfl, _, _, hr, hb⟩
    refine ⟨?_, hb⟩
    cases hr with
    | d _ _ h => cases h with | bool _ => rfl
theorem repA_str {w : World} {S : Nat → Prop} (x : List UInt8) : RepA w S [.b (.s (.d (.str x)))] #[strV x] := by
  refine ⟨rfl, fun j y hj => ?_⟩
  cases j with
  | zero => simp only [List.getElem?_cons_zero, Option.some.injEq] at hj; subst hj; exact .d _ _ (.str _)
  | succ j => simp at hj
/-- A package variable that holds a type's handle. -/
theorem ifa_one {w : World} {S : Nat → Prop} {t : TypeId} {x : Sc} {u : Value} (h : RepD w S (.ifc t true [x]) u) : ∃ v, u = .iface t (.agg #[v]) ∧ RepD w S x v := by
  cases h with
  | ifa _ _ vs hl hu =>
    obtain ⟨vs⟩ := vs
    match vs, hl with
    | [v], _ => exact ⟨v, rfl, hu 0 x rfl⟩
theorem ifa_two {w : World} {S : Nat → Prop} {t : TypeId} {x y : Sc} {u : Value} (h : RepD w S (.ifc t true [x, y]) u) : ∃ v v2, u = .iface t (.agg #[v, v2]) ∧ RepD w S x v ∧ RepD w S y v2 := by
  cases h with
  | ifa _ _ vs hl hu =>
    obtain ⟨vs⟩ := vs
    match vs, hl with
    | [v, v2], _ => exact ⟨v, v2, rfl, hu 0 x rfl, hu 1 y rfl⟩
theorem ifa_none {w : World} {S : Nat → Prop} {t : TypeId} {u : Value} (h : RepD w S (.ifc t true []) u) : u = .iface t (.agg #[]) := by
  cases h with
  | ifa _ _ vs hl hu =>
    obtain ⟨vs⟩ := vs
    match vs, hl with
    | [], _ => rfl
theorem repD_int {w : World} {S : Nat → Prop} {k : IntKind} {n : Int} {u : Value} (h : RepD w S (.int k n) u) : u = .int k n := by cases h; rfl
theorem gl_handle {gl : Gl} {w : World} {S : Nat → Prop} {g t b o : Nat} (hG : GlOk gl w S) (h : gl g = some [.ifc t true [.z (.hnd b o)]]) : w.cell? ⟨g, 0, none⟩ = some (.iface t (.agg #[.pointer (some ⟨b, o, none⟩)])) := by
  have h1 := hG g _ h
  cases h1 with
  | ref _ _ b1 o1 us hS hcell hu =>
    have h2 := hu 0 _ rfl
    obtain ⟨v, h3, h4⟩ := ifa_one h2
    have h5 := hcell 0 _ rfl
    rw [h3] at h5
    cases h4 with
    | z _ => exact h5
/-- Two plain values, handed back, or handed in. -/
theorem repV_two {w : World} {S : Nat → Prop} {x y : Sc} {u v : Value} (h1 : RepD w S x u) (h2 : RepD w S y v) : RepV w S (fun _ => none) (fun _ => none) (.tup [.s (.d x), .s (.d y)]) (.tuple #[u, v]) := by
  refine ⟨_, rfl, rfl, fun j z hj => ?_⟩
  match j, hj with
  | 0, hj => cases hj; exact .d _ _ h1
  | 1, hj => cases hj; exact .d _ _ h2
theorem repA_two {w : World} {S : Nat → Prop} {x y : Va} {u v : Value} (h1 : RepV w S (fun _ => none) (fun _ => none) x u) (h2 : RepV w S (fun _ => none) (fun _ => none) y v) : RepA w S [x, y] #[u, v] := by
  refine ⟨rfl, fun j z hj => ?_⟩
  match j, hj with
  | 0, hj => cases hj; exact h1
  | 1, hj => cases hj; exact h2
theorem Fun.strInt {gl : Gl} {f : FuncId} {xs : List Va} {s : List UInt8} {k : IntKind} {n : Int} {w w1 : World} {S : Nat → Prop} {vs : Array Value} (h : Fun P gl f xs (.tup [.s (.d (.str s)), .s (.d (.int k n))])) (hS : ∀ k, S k → k < w.heap.size) (hG : GlOk gl w S) (hb : Below w.heap.size w w1) (hA : RepA w1 S xs vs) : Calls P f vs w1 fun e w' => e = .returned (.tuple #[strV s, .int k n]) ∧ Below w1.heap.size w1 w' :=
  (h.2 w1 S vs (fun k hk => Nat.lt_of_lt_of_le (hS k hk) hb.size) (hG.later hS hb) hA).mono fun e w' => by
    rintro ⟨u, S1, rfl, _, _, hr, hb⟩
    refine ⟨?_, hb⟩
    obtain ⟨vs, rfl, hl, hr⟩ := hr
    obtain ⟨vs⟩ := vs
    match vs, hl with
    | [a, b], _ =>
      have h1 := hr 0 _ rfl
      have h2 := hr 1 _ rfl
      cases h1 with
      | d _ _ h1 => cases h2 with
        | d _ _ h2 => cases h1; cases h2; rfl
/-- A row of texts that is handed in. -/
theorem rep_strs {w : World} {S : Nat → Prop} {l : List (List UInt8)} {v : Value} (hS : ∀ k, S k → k < w.heap.size) (h : RepV w S (fun _ => none) (fun _ => none) (.b (.s (.d (.sl (l.map eS))))) v) :
    ∃ A b o c, v = .slice A l.length c ∧ (l ≠ [] → A = some ⟨b, o, none⟩) ∧ (∀ (j : Nat) x, l[j]? = some x → w.cell? ⟨b, o + j, none⟩ = some (strV x)) ∧ (l ≠ [] → b < w.heap.size) ∧ l.length ≤ c := by
  have hfl : (l.map eS).flatten = l.map Sc.str := by
    clear h
    induction l with
    | nil => rfl
    | cons x l ih => rw [List.map_cons, List.flatten_cons, ih]; rfl
  cases h with
  | d _ _ h =>
    cases h with
    | sl _ a c st b o us hc h0 hst ha hcell hu =>
      rw [List.length_map] at hc
      refine ⟨a, b, o, c, by rw [List.length_map], fun hne => (ha (by simpa using hne)).1, fun j x hj => ?_, fun hne => hS _ (ha (by simpa using hne)).2, hc⟩
      have hj2 : (l.map eS).flatten[j]? = some (.str x) := by rw [hfl, List.getElem?_map, hj]; rfl
      rw [hcell j _ hj2]
      have := hu j _ hj2
      generalize us j = q at this
      cases this; rfl
end Go.Proofs.Ytjhelpeglgigbaa.V
end

section
/- slices.Clone of texts: a new row. -/
namespace Go.Proofs.Ytjhelpeglgigbaa.V
open Go Go.RowKit
set_option linter.unusedVariables false
set_option linter.unusedSimpArgs false
def c63r0 : List Opn := [
  ⟨(some 2), none, .mv (.c (.s .nils))⟩]
def c63r1 : List Opn := [
  ⟨(some 3), none, .mv (.t 0)⟩, 
  ⟨(some 4), none, .bnil .eql (.t 3) (.c (.s .nils))⟩]
def c63r2 : List Opn := [
  ⟨(some 2), none, .mv (.c (.s .nils))⟩]
def c63r3 : List Opn := [
  ⟨(some 5), none, .bsl 1 []⟩, 
  ⟨(some 6), none, .mv (.t 0)⟩, 
  ⟨(some 7), none, .app 1 16 false (.t 5) (.t 6)⟩, 
  ⟨(some 2), none, .mv (.t 7)⟩]
def c63 : C := .seq (.reg c63r0 none [0]) (.seq (.seq (.reg c63r1 none [0, 4]) (.cond (.t 4) (.seq (.reg c63r2 none [2]) (.ret)) (.skip))) (.seq (.reg c63r3 none [2]) (.ret)))
def k63 : List (Nat × List Nat) := [(3, [2]), (2, [2]), (1, [0, 4]), (0, [0])]
theorem cc63 : (Try.f63.body).bind (cC Try.prog 8 k63) = some c63 := by kernel_rfl
def rv63 : List RV := [.t 2]
theorem cr63 : cRVs Try.prog Try.f63.results.toList = some rv63 := by kernel_rfl
theorem cloneS (gl : Gl) (t : List (List Sc)) (hl : t.length ≤ 1099511627776) (hst : ∀ r, r ∈ t → r.length = 1) : FunO Try.prog gl 63 [.b (.s (.d (.sl t)))] 1 t := by
  refine funO_walk Try.func63 Try.ntmps63 cc63 cr63 (by kernel_rfl) (by simp only [List.length_cons, List.length_nil]; decide) ?_
  simp only [wk0, wk1, wk2, wk3, wk4, wk5, wk6, wk7, wk8, wk9, wk10, Rw_op, Rw_opg, RwD_op, RwD_opg, Bool.cond_true, Bool.cond_false, if_true, if_false, implies_true, forall_const, eq_self, ne_eq, forall_eq, forall_eq', forall_eq_or_imp, exists_eq', bne_self_eq_false, dchk, meets, touchS, touchI, quietI, allocI, isCall, idsV, ch0, Nat.testBit, semI, binS, unS, nilS, aggS, eqLs, eqL, evT, evS, stripV, gOk, gAll, opsOf, boolV, apG, numd, prL, cellsV, isB, out1, fail, fillOb, fillL, replaceAt, rowsV, newV, boundV, intV, lcOf, lcA, scA, Va.bo, Va.i, Va.st, Ret, allOb, rvOut, convB, convBs, convC, convR, conv, unD, Nat.reduceAdd, Nat.reduceSub, Nat.reduceMul, Nat.reduceLeDiff, Nat.reduceEqDiff, Nat.reduceLT, Nat.reduceBEq, reduceIte, reduceCtorEq, Int.reduceToNat, fnV, argsV, touchO, evO, bareI, Nat.reduceShiftRight, Nat.reduceAnd, Nat.reduceBneDiff, Nat.reduceBNe]
  unfold c63
  refine .seq (Rw.walk ?_)
  simp only [wk0, wk1, wk2, wk3, wk4, wk5, wk6, wk7, wk8, wk9, wk10, Rw_op, Rw_opg, RwD_op, RwD_opg, Bool.cond_true, Bool.cond_false, if_true, if_false, implies_true, forall_const, eq_self, ne_eq, forall_eq, forall_eq', forall_eq_or_imp, exists_eq', bne_self_eq_false, dchk, meets, touchS, touchI, quietI, allocI, isCall, idsV, ch0, Nat.testBit, semI, binS, unS, nilS, aggS, eqLs, eqL, evT, evS, stripV, gOk, gAll, opsOf, boolV, apG, numd, prL, cellsV, isB, out1, fail, fillOb, fillL, replaceAt, rowsV, newV, boundV, intV, lcOf, lcA, scA, Va.bo, Va.i, Va.st, Ret, allOb, rvOut, convB, convBs, convC, convR, conv, unD, Nat.reduceAdd, Nat.reduceSub, Nat.reduceMul, Nat.reduceLeDiff, Nat.reduceEqDiff, Nat.reduceLT, Nat.reduceBEq, reduceIte, reduceCtorEq, Int.reduceToNat, fnV, argsV, touchO, evO, bareI, Nat.reduceShiftRight, Nat.reduceAnd, Nat.reduceBneDiff, Nat.reduceBNe, c63r0]
  refine .nil2 (t := 0) rfl (fun h0 => ?_) ?_
  · simp only [wk0, wk1, wk2, wk3, wk4, wk5, wk6, wk7, wk8, wk9, wk10, Rw_op, Rw_opg, RwD_op, RwD_opg, Bool.cond_true, Bool.cond_false, if_true, if_false, implies_true, forall_const, eq_self, ne_eq, forall_eq, forall_eq', forall_eq_or_imp, exists_eq', bne_self_eq_false, dchk, meets, touchS, touchI, quietI, allocI, isCall, idsV, ch0, Nat.testBit, semI, binS, unS, nilS, aggS, eqLs, eqL, evT, evS, stripV, gOk, gAll, opsOf, boolV, apG, numd, prL, cellsV, isB, out1, fail, fillOb, fillL, replaceAt, rowsV, newV, boundV, intV, lcOf, lcA, scA, Va.bo, Va.i, Va.st, Ret, allOb, rvOut, convB, convBs, convC, convR, conv, unD, Nat.reduceAdd, Nat.reduceSub, Nat.reduceMul, Nat.reduceLeDiff, Nat.reduceEqDiff, Nat.reduceLT, Nat.reduceBEq, reduceIte, reduceCtorEq, Int.reduceToNat, fnV, argsV, touchO, evO, bareI, Nat.reduceShiftRight, Nat.reduceAnd, Nat.reduceBneDiff, Nat.reduceBNe]
    refine .seq (.seq (Rw.walk ?_))
    simp only [wk0, wk1, wk2, wk3, wk4, wk5, wk6, wk7, wk8, wk9, wk10, Rw_op, Rw_opg, RwD_op, RwD_opg, Bool.cond_true, Bool.cond_false, if_true, if_false, implies_true, forall_const, eq_self, ne_eq, forall_eq, forall_eq', forall_eq_or_imp, exists_eq', bne_self_eq_false, dchk, meets, touchS, touchI, quietI, allocI, isCall, idsV, ch0, Nat.testBit, semI, binS, unS, nilS, aggS, eqLs, eqL, evT, evS, stripV, gOk, gAll, opsOf, boolV, apG, numd, prL, cellsV, isB, out1, fail, fillOb, fillL, replaceAt, rowsV, newV, boundV, intV, lcOf, lcA, scA, Va.bo, Va.i, Va.st, Ret, allOb, rvOut, convB, convBs, convC, convR, conv, unD, Nat.reduceAdd, Nat.reduceSub, Nat.reduceMul, Nat.reduceLeDiff, Nat.reduceEqDiff, Nat.reduceLT, Nat.reduceBEq, reduceIte, reduceCtorEq, Int.reduceToNat, fnV, argsV, touchO, evO, bareI, Nat.reduceShiftRight, Nat.reduceAnd, Nat.reduceBneDiff, Nat.reduceBNe, c63r1, nilS]
    refine .cond rfl (fun h => ?_) (fun h => by cases h)
    refine .seq (Rw.walk ?_)
    simp only [wk0, wk1, wk2, wk3, wk4, wk5, wk6, wk7, wk8, wk9, wk10, Rw_op, Rw_opg, RwD_op, RwD_opg, Bool.cond_true, Bool.cond_false, if_true, if_false, implies_true, forall_const, eq_self, ne_eq, forall_eq, forall_eq', forall_eq_or_imp, exists_eq', bne_self_eq_false, dchk, meets, touchS, touchI, quietI, allocI, isCall, idsV, ch0, Nat.testBit, semI, binS, unS, nilS, aggS, eqLs, eqL, evT, evS, stripV, gOk, gAll, opsOf, boolV, apG, numd, prL, cellsV, isB, out1, fail, fillOb, fillL, replaceAt, rowsV, newV, boundV, intV, lcOf, lcA, scA, Va.bo, Va.i, Va.st, Ret, allOb, rvOut, convB, convBs, convC, convR, conv, unD, Nat.reduceAdd, Nat.reduceSub, Nat.reduceMul, Nat.reduceLeDiff, Nat.reduceEqDiff, Nat.reduceLT, Nat.reduceBEq, reduceIte, reduceCtorEq, Int.reduceToNat, fnV, argsV, touchO, evO, bareI, Nat.reduceShiftRight, Nat.reduceAnd, Nat.reduceBneDiff, Nat.reduceBNe, c63r2]
    refine .weak (Imp.adoptN 2 0 1 rfl rfl) (.ret ?_)
    simp only [wk0, wk1, wk2, wk3, wk4, wk5, wk6, wk7, wk8, wk9, wk10, Rw_op, Rw_opg, RwD_op, RwD_opg, Bool.cond_true, Bool.cond_false, if_true, if_false, implies_true, forall_const, eq_self, ne_eq, forall_eq, forall_eq', forall_eq_or_imp, exists_eq', bne_self_eq_false, dchk, meets, touchS, touchI, quietI, allocI, isCall, idsV, ch0, Nat.testBit, semI, binS, unS, nilS, aggS, eqLs, eqL, evT, evS, stripV, gOk, gAll, opsOf, boolV, apG, numd, prL, cellsV, isB, out1, fail, fillOb, fillL, replaceAt, rowsV, newV, boundV, intV, lcOf, lcA, scA, Va.bo, Va.i, Va.st, Ret, allOb, rvOut, convB, convBs, convC, convR, conv, unD, Nat.reduceAdd, Nat.reduceSub, Nat.reduceMul, Nat.reduceLeDiff, Nat.reduceEqDiff, Nat.reduceLT, Nat.reduceBEq, reduceIte, reduceCtorEq, Int.reduceToNat, fnV, argsV, touchO, evO, bareI, Nat.reduceShiftRight, Nat.reduceAnd, Nat.reduceBneDiff, Nat.reduceBNe, RetO]
    subst h0
    exact ⟨0, rfl, rfl⟩
  · simp only [wk0, wk1, wk2, wk3, wk4, wk5, wk6, wk7, wk8, wk9, wk10, Rw_op, Rw_opg, RwD_op, RwD_opg, Bool.cond_true, Bool.cond_false, if_true, if_false, implies_true, forall_const, eq_self, ne_eq, forall_eq, forall_eq', forall_eq_or_imp, exists_eq', bne_self_eq_false, dchk, meets, touchS, touchI, quietI, allocI, isCall, idsV, ch0, Nat.testBit, semI, binS, unS, nilS, aggS, eqLs, eqL, evT, evS, stripV, gOk, gAll, opsOf, boolV, apG, numd, prL, cellsV, isB, out1, fail, fillOb, fillL, replaceAt, rowsV, newV, boundV, intV, lcOf, lcA, scA, Va.bo, Va.i, Va.st, Ret, allOb, rvOut, convB, convBs, convC, convR, conv, unD, Nat.reduceAdd, Nat.reduceSub, Nat.reduceMul, Nat.reduceLeDiff, Nat.reduceEqDiff, Nat.reduceLT, Nat.reduceBEq, reduceIte, reduceCtorEq, Int.reduceToNat, fnV, argsV, touchO, evO, bareI, Nat.reduceShiftRight, Nat.reduceAnd, Nat.reduceBneDiff, Nat.reduceBNe]
    refine .seq (.seq (Rw.walk ?_))
    simp only [wk0, wk1, wk2, wk3, wk4, wk5, wk6, wk7, wk8, wk9, wk10, Rw_op, Rw_opg, RwD_op, RwD_opg, Bool.cond_true, Bool.cond_false, if_true, if_false, implies_true, forall_const, eq_self, ne_eq, forall_eq, forall_eq', forall_eq_or_imp, exists_eq', bne_self_eq_false, dchk, meets, touchS, touchI, quietI, allocI, isCall, idsV, ch0, Nat.testBit, semI, binS, unS, nilS, aggS, eqLs, eqL, evT, evS, stripV, gOk, gAll, opsOf, boolV, apG, numd, prL, cellsV, isB, out1, fail, fillOb, fillL, replaceAt, rowsV, newV, boundV, intV, lcOf, lcA, scA, Va.bo, Va.i, Va.st, Ret, allOb, rvOut, convB, convBs, convC, convR, conv, unD, Nat.reduceAdd, Nat.reduceSub, Nat.reduceMul, Nat.reduceLeDiff, Nat.reduceEqDiff, Nat.reduceLT, Nat.reduceBEq, reduceIte, reduceCtorEq, Int.reduceToNat, fnV, argsV, touchO, evO, bareI, Nat.reduceShiftRight, Nat.reduceAnd, Nat.reduceBneDiff, Nat.reduceBNe, c63r1, nilS]
    refine .cond rfl (fun h => by cases h) (fun h => ?_)
    refine .skip ?_
    refine .seq (Rw.walk ?_)
    simp only [wk0, wk1, wk2, wk3, wk4, wk5, wk6, wk7, wk8, wk9, wk10, Rw_op, Rw_opg, RwD_op, RwD_opg, Bool.cond_true, Bool.cond_false, if_true, if_false, implies_true, forall_const, eq_self, ne_eq, forall_eq, forall_eq', forall_eq_or_imp, exists_eq', bne_self_eq_false, dchk, meets, touchS, touchI, quietI, allocI, isCall, idsV, ch0, Nat.testBit, semI, binS, unS, nilS, aggS, eqLs, eqL, evT, evS, stripV, gOk, gAll, opsOf, boolV, apG, numd, prL, cellsV, isB, out1, fail, fillOb, fillL, replaceAt, rowsV, newV, boundV, intV, lcOf, lcA, scA, Va.bo, Va.i, Va.st, Ret, allOb, rvOut, convB, convBs, convC, convR, conv, unD, Nat.reduceAdd, Nat.reduceSub, Nat.reduceMul, Nat.reduceLeDiff, Nat.reduceEqDiff, Nat.reduceLT, Nat.reduceBEq, reduceIte, reduceCtorEq, Int.reduceToNat, fnV, argsV, touchO, evO, bareI, Nat.reduceShiftRight, Nat.reduceAnd, Nat.reduceBneDiff, Nat.reduceBNe, c63r3]
    refine ⟨⟨hst, by omega⟩, ?_⟩
    refine .ret ?_
    simp only [wk0, wk1, wk2, wk3, wk4, wk5, wk6, wk7, wk8, wk9, wk10, Rw_op, Rw_opg, RwD_op, RwD_opg, Bool.cond_true, Bool.cond_false, if_true, if_false, implies_true, forall_const, eq_self, ne_eq, forall_eq, forall_eq', forall_eq_or_imp, exists_eq', bne_self_eq_false, dchk, meets, touchS, touchI, quietI, allocI, isCall, idsV, ch0, Nat.testBit, semI, binS, unS, nilS, aggS, eqLs, eqL, evT, evS, stripV, gOk, gAll, opsOf, boolV, apG, numd, prL, cellsV, isB, out1, fail, fillOb, fillL, replaceAt, rowsV, newV, boundV, intV, lcOf, lcA, scA, Va.bo, Va.i, Va.st, Ret, allOb, rvOut, convB, convBs, convC, convR, conv, unD, Nat.reduceAdd, Nat.reduceSub, Nat.reduceMul, Nat.reduceLeDiff, Nat.reduceEqDiff, Nat.reduceLT, Nat.reduceBEq, reduceIte, reduceCtorEq, Int.reduceToNat, fnV, argsV, touchO, evO, bareI, Nat.reduceShiftRight, Nat.reduceAnd, Nat.reduceBneDiff, Nat.reduceBNe, RetO]
    exact ⟨5, rfl, rfl⟩
end Go.Proofs.Ytjhelpeglgigbaa.V
end

section
/- slices.Repeat of one text; disk.New: a new row of that many texts. -/
namespace Go.Proofs.Ytjhelpeglgigbaa
open Go.RowKit
set_option linter.unusedVariables false
set_option linter.unusedSimpArgs false
theorem add_plain_n (g j : Nat) : (⟨g, 0, none⟩ : Addr).add j = ⟨g, j, none⟩ := by unfold Addr.add; split <;> simp_all
theorem blk_lt_n {w : World} {g : Nat} {o : Obj} (h : w.heap[g]? = some o) : g < w.heap.size := (Array.getElem?_eq_some_iff.1 h).1
theorem blk_cell_n {w : World} {g : Nat} {t : TypeId} {cs : Array Value} (h : w.heap[g]? = some (.cells cs t (0, 0))) (i : Nat) : w.cell? ⟨g, i, none⟩ = cs[i]? := by simp [World.cell?, h]
theorem cell_lt_n {w : World} {ad : Addr} {v : Value} (h : w.cell? ad = some v) : ad.block < w.heap.size := by
  unfold World.cell? at h
  split at h
  · exact blk_lt_n (by assumption)
  · cases h
theorem gate_b {P : Program} {ops : Array Oper} {rest : List Oper} {o : Oper} {a : Act} {Q : Exit → Act → World → Prop} {W : World} {b : Builtin} {xs : Array Operand} {ts : Array TypeId} (_ho : o.op = .call { callee := .builtin b, args := xs, argTypes := ts }) (h : wpList P ops Q (o :: rest) a W) : wpList P ops Q (o :: rest) a W := h
theorem gate_s {P : Program} {ops : Array Oper} {o : Oper} {a : Act} {w : World} {K : Act → World → Prop} {Q : Exit → Act → World → Prop} {E : Prop} {b : Builtin} {xs : Array Operand} {ts : Array TypeId} (_ho : o.op = .call { callee := .builtin b, args := xs, argTypes := ts })
    (h : if Region.wanted o (yielded ops a.tmps) = true then Oper.wp P o a w K Q else E) : if Region.wanted o (yielded ops a.tmps) = true then Oper.wp P o a w K Q else E := h
theorem hid_n {p : Prop} (h : p) : Hid p := h
theorem bl_al {w W : World} (h : Below w.heap.size w W) (o : Obj) : Below w.heap.size w (W.alloc o) := h.alloc h.size o
theorem bl_dr {B : Nat} {w W : World} (h : Below B w W) : Below B w W.drew := ⟨h.os, h.tape, h.output, h.size, h.block⟩
theorem bl_dN {B : Nat} {w W : World} (h : Below B w W) (n : Nat) : Below B w (W.drewN n) := ⟨h.os, h.tape, h.output, h.size, h.block⟩
theorem bl_st {w W w2 : World} (h : Below w.heap.size w W) (k : Below W.heap.size W w2) : Below w.heap.size w w2 := h.trans (k.mono h.size)
theorem blk_frozen_n {w : World} {g : Nat} {t : TypeId} {cs : Array Value} (h : w.heap[g]? = some (.cells cs t (0, 0))) (i : Nat) : w.frozen? ⟨g, i, none⟩ = false := by simp [World.frozen?, h]
theorem blk_set_n {w : World} {g : Nat} {t : TypeId} {cs : Array Value} (h : w.heap[g]? = some (.cells cs t (0, 0))) (j : Nat) (u : Value) : (w.setCell ⟨g, j, none⟩ u).heap[g]? = some (.cells (cs.setIfInBounds j u) t (0, 0)) := by
  simp only [World.setCell, Array.getElem?_modify, if_true, h]; rfl
/-- A cell that is there, and may be written. -/
structure Cl (w : World) (a : Addr) (v : Value) : Prop where
  cell : w.cell? a = some v
  free : w.frozen? a = false
namespace Cl
variable {w w1 : World} {a : Addr} {v : Value}
theorem lt (h : Cl w a v) : a.block < w.heap.size := cell_lt_n h.cell
theorem below (hb : Below w.heap.size w w1) (h : Cl w a v) : Cl w1 a v := ⟨(hb.cell h.lt).trans h.cell, (hb.frozen h.lt).trans h.free⟩
theorem al (h : Cl w a v) {o : Obj} : Cl (w.alloc o) a v := h.below (bl_al (Below.refl _ _) o)
theorem dr (h : Cl w a v) : Cl w.drew a v := h.below (bl_dr (Below.refl _ _))
theorem drN (h : Cl w a v) {n : Nat} : Cl (w.drewN n) a v := h.below (bl_dN (Below.refl _ _) n)
theorem far (h : Cl w a v) {p : Addr} (hne : a.block ≠ p.block) {u : Value} : Cl (w.setCell p u) a v := by
  have hk := Below.heap_setCell w p u a.block hne
  exact ⟨(World.cell?_of_block (w := w) hk).trans h.cell, (World.frozen?_of_block (w := w) hk).trans h.free⟩
end Cl
/-- A block that is there. -/
structure Rb (w : World) (g : Nat) (o : Obj) : Prop where
  blk : w.heap[g]? = some o
namespace Rb
variable {w w1 : World} {g : Nat} {o : Obj}
theorem below (hb : Below w.heap.size w w1) (h : Rb w g o) : Rb w1 g o := ⟨(hb.block g (blk_lt_n h.blk)).trans h.blk⟩
theorem al (h : Rb w g o) {o2 : Obj} : Rb (w.alloc o2) g o := h.below (bl_al (Below.refl _ _) o2)
theorem dr (h : Rb w g o) : Rb w.drew g o := h.below (bl_dr (Below.refl _ _))
theorem drN (h : Rb w g o) {n : Nat} : Rb (w.drewN n) g o := h.below (bl_dN (Below.refl _ _) n)
end Rb
/-- A row that is filled as far as k. -/
def rp (x : ByteArray) (n k : Nat) : List Value := List.replicate k (.string x) ++ List.replicate (n - k) (.string ⟨#[]⟩)
theorem rp_len (x : ByteArray) {n k : Nat} (h : k ≤ n) : (rp x n k).length = n := by simp [rp]; omega
theorem rp_full (x : ByteArray) (n : Nat) : rp x n n = List.replicate n (Value.string x) := by simp [rp]
theorem rp_none (x : ByteArray) (n : Nat) : madeCells #[Value.string ⟨#[]⟩] n = (rp x n 0).toArray := by
  have h1 : (madeCells #[Value.string ⟨#[]⟩] n).toList = rp x n 0 := by
    apply List.ext_getElem
    · simp [rp, madeCells]
    · intro i h1 h2
      simp [rp, madeCells, Nat.mod_one]
  rw [← h1]
def rps (x : ByteArray) (m : Nat) : List Value := List.replicate m (.string x)
theorem rp_splice (x : ByteArray) {n k m : Nat} (h : k + m ≤ n) : splice (rp x n k) k (rps x m) = rp x n (k + m) := by
  unfold splice rp rps
  rw [List.take_left' (by simp), List.length_replicate, List.drop_append, List.drop_of_length_le (by simp), List.nil_append, List.length_replicate, ← List.append_assoc, List.replicate_append_replicate, List.drop_replicate]
  congr 2
  omega
theorem rp_at (x : ByteArray) {n k j : Nat} (h : j < k) : (rp x n k)[j]? = some (.string x) := by
  unfold rp
  rw [List.getElem?_append_left (by simpa using h), List.getElem?_replicate, if_pos h]
theorem rps_at {x : ByteArray} {m j : Nat} {v : Value} (h : (rps x m)[j]? = some v) : j < m ∧ v = .string x := by
  unfold rps at h
  rw [List.getElem?_replicate] at h
  split at h
  · rename_i hj; injection h with h; exact ⟨hj, h.symm⟩
  · cases h
theorem rps_len (x : ByteArray) (m : Nat) : (rps x m).length = m := by simp [rps]
theorem rps_one (x : ByteArray) (m : Nat) : ∀ v ∈ rps x m, v.oneCell' = true := by
  intro v hv
  unfold rps at hv
  obtain ⟨_, rfl⟩ := List.mem_replicate.1 hv
  rfl
set_option maxHeartbeats 2000000 in
set_option maxRecDepth 100000 in
theorem Try.Repeat_s (ad : Addr) (c : Nat) (x : ByteArray) (n : Nat) (w : World) (hx0 : w.cell? ad = some (.string x)) (hn1 : 1 ≤ n) (hn2 : n ≤ 65536) :
    Calls Try.prog 56 #[.slice (some ad) 1 c, .int .i64 n] w fun e w' => (∃ g, e = .returned (.slice (some ⟨g, 0, none⟩) n n) ∧ w.heap.size ≤ g ∧ w'.heap[g]? = some (.cells (rp x n n).toArray 9 (0, 0))) ∧ Below w.heap.size w w' := by
  have hmk : ∀ W : World, (Instr.makeSlice 22 (.int .i64 (n : Int)) (.int .i64 (n : Int))).run Try.prog W = .ok (.slice (some ⟨W.heap.size, 0, none⟩) n n) (W.alloc (.cells (rp x n 0).toArray 9)) := fun W => by
    rw [← rp_none]
    exact run_make_row' 22 9 (.string ⟨#[]⟩) 16 (by kernel_rfl) (by kernel_rfl) rfl .i64 .i64 n (by omega) (by omega) W
  have hu := hid_n (show Try.prog.underlying 22 = some (.slice 9) by kernel_rfl)
  have hsz := hid_n (show (Try.prog.info? 9).map (·.size) = some 1 by kernel_rfl)
  go_enter Try.func56, Try.ntmps56
  go_wp2_with fail
  refine (Try.bits_Mul 1 n (by omega) (by omega) _).mono ?_
  rintro e w1 ⟨rfl, rfl⟩
  have q1 : ((1 * n / 18446744073709551616 : Nat) : Int) = 0 := by omega
  have q2 : ((1 * n % 18446744073709551616 : Nat) : Int) = n := by omega
  rw [q1, q2]
  clear q1 q2
  have k0 : Below w1.heap.size w1 (w1.alloc (.cells (rp x n 0).toArray 9)) := (Below.refl _ _).alloc (Nat.le_refl _) _
  have k1 : (w1.alloc (.cells (rp x n 0).toArray 9)).heap[w1.heap.size]? = some (.cells (rp x n 0).toArray 9 (0, 0)) := heap_alloc_new _ _
  have k2 : ∀ j v, (rps x 1)[j]? = some v → (w1.alloc (.cells (rp x n 0).toArray 9)).cell? (ad.add j) = some v := fun j v hj => by
    obtain ⟨h1, rfl⟩ := rps_at hj
    obtain rfl : j = 0 := by omega
    rw [show ad.add 0 = ad from rfl]
    exact (k0.cell (cell_lt_n hx0)).trans hx0
  have hmin1 : (rps x 1).length = Nat.min 1 n := by rw [rps_len]; exact (Nat.min_eq_left hn1).symm
  go_wp2_with ((with_reducible refine gate_b (b := .copy) rfl ?_); go_loud (refine wpList_copy_splice rfl _ _ _ _ rfl 9 hu.out hsz.out _ _ _ _ _ _ rfl rfl w1.heap.size 0 (rp x n 0) 9 k1 (rps x 1) hmin1 (fun _ => ⟨rfl, _, rfl, k2⟩) (by rw [rps_len, rp_len x (Nat.zero_le n)]; omega) (rps_one x 1) w1.heap.size w1 k0 (Nat.le_refl _) ?_; intro w2 g2 b2; rw [rps_len]))
  clear k0 k1 k2
  go_loopw [8] (fun v wr => ∃ k : Nat, 1 ≤ k ∧ k ≤ n ∧ v = .int .i64 k ∧ Hid (wr.heap[w1.heap.size]? = some (.cells (rp x n k).toArray 9 (0, 0))) ∧ Below w1.heap.size w1 wr) (fun v _ => n - (intOf v).toNat)
  case atStart => exact ⟨1, Nat.le_refl _, hn1, rfl, by have := g2.out; rw [rp_splice x (by omega)] at this; exact hid_n this, b2⟩
  case round =>
    clear b2
    obtain ⟨k, hk0, hk1, rfl, hg, hb⟩ := hrel
    by_cases hlt : k < n
    · obtain ⟨m, hm⟩ : ∃ m, m = min (n - k) k := ⟨_, rfl⟩
      have hm1 : 1 ≤ m := by omega
      have hm2 : k + m ≤ n := by omega
      have hmk2 : m ≤ k := by omega
      have hm3 : m = Nat.min k (n - k) := by rw [hm]; exact Nat.min_comm _ _
      clear hm
      have hmin := hid_n (show (rps x m).length = Nat.min k (n - k) by rw [rps_len]; exact hm3)
      clear hm3
      have k3 : ∀ j v, (rps x m)[j]? = some v → wr.cell? ((⟨w1.heap.size, 0, none⟩ : Addr).add j) = some v := fun j v hj => by
        obtain ⟨h1, rfl⟩ := rps_at hj
        rw [add_plain_n, blk_cell_n hg.out, List.getElem?_toArray]
        exact rp_at x (Nat.lt_of_lt_of_le h1 hmk2)
      go_wp2_with fail
      have hlen : k + (rps x m).length ≤ (rp x n k).length := by rw [rps_len, rp_len x hk1]; omega
      go_region_law ((with_reducible refine gate_s (b := .copy) rfl ?_); refine step_copy_splice rfl (.tmp 41) (.tmp 44) 22 22 rfl 9 hu.out hsz.out (some ⟨w1.heap.size, k, none⟩) (some ⟨w1.heap.size, 0, none⟩) (n - k) (n - k) k n (by simp [Act.eval, Act.put]; omega) (by simp [Act.eval, Act.put]) w1.heap.size k (rp x n k) 9 hg.out (rps x m) hmin.out (fun _ => ⟨rfl, _, rfl, k3⟩) hlen (rps_one x m) w1.heap.size w1 hb.drew (Nat.le_refl _) ?_; intro w3 g3 b3; rw [rps_len])
      go_wp2_with fail
      go_roundw
      case rel => exact ⟨k + m, by omega, hm2, by rw [IntWalk.i64_in _ (by omega)]; omega, by have := g3.out; rw [rp_splice x hm2] at this; exact hid_n this⟩
      case measure => rw [IntWalk.i64_in _ (by omega)]; simp [intOf]; omega
    · obtain rfl : k = n := by omega
      go_wp2_with fail
      go_ret
      have hb2 := hb.size
      have hl := blk_lt_n hg.out
      exact ⟨⟨w1.heap.size, rfl, Nat.le_refl _, hg.out⟩, hb⟩
/-- A sector of noughts. -/
def sect0 : List UInt8 := List.replicate 128 0
theorem sect_rep0 : Lib.repeatL [(0 : UInt8)] 128 = sect0 := by decide
def okSize (n : Int) : Prop := 4 ≤ n ∧ n ≤ 64
set_option maxHeartbeats 4000000 in
set_option maxRecDepth 100000 in
theorem disk_New_s (n : Int) (w : World) :
    Calls Try.prog 39 #[.int .i64 n] w fun e w' => ((okSize n ∧ ∃ g, e = .returned (.tuple #[.agg #[.slice (some ⟨g, 0, none⟩) n.toNat n.toNat, .slice none 0 0], .int .i64 0]) ∧ w.heap.size ≤ g ∧ w'.heap[g]? = some (.cells (List.replicate n.toNat (Value.string ⟨⟨sect0⟩⟩)).toArray 9 (0, 0))) ∨ (¬ okSize n ∧ e = .returned (.tuple #[.agg #[.slice none 0 0, .slice none 0 0], .int .i64 1]))) ∧ Below w.heap.size w w' := by
  by_cases h4 : n < 4
  · skip
    go_enter Try.func39, Try.ntmps39
    go_wp2
    exact bodyPost_ret (v := .tuple #[.agg #[.slice none 0 0, .slice none 0 0], .int .i64 1]) (by simp [results, Try.results39, go_sem, *]) rfl (show _ ∧ _ from ⟨.inr ⟨fun h => by have := h.1; have := h.2; omega, rfl⟩, (Below.refl _ _).alloc (Nat.le_refl _) _⟩)
  · by_cases h64 : 64 < n
    · skip
      go_enter Try.func39, Try.ntmps39
      go_wp2
      refine bodyPost_ret (v := .tuple #[.agg #[.slice none 0 0, .slice none 0 0], .int .i64 1]) (by simp [results, Try.results39, go_sem, *]) rfl ?_
      exact ⟨.inr ⟨fun h => by have := h.1; have := h.2; omega, rfl⟩, (Below.refl _ _).alloc (Nat.le_refl _) _⟩
    · obtain ⟨m, rfl⟩ := Int.eq_ofNat_of_zero_le (show 0 ≤ n by omega)
      rw [Int.toNat_natCast]
      go_enter Try.func39, Try.ntmps39
      go_wp2_with fail
      refine (Try.strings_Repeat ⟨#[0]⟩ 128 _ (by omega) (by decide)).mono ?_
      rintro e w1 ⟨rfl, b1⟩
      have hz1 := b1.size
      rw [show (⟨(Lib.repeatL (⟨#[0]⟩ : ByteArray).data.toList 128).toArray⟩ : ByteArray) = ⟨⟨sect0⟩⟩ from by rw [show (⟨#[0]⟩ : ByteArray).data.toList = [0] from rfl, sect_rep0]]
      go_wp2_with fail
      refine (Try.Repeat_s _ 1 ⟨⟨sect0⟩⟩ m _ (by simp) (by omega) (by omega)).mono ?_
      rintro e w2 ⟨⟨g, rfl, hg, hown⟩, b2⟩
      have hz2 := b2.size
      simp only [World.size_alloc] at hz1 hz2 hg
      have e1 : ∀ o, w2.cell? ⟨w.heap.size, o, none⟩ = (w.alloc (.cells #[.slice none 0 0, .slice none 0 0] 25)).cell? ⟨w.heap.size, o, none⟩ := fun o => (b2.cell (p := ⟨w.heap.size, o, none⟩) (by simp only [World.size_alloc]; omega)).trans ((((Below.refl w1.heap.size w1).alloc (Nat.le_refl _) _).cell (p := ⟨w.heap.size, o, none⟩) (by dsimp only; omega)).trans (b1.cell (p := ⟨w.heap.size, o, none⟩) (by simp only [World.size_alloc]; omega)))
      have e2 : ∀ o, w2.frozen? ⟨w.heap.size, o, none⟩ = (w.alloc (.cells #[.slice none 0 0, .slice none 0 0] 25)).frozen? ⟨w.heap.size, o, none⟩ := fun o => (b2.frozen (p := ⟨w.heap.size, o, none⟩) (by simp only [World.size_alloc]; omega)).trans ((((Below.refl w1.heap.size w1).alloc (Nat.le_refl _) _).frozen (p := ⟨w.heap.size, o, none⟩) (by dsimp only; omega)).trans (b1.frozen (p := ⟨w.heap.size, o, none⟩) (by simp only [World.size_alloc]; omega)))
      have c0 : w2.cell? ⟨w.heap.size, 0, none⟩ = some (.slice none 0 0) := (e1 0).trans (by simp)
      have c1 : w2.cell? ⟨w.heap.size, 1, none⟩ = some (.slice none 0 0) := (e1 1).trans (by simp)
      have f0 : w2.frozen? ⟨w.heap.size, 0, none⟩ = false := (e2 0).trans (by simp)
      have f1 : w2.frozen? ⟨w.heap.size, 1, none⟩ = false := (e2 1).trans (by simp)
      clear e1 e2
      go_wp2
      exact bodyPost_ret (v := .tuple #[.agg #[.slice (some ⟨g, 0, none⟩) m m, .slice none 0 0], .int .i64 0]) (by simp [results, Try.results39, go_sem, *]) rfl ⟨.inl ⟨⟨by omega, by omega⟩, g, rfl, by omega, (Below.heap_setCell _ _ _ g (by dsimp only; omega)).trans ((Below.heap_setCell _ _ _ g (by dsimp only; omega)).trans (by rw [rp_full] at hown; exact hown))⟩, ((((((Below.refl w.heap.size w).alloc (Nat.le_refl _) _).trans (b1.mono (by simp only [World.size_alloc]; omega))).alloc (by omega) _).trans (b2.mono (by simp only [World.size_alloc]; omega))).setCell (by dsimp only; omega) _).setCell (by dsimp only; omega) _⟩
end Go.Proofs.Ytjhelpeglgigbaa
end

section
/- Go functions compute what Lean functions do. -/
namespace Go.Proofs.Ytjhelpeglgigbaa.V
open Go Go.RowKit
set_option linter.unusedVariables false
set_option linter.unusedSimpArgs false
set_option maxHeartbeats 1000000
set_option maxRecDepth 20000
theorem f_slices_Clone_string_string_ok (s : List Str) (y_ : List Str) (h : f_slices_Clone_string_string s = some y_) : FunO Try.prog glP 63 [.b (.s (.d (.sl (s.map eS))))] 1 (y_.map eS) := by
  obtain ⟨hN, h⟩ := gd_iff.1 h
  obtain rfl := Option.some.inj h
  exact cloneS glP (s.map eS) (by rw [List.length_map]; exact hN) (fun r hr => by obtain ⟨x, _, rfl⟩ := List.mem_map.1 hr; rfl)
theorem f_strings_Join_ok (l : List Str) (sep : Str) (y_ : Str) (h : f_strings_Join l sep = some y_) : Fun Try.prog glP 53 [.b (.s (.d (.sl (l.map eS)))), .b (.s (.d (.str sep)))] (.b (.s (.d (.str y_)))) := by
  obtain ⟨⟨hN, hlen⟩, h⟩ := gd_iff.1 h
  obtain rfl := Option.some.inj h
  refine Fun.flat (by kernel_rfl) (of_str _) fun w S vs hA => ?_
  obtain ⟨v, u, rfl, h1, h2⟩ := args2 hA
  obtain rfl := repv_str (l := sep) h2
  cases h1 with
  | d _ _ h1 =>
    cases h1 with
    | sl _ a c st b o us hc h0 hst ha hcell hu =>
      by_cases hne : l = []
      · subst hne
        refine (Try.strings_Join_none a c ⟨⟨sep⟩⟩ w).mono fun e w' => ?_
        rintro ⟨rfl, rfl⟩
        exact ⟨by simp [Lib.join, strV], Below.refl _ _⟩
      · obtain ⟨rfl, hS⟩ := ha (by simpa using hne)
        have hfl := flat_eS l
        have key : ∀ (j : Nat) x, l[j]? = some x → w.cell? ⟨b, o + j, none⟩ = some (strV x) := by
          intro j x hj
          have hj2 : (l.map eS).flatten[j]? = some (.str x) := by rw [hfl, List.getElem?_map, hj]; rfl
          rw [hcell j _ hj2]
          have := hu j _ hj2
          generalize us j = q at this
          cases this; rfl
        have hb : b < w.heap.size := by
          cases l with
          | nil => exact absurd rfl hne
          | cons x l => exact cell?_lt (key 0 x rfl)
        have e1 : (l.map fun x => (⟨⟨x⟩⟩ : ByteArray)).map (·.data.toList) = l := by rw [List.map_map]; simp [Function.comp_def]
        have := Try.strings_Join b o c (l.map fun x => ⟨⟨x⟩⟩) ⟨⟨sep⟩⟩ w (fun j x hj => by
          rw [List.getElem?_map, Option.map_eq_some_iff] at hj
          obtain ⟨q, hq, rfl⟩ := hj
          exact key j q hq) hb (by simpa using hN) (by simpa using hc) (by rw [e1]; exact hlen)
        rw [e1] at this
        simp only [List.length_map] at this ⊢
        exact this
theorem f_strings_Repeat_ok (s : Str) (n : Int) (y_ : Str) (h : f_strings_Repeat s n = some y_) : Fun Try.prog glP 57 [.b (.s (.d (.str s))), .b (.s (.d (.int .i64 n)))] (.b (.s (.d (.str y_)))) := by
  obtain ⟨⟨h0, h1, h2⟩, h⟩ := gd_iff.1 h
  obtain rfl := Option.some.inj h
  obtain ⟨m, rfl⟩ := Int.eq_ofNat_of_zero_le h0
  refine Fun.flat (by kernel_rfl) (of_str _) fun w S vs hA => ?_
  obtain ⟨v, u, rfl, e1, e2⟩ := args2 hA
  obtain rfl := repv_str (l := s) e1
  obtain rfl := repv_int e2
  exact Try.strings_Repeat ⟨⟨s⟩⟩ m w (by omega) h2
-- 9 consignor/consignorlaw10.few
def c9r0 : List Opn := [
  ⟨(some 1), none, .box 2 (.t 0)⟩, 
  ⟨(some 2), none, .new [.nils, .nils]⟩]
def c9r1 : List Opn := [
  ⟨(some 3), none, .fadr 0 (.t 1)⟩, 
  ⟨(some 4), none, .load false 1 (.t 3)⟩, 
  ⟨(some 5), none, .fadr 0 (.t 1)⟩, 
  ⟨(some 6), none, .load false 1 (.t 5)⟩, 
  ⟨(some 7), none, .len (.sl 0) (.t 6)⟩, 
  ⟨(some 8), none, .mm false (.t 7) (.c (.s (.d (.int .i64 66))))⟩, 
  ⟨(some 9), none, .slc (.sl 1) (.t 4) none (some (.t 8)) none⟩, 
  ⟨(some 10), none, .fadr 1 (.t 1)⟩, 
  ⟨(some 11), none, .load false 1 (.t 10)⟩, 
  ⟨(some 12), none, .fadr 1 (.t 1)⟩, 
  ⟨(some 13), none, .load false 1 (.t 12)⟩, 
  ⟨(some 14), none, .len (.sl 0) (.t 13)⟩, 
  ⟨(some 15), none, .mm false (.t 14) (.c (.s (.d (.int .i64 3))))⟩, 
  ⟨(some 16), none, .slc (.sl 2) (.t 11) none (some (.t 15)) none⟩, 
  ⟨(some 17), none, .fadr 0 (.t 1)⟩, 
  ⟨none, none, .store 1 (.t 17) (.t 9)⟩, 
  ⟨(some 18), none, .fadr 1 (.t 1)⟩, 
  ⟨none, none, .store 1 (.t 18) (.t 16)⟩]
def c9r2 : List Opn := [
  ⟨(some 19), none, .load true 2 (.t 1)⟩, 
  ⟨none, none, .store 2 (.t 2) (.t 19)⟩]
def c9 : C := .seq (.reg c9r0 none [1, 2]) (.seq (.reg c9r1 (some [0, 1, 0, 4, 12, 28, 63, 0, 128, 0, 512, 1536, 3584, 8064, 2047, 18431, 65535, 131071]) [1, 2]) (.seq (.reg c9r2 none [2]) (.ret)))
def k9 : List (Nat × List Nat) := [(2, [2]), (1, [1, 2]), (0, [1, 2])]
theorem cc9 : (Try.f9.body).bind (cC Try.prog 20 k9) = some c9 := by kernel_rfl
def rv9 : List RV := [.c 2 true 2]
theorem cr9 : cRVs Try.prog Try.f9.results.toList = some rv9 := by kernel_rfl
theorem f_law10_few_ok (d : api_Disk) (y_ : api_Disk) (h : f_law10_few d = some y_) : Fun Try.prog glP 9 [.b (.agg ((e_api_Disk d).map Lc.d))] (.b (.agg ((e_api_Disk y_).map Lc.d))) := by
  refine fun_walk [] Try.func9 Try.ntmps9 cc9 cr9 (by kernel_rfl) (by simp only [List.length_cons, List.length_nil]; decide) ?_
  generalize hR : Ret _ _ _ _ _ = R_
  simp only [wz, wd, ws, seval, e_api_Disk, e_api_Write]
  unfold f_law10_few at h; unfold c9
  refine .seq ?_
  refine Rw.walk ?_
  simp only [wz, wd, ws, seval, c9r0, semI.eq_10, semI.eq_11, semI.eq_3, semI.eq_5, semI.eq_7, e_api_Disk, e_api_Write]
  refine .seq ?_
  refine RwD.walk ?_
  simp only [wz, wd, ws, seval, c9r1, semI.eq_10, semI.eq_11, semI.eq_3, semI.eq_5, semI.eq_7, e_api_Disk, e_api_Write]
  obtain ⟨g1, h⟩ := gd_iff.1 h
  repeat (refine And.intro ?_ ?_; · first | omega | (simp only [List.length_append, List.length_cons, List.length_nil] at *; omega) | (intro q; simp only [wz, wd, ws, seval, q]; done))
  refine GoD1.of (sem_slc (p := 0) (q := (if 66 < (d.Sectors.length : Int) then 66 else (d.Sectors.length : Int))) eS_len (by rfl) (by rfl) (by rfl)) ?_
  simp only [wz, wd, ws, seval, c9r1, semI.eq_10, semI.eq_11, semI.eq_3, semI.eq_5, semI.eq_7, e_api_Disk, e_api_Write]
  obtain ⟨g2, h⟩ := gd_iff.1 h
  repeat (refine And.intro ?_ ?_; · first | omega | (simp only [List.length_append, List.length_cons, List.length_nil] at *; omega) | (intro q; simp only [wz, wd, ws, seval, q]; done))
  refine GoD1.of (sem_slc (p := 0) (q := (if 3 < (d.Dirty.length : Int) then 3 else (d.Dirty.length : Int))) e_api_Write_len (by rfl) (by rfl) (by rfl)) ?_
  simp only [wz, wd, ws, seval, c9r1, semI.eq_10, semI.eq_11, semI.eq_3, semI.eq_5, semI.eq_7, e_api_Disk, e_api_Write]
  repeat (refine And.intro ?_ ?_; · first | omega | (simp only [List.length_append, List.length_cons, List.length_nil] at *; omega) | (intro q; simp only [wz, wd, ws, seval, q]; done))
  refine .seq ?_
  refine Rw.walk ?_
  simp only [wz, wd, ws, seval, c9r2, semI.eq_10, semI.eq_11, semI.eq_3, semI.eq_5, semI.eq_7, e_api_Disk, e_api_Write]
  obtain rfl := Option.some.inj h
  refine .ret ?_
  rw [← hR]
  simp only [wz, wd, ws, seval, rv9, semI.eq_10, e_api_Disk, e_api_Write]
-- 17 consignor/consignorlaw10.texts
def c17r0 : List Opn := [
  ⟨(some 2), none, .mv (.c (.s .nils))⟩]
def c17r1 : List Opn := [
  ⟨(some 5), none, .bsl 1 []⟩, 
  ⟨(some 6), none, .mv (.t 0)⟩, 
  ⟨(some 7), none, .mv (.t 0)⟩, 
  ⟨(some 8), none, .len (.sl 0) (.t 7)⟩, 
  ⟨(some 9), none, .mm false (.t 8) (.c (.s (.d (.int .i64 66))))⟩, 
  ⟨(some 10), none, .slc (.sl 1) (.t 6) none (some (.t 9)) none⟩, 
  ⟨(some 11), none, .app 1 16 false (.t 5) (.t 10)⟩, 
  ⟨(some 0), none, .mv (.t 11)⟩]
def c17r2 : List Opn := [
  ⟨(some 12), none, .mv (.t 0)⟩, 
  ⟨(some 13), none, .len (.sl 0) (.t 12)⟩, 
  ⟨(some 14), none, .mv (.c (.s (.d (.int .i64 0))))⟩]
def c17r3 : List Opn := [
  ⟨(some 15), none, .bin .lss (.t 14) (.t 13)⟩]
def c17r4 : List Opn := [
  ⟨(some 16), none, .mv (.t 14)⟩, 
  ⟨(some 17), none, .iadr (.sl 1) (.t 12) (.t 14)⟩, 
  ⟨(some 18), none, .load false 1 (.t 17)⟩, 
  ⟨(some 3), none, .mv (.t 16)⟩, 
  ⟨(some 4), none, .mv (.t 18)⟩]
def c17r5 : List Opn := [
  ⟨(some 19), none, .mv (.t 0)⟩, 
  ⟨(some 20), none, .mv (.t 3)⟩, 
  ⟨(some 21), none, .mv (.t 4)⟩, 
  ⟨(some 22), none, .mv (.t 4)⟩, 
  ⟨(some 23), none, .len .str (.t 22)⟩, 
  ⟨(some 24), none, .mm false (.t 23) (.c (.s (.d (.int .i64 4100))))⟩, 
  ⟨(some 25), none, .slc .str (.t 21) none (some (.t 24)) none⟩, 
  ⟨(some 26), none, .iadr (.sl 1) (.t 19) (.t 20)⟩, 
  ⟨none, none, .store 1 (.t 26) (.t 25)⟩]
def c17r6 : List Opn := [
  ⟨(some 27), none, .bin .add (.t 14) (.c (.s (.d (.int .i64 1))))⟩, 
  ⟨(some 14), none, .mv (.t 27)⟩]
def c17l7 : C := .seq (.reg c17r3 none [0, 12, 13, 14, 15]) (.seq (.cond (.t 15) (.skip) (.exit 0)) (.seq (.blk 1 (.seq (.reg c17r4 none [0, 3, 4, 12, 13, 14]) (.reg c17r5 none [0, 12, 13, 14]))) (.reg c17r6 none [0, 12, 13, 14])))
def c17r7 : List Opn := [
  ⟨(some 28), none, .mv (.t 0)⟩, 
  ⟨(some 2), none, .mv (.t 28)⟩]
def c17 : C := .seq (.reg c17r0 none [0]) (.seq (.reg c17r1 none [0]) (.seq (.seq (.reg c17r2 none [0, 12, 13, 14]) (.blk 0 (.loop c17l7))) (.seq (.reg c17r7 none [2]) (.ret))))
def k17 : List (Nat × List Nat) := [(7, [2]), (6, [0, 12, 13, 14]), (5, [0, 12, 13, 14]), (4, [0, 3, 4, 12, 13, 14]), (3, [0, 12, 13, 14, 15]), (2, [0, 12, 13, 14]), (1, [0]), (0, [0])]
theorem cc17 : (Try.f17.body).bind (cC Try.prog 29 k17) = some c17 := by kernel_rfl
def rv17 : List RV := [.t 2]
theorem cr17 : cRVs Try.prog Try.f17.results.toList = some rv17 := by kernel_rfl
theorem f_law10_texts_l7_ok (l : (List Str)) (y_ : (List Str)) (R_ : St → Prop) (hR : (RetO Try.prog glP 2 1 (y_.map eS)) = R_) : ∀ (m_ : Nat) (v14 : Int) (l2 : (List Str)) (res_ : Int × (List Str)) (h : f_law10_texts_l7 l m_ v14 l2 = some res_) (k_ : List It) (hx : ∀ s_ : Int × (List Str), res_ = s_ → W Try.prog glP 29 k_ ⟨lkT [(0, .b (.s (.own 5 s_.2.length))), (12, .b (.s (.own 5 s_.2.length))), (13, .b (.s (.d (.int .i64 ((([] : List Str) ++ (cut l 0 (if 66 < (l.length : Int) then 66 else (l.length : Int)))).length : Int))))), (14, .b (.s (.d (.int .i64 s_.1))))], lkG [(5, ⟨1, er eS s_.2, false⟩)]⟩ R_), W Try.prog glP 29 (.c c17l7 :: .lp c17l7 :: .blk 0 :: k_) ⟨lkT [(0, .b (.s (.own 5 l2.length))), (12, .b (.s (.own 5 l2.length))), (13, .b (.s (.d (.int .i64 ((([] : List Str) ++ (cut l 0 (if 66 < (l.length : Int) then 66 else (l.length : Int)))).length : Int))))), (14, .b (.s (.d (.int .i64 v14))))], lkG [(5, ⟨1, er eS l2, false⟩)]⟩ R_ := by
  intro m_; induction m_ with
  | zero => intro v14 l2 res_ h; rw [f_law10_texts_l7.eq_1] at h; cases h
  | succ m_ ih =>
    intro v14 l2 res_ h k_ hx; rw [f_law10_texts_l7.eq_2] at h; refine W.cdef c17l7.eq_1 ?_
    refine .seq ?_
    refine Rw.walk ?_
    simp only [wz, wd, ws, seval, c17r3, semI.eq_10, semI.eq_11, semI.eq_3, semI.eq_5, semI.eq_7]
    refine .seq ?_
    refine .cond (p := (decide (v14 < ((([] : List Str) ++ (cut l 0 (if 66 < (l.length : Int) then 66 else (l.length : Int)))).length : Int)))) (by first | rfl | simp only [wz, wd, ws, seval]) (fun h1 => ?_) (fun h1 => ?_)
    · rw [ite_t h1] at h
      refine .skip ?_
      refine .seq ?_
      refine .blk ?_
      refine .seq ?_
      refine Rw.walk ?_
      simp only [wz, wd, ws, seval, c17r4, semI.eq_10, semI.eq_11, semI.eq_3, semI.eq_5, semI.eq_7]
      obtain ⟨x, e3, h⟩ := Option.bind_eq_some_iff.1 h
      refine Go1.of (sem_iadrO (l := l2) e3 (by rfl) (by rfl) (by rfl)) ?_
      simp only [wz, wd, ws, seval, c17r4, semI.eq_10, semI.eq_11, semI.eq_3, semI.eq_5, semI.eq_7, er_get e3]
      refine Rw.walk ?_
      obtain ⟨g4, h⟩ := gd_iff.1 h
      simp only [wz, wd, ws, seval, c17r5, semI.eq_3, semI.eq_5, semI.eq_7, er_get e3]
      repeat (refine And.intro ?_ ?_; · first | omega | (simp only [List.length_append, List.length_cons, List.length_nil] at *; omega) | (intro q; simp only [wz, wd, ws, seval, q]; done))
      obtain ⟨x2, e5, h⟩ := Option.bind_eq_some_iff.1 h
      refine Go1.of (sem_iadrO (l := l2) e5 (by rfl) (by rfl) (by rfl)) ?_
      simp only [wz, wd, ws, seval, c17r5, semI.eq_3, semI.eq_5, semI.eq_7, er_get e3, er_get e5]
      refine Go1.of (sem_store (enc := eS) (l := l2) (a := x2) (a' := (cut x 0 (if 4100 < (x.length : Int) then 4100 else (x.length : Int)))) (v := .b (.s (.d (.str (cut x 0 (if 4100 < (x.length : Int) then 4100 else (x.length : Int))))))) (by rfl) (by rfl) (er_get e5) (by rfl) (by trivial) (by rfl) (Nat.le_of_ble_eq_true (by rfl)) (by rfl)) ?_
      simp only [wz, wd, ws, seval, c17r5, semI.eq_3, semI.eq_5, semI.eq_7, er_get e3, er_get e5]
      refine .eblk ?_
      refine Rw.walk ?_
      simp only [wz, wd, ws, seval, c17r6, semI.eq_10, semI.eq_11, semI.eq_3, semI.eq_5, semI.eq_7, er_get e3, er_get e5]
      refine .lp ?_
      refine .weak (Imp.co [] _ _ ?_ ?_ ?_ ?_ ?_) (ih (IntKind.i64.wrap (v14 + 1)) (l2.set v14.toNat (cut x 0 (if 4100 < (x.length : Int) then 4100 else (x.length : Int)))) _ h k_ hx) <;> simp only [wz, wd, ws, seval, wi, er_nil]
    · rw [ite_f h1] at h
      refine .exit rfl ?_
      obtain rfl := Option.some.inj h
      refine .weak (Imp.co [] _ _ ?_ ?_ ?_ ?_ ?_) (hx _ rfl) <;> simp only [wz, wd, ws, seval, wi, er_nil]
theorem f_law10_texts_ok (l : (List Str)) (y_ : (List Str)) (h : f_law10_texts l = some y_) : FunO Try.prog glP 17 [.b (.s (.d (.sl (l.map eS))))] 1 (y_.map eS) := by
  refine funO_walk Try.func17 Try.ntmps17 cc17 cr17 (by kernel_rfl) (by simp only [List.length_cons, List.length_nil]; decide) ?_
  generalize hR : RetO _ _ _ _ _ = R_
  simp only [wz, wd, ws, seval]
  unfold f_law10_texts at h; unfold c17
  refine .seq ?_
  refine Rw.walk ?_
  simp only [wz, wd, ws, seval, c17r0, semI.eq_10, semI.eq_11, semI.eq_3, semI.eq_5, semI.eq_7]
  refine .seq ?_
  refine Rw.walk ?_
  simp only [wz, wd, ws, seval, c17r1, semI.eq_10, semI.eq_11, semI.eq_3, semI.eq_5, semI.eq_7]
  refine Go1.of (sem_bsl (enc := eS) (m := ([] : List Str)) eS_len (by rfl) (by rfl) (by rfl) trivial) ?_
  simp only [wz, wd, ws, seval, c17r1, semI.eq_10, semI.eq_11, semI.eq_3, semI.eq_5, semI.eq_7]
  obtain ⟨g1, h⟩ := gd_iff.1 h
  repeat (refine And.intro ?_ ?_; · first | omega | (simp only [List.length_append, List.length_cons, List.length_nil] at *; omega) | (intro q; simp only [wz, wd, ws, seval, q]; done))
  refine Go1.of (sem_slc (p := 0) (q := (if 66 < (l.length : Int) then 66 else (l.length : Int))) eS_len (by rfl) (by rfl) (by rfl)) ?_
  simp only [wz, wd, ws, seval, c17r1, semI.eq_10, semI.eq_11, semI.eq_3, semI.eq_5, semI.eq_7]
  repeat (refine And.intro ?_ ?_; · first | omega | (simp only [List.length_append, List.length_cons, List.length_nil] at *; omega) | (intro q; simp only [wz, wd, ws, seval, q]; done))
  obtain ⟨g2, h⟩ := gd_iff.1 h
  refine Go1.of (sem_app (enc := eS) (l := ([] : List Str)) (m := (cut l 0 (if 66 < (l.length : Int) then 66 else (l.length : Int)))) eS_len (by rfl) (by rfl) ((by rfl))) ?_
  simp only [wz, wd, ws, seval, c17r1, semI.eq_10, semI.eq_11, semI.eq_3, semI.eq_5, semI.eq_7]
  repeat (refine And.intro ?_ ?_; · first | omega | (simp only [List.length_append, List.length_cons, List.length_nil] at *; omega) | (intro q; simp only [wz, wd, ws, seval, q]; done))
  refine .seq ?_
  refine .seq ?_
  refine Rw.walk ?_
  simp only [wz, wd, ws, seval, c17r2, semI.eq_10, semI.eq_11, semI.eq_3, semI.eq_5, semI.eq_7]
  refine .blk ?_
  obtain ⟨s, hf, h⟩ := Option.bind_eq_some_iff.1 h
  refine .loop (.weak (Imp.co [] _ _ ?c1 ?c2 ?c3 ?c4 ?c5) (f_law10_texts_l7_ok l _ _ hR _ _ _ _ hf _ ?_))
  case c1 | c2 | c3 | c4 | c5 => simp only [wz, wd, ws, seval, wi, er_nil]
  · intro s_ hs; subst hs
    refine .seq ?_
    refine Rw.walk ?_
    simp only [wz, wd, ws, seval, c17r7, semI.eq_10, semI.eq_11, semI.eq_3, semI.eq_5, semI.eq_7]
    obtain rfl := Option.some.inj h
    refine .ret ?_
    rw [← hR]
    refine ⟨5, ?_, ?_⟩ <;> simp only [wz, wd, ws, seval, er, List.length_map]
-- 54 consignor/consignorref09.Well
def c54r0 : List Opn := [
  ⟨(some 4), none, .mv (.c (.s (.d (.bool false))))⟩]
def c54r1 : List Opn := [
  ⟨(some 7), none, .mv (.t 0)⟩, 
  ⟨(some 8), none, .len (.sl 0) (.t 7)⟩, 
  ⟨(some 9), none, .mv (.c (.s (.d (.int .i64 0))))⟩]
def c54r2 : List Opn := [
  ⟨(some 10), none, .bin .lss (.t 9) (.t 8)⟩]
def c54r3 : List Opn := [
  ⟨(some 11), none, .iadr (.sl 2) (.t 7) (.t 9)⟩, 
  ⟨(some 12), none, .load true 2 (.t 11)⟩, 
  ⟨(some 6), none, .new [(.d (.int .i64 0)), (.d (.str []))]⟩, 
  ⟨none, none, .store 2 (.t 6) (.t 12)⟩]
def c54r4 : List Opn := [
  ⟨(some 13), none, .fadr 0 (.t 6)⟩, 
  ⟨(some 14), none, .load false 1 (.t 13)⟩, 
  ⟨(some 15), none, .bin .lss (.t 14) (.c (.s (.d (.int .i64 0))))⟩, 
  ⟨(some 16), none, .mv (.t 15)⟩, 
  ⟨(some 17), some (16, false), .fadr 0 (.t 6)⟩, 
  ⟨(some 18), some (16, false), .load false 1 (.t 17)⟩, 
  ⟨(some 19), some (16, false), .mv (.t 1)⟩, 
  ⟨(some 20), some (16, false), .bin .geq (.t 18) (.t 19)⟩, 
  ⟨(some 21), none, .pick (.t 16) (.c (.s (.d (.bool true)))) (.t 20)⟩, 
  ⟨(some 22), none, .mv (.t 21)⟩, 
  ⟨(some 23), some (22, false), .fadr 1 (.t 6)⟩, 
  ⟨(some 24), some (22, false), .load false 1 (.t 23)⟩, 
  ⟨(some 25), some (22, false), .len .str (.t 24)⟩, 
  ⟨(some 26), some (22, false), .bin .neq (.t 25) (.c (.s (.d (.int .i64 128))))⟩, 
  ⟨(some 27), none, .pick (.t 22) (.c (.s (.d (.bool true)))) (.t 26)⟩]
def c54r5 : List Opn := [
  ⟨(some 4), none, .mv (.c (.s (.d (.bool false))))⟩]
def c54r6 : List Opn := [
  ⟨(some 28), none, .bin .add (.t 9) (.c (.s (.d (.int .i64 1))))⟩, 
  ⟨(some 9), none, .mv (.t 28)⟩]
def c54l7 : C := .seq (.reg c54r2 none [1, 7, 8, 9, 10]) (.seq (.cond (.t 10) (.skip) (.exit 0)) (.seq (.blk 1 (.seq (.reg c54r3 none [1, 6, 7, 8, 9]) (.seq (.reg c54r4 none [1, 7, 8, 9, 27]) (.cond (.t 27) (.seq (.reg c54r5 none [4]) (.ret)) (.skip))))) (.reg c54r6 none [1, 7, 8, 9])))
def c54r7 : List Opn := [
  ⟨(some 4), none, .mv (.c (.s (.d (.bool true))))⟩]
def c54 : C := .seq (.reg c54r0 none [0, 1]) (.seq (.seq (.reg c54r1 none [1, 7, 8, 9]) (.blk 0 (.loop c54l7))) (.seq (.reg c54r7 none [4]) (.ret)))
def k54 : List (Nat × List Nat) := [(7, [4]), (6, [1, 7, 8, 9]), (5, [4]), (4, [1, 7, 8, 9, 27]), (3, [1, 6, 7, 8, 9]), (2, [1, 7, 8, 9, 10]), (1, [1, 7, 8, 9]), (0, [0, 1])]
theorem cc54 : (Try.f54.body).bind (cC Try.prog 29 k54) = some c54 := by kernel_rfl
def rv54 : List RV := [.t 4]
theorem cr54 : cRVs Try.prog Try.f54.results.toList = some rv54 := by kernel_rfl
theorem f_ref09_Well_l7_ok (l : (List api_Write)) (sectors : Int) (y_ : Bool) (R_ : St → Prop) (hR : (Ret Try.prog glP [] rv54 (.b (.s (.d (.bool y_))))) = R_) : ∀ (m_ : Nat) (v9 : Int) (res_ : (Int) ⊕ (Bool)) (h : f_ref09_Well_l7 l sectors m_ v9 = some res_) (k_ : List It) (hx : ∀ s_ : Int, res_ = .inl s_ → W Try.prog glP 29 k_ ⟨lkT [(1, .b (.s (.d (.int .i64 sectors)))), (7, .b (.s (.d (.sl (l.map e_api_Write))))), (8, .b (.s (.d (.int .i64 (l.length : Int))))), (9, .b (.s (.d (.int .i64 s_))))], lkG []⟩ R_) (hr : ∀ z_ : Bool, res_ = .inr z_ → z_ = y_), W Try.prog glP 29 (.c c54l7 :: .lp c54l7 :: .blk 0 :: k_) ⟨lkT [(1, .b (.s (.d (.int .i64 sectors)))), (7, .b (.s (.d (.sl (l.map e_api_Write))))), (8, .b (.s (.d (.int .i64 (l.length : Int))))), (9, .b (.s (.d (.int .i64 v9))))], lkG []⟩ R_ := by
  intro m_; induction m_ with
  | zero => intro v9 res_ h; rw [f_ref09_Well_l7.eq_1] at h; cases h
  | succ m_ ih =>
    intro v9 res_ h k_ hx hr; rw [f_ref09_Well_l7.eq_2] at h; refine W.cdef c54l7.eq_1 ?_
    refine .seq ?_
    refine Rw.walk ?_
    simp only [wz, wd, ws, seval, c54r2, semI.eq_10, semI.eq_11, semI.eq_3, semI.eq_5, semI.eq_7, e_api_Write]
    refine .seq ?_
    refine .cond (p := (decide (v9 < (l.length : Int)))) (by first | rfl | simp only [wz, wd, ws, seval]) (fun h1 => ?_) (fun h1 => ?_)
    · rw [ite_t h1] at h
      refine .skip ?_
      refine .seq ?_
      refine .blk ?_
      refine .seq ?_
      refine Rw.walk ?_
      simp only [wz, wd, ws, seval, c54r3, semI.eq_3, semI.eq_5, semI.eq_7, e_api_Write]
      obtain ⟨x, e1, h⟩ := Option.bind_eq_some_iff.1 h
      refine Go1.of (sem_iadr e_api_Write_len e1 (by rfl) (by rfl)) ?_
      simp only [wz, wd, ws, seval, c54r3, semI.eq_3, semI.eq_5, semI.eq_7, e_api_Write]
      refine Go1.of (semI.eq_10 ..) ?_
      simp only [wz, wd, ws, seval, c54r3, semI.eq_3, semI.eq_5, semI.eq_7, e_api_Write]
      refine Go1.of (semI.eq_11 ..) ?_
      simp only [wz, wd, ws, seval, c54r3, semI.eq_3, semI.eq_5, semI.eq_7, e_api_Write]
      refine .seq ?_
      refine Rw.walk ?_
      simp only [wz, wd, ws, seval, c54r4, semI.eq_10, semI.eq_11, semI.eq_3, semI.eq_5, semI.eq_7, e_api_Write]
      refine call_alt (v := .b (.s (.d (.int .i64 x.At)))) rfl rfl (by simp only [wz, wd, ws, seval]) (fun q => ⟨_, by simp only [wz, wd, ws, seval, semI.eq_10, e_api_Write], trivial⟩) ?_
      simp only [wz, wd, ws, seval, c54r4, semI.eq_10, semI.eq_11, semI.eq_3, semI.eq_5, semI.eq_7, e_api_Write]
      repeat (refine And.intro ?_ ?_; · first | omega | (simp only [List.length_append, List.length_cons, List.length_nil] at *; omega) | (intro q; simp only [wz, wd, ws, seval, q]; done))
      refine call_alt (v := .b (.s (.d (.str x.Data)))) rfl rfl (by simp only [wz, wd, ws, seval]) (fun q => ⟨_, by simp only [wz, wd, ws, seval, semI.eq_10, e_api_Write], trivial⟩) ?_
      simp only [wz, wd, ws, seval, c54r4, semI.eq_10, semI.eq_11, semI.eq_3, semI.eq_5, semI.eq_7, e_api_Write]
      repeat (refine And.intro ?_ ?_; · first | omega | (simp only [List.length_append, List.length_cons, List.length_nil] at *; omega) | (intro q; simp only [wz, wd, ws, seval, q]; done))
      refine .cond (p := (((decide (x.At < 0)) || (decide (x.At ≥ sectors))) || ((x.Data.length : Int) != 128))) (by first | rfl | simp only [wz, wd, ws, seval]) (fun h1 => ?_) (fun h1 => ?_)
      · rw [ite_t h1] at h
        refine .seq ?_
        refine Rw.walk ?_
        simp only [wz, wd, ws, seval, c54r5, semI.eq_10, semI.eq_11, semI.eq_3, semI.eq_5, semI.eq_7, e_api_Write]
        obtain rfl := Option.some.inj h; obtain rfl := hr _ rfl
        refine .ret ?_
        rw [← hR]
        simp only [wz, wd, ws, seval, rv54, e_api_Write]
      · rw [ite_f h1] at h
        refine .skip ?_
        refine .eblk ?_
        refine Rw.walk ?_
        simp only [wz, wd, ws, seval, c54r6, semI.eq_10, semI.eq_11, semI.eq_3, semI.eq_5, semI.eq_7, e_api_Write]
        refine .lp ?_
        refine .weak (Imp.co [] _ _ ?_ ?_ ?_ ?_ ?_) (ih (IntKind.i64.wrap (v9 + 1)) _ h k_ hx hr) <;> simp only [wz, wd, ws, seval, wi, er_nil, e_api_Write]
    · rw [ite_f h1] at h
      refine .exit rfl ?_
      obtain rfl := Option.some.inj h
      refine .weak (Imp.co [] _ _ ?_ ?_ ?_ ?_ ?_) (hx _ rfl) <;> simp only [wz, wd, ws, seval, wi, er_nil, e_api_Write]
theorem f_ref09_Well_ok (l : (List api_Write)) (sectors : Int) (y_ : Bool) (h : f_ref09_Well l sectors = some y_) : Fun Try.prog glP 54 [.b (.s (.d (.sl (l.map e_api_Write)))), .b (.s (.d (.int .i64 sectors)))] (.b (.s (.d (.bool y_)))) := by
  refine fun_walk [] Try.func54 Try.ntmps54 cc54 cr54 (by kernel_rfl) (by simp only [List.length_cons, List.length_nil]; decide) ?_
  generalize hR : Ret _ _ _ _ _ = R_
  simp only [wz, wd, ws, seval, e_api_Write]
  unfold f_ref09_Well at h; unfold c54
  refine .seq ?_
  refine Rw.walk ?_
  simp only [wz, wd, ws, seval, c54r0, semI.eq_10, semI.eq_11, semI.eq_3, semI.eq_5, semI.eq_7, e_api_Write]
  refine .seq ?_
  refine .seq ?_
  refine Rw.walk ?_
  simp only [wz, wd, ws, seval, c54r1, semI.eq_10, semI.eq_11, semI.eq_3, semI.eq_5, semI.eq_7, e_api_Write]
  refine .blk ?_
  obtain ⟨s, hf, h⟩ := Option.bind_eq_some_iff.1 h
  refine .loop (.weak (Imp.co [] _ _ ?c1 ?c2 ?c3 ?c4 ?c5) (f_ref09_Well_l7_ok l sectors _ _ hR _ _ _ hf _ ?_ ?_))
  case c1 | c2 | c3 | c4 | c5 => simp only [wz, wd, ws, seval, wi, er_nil, e_api_Write]
  · intro s2 hs; subst hs; dsimp only at h
    refine .seq ?_
    refine Rw.walk ?_
    simp only [wz, wd, ws, seval, c54r7, semI.eq_10, semI.eq_11, semI.eq_3, semI.eq_5, semI.eq_7, e_api_Write]
    obtain rfl := Option.some.inj h
    refine .ret ?_
    rw [← hR]
    simp only [wz, wd, ws, seval, rv54, e_api_Write]
  · intro z hz; subst hz; dsimp only at h
    exact Option.some.inj h
-- 35 consignor/consignorref09.Right
def c35r0 : List Opn := [
  ⟨(some 1), none, .box 2 (.t 0)⟩, 
  ⟨(some 2), none, .mv (.c (.s (.d (.bool false))))⟩]
def c35r1 : List Opn := [
  ⟨(some 5), none, .fadr 0 (.t 1)⟩, 
  ⟨(some 6), none, .load false 1 (.t 5)⟩, 
  ⟨(some 7), none, .len (.sl 0) (.t 6)⟩, 
  ⟨(some 8), none, .mv (.c (.s (.d (.int .i64 0))))⟩]
def c35r2 : List Opn := [
  ⟨(some 9), none, .bin .lss (.t 8) (.t 7)⟩]
def c35r3 : List Opn := [
  ⟨(some 10), none, .iadr (.sl 1) (.t 6) (.t 8)⟩, 
  ⟨(some 11), none, .load false 1 (.t 10)⟩, 
  ⟨(some 4), none, .mv (.t 11)⟩]
def c35r4 : List Opn := [
  ⟨(some 12), none, .mv (.t 4)⟩, 
  ⟨(some 13), none, .len .str (.t 12)⟩, 
  ⟨(some 14), none, .bin .neq (.t 13) (.c (.s (.d (.int .i64 128))))⟩]
def c35r5 : List Opn := [
  ⟨(some 2), none, .mv (.c (.s (.d (.bool false))))⟩]
def c35r6 : List Opn := [
  ⟨(some 15), none, .bin .add (.t 8) (.c (.s (.d (.int .i64 1))))⟩, 
  ⟨(some 8), none, .mv (.t 15)⟩]
def c35l7 : C := .seq (.reg c35r2 none [1, 6, 7, 8, 9]) (.seq (.cond (.t 9) (.skip) (.exit 0)) (.seq (.blk 1 (.seq (.reg c35r3 none [1, 4, 6, 7, 8]) (.seq (.reg c35r4 none [1, 6, 7, 8, 14]) (.cond (.t 14) (.seq (.reg c35r5 none [2]) (.ret)) (.skip))))) (.reg c35r6 none [1, 6, 7, 8])))
def c35r7 : List Opn := [
  ⟨(some 16), none, .fadr 0 (.t 1)⟩, 
  ⟨(some 17), none, .load false 1 (.t 16)⟩, 
  ⟨(some 18), none, .len (.sl 0) (.t 17)⟩, 
  ⟨(some 19), none, .bin .geq (.t 18) (.c (.s (.d (.int .i64 4))))⟩, 
  ⟨(some 20), none, .mv (.t 19)⟩, 
  ⟨(some 21), some (20, true), .fadr 0 (.t 1)⟩, 
  ⟨(some 22), some (20, true), .load false 1 (.t 21)⟩, 
  ⟨(some 23), some (20, true), .len (.sl 0) (.t 22)⟩, 
  ⟨(some 24), some (20, true), .bin .leq (.t 23) (.c (.s (.d (.int .i64 64))))⟩, 
  ⟨(some 25), none, .pick (.t 20) (.t 24) (.c (.s (.d (.bool false))))⟩, 
  ⟨(some 26), none, .mv (.t 25)⟩, 
  ⟨(some 27), some (26, true), .fadr 1 (.t 1)⟩, 
  ⟨(some 28), some (26, true), .load false 1 (.t 27)⟩, 
  ⟨(some 29), some (26, true), .len (.sl 0) (.t 28)⟩, 
  ⟨(some 30), some (26, true), .bin .leq (.t 29) (.c (.s (.d (.int .i64 200))))⟩, 
  ⟨(some 31), none, .pick (.t 26) (.t 30) (.c (.s (.d (.bool false))))⟩, 
  ⟨(some 32), none, .mv (.t 31)⟩, 
  ⟨(some 33), some (32, true), .fadr 1 (.t 1)⟩, 
  ⟨(some 34), some (32, true), .load false 1 (.t 33)⟩, 
  ⟨(some 35), some (32, true), .fadr 0 (.t 1)⟩, 
  ⟨(some 36), some (32, true), .load false 1 (.t 35)⟩, 
  ⟨(some 37), some (32, true), .len (.sl 0) (.t 36)⟩, 
  ⟨(some 38), some (32, true), .call (.fn 54) [(.t 34), (.t 37)]⟩, 
  ⟨(some 39), none, .pick (.t 32) (.t 38) (.c (.s (.d (.bool false))))⟩, 
  ⟨(some 2), none, .mv (.t 39)⟩]
def c35 : C := .seq (.reg c35r0 none [1]) (.seq (.seq (.reg c35r1 none [1, 6, 7, 8]) (.blk 0 (.loop c35l7))) (.seq (.reg c35r7 none [2]) (.ret)))
def k35 : List (Nat × List Nat) := [(7, [2]), (6, [1, 6, 7, 8]), (5, [2]), (4, [1, 6, 7, 8, 14]), (3, [1, 4, 6, 7, 8]), (2, [1, 6, 7, 8, 9]), (1, [1, 6, 7, 8]), (0, [1])]
theorem cc35 : (Try.f35.body).bind (cC Try.prog 40 k35) = some c35 := by kernel_rfl
def rv35 : List RV := [.t 2]
theorem cr35 : cRVs Try.prog Try.f35.results.toList = some rv35 := by kernel_rfl
theorem f_ref09_Right_l7_ok (d : api_Disk) (y_ : Bool) (R_ : St → Prop) (hR : (Ret Try.prog glP [] rv35 (.b (.s (.d (.bool y_))))) = R_) : ∀ (m_ : Nat) (v8 : Int) (res_ : (Int) ⊕ (Bool)) (h : f_ref09_Right_l7 d m_ v8 = some res_) (k_ : List It) (hx : ∀ s_ : Int, res_ = .inl s_ → W Try.prog glP 40 k_ ⟨lkT [(1, .b (.s (.ptr 1 1 0 0))), (6, .b (.s (.d (.sl (d.Sectors.map eS))))), (7, .b (.s (.d (.int .i64 (d.Sectors.length : Int))))), (8, .b (.s (.d (.int .i64 s_))))], lkG [(1, ⟨2, [[(.d (.sl (d.Sectors.map eS))), (.d (.sl (d.Dirty.map e_api_Write)))]], false⟩)]⟩ R_) (hr : ∀ z_ : Bool, res_ = .inr z_ → z_ = y_), W Try.prog glP 40 (.c c35l7 :: .lp c35l7 :: .blk 0 :: k_) ⟨lkT [(1, .b (.s (.ptr 1 1 0 0))), (6, .b (.s (.d (.sl (d.Sectors.map eS))))), (7, .b (.s (.d (.int .i64 (d.Sectors.length : Int))))), (8, .b (.s (.d (.int .i64 v8))))], lkG [(1, ⟨2, [[(.d (.sl (d.Sectors.map eS))), (.d (.sl (d.Dirty.map e_api_Write)))]], false⟩)]⟩ R_ := by
  intro m_; induction m_ with
  | zero => intro v8 res_ h; rw [f_ref09_Right_l7.eq_1] at h; cases h
  | succ m_ ih =>
    intro v8 res_ h k_ hx hr; rw [f_ref09_Right_l7.eq_2] at h; refine W.cdef c35l7.eq_1 ?_
    refine .seq ?_
    refine Rw.walk ?_
    simp only [wz, wd, ws, seval, c35r2, semI.eq_10, semI.eq_11, semI.eq_3, semI.eq_5, semI.eq_7, e_api_Disk, e_api_Write]
    refine .seq ?_
    refine .cond (p := (decide (v8 < (d.Sectors.length : Int)))) (by first | rfl | simp only [wz, wd, ws, seval]) (fun h1 => ?_) (fun h1 => ?_)
    · rw [ite_t h1] at h
      refine .skip ?_
      refine .seq ?_
      refine .blk ?_
      refine .seq ?_
      refine Rw.walk ?_
      simp only [wz, wd, ws, seval, c35r3, semI.eq_10, semI.eq_11, semI.eq_3, semI.eq_5, semI.eq_7, e_api_Disk, e_api_Write]
      obtain ⟨x, e1, h⟩ := Option.bind_eq_some_iff.1 h
      refine Go1.of (sem_iadr eS_len e1 (by rfl) (by rfl)) ?_
      simp only [wz, wd, ws, seval, c35r3, semI.eq_10, semI.eq_11, semI.eq_3, semI.eq_5, semI.eq_7, e_api_Disk, e_api_Write]
      refine .seq ?_
      refine Rw.walk ?_
      simp only [wz, wd, ws, seval, c35r4, semI.eq_10, semI.eq_11, semI.eq_3, semI.eq_5, semI.eq_7, e_api_Disk, e_api_Write]
      refine .cond (p := ((x.length : Int) != 128)) (by first | rfl | simp only [wz, wd, ws, seval]) (fun h1 => ?_) (fun h1 => ?_)
      · rw [ite_t h1] at h
        refine .seq ?_
        refine Rw.walk ?_
        simp only [wz, wd, ws, seval, c35r5, semI.eq_10, semI.eq_11, semI.eq_3, semI.eq_5, semI.eq_7, e_api_Disk, e_api_Write]
        obtain rfl := Option.some.inj h; obtain rfl := hr _ rfl
        refine .ret ?_
        rw [← hR]
        simp only [wz, wd, ws, seval, rv35, e_api_Disk, e_api_Write]
      · rw [ite_f h1] at h
        refine .skip ?_
        refine .eblk ?_
        refine Rw.walk ?_
        simp only [wz, wd, ws, seval, c35r6, semI.eq_10, semI.eq_11, semI.eq_3, semI.eq_5, semI.eq_7, e_api_Disk, e_api_Write]
        refine .lp ?_
        refine .weak (Imp.co [] _ _ ?_ ?_ ?_ ?_ ?_) (ih (IntKind.i64.wrap (v8 + 1)) _ h k_ hx hr) <;> simp only [wz, wd, ws, seval, wi, er_nil, e_api_Disk, e_api_Write]
    · rw [ite_f h1] at h
      refine .exit rfl ?_
      obtain rfl := Option.some.inj h
      refine .weak (Imp.co [] _ _ ?_ ?_ ?_ ?_ ?_) (hx _ rfl) <;> simp only [wz, wd, ws, seval, wi, er_nil, e_api_Disk, e_api_Write]
theorem f_ref09_Right_ok (d : api_Disk) (y_ : Bool) (h : f_ref09_Right d = some y_) : Fun Try.prog glP 35 [.b (.agg ((e_api_Disk d).map Lc.d))] (.b (.s (.d (.bool y_)))) := by
  refine fun_walk [] Try.func35 Try.ntmps35 cc35 cr35 (by kernel_rfl) (by simp only [List.length_cons, List.length_nil]; decide) ?_
  generalize hR : Ret _ _ _ _ _ = R_
  simp only [wz, wd, ws, seval, e_api_Disk, e_api_Write]
  unfold f_ref09_Right at h; unfold c35
  refine .seq ?_
  refine Rw.walk ?_
  simp only [wz, wd, ws, seval, c35r0, semI.eq_10, semI.eq_11, semI.eq_3, semI.eq_5, semI.eq_7, e_api_Disk, e_api_Write]
  refine .seq ?_
  refine .seq ?_
  refine Rw.walk ?_
  simp only [wz, wd, ws, seval, c35r1, semI.eq_10, semI.eq_11, semI.eq_3, semI.eq_5, semI.eq_7, e_api_Disk, e_api_Write]
  refine .blk ?_
  obtain ⟨s, hf, h⟩ := Option.bind_eq_some_iff.1 h
  refine .loop (.weak (Imp.co [] _ _ ?c1 ?c2 ?c3 ?c4 ?c5) (f_ref09_Right_l7_ok d _ _ hR _ _ _ hf _ ?_ ?_))
  case c1 | c2 | c3 | c4 | c5 => simp only [wz, wd, ws, seval, wi, er_nil, e_api_Disk, e_api_Write]
  · intro s2 hs; subst hs; dsimp only at h
    refine .seq ?_
    refine Rw.walk ?_
    simp only [wz, wd, ws, seval, c35r7, semI.eq_10, semI.eq_11, semI.eq_3, semI.eq_5, semI.eq_7, e_api_Disk, e_api_Write]
    refine call_alt (v := .b (.s (.d (.sl (d.Sectors.map eS))))) rfl rfl (by simp only [wz, wd, ws, seval]) (fun q => ⟨_, by simp only [wz, wd, ws, seval, semI.eq_10, e_api_Disk, e_api_Write], trivial⟩) ?_
    simp only [wz, wd, ws, seval, c35r7, semI.eq_10, semI.eq_11, semI.eq_3, semI.eq_5, semI.eq_7, e_api_Disk, e_api_Write]
    repeat (refine And.intro ?_ ?_; · first | omega | (simp only [List.length_append, List.length_cons, List.length_nil] at *; omega) | (intro q; simp only [wz, wd, ws, seval, q]; done))
    refine call_alt (v := .b (.s (.d (.sl (d.Dirty.map e_api_Write))))) rfl rfl (by simp only [wz, wd, ws, seval]) (fun q => ⟨_, by simp only [wz, wd, ws, seval, semI.eq_10, e_api_Disk, e_api_Write], trivial⟩) ?_
    simp only [wz, wd, ws, seval, c35r7, semI.eq_10, semI.eq_11, semI.eq_3, semI.eq_5, semI.eq_7, e_api_Disk, e_api_Write]
    repeat (refine And.intro ?_ ?_; · first | omega | (simp only [List.length_append, List.length_cons, List.length_nil] at *; omega) | (intro q; simp only [wz, wd, ws, seval, q]; done))
    refine call_alt (v := .b (.s (.d (.sl (d.Dirty.map e_api_Write))))) rfl rfl (by simp only [wz, wd, ws, seval]) (fun q => ⟨_, by simp only [wz, wd, ws, seval, semI.eq_10, e_api_Disk, e_api_Write], trivial⟩) ?_
    simp only [wz, wd, ws, seval, c35r7, semI.eq_10, semI.eq_11, semI.eq_3, semI.eq_5, semI.eq_7, e_api_Disk, e_api_Write]
    refine call_alt (v := .b (.s (.d (.sl (d.Sectors.map eS))))) rfl rfl (by simp only [wz, wd, ws, seval]) (fun q => ⟨_, by simp only [wz, wd, ws, seval, semI.eq_10, e_api_Disk, e_api_Write], trivial⟩) ?_
    simp only [wz, wd, ws, seval, c35r7, semI.eq_10, semI.eq_11, semI.eq_3, semI.eq_5, semI.eq_7, e_api_Disk, e_api_Write]
    obtain ⟨t, e2, h⟩ := Option.bind_eq_some_iff.1 h
    refine call_funG [] rfl (by simp only [wz, wd, ws, seval]) rfl ?_ (fun q => (f_ref09_Well_ok _ _ _ (gx_iff e2 (by simpa using q)))) rfl (fun i hi => by cases hi) ?_
    · simp only [wz, wd, ws, seval, e_api_Disk, e_api_Write]
    simp only [wz, wd, ws, seval, c35r7, semI.eq_10, semI.eq_11, semI.eq_3, semI.eq_5, semI.eq_7, e_api_Disk, e_api_Write]
    repeat (refine And.intro ?_ ?_; · first | omega | (simp only [List.length_append, List.length_cons, List.length_nil] at *; omega) | (intro q; simp only [wz, wd, ws, seval, q]; done))
    obtain rfl := Option.some.inj h
    refine .ret ?_
    rw [← hR]
    simp only [wz, wd, ws, seval, rv35, e_api_Disk, e_api_Write]
  · intro z hz; subst hz; dsimp only at h
    exact Option.some.inj h
-- 29 consignor/consignorref10.At
def c29r0 : List Opn := [
  ⟨(some 2), none, .box 2 (.t 0)⟩, 
  ⟨(some 4), none, .mv (.c (.s (.d (.int .i64 0))))⟩]
def c29r1 : List Opn := [
  ⟨(some 5), none, .mv (.t 1)⟩, 
  ⟨(some 6), none, .fadr 0 (.t 2)⟩, 
  ⟨(some 7), none, .load false 1 (.t 6)⟩, 
  ⟨(some 8), none, .len (.sl 0) (.t 7)⟩, 
  ⟨(some 9), none, .bin .quo (.t 8) (.c (.s (.d (.int .i64 2))))⟩, 
  ⟨(some 10), none, .bin .mul (.t 5) (.t 9)⟩, 
  ⟨(some 4), none, .mv (.t 10)⟩]
def c29 : C := .seq (.reg c29r0 none [1, 2]) (.seq (.reg c29r1 none [4]) (.ret))
def k29 : List (Nat × List Nat) := [(1, [4]), (0, [1, 2])]
theorem cc29 : (Try.f29.body).bind (cC Try.prog 11 k29) = some c29 := by kernel_rfl
def rv29 : List RV := [.t 4]
theorem cr29 : cRVs Try.prog Try.f29.results.toList = some rv29 := by kernel_rfl
theorem f_ref10_At_ok (d : api_Disk) (half : Int) (y_ : Int) (h : f_ref10_At d half = some y_) : Fun Try.prog glP 29 [.b (.agg ((e_api_Disk d).map Lc.d)), .b (.s (.d (.int .i64 half)))] (.b (.s (.d (.int .i64 y_)))) := by
  refine fun_walk [] Try.func29 Try.ntmps29 cc29 cr29 (by kernel_rfl) (by simp only [List.length_cons, List.length_nil]; decide) ?_
  generalize hR : Ret _ _ _ _ _ = R_
  simp only [wz, wd, ws, seval, e_api_Disk, e_api_Write]
  unfold f_ref10_At at h; unfold c29
  refine .seq ?_
  refine Rw.walk ?_
  simp only [wz, wd, ws, seval, c29r0, semI.eq_10, semI.eq_11, semI.eq_3, semI.eq_5, semI.eq_7, e_api_Disk, e_api_Write]
  refine .seq ?_
  refine Rw.walk ?_
  simp only [wz, wd, ws, seval, c29r1, semI.eq_10, semI.eq_11, semI.eq_3, semI.eq_5, semI.eq_7, e_api_Disk, e_api_Write]
  repeat (refine And.intro ?_ ?_; · first | omega | (simp only [List.length_append, List.length_cons, List.length_nil] at *; omega) | (intro q; simp only [wz, wd, ws, seval, q]; done))
  obtain rfl := Option.some.inj h
  refine .ret ?_
  rw [← hR]
  simp only [wz, wd, ws, seval, rv29, e_api_Disk, e_api_Write]
-- 55 consignor/consignorref01.Whole
def c55r0 : List Opn := [
  ⟨(some 2), none, .mv (.c (.s (.d (.int .u64 0))))⟩]
def c55r1 : List Opn := [
  ⟨(some 3), none, .mv (.c (.s (.d (.int .u64 0))))⟩]
def c55r2 : List Opn := [
  ⟨(some 5), none, .mv (.t 0)⟩, 
  ⟨(some 6), none, .len .str (.t 5)⟩, 
  ⟨(some 7), none, .bin .sub (.t 6) (.c (.s (.d (.int .i64 1))))⟩, 
  ⟨(some 4), none, .mv (.t 7)⟩]
def c55r3 : List Opn := [
  ⟨(some 8), none, .mv (.t 4)⟩, 
  ⟨(some 9), none, .bin .geq (.t 8) (.c (.s (.d (.int .i64 0))))⟩]
def c55r5 : List Opn := [
  ⟨(some 12), none, .mv (.t 3)⟩, 
  ⟨(some 13), none, .bin .mul (.c (.s (.d (.int .u64 256)))) (.t 12)⟩, 
  ⟨(some 14), none, .mv (.t 0)⟩, 
  ⟨(some 15), none, .mv (.t 4)⟩, 
  ⟨(some 16), none, .idx .str (.t 14) (.t 15)⟩, 
  ⟨(some 17), none, .cv (.toInt .u64) (.t 16)⟩, 
  ⟨(some 18), none, .bin .add (.t 13) (.t 17)⟩, 
  ⟨(some 3), none, .mv (.t 18)⟩]
def c55r4 : List Opn := [
  ⟨(some 10), none, .mv (.t 4)⟩, 
  ⟨(some 11), none, .bin .sub (.t 10) (.c (.s (.d (.int .i64 1))))⟩, 
  ⟨(some 4), none, .mv (.t 11)⟩]
def c55l6 : C := .seq (.seq (.reg c55r3 none [0, 3, 4, 9]) (.cond (.t 9) (.skip) (.exit 0))) (.seq (.blk 1 (.reg c55r5 none [0, 3, 4])) (.reg c55r4 none [0, 3, 4]))
def c55r6 : List Opn := [
  ⟨(some 19), none, .mv (.t 3)⟩, 
  ⟨(some 2), none, .mv (.t 19)⟩]
def c55 : C := .seq (.reg c55r0 none [0]) (.seq (.reg c55r1 none [0, 3]) (.seq (.seq (.reg c55r2 none [0, 3, 4]) (.blk 0 (.loop c55l6))) (.seq (.reg c55r6 none [2]) (.ret))))
def k55 : List (Nat × List Nat) := [(6, [2]), (4, [0, 3, 4]), (5, [0, 3, 4]), (3, [0, 3, 4, 9]), (2, [0, 3, 4]), (1, [0, 3]), (0, [0])]
theorem cc55 : (Try.f55.body).bind (cC Try.prog 20 k55) = some c55 := by kernel_rfl
def rv55 : List RV := [.t 2]
theorem cr55 : cRVs Try.prog Try.f55.results.toList = some rv55 := by kernel_rfl
theorem f_ref01_Whole_l6_ok (s : Str) (y_ : Int) (R_ : St → Prop) (hR : (Ret Try.prog glP [] rv55 (.b (.s (.d (.int .u64 y_))))) = R_) : ∀ (m_ : Nat) (n : Int) (i : Int) (res_ : Int × Int) (h : f_ref01_Whole_l6 s m_ n i = some res_) (k_ : List It) (hx : ∀ s_ : Int × Int, res_ = s_ → W Try.prog glP 20 k_ ⟨lkT [(0, .b (.s (.d (.str s)))), (3, .b (.s (.d (.int .u64 s_.1)))), (4, .b (.s (.d (.int .i64 s_.2))))], lkG []⟩ R_), W Try.prog glP 20 (.c c55l6 :: .lp c55l6 :: .blk 0 :: k_) ⟨lkT [(0, .b (.s (.d (.str s)))), (3, .b (.s (.d (.int .u64 n)))), (4, .b (.s (.d (.int .i64 i))))], lkG []⟩ R_ := by
  intro m_; induction m_ with
  | zero => intro n i res_ h; rw [f_ref01_Whole_l6.eq_1] at h; cases h
  | succ m_ ih =>
    intro n i res_ h k_ hx; rw [f_ref01_Whole_l6.eq_2] at h; refine W.cdef c55l6.eq_1 ?_
    refine .seq ?_
    refine .seq ?_
    refine Rw.walk ?_
    simp only [wz, wd, ws, seval, c55r3, semI.eq_10, semI.eq_11, semI.eq_3, semI.eq_5, semI.eq_7]
    refine .cond (p := (decide (i ≥ 0))) (by first | rfl | simp only [wz, wd, ws, seval]) (fun h1 => ?_) (fun h1 => ?_)
    · rw [ite_t h1] at h
      refine .skip ?_
      refine .seq ?_
      refine .blk ?_
      refine Rw.walk ?_
      simp only [wz, wd, ws, seval, c55r5, semI.eq_10, semI.eq_11, semI.eq_3, semI.eq_5, semI.eq_7]
      obtain ⟨c, e1, h⟩ := Option.bind_eq_some_iff.1 h
      refine Go1.of (sem_idx e1 (by rfl) (by rfl)) ?_
      simp only [wz, wd, ws, seval, c55r5, semI.eq_10, semI.eq_11, semI.eq_3, semI.eq_5, semI.eq_7]
      refine .eblk ?_
      refine Rw.walk ?_
      simp only [wz, wd, ws, seval, c55r4, semI.eq_10, semI.eq_11, semI.eq_3, semI.eq_5, semI.eq_7]
      refine .lp ?_
      refine .weak (Imp.co [] _ _ ?_ ?_ ?_ ?_ ?_) (ih (IntKind.u64.wrap ((IntKind.u64.wrap (256 * n)) + (IntKind.u64.wrap (bn c)))) (IntKind.i64.wrap (i - 1)) _ h k_ hx) <;> simp only [wz, wd, ws, seval, wi, er_nil]
    · rw [ite_f h1] at h
      refine .exit rfl ?_
      obtain rfl := Option.some.inj h
      refine .weak (Imp.co [] _ _ ?_ ?_ ?_ ?_ ?_) (hx _ rfl) <;> simp only [wz, wd, ws, seval, wi, er_nil]
theorem f_ref01_Whole_ok (s : Str) (y_ : Int) (h : f_ref01_Whole s = some y_) : Fun Try.prog glP 55 [.b (.s (.d (.str s)))] (.b (.s (.d (.int .u64 y_)))) := by
  refine fun_walk [] Try.func55 Try.ntmps55 cc55 cr55 (by kernel_rfl) (by simp only [List.length_cons, List.length_nil]; decide) ?_
  generalize hR : Ret _ _ _ _ _ = R_
  simp only [wz, wd, ws, seval]
  unfold f_ref01_Whole at h; unfold c55
  refine .seq ?_
  refine Rw.walk ?_
  simp only [wz, wd, ws, seval, c55r0, semI.eq_10, semI.eq_11, semI.eq_3, semI.eq_5, semI.eq_7]
  refine .seq ?_
  refine Rw.walk ?_
  simp only [wz, wd, ws, seval, c55r1, semI.eq_10, semI.eq_11, semI.eq_3, semI.eq_5, semI.eq_7]
  refine .seq ?_
  refine .seq ?_
  refine Rw.walk ?_
  simp only [wz, wd, ws, seval, c55r2, semI.eq_10, semI.eq_11, semI.eq_3, semI.eq_5, semI.eq_7]
  refine .blk ?_
  obtain ⟨s2, hf, h⟩ := Option.bind_eq_some_iff.1 h
  refine .loop (.weak (Imp.co [] _ _ ?c1 ?c2 ?c3 ?c4 ?c5) (f_ref01_Whole_l6_ok s _ _ hR _ _ _ _ hf _ ?_))
  case c1 | c2 | c3 | c4 | c5 => simp only [wz, wd, ws, seval, wi, er_nil]
  · intro s2_ hs; subst hs
    refine .seq ?_
    refine Rw.walk ?_
    simp only [wz, wd, ws, seval, c55r6, semI.eq_10, semI.eq_11, semI.eq_3, semI.eq_5, semI.eq_7]
    obtain rfl := Option.some.inj h
    refine .ret ?_
    rw [← hR]
    simp only [wz, wd, ws, seval, rv55]
-- 25 consignor/consignorref10.Room
def c25r0 : List Opn := [
  ⟨(some 2), none, .box 2 (.t 0)⟩, 
  ⟨(some 4), none, .mv (.c (.s (.d (.str []))))⟩]
def c25r1 : List Opn := [
  ⟨(some 5), none, .mv (.c (.s (.d (.str []))))⟩]
def c25r2 : List Opn := [
  ⟨(some 8), none, .fadr 0 (.t 2)⟩, 
  ⟨(some 9), none, .load false 1 (.t 8)⟩, 
  ⟨(some 10), none, .len (.sl 0) (.t 9)⟩, 
  ⟨(some 11), none, .bin .quo (.t 10) (.c (.s (.d (.int .i64 2))))⟩, 
  ⟨(some 6), none, .mv (.t 11)⟩]
def c25r3 : List Opn := [
  ⟨(some 7), none, .mv (.c (.s (.d (.int .i64 1))))⟩]
def c25r4 : List Opn := [
  ⟨(some 12), none, .mv (.t 7)⟩, 
  ⟨(some 13), none, .mv (.t 6)⟩, 
  ⟨(some 14), none, .bin .lss (.t 12) (.t 13)⟩]
def c25r6 : List Opn := [
  ⟨(some 17), none, .mv (.t 5)⟩, 
  ⟨(some 18), none, .fadr 0 (.t 2)⟩, 
  ⟨(some 19), none, .load false 1 (.t 18)⟩, 
  ⟨(some 20), none, .mv (.t 1)⟩, 
  ⟨(some 21), none, .mv (.t 6)⟩, 
  ⟨(some 22), none, .bin .mul (.t 20) (.t 21)⟩, 
  ⟨(some 23), none, .mv (.t 7)⟩, 
  ⟨(some 24), none, .bin .add (.t 22) (.t 23)⟩, 
  ⟨(some 25), none, .iadr (.sl 1) (.t 19) (.t 24)⟩, 
  ⟨(some 26), none, .load false 1 (.t 25)⟩, 
  ⟨(some 27), none, .bin .add (.t 17) (.t 26)⟩, 
  ⟨(some 5), none, .mv (.t 27)⟩]
def c25r5 : List Opn := [
  ⟨(some 15), none, .mv (.t 7)⟩, 
  ⟨(some 16), none, .bin .add (.t 15) (.c (.s (.d (.int .i64 1))))⟩, 
  ⟨(some 7), none, .mv (.t 16)⟩]
def c25l7 : C := .seq (.seq (.reg c25r4 none [1, 2, 5, 6, 7, 14]) (.cond (.t 14) (.skip) (.exit 0))) (.seq (.blk 1 (.reg c25r6 none [1, 2, 5, 6, 7])) (.reg c25r5 none [1, 2, 5, 6, 7]))
def c25r7 : List Opn := [
  ⟨(some 28), none, .mv (.t 5)⟩, 
  ⟨(some 4), none, .mv (.t 28)⟩]
def c25 : C := .seq (.reg c25r0 none [1, 2]) (.seq (.reg c25r1 none [1, 2, 5]) (.seq (.reg c25r2 none [1, 2, 5, 6]) (.seq (.seq (.reg c25r3 none [1, 2, 5, 6, 7]) (.blk 0 (.loop c25l7))) (.seq (.reg c25r7 none [4]) (.ret)))))
def k25 : List (Nat × List Nat) := [(7, [4]), (5, [1, 2, 5, 6, 7]), (6, [1, 2, 5, 6, 7]), (4, [1, 2, 5, 6, 7, 14]), (3, [1, 2, 5, 6, 7]), (2, [1, 2, 5, 6]), (1, [1, 2, 5]), (0, [1, 2])]
theorem cc25 : (Try.f25.body).bind (cC Try.prog 29 k25) = some c25 := by kernel_rfl
def rv25 : List RV := [.t 4]
theorem cr25 : cRVs Try.prog Try.f25.results.toList = some rv25 := by kernel_rfl
theorem f_ref10_Room_l7_ok (d : api_Disk) (half : Int) (y_ : Str) (R_ : St → Prop) (hR : (Ret Try.prog glP [] rv25 (.b (.s (.d (.str y_))))) = R_) : ∀ (m_ : Nat) (out : Str) (i : Int) (res_ : Str × Int) (h : f_ref10_Room_l7 d half m_ out i = some res_) (k_ : List It) (hx : ∀ s_ : Str × Int, res_ = s_ → W Try.prog glP 29 k_ ⟨lkT [(1, .b (.s (.d (.int .i64 half)))), (2, .b (.s (.ptr 2 1 0 0))), (5, .b (.s (.d (.str s_.1)))), (6, .b (.s (.d (.int .i64 (IntKind.i64.wrap ((d.Sectors.length : Int).tdiv 2)))))), (7, .b (.s (.d (.int .i64 s_.2))))], lkG [(2, ⟨2, [[(.d (.sl (d.Sectors.map eS))), (.d (.sl (d.Dirty.map e_api_Write)))]], false⟩)]⟩ R_), W Try.prog glP 29 (.c c25l7 :: .lp c25l7 :: .blk 0 :: k_) ⟨lkT [(1, .b (.s (.d (.int .i64 half)))), (2, .b (.s (.ptr 2 1 0 0))), (5, .b (.s (.d (.str out)))), (6, .b (.s (.d (.int .i64 (IntKind.i64.wrap ((d.Sectors.length : Int).tdiv 2)))))), (7, .b (.s (.d (.int .i64 i))))], lkG [(2, ⟨2, [[(.d (.sl (d.Sectors.map eS))), (.d (.sl (d.Dirty.map e_api_Write)))]], false⟩)]⟩ R_ := by
  intro m_; induction m_ with
  | zero => intro out i res_ h; rw [f_ref10_Room_l7.eq_1] at h; cases h
  | succ m_ ih =>
    intro out i res_ h k_ hx; rw [f_ref10_Room_l7.eq_2] at h; refine W.cdef c25l7.eq_1 ?_
    refine .seq ?_
    refine .seq ?_
    refine Rw.walk ?_
    simp only [wz, wd, ws, seval, c25r4, semI.eq_10, semI.eq_11, semI.eq_3, semI.eq_5, semI.eq_7, e_api_Disk, e_api_Write]
    refine .cond (p := (decide (i < (IntKind.i64.wrap ((d.Sectors.length : Int).tdiv 2))))) (by first | rfl | simp only [wz, wd, ws, seval]) (fun h1 => ?_) (fun h1 => ?_)
    · rw [ite_t h1] at h
      refine .skip ?_
      refine .seq ?_
      refine .blk ?_
      refine Rw.walk ?_
      simp only [wz, wd, ws, seval, c25r6, semI.eq_10, semI.eq_11, semI.eq_3, semI.eq_5, semI.eq_7, e_api_Disk, e_api_Write]
      obtain ⟨x, e1, h⟩ := Option.bind_eq_some_iff.1 h
      refine Go1.of (sem_iadr eS_len e1 (by rfl) (by rfl)) ?_
      simp only [wz, wd, ws, seval, c25r6, semI.eq_10, semI.eq_11, semI.eq_3, semI.eq_5, semI.eq_7, e_api_Disk, e_api_Write]
      obtain ⟨g2, h⟩ := gd_iff.1 h
      repeat (refine And.intro ?_ ?_; · first | omega | (simp only [List.length_append, List.length_cons, List.length_nil] at *; omega) | (intro q; simp only [wz, wd, ws, seval, q]; done))
      refine .eblk ?_
      refine Rw.walk ?_
      simp only [wz, wd, ws, seval, c25r5, semI.eq_10, semI.eq_11, semI.eq_3, semI.eq_5, semI.eq_7, e_api_Disk, e_api_Write]
      refine .lp ?_
      refine .weak (Imp.co [] _ _ ?_ ?_ ?_ ?_ ?_) (ih (out ++ x) (IntKind.i64.wrap (i + 1)) _ h k_ hx) <;> simp only [wz, wd, ws, seval, wi, er_nil, e_api_Disk, e_api_Write]
    · rw [ite_f h1] at h
      refine .exit rfl ?_
      obtain rfl := Option.some.inj h
      refine .weak (Imp.co [] _ _ ?_ ?_ ?_ ?_ ?_) (hx _ rfl) <;> simp only [wz, wd, ws, seval, wi, er_nil, e_api_Disk, e_api_Write]
theorem f_ref10_Room_ok (d : api_Disk) (half : Int) (y_ : Str) (h : f_ref10_Room d half = some y_) : Fun Try.prog glP 25 [.b (.agg ((e_api_Disk d).map Lc.d)), .b (.s (.d (.int .i64 half)))] (.b (.s (.d (.str y_)))) := by
  refine fun_walk [] Try.func25 Try.ntmps25 cc25 cr25 (by kernel_rfl) (by simp only [List.length_cons, List.length_nil]; decide) ?_
  generalize hR : Ret _ _ _ _ _ = R_
  simp only [wz, wd, ws, seval, e_api_Disk, e_api_Write]
  unfold f_ref10_Room at h; unfold c25
  refine .seq ?_
  refine Rw.walk ?_
  simp only [wz, wd, ws, seval, c25r0, semI.eq_10, semI.eq_11, semI.eq_3, semI.eq_5, semI.eq_7, e_api_Disk, e_api_Write]
  refine .seq ?_
  refine Rw.walk ?_
  simp only [wz, wd, ws, seval, c25r1, semI.eq_10, semI.eq_11, semI.eq_3, semI.eq_5, semI.eq_7, e_api_Disk, e_api_Write]
  refine .seq ?_
  refine Rw.walk ?_
  simp only [wz, wd, ws, seval, c25r2, semI.eq_10, semI.eq_11, semI.eq_3, semI.eq_5, semI.eq_7, e_api_Disk, e_api_Write]
  repeat (refine And.intro ?_ ?_; · first | omega | (simp only [List.length_append, List.length_cons, List.length_nil] at *; omega) | (intro q; simp only [wz, wd, ws, seval, q]; done))
  refine .seq ?_
  refine .seq ?_
  refine Rw.walk ?_
  simp only [wz, wd, ws, seval, c25r3, semI.eq_10, semI.eq_11, semI.eq_3, semI.eq_5, semI.eq_7, e_api_Disk, e_api_Write]
  refine .blk ?_
  obtain ⟨s, hf, h⟩ := Option.bind_eq_some_iff.1 h
  refine .loop (.weak (Imp.co [] _ _ ?c1 ?c2 ?c3 ?c4 ?c5) (f_ref10_Room_l7_ok d half _ _ hR _ _ _ _ hf _ ?_))
  case c1 | c2 | c3 | c4 | c5 => simp only [wz, wd, ws, seval, wi, er_nil, e_api_Disk, e_api_Write]
  · intro s_ hs; subst hs
    refine .seq ?_
    refine Rw.walk ?_
    simp only [wz, wd, ws, seval, c25r7, semI.eq_10, semI.eq_11, semI.eq_3, semI.eq_5, semI.eq_7, e_api_Disk, e_api_Write]
    obtain rfl := Option.some.inj h
    refine .ret ?_
    rw [← hR]
    simp only [wz, wd, ws, seval, rv25, e_api_Disk, e_api_Write]
-- 41 consignor/consignorref01.Wide
def c41r0 : List Opn := [
  ⟨(some 4), none, .mv (.c (.s (.d (.str []))))⟩]
def c41r1 : List Opn := [
  ⟨(some 7), none, .bsl 1 []⟩, 
  ⟨(some 5), none, .mv (.t 7)⟩]
def c41r2 : List Opn := [
  ⟨(some 6), none, .mv (.c (.s (.d (.int .i64 0))))⟩]
def c41r3 : List Opn := [
  ⟨(some 8), none, .mv (.t 6)⟩, 
  ⟨(some 9), none, .mv (.t 1)⟩, 
  ⟨(some 10), none, .bin .lss (.t 8) (.t 9)⟩]
def c41r5 : List Opn := [
  ⟨(some 13), none, .mv (.t 5)⟩, 
  ⟨(some 14), none, .mv (.t 0)⟩, 
  ⟨(some 15), none, .bin .rem (.t 14) (.c (.s (.d (.int .u64 256))))⟩, 
  ⟨(some 16), none, .cv (.toInt .u8) (.t 15)⟩, 
  ⟨(some 17), none, .bsl 1 [(.t 16)]⟩, 
  ⟨(some 18), none, .app 1 1 false (.t 13) (.t 17)⟩, 
  ⟨(some 5), none, .mv (.t 18)⟩]
def c41r6 : List Opn := [
  ⟨(some 19), none, .mv (.t 0)⟩, 
  ⟨(some 20), none, .bin .quo (.t 19) (.c (.s (.d (.int .u64 256))))⟩, 
  ⟨(some 0), none, .mv (.t 20)⟩]
def c41r4 : List Opn := [
  ⟨(some 11), none, .mv (.t 6)⟩, 
  ⟨(some 12), none, .bin .add (.t 11) (.c (.s (.d (.int .i64 1))))⟩, 
  ⟨(some 6), none, .mv (.t 12)⟩]
def c41l7 : C := .seq (.seq (.reg c41r3 none [0, 1, 5, 6, 10]) (.cond (.t 10) (.skip) (.exit 0))) (.seq (.blk 1 (.seq (.reg c41r5 none [0, 1, 5, 6]) (.reg c41r6 none [0, 1, 5, 6]))) (.reg c41r4 none [0, 1, 5, 6]))
def c41r7 : List Opn := [
  ⟨(some 21), none, .mv (.t 5)⟩, 
  ⟨(some 22), none, .cv .b2s (.t 21)⟩, 
  ⟨(some 4), none, .mv (.t 22)⟩]
def c41 : C := .seq (.reg c41r0 none [0, 1]) (.seq (.reg c41r1 none [0, 1, 5]) (.seq (.seq (.reg c41r2 none [0, 1, 5, 6]) (.blk 0 (.loop c41l7))) (.seq (.reg c41r7 none [4]) (.ret))))
def k41 : List (Nat × List Nat) := [(7, [4]), (4, [0, 1, 5, 6]), (6, [0, 1, 5, 6]), (5, [0, 1, 5, 6]), (3, [0, 1, 5, 6, 10]), (2, [0, 1, 5, 6]), (1, [0, 1, 5]), (0, [0, 1])]
theorem cc41 : (Try.f41.body).bind (cC Try.prog 23 k41) = some c41 := by kernel_rfl
def rv41 : List RV := [.t 4]
theorem cr41 : cRVs Try.prog Try.f41.results.toList = some rv41 := by kernel_rfl
theorem f_ref01_Wide_l7_ok (size : Int) (y_ : Str) (R_ : St → Prop) (hR : (Ret Try.prog glP [] rv41 (.b (.s (.d (.str y_))))) = R_) : ∀ (m_ : Nat) (n2 : Int) (i : Int) (b : (List Int)) (res_ : Int × Int × (List Int)) (h : f_ref01_Wide_l7 size m_ n2 i b = some res_) (k_ : List It) (hx : ∀ s_ : Int × Int × (List Int), res_ = s_ → W Try.prog glP 23 k_ ⟨lkT [(0, .b (.s (.d (.int .u64 s_.1)))), (1, .b (.s (.d (.int .i64 size)))), (5, .b (.s (.own 7 s_.2.2.length))), (6, .b (.s (.d (.int .i64 s_.2.1))))], lkG [(7, ⟨1, er (eI .u8) s_.2.2, false⟩)]⟩ R_), W Try.prog glP 23 (.c c41l7 :: .lp c41l7 :: .blk 0 :: k_) ⟨lkT [(0, .b (.s (.d (.int .u64 n2)))), (1, .b (.s (.d (.int .i64 size)))), (5, .b (.s (.own 7 b.length))), (6, .b (.s (.d (.int .i64 i))))], lkG [(7, ⟨1, er (eI .u8) b, false⟩)]⟩ R_ := by
  intro m_; induction m_ with
  | zero => intro n2 i b res_ h; rw [f_ref01_Wide_l7.eq_1] at h; cases h
  | succ m_ ih =>
    intro n2 i b res_ h k_ hx; rw [f_ref01_Wide_l7.eq_2] at h; refine W.cdef c41l7.eq_1 ?_
    refine .seq ?_
    refine .seq ?_
    refine Rw.walk ?_
    simp only [wz, wd, ws, seval, c41r3, semI.eq_10, semI.eq_11, semI.eq_3, semI.eq_5, semI.eq_7]
    refine .cond (p := (decide (i < size))) (by first | rfl | simp only [wz, wd, ws, seval]) (fun h1 => ?_) (fun h1 => ?_)
    · rw [ite_t h1] at h
      refine .skip ?_
      refine .seq ?_
      refine .blk ?_
      refine .seq ?_
      refine Rw.walk ?_
      simp only [wz, wd, ws, seval, c41r5, semI.eq_10, semI.eq_11, semI.eq_3, semI.eq_5, semI.eq_7]
      repeat (refine And.intro ?_ ?_; · first | omega | (simp only [List.length_append, List.length_cons, List.length_nil] at *; omega) | (intro q; simp only [wz, wd, ws, seval, q]; done))
      refine Go1.of (sem_bsl (enc := (eI .u8)) (m := ([(IntKind.u8.wrap (n2.tmod 256))] : List Int)) (eI_len _) (by rfl) (by rfl) (by rfl) ⟨trivial, trivial⟩) ?_
      simp only [wz, wd, ws, seval, c41r5, semI.eq_10, semI.eq_11, semI.eq_3, semI.eq_5, semI.eq_7]
      obtain ⟨g1, h⟩ := gd_iff.1 h
      refine Go1.of (sem_app (enc := (eI .u8)) (l := b) (m := ([(IntKind.u8.wrap (n2.tmod 256))] : List Int)) (eI_len _) (by rfl) (by rfl) (newV_own (m := ([(IntKind.u8.wrap (n2.tmod 256))] : List Int)) (by rfl) (by rfl))) ?_
      simp only [wz, wd, ws, seval, c41r5, semI.eq_10, semI.eq_11, semI.eq_3, semI.eq_5, semI.eq_7]
      repeat (refine And.intro ?_ ?_; · first | omega | (simp only [List.length_append, List.length_cons, List.length_nil] at *; omega) | (intro q; simp only [wz, wd, ws, seval, q]; done))
      refine Rw.walk ?_
      simp only [wz, wd, ws, seval, c41r6, semI.eq_10, semI.eq_11, semI.eq_3, semI.eq_5, semI.eq_7]
      repeat (refine And.intro ?_ ?_; · first | omega | (simp only [List.length_append, List.length_cons, List.length_nil] at *; omega) | (intro q; simp only [wz, wd, ws, seval, q]; done))
      refine .eblk ?_
      refine Rw.walk ?_
      simp only [wz, wd, ws, seval, c41r4, semI.eq_10, semI.eq_11, semI.eq_3, semI.eq_5, semI.eq_7]
      refine .lp ?_
      refine .weak (Imp.co [] _ _ ?_ ?_ ?_ ?_ ?_) (ih (IntKind.u64.wrap (n2.tdiv 256)) (IntKind.i64.wrap (i + 1)) (b ++ ([(IntKind.u8.wrap (n2.tmod 256))] : List Int)) _ h k_ hx) <;> simp only [wz, wd, ws, seval, wi, er_nil]
    · rw [ite_f h1] at h
      refine .exit rfl ?_
      obtain rfl := Option.some.inj h
      refine .weak (Imp.co [] _ _ ?_ ?_ ?_ ?_ ?_) (hx _ rfl) <;> simp only [wz, wd, ws, seval, wi, er_nil]
theorem f_ref01_Wide_ok (n : Int) (size : Int) (y_ : Str) (h : f_ref01_Wide n size = some y_) : Fun Try.prog glP 41 [.b (.s (.d (.int .u64 n))), .b (.s (.d (.int .i64 size)))] (.b (.s (.d (.str y_)))) := by
  refine fun_walk [] Try.func41 Try.ntmps41 cc41 cr41 (by kernel_rfl) (by simp only [List.length_cons, List.length_nil]; decide) ?_
  generalize hR : Ret _ _ _ _ _ = R_
  simp only [wz, wd, ws, seval]
  unfold f_ref01_Wide at h; unfold c41
  refine .seq ?_
  refine Rw.walk ?_
  simp only [wz, wd, ws, seval, c41r0, semI.eq_10, semI.eq_11, semI.eq_3, semI.eq_5, semI.eq_7]
  refine .seq ?_
  refine Rw.walk ?_
  simp only [wz, wd, ws, seval, c41r1, semI.eq_10, semI.eq_11, semI.eq_3, semI.eq_5, semI.eq_7]
  refine Go1.of (sem_bsl (enc := (eI .u8)) (m := ([] : List Int)) (eI_len _) (by rfl) (by rfl) (by rfl) trivial) ?_
  simp only [wz, wd, ws, seval, c41r1, semI.eq_10, semI.eq_11, semI.eq_3, semI.eq_5, semI.eq_7]
  refine .seq ?_
  refine .seq ?_
  refine Rw.walk ?_
  simp only [wz, wd, ws, seval, c41r2, semI.eq_10, semI.eq_11, semI.eq_3, semI.eq_5, semI.eq_7]
  refine .blk ?_
  obtain ⟨s, hf, h⟩ := Option.bind_eq_some_iff.1 h
  refine .loop (.weak (Imp.co [] _ _ ?c1 ?c2 ?c3 ?c4 ?c5) (f_ref01_Wide_l7_ok size _ _ hR _ _ _ _ _ hf _ ?_))
  case c1 | c2 | c3 | c4 | c5 => simp only [wz, wd, ws, seval, wi, er_nil]
  · intro s_ hs; subst hs
    refine .seq ?_
    refine Rw.walk ?_
    simp only [wz, wd, ws, seval, c41r7, semI.eq_10, semI.eq_11, semI.eq_3, semI.eq_5, semI.eq_7]
    refine Go1.of (sem_b2s (n := s.2.2) (rowsV_own (m := s.2.2) (by rfl) (by rfl))) ?_
    simp only [wz, wd, ws, seval, c41r7, semI.eq_10, semI.eq_11, semI.eq_3, semI.eq_5, semI.eq_7]
    obtain rfl := Option.some.inj h
    refine .ret ?_
    rw [← hR]
    simp only [wz, wd, ws, seval, rv41]
-- 15 consignor/consignorref10.Head
def c15r0 : List Opn := [
  ⟨(some 4), none, .mv (.c (.s (.d (.str []))))⟩]
def c15r1 : List Opn := [
  ⟨(some 6), none, .mv (.t 0)⟩, 
  ⟨(some 7), none, .cv (.toInt .u64) (.t 6)⟩, 
  ⟨(some 8), none, .call (.fn 41) [(.t 7), (.c (.s (.d (.int .i64 6))))]⟩, 
  ⟨(some 9), none, .bin .add (.c (.s (.d (.str [108, 101, 100])))) (.t 8)⟩, 
  ⟨(some 10), none, .mv (.t 1)⟩, 
  ⟨(some 11), none, .cv (.toInt .u64) (.t 10)⟩, 
  ⟨(some 12), none, .call (.fn 41) [(.t 11), (.c (.s (.d (.int .i64 3))))]⟩, 
  ⟨(some 13), none, .bin .add (.t 9) (.t 12)⟩, 
  ⟨(some 5), none, .mv (.t 13)⟩]
def c15r2 : List Opn := [
  ⟨(some 14), none, .mv (.t 5)⟩, 
  ⟨(some 15), none, .len .str (.t 14)⟩, 
  ⟨(some 16), none, .bin .lss (.t 15) (.c (.s (.d (.int .i64 128))))⟩]
def c15r3 : List Opn := [
  ⟨(some 17), none, .mv (.t 5)⟩, 
  ⟨(some 18), none, .bin .add (.t 17) (.c (.s (.d (.str [0]))))⟩, 
  ⟨(some 5), none, .mv (.t 18)⟩]
def c15l4 : C := .seq (.seq (.reg c15r2 none [5, 16]) (.cond (.t 16) (.skip) (.exit 0))) (.blk 1 (.reg c15r3 none [5]))
def c15r4 : List Opn := [
  ⟨(some 19), none, .mv (.t 5)⟩, 
  ⟨(some 4), none, .mv (.t 19)⟩]
def c15 : C := .seq (.reg c15r0 none [0, 1]) (.seq (.reg c15r1 none [5]) (.seq (.blk 0 (.loop c15l4)) (.seq (.reg c15r4 none [4]) (.ret))))
def k15 : List (Nat × List Nat) := [(4, [4]), (3, [5]), (2, [5, 16]), (1, [5]), (0, [0, 1])]
theorem cc15 : (Try.f15.body).bind (cC Try.prog 20 k15) = some c15 := by kernel_rfl
def rv15 : List RV := [.t 4]
theorem cr15 : cRVs Try.prog Try.f15.results.toList = some rv15 := by kernel_rfl
theorem f_ref10_Head_l4_ok (y_ : Str) (R_ : St → Prop) (hR : (Ret Try.prog glP [] rv15 (.b (.s (.d (.str y_))))) = R_) : ∀ (m_ : Nat) (s : Str) (res_ : Str) (h : f_ref10_Head_l4 m_ s = some res_) (k_ : List It) (hx : ∀ s_ : Str, res_ = s_ → W Try.prog glP 20 k_ ⟨lkT [(5, .b (.s (.d (.str s_))))], lkG []⟩ R_), W Try.prog glP 20 (.c c15l4 :: .lp c15l4 :: .blk 0 :: k_) ⟨lkT [(5, .b (.s (.d (.str s))))], lkG []⟩ R_ := by
  intro m_; induction m_ with
  | zero => intro s res_ h; rw [f_ref10_Head_l4_e1] at h; cases h
  | succ m_ ih =>
    intro s res_ h k_ hx; rw [f_ref10_Head_l4_e2] at h; refine W.cdef c15l4.eq_1 ?_
    refine .seq ?_
    refine .seq ?_
    refine Rw.walk ?_
    simp only [wz, wd, ws, seval, c15r2, semI.eq_10, semI.eq_11, semI.eq_3, semI.eq_5, semI.eq_7]
    refine .cond (p := (decide ((s.length : Int) < 128))) (by first | rfl | simp only [wz, wd, ws, seval]) (fun h1 => ?_) (fun h1 => ?_)
    · rw [ite_t h1] at h
      refine .skip ?_
      refine .blk ?_
      refine Rw.walk ?_
      obtain ⟨g5, h⟩ := gd_iff.1 h
      simp only [wz, wd, ws, seval, c15r3, semI.eq_10, semI.eq_11, semI.eq_3, semI.eq_5, semI.eq_7]
      repeat (refine And.intro ?_ ?_; · first | omega | (simp only [List.length_append, List.length_cons, List.length_nil] at *; omega) | (intro q; simp only [wz, wd, ws, seval, q]; done))
      refine .eblk ?_
      refine .lp ?_
      refine .weak (Imp.co [] _ _ ?_ ?_ ?_ ?_ ?_) (ih (s ++ ([0] : Str)) _ h k_ hx) <;> simp only [wz, wd, ws, seval, wi, er_nil]
    · rw [ite_f h1] at h
      refine .exit rfl ?_
      obtain rfl := Option.some.inj h
      refine .weak (Imp.co [] _ _ ?_ ?_ ?_ ?_ ?_) (hx _ rfl) <;> simp only [wz, wd, ws, seval, wi, er_nil]
theorem f_ref10_Head_ok (gen : Int) (used : Int) (y_ : Str) (h : f_ref10_Head gen used = some y_) : Fun Try.prog glP 15 [.b (.s (.d (.int .i64 gen))), .b (.s (.d (.int .i64 used)))] (.b (.s (.d (.str y_)))) := by
  refine fun_walk [] Try.func15 Try.ntmps15 cc15 cr15 (by kernel_rfl) (by simp only [List.length_cons, List.length_nil]; decide) ?_
  generalize hR : Ret _ _ _ _ _ = R_
  simp only [wz, wd, ws, seval]
  unfold f_ref10_Head at h; unfold c15
  refine .seq ?_
  refine Rw.walk ?_
  simp only [wz, wd, ws, seval, c15r0, semI.eq_10, semI.eq_11, semI.eq_3, semI.eq_5, semI.eq_7]
  refine .seq ?_
  refine Rw.walk ?_
  simp only [wz, wd, ws, seval, c15r1, semI.eq_10, semI.eq_11, semI.eq_3, semI.eq_5, semI.eq_7]
  obtain ⟨t, e1, h⟩ := Option.bind_eq_some_iff.1 h
  refine call_fun [] false ⟨trivial, trivial, trivial, trivial⟩ rfl ?_ (f_ref01_Wide_ok _ _ _ e1) (fun _ => rfl) (fun i hi => by cases hi) ?_
  · simp only [wz, wd, ws, seval]
  simp only [wz, wd, ws, seval, c15r1, semI.eq_10, semI.eq_11, semI.eq_3, semI.eq_5, semI.eq_7]
  obtain ⟨g2, h⟩ := gd_iff.1 h
  repeat (refine And.intro ?_ ?_; · first | omega | (simp only [List.length_append, List.length_cons, List.length_nil] at *; omega) | (intro q; simp only [wz, wd, ws, seval, q]; done))
  obtain ⟨t2, e3, h⟩ := Option.bind_eq_some_iff.1 h
  refine call_fun [] false ⟨trivial, trivial, trivial, trivial⟩ rfl ?_ (f_ref01_Wide_ok _ _ _ e3) (fun _ => rfl) (fun i hi => by cases hi) ?_
  · simp only [wz, wd, ws, seval]
  simp only [wz, wd, ws, seval, c15r1, semI.eq_10, semI.eq_11, semI.eq_3, semI.eq_5, semI.eq_7]
  obtain ⟨g4, h⟩ := gd_iff.1 h
  repeat (refine And.intro ?_ ?_; · first | omega | (simp only [List.length_append, List.length_cons, List.length_nil] at *; omega) | (intro q; simp only [wz, wd, ws, seval, q]; done))
  refine .seq ?_
  refine .blk ?_
  obtain ⟨s, hf, h⟩ := Option.bind_eq_some_iff.1 h
  refine .loop (.weak (Imp.co [] _ _ ?c1 ?c2 ?c3 ?c4 ?c5) (f_ref10_Head_l4_ok _ _ hR _ _ _ hf _ ?_))
  case c1 | c2 | c3 | c4 | c5 => simp only [wz, wd, ws, seval, wi, er_nil]
  · intro s_ hs; subst hs
    refine .seq ?_
    refine Rw.walk ?_
    simp only [wz, wd, ws, seval, c15r4, semI.eq_10, semI.eq_11, semI.eq_3, semI.eq_5, semI.eq_7]
    obtain rfl := Option.some.inj h
    refine .ret ?_
    rw [← hR]
    simp only [wz, wd, ws, seval, rv15]
-- 36 consignor/consignorref10.Gen
def c36r0 : List Opn := [
  ⟨(some 2), none, .box 2 (.t 0)⟩, 
  ⟨(some 4), none, .mv (.c (.s (.d (.int .i64 0))))⟩]
def c36r1 : List Opn := [
  ⟨(some 8), none, .fadr 0 (.t 2)⟩, 
  ⟨(some 9), none, .load false 1 (.t 8)⟩, 
  ⟨(some 10), none, .load true 2 (.t 2)⟩, 
  ⟨(some 11), none, .mv (.t 1)⟩, 
  ⟨(some 12), none, .call (.fn 29) [(.t 10), (.t 11)]⟩, 
  ⟨(some 13), none, .iadr (.sl 1) (.t 9) (.t 12)⟩, 
  ⟨(some 14), none, .load false 1 (.t 13)⟩, 
  ⟨(some 5), none, .mv (.t 14)⟩]
def c36r2 : List Opn := [
  ⟨(some 15), none, .mv (.t 5)⟩, 
  ⟨(some 16), none, .slc .str (.t 15) (some (.c (.s (.d (.int .i64 3))))) (some (.c (.s (.d (.int .i64 9))))) none⟩, 
  ⟨(some 17), none, .call (.fn 55) [(.t 16)]⟩, 
  ⟨(some 6), none, .mv (.t 17)⟩]
def c36r3 : List Opn := [
  ⟨(some 18), none, .mv (.t 5)⟩, 
  ⟨(some 19), none, .slc .str (.t 18) (some (.c (.s (.d (.int .i64 9))))) (some (.c (.s (.d (.int .i64 12))))) none⟩, 
  ⟨(some 20), none, .call (.fn 55) [(.t 19)]⟩, 
  ⟨(some 7), none, .mv (.t 20)⟩]
def c36r4 : List Opn := [
  ⟨(some 21), none, .mv (.t 6)⟩, 
  ⟨(some 22), none, .bin .lss (.t 21) (.c (.s (.d (.int .u64 1))))⟩, 
  ⟨(some 23), none, .mv (.t 22)⟩, 
  ⟨(some 24), some (23, false), .mv (.t 6)⟩, 
  ⟨(some 25), some (23, false), .bin .gtr (.t 24) (.c (.s (.d (.int .u64 1099511627776))))⟩, 
  ⟨(some 26), none, .pick (.t 23) (.c (.s (.d (.bool true)))) (.t 25)⟩, 
  ⟨(some 27), none, .mv (.t 26)⟩, 
  ⟨(some 28), some (27, false), .mv (.t 7)⟩, 
  ⟨(some 29), some (27, false), .load true 2 (.t 2)⟩, 
  ⟨(some 30), some (27, false), .mv (.t 1)⟩, 
  ⟨(some 31), some (27, false), .call (.fn 25) [(.t 29), (.t 30)]⟩, 
  ⟨(some 32), some (27, false), .len .str (.t 31)⟩, 
  ⟨(some 33), some (27, false), .cv (.toInt .u64) (.t 32)⟩, 
  ⟨(some 34), some (27, false), .bin .gtr (.t 28) (.t 33)⟩, 
  ⟨(some 35), none, .pick (.t 27) (.c (.s (.d (.bool true)))) (.t 34)⟩, 
  ⟨(some 36), none, .mv (.t 35)⟩, 
  ⟨(some 37), some (36, false), .mv (.t 6)⟩, 
  ⟨(some 38), some (36, false), .cv (.toInt .i64) (.t 37)⟩, 
  ⟨(some 39), some (36, false), .mv (.t 7)⟩, 
  ⟨(some 40), some (36, false), .cv (.toInt .i64) (.t 39)⟩, 
  ⟨(some 41), some (36, false), .call (.fn 15) [(.t 38), (.t 40)]⟩, 
  ⟨(some 42), some (36, false), .mv (.t 5)⟩, 
  ⟨(some 43), some (36, false), .bin .neq (.t 41) (.t 42)⟩, 
  ⟨(some 44), none, .pick (.t 36) (.c (.s (.d (.bool true)))) (.t 43)⟩]
def c36r5 : List Opn := [
  ⟨(some 4), none, .mv (.c (.s (.d (.int .i64 0))))⟩]
def c36r6 : List Opn := [
  ⟨(some 45), none, .mv (.t 6)⟩, 
  ⟨(some 46), none, .cv (.toInt .i64) (.t 45)⟩, 
  ⟨(some 4), none, .mv (.t 46)⟩]
def c36 : C := .seq (.reg c36r0 none [1, 2]) (.seq (.reg c36r1 (some [0, 1, 0, 0, 12, 31, 63, 127]) [1, 2, 5]) (.seq (.reg c36r2 none [1, 2, 5, 6]) (.seq (.reg c36r3 none [1, 2, 5, 6, 7]) (.seq (.seq (.reg c36r4 none [6, 44]) (.cond (.t 44) (.seq (.reg c36r5 none [4]) (.ret)) (.skip))) (.seq (.reg c36r6 none [4]) (.ret))))))
def k36 : List (Nat × List Nat) := [(6, [4]), (5, [4]), (4, [6, 44]), (3, [1, 2, 5, 6, 7]), (2, [1, 2, 5, 6]), (1, [1, 2, 5]), (0, [1, 2])]
theorem cc36 : (Try.f36.body).bind (cC Try.prog 47 k36) = some c36 := by kernel_rfl
def rv36 : List RV := [.t 4]
theorem cr36 : cRVs Try.prog Try.f36.results.toList = some rv36 := by kernel_rfl
theorem f_ref10_Gen_ok (d : api_Disk) (half : Int) (y_ : Int) (h : f_ref10_Gen d half = some y_) : Fun Try.prog glP 36 [.b (.agg ((e_api_Disk d).map Lc.d)), .b (.s (.d (.int .i64 half)))] (.b (.s (.d (.int .i64 y_)))) := by
  refine fun_walk [] Try.func36 Try.ntmps36 cc36 cr36 (by kernel_rfl) (by simp only [List.length_cons, List.length_nil]; decide) ?_
  generalize hR : Ret _ _ _ _ _ = R_
  simp only [wz, wd, ws, seval, e_api_Disk, e_api_Write]
  unfold f_ref10_Gen at h; unfold c36
  refine .seq ?_
  refine Rw.walk ?_
  simp only [wz, wd, ws, seval, c36r0, semI.eq_10, semI.eq_11, semI.eq_3, semI.eq_5, semI.eq_7, e_api_Disk, e_api_Write]
  refine .seq ?_
  refine RwD.walk ?_
  simp only [wz, wd, ws, seval, c36r1, semI.eq_10, semI.eq_11, semI.eq_3, semI.eq_5, semI.eq_7, e_api_Disk, e_api_Write]
  obtain ⟨t, e1, h⟩ := Option.bind_eq_some_iff.1 h
  refine call_fun [] false ⟨trivial, trivial, trivial, trivial⟩ rfl ?_ (f_ref10_At_ok _ _ _ e1) (fun _ => rfl) (fun i hi => by cases hi) ?_
  · simp only [wz, wd, ws, seval, e_api_Disk, e_api_Write]
  simp only [wz, wd, ws, seval, c36r1, semI.eq_10, semI.eq_11, semI.eq_3, semI.eq_5, semI.eq_7, e_api_Disk, e_api_Write]
  obtain ⟨x, e2, h⟩ := Option.bind_eq_some_iff.1 h
  refine GoD1.of (sem_iadr eS_len e2 (by rfl) (by rfl)) ?_
  simp only [wz, wd, ws, seval, c36r1, semI.eq_10, semI.eq_11, semI.eq_3, semI.eq_5, semI.eq_7, e_api_Disk, e_api_Write]
  refine .seq ?_
  refine Rw.walk ?_
  obtain ⟨g3, h⟩ := gd_iff.1 h
  simp only [wz, wd, ws, seval, c36r2, semI.eq_10, semI.eq_11, semI.eq_3, semI.eq_5, semI.eq_7, e_api_Disk, e_api_Write]
  repeat (refine And.intro ?_ ?_; · first | omega | (simp only [List.length_append, List.length_cons, List.length_nil] at *; omega) | (intro q; simp only [wz, wd, ws, seval, q]; done))
  obtain ⟨t2, e4, h⟩ := Option.bind_eq_some_iff.1 h
  refine call_fun [] false ⟨trivial, trivial, trivial⟩ rfl ?_ (f_ref01_Whole_ok _ _ e4) (fun _ => rfl) (fun i hi => by cases hi) ?_
  · simp only [wz, wd, ws, seval, e_api_Disk, e_api_Write]
  simp only [wz, wd, ws, seval, c36r2, semI.eq_10, semI.eq_11, semI.eq_3, semI.eq_5, semI.eq_7, e_api_Disk, e_api_Write]
  refine .seq ?_
  refine Rw.walk ?_
  obtain ⟨g5, h⟩ := gd_iff.1 h
  simp only [wz, wd, ws, seval, c36r3, semI.eq_10, semI.eq_11, semI.eq_3, semI.eq_5, semI.eq_7, e_api_Disk, e_api_Write]
  repeat (refine And.intro ?_ ?_; · first | omega | (simp only [List.length_append, List.length_cons, List.length_nil] at *; omega) | (intro q; simp only [wz, wd, ws, seval, q]; done))
  obtain ⟨t3, e6, h⟩ := Option.bind_eq_some_iff.1 h
  refine call_fun [] false ⟨trivial, trivial, trivial⟩ rfl ?_ (f_ref01_Whole_ok _ _ e6) (fun _ => rfl) (fun i hi => by cases hi) ?_
  · simp only [wz, wd, ws, seval, e_api_Disk, e_api_Write]
  simp only [wz, wd, ws, seval, c36r3, semI.eq_10, semI.eq_11, semI.eq_3, semI.eq_5, semI.eq_7, e_api_Disk, e_api_Write]
  refine .seq ?_
  refine .seq ?_
  refine Rw.walk ?_
  simp only [wz, wd, ws, seval, c36r4, semI.eq_10, semI.eq_11, semI.eq_3, semI.eq_5, semI.eq_7, e_api_Disk, e_api_Write]
  repeat (refine And.intro ?_ ?_; · first | omega | (simp only [List.length_append, List.length_cons, List.length_nil] at *; omega) | (intro q; simp only [wz, wd, ws, seval, q]; done))
  refine call_alt (v := .b (.agg [(.d (.sl (d.Sectors.map eS))), (.d (.sl (d.Dirty.map e_api_Write)))])) rfl rfl (by simp only [wz, wd, ws, seval]) (fun q => ⟨_, by simp only [wz, wd, ws, seval, semI.eq_10, e_api_Disk, e_api_Write], trivial⟩) ?_
  simp only [wz, wd, ws, seval, c36r4, semI.eq_10, semI.eq_11, semI.eq_3, semI.eq_5, semI.eq_7, e_api_Disk, e_api_Write]
  obtain ⟨t4, e7, h⟩ := Option.bind_eq_some_iff.1 h
  refine call_funG [] rfl (by simp only [wz, wd, ws, seval]) rfl ?_ (fun q => (f_ref10_Room_ok _ _ _ (gx_iff e7 (by simpa using q)))) rfl (fun i hi => by cases hi) ?_
  · simp only [wz, wd, ws, seval, e_api_Disk, e_api_Write]
  simp only [wz, wd, ws, seval, c36r4, semI.eq_10, semI.eq_11, semI.eq_3, semI.eq_5, semI.eq_7, e_api_Disk, e_api_Write]
  repeat (refine And.intro ?_ ?_; · first | omega | (simp only [List.length_append, List.length_cons, List.length_nil] at *; omega) | (intro q; simp only [wz, wd, ws, seval, q]; done))
  obtain ⟨t5, e8, h⟩ := Option.bind_eq_some_iff.1 h
  refine call_funG [] rfl (by simp only [wz, wd, ws, seval]) rfl ?_ (fun q => (f_ref10_Head_ok _ _ _ (gx_iff e8 (by simpa using q)))) rfl (fun i hi => by cases hi) ?_
  · simp only [wz, wd, ws, seval, e_api_Disk, e_api_Write]
  simp only [wz, wd, ws, seval, c36r4, semI.eq_10, semI.eq_11, semI.eq_3, semI.eq_5, semI.eq_7, e_api_Disk, e_api_Write]
  repeat (refine And.intro ?_ ?_; · first | omega | (simp only [List.length_append, List.length_cons, List.length_nil] at *; omega) | (intro q; simp only [wz, wd, ws, seval, q]; done))
  refine .cond (p := ((((decide (t2 < 1)) || (decide (t2 > 1099511627776))) || (decide (t3 > (IntKind.u64.wrap (t4.length : Int))))) || (!(t5 == x)))) (by first | rfl | simp only [wz, wd, ws, seval]) (fun h1 => ?_) (fun h1 => ?_)
  · rw [ite_t h1] at h
    refine .seq ?_
    refine Rw.walk ?_
    simp only [wz, wd, ws, seval, c36r5, semI.eq_10, semI.eq_11, semI.eq_3, semI.eq_5, semI.eq_7, e_api_Disk, e_api_Write]
    obtain rfl := Option.some.inj h
    refine .ret ?_
    rw [← hR]
    simp only [wz, wd, ws, seval, rv36, e_api_Disk, e_api_Write]
  · rw [ite_f h1] at h
    refine .skip ?_
    refine .seq ?_
    refine Rw.walk ?_
    simp only [wz, wd, ws, seval, c36r6, semI.eq_10, semI.eq_11, semI.eq_3, semI.eq_5, semI.eq_7, e_api_Disk, e_api_Write]
    obtain rfl := Option.some.inj h
    refine .ret ?_
    rw [← hR]
    simp only [wz, wd, ws, seval, rv36, e_api_Disk, e_api_Write]
-- 37 consignor/consignorref10.Used
def c37r0 : List Opn := [
  ⟨(some 2), none, .box 2 (.t 0)⟩, 
  ⟨(some 4), none, .mv (.c (.s (.d (.int .i64 0))))⟩]
def c37r1 : List Opn := [
  ⟨(some 6), none, .fadr 0 (.t 2)⟩, 
  ⟨(some 7), none, .load false 1 (.t 6)⟩, 
  ⟨(some 8), none, .load true 2 (.t 2)⟩, 
  ⟨(some 9), none, .mv (.t 1)⟩, 
  ⟨(some 10), none, .call (.fn 29) [(.t 8), (.t 9)]⟩, 
  ⟨(some 11), none, .iadr (.sl 1) (.t 7) (.t 10)⟩, 
  ⟨(some 12), none, .load false 1 (.t 11)⟩, 
  ⟨(some 5), none, .mv (.t 12)⟩]
def c37r2 : List Opn := [
  ⟨(some 13), none, .mv (.t 5)⟩, 
  ⟨(some 14), none, .slc .str (.t 13) (some (.c (.s (.d (.int .i64 9))))) (some (.c (.s (.d (.int .i64 12))))) none⟩, 
  ⟨(some 15), none, .call (.fn 55) [(.t 14)]⟩, 
  ⟨(some 16), none, .cv (.toInt .i64) (.t 15)⟩, 
  ⟨(some 4), none, .mv (.t 16)⟩]
def c37 : C := .seq (.reg c37r0 none [1, 2]) (.seq (.reg c37r1 (some [0, 1, 0, 0, 12, 31, 63, 127]) [5]) (.seq (.reg c37r2 none [4]) (.ret)))
def k37 : List (Nat × List Nat) := [(2, [4]), (1, [5]), (0, [1, 2])]
theorem cc37 : (Try.f37.body).bind (cC Try.prog 17 k37) = some c37 := by kernel_rfl
def rv37 : List RV := [.t 4]
theorem cr37 : cRVs Try.prog Try.f37.results.toList = some rv37 := by kernel_rfl
theorem f_ref10_Used_ok (d : api_Disk) (half : Int) (y_ : Int) (h : f_ref10_Used d half = some y_) : Fun Try.prog glP 37 [.b (.agg ((e_api_Disk d).map Lc.d)), .b (.s (.d (.int .i64 half)))] (.b (.s (.d (.int .i64 y_)))) := by
  refine fun_walk [] Try.func37 Try.ntmps37 cc37 cr37 (by kernel_rfl) (by simp only [List.length_cons, List.length_nil]; decide) ?_
  generalize hR : Ret _ _ _ _ _ = R_
  simp only [wz, wd, ws, seval, e_api_Disk, e_api_Write]
  unfold f_ref10_Used at h; unfold c37
  refine .seq ?_
  refine Rw.walk ?_
  simp only [wz, wd, ws, seval, c37r0, semI.eq_10, semI.eq_11, semI.eq_3, semI.eq_5, semI.eq_7, e_api_Disk, e_api_Write]
  refine .seq ?_
  refine RwD.walk ?_
  simp only [wz, wd, ws, seval, c37r1, semI.eq_10, semI.eq_11, semI.eq_3, semI.eq_5, semI.eq_7, e_api_Disk, e_api_Write]
  obtain ⟨t, e1, h⟩ := Option.bind_eq_some_iff.1 h
  refine call_fun [] false ⟨trivial, trivial, trivial, trivial⟩ rfl ?_ (f_ref10_At_ok _ _ _ e1) (fun _ => rfl) (fun i hi => by cases hi) ?_
  · simp only [wz, wd, ws, seval, e_api_Disk, e_api_Write]
  simp only [wz, wd, ws, seval, c37r1, semI.eq_10, semI.eq_11, semI.eq_3, semI.eq_5, semI.eq_7, e_api_Disk, e_api_Write]
  obtain ⟨x, e2, h⟩ := Option.bind_eq_some_iff.1 h
  refine GoD1.of (sem_iadr eS_len e2 (by rfl) (by rfl)) ?_
  simp only [wz, wd, ws, seval, c37r1, semI.eq_10, semI.eq_11, semI.eq_3, semI.eq_5, semI.eq_7, e_api_Disk, e_api_Write]
  refine .seq ?_
  refine Rw.walk ?_
  obtain ⟨g3, h⟩ := gd_iff.1 h
  simp only [wz, wd, ws, seval, c37r2, semI.eq_10, semI.eq_11, semI.eq_3, semI.eq_5, semI.eq_7, e_api_Disk, e_api_Write]
  repeat (refine And.intro ?_ ?_; · first | omega | (simp only [List.length_append, List.length_cons, List.length_nil] at *; omega) | (intro q; simp only [wz, wd, ws, seval, q]; done))
  obtain ⟨t2, e4, h⟩ := Option.bind_eq_some_iff.1 h
  refine call_fun [] false ⟨trivial, trivial, trivial⟩ rfl ?_ (f_ref01_Whole_ok _ _ e4) (fun _ => rfl) (fun i hi => by cases hi) ?_
  · simp only [wz, wd, ws, seval, e_api_Disk, e_api_Write]
  simp only [wz, wd, ws, seval, c37r2, semI.eq_10, semI.eq_11, semI.eq_3, semI.eq_5, semI.eq_7, e_api_Disk, e_api_Write]
  obtain rfl := Option.some.inj h
  refine .ret ?_
  rw [← hR]
  simp only [wz, wd, ws, seval, rv37, e_api_Disk, e_api_Write]
-- 38 consignor/consignorref10.Entries
def c38r0 : List Opn := [
  ⟨(some 2), none, .mv (.c (.s .nils))⟩, 
  ⟨(some 3), none, .mv (.c (.s (.d (.bool false))))⟩]
def c38r1 : List Opn := [
  ⟨(some 7), none, .bsl 1 []⟩, 
  ⟨(some 4), none, .mv (.t 7)⟩]
def c38r2 : List Opn := [
  ⟨(some 5), none, .mv (.c (.s (.d (.int .i64 0))))⟩]
def c38r3 : List Opn := [
  ⟨(some 8), none, .mv (.t 5)⟩, 
  ⟨(some 9), none, .mv (.t 0)⟩, 
  ⟨(some 10), none, .len .str (.t 9)⟩, 
  ⟨(some 11), none, .bin .lss (.t 8) (.t 10)⟩]
def c38r4 : List Opn := [
  ⟨(some 12), none, .mv (.t 0)⟩, 
  ⟨(some 13), none, .len .str (.t 12)⟩, 
  ⟨(some 14), none, .mv (.t 5)⟩, 
  ⟨(some 15), none, .bin .sub (.t 13) (.t 14)⟩, 
  ⟨(some 16), none, .bin .lss (.t 15) (.c (.s (.d (.int .i64 2))))⟩]
def c38r5 : List Opn := [
  ⟨(some 2), none, .mv (.c (.s .nils))⟩, 
  ⟨(some 3), none, .mv (.c (.s (.d (.bool false))))⟩]
def c38r6 : List Opn := [
  ⟨(some 17), none, .mv (.t 0)⟩, 
  ⟨(some 18), none, .mv (.t 5)⟩, 
  ⟨(some 19), none, .mv (.t 5)⟩, 
  ⟨(some 20), none, .bin .add (.t 19) (.c (.s (.d (.int .i64 2))))⟩, 
  ⟨(some 21), none, .slc .str (.t 17) (some (.t 18)) (some (.t 20)) none⟩, 
  ⟨(some 22), none, .call (.fn 55) [(.t 21)]⟩, 
  ⟨(some 23), none, .cv (.toInt .i64) (.t 22)⟩, 
  ⟨(some 6), none, .mv (.t 23)⟩]
def c38r7 : List Opn := [
  ⟨(some 24), none, .mv (.t 6)⟩, 
  ⟨(some 25), none, .bin .gtr (.t 24) (.c (.s (.d (.int .i64 4096))))⟩, 
  ⟨(some 26), none, .mv (.t 25)⟩, 
  ⟨(some 27), some (26, false), .mv (.t 6)⟩, 
  ⟨(some 28), some (26, false), .mv (.t 0)⟩, 
  ⟨(some 29), some (26, false), .len .str (.t 28)⟩, 
  ⟨(some 30), some (26, false), .mv (.t 5)⟩, 
  ⟨(some 31), some (26, false), .bin .sub (.t 29) (.t 30)⟩, 
  ⟨(some 32), some (26, false), .bin .sub (.t 31) (.c (.s (.d (.int .i64 2))))⟩, 
  ⟨(some 33), some (26, false), .bin .gtr (.t 27) (.t 32)⟩, 
  ⟨(some 34), none, .pick (.t 26) (.c (.s (.d (.bool true)))) (.t 33)⟩]
def c38r8 : List Opn := [
  ⟨(some 2), none, .mv (.c (.s .nils))⟩, 
  ⟨(some 3), none, .mv (.c (.s (.d (.bool false))))⟩]
def c38r9 : List Opn := [
  ⟨(some 35), none, .mv (.t 4)⟩, 
  ⟨(some 36), none, .mv (.t 0)⟩, 
  ⟨(some 37), none, .mv (.t 5)⟩, 
  ⟨(some 38), none, .bin .add (.t 37) (.c (.s (.d (.int .i64 2))))⟩, 
  ⟨(some 39), none, .mv (.t 5)⟩, 
  ⟨(some 40), none, .bin .add (.t 39) (.c (.s (.d (.int .i64 2))))⟩, 
  ⟨(some 41), none, .mv (.t 6)⟩, 
  ⟨(some 42), none, .bin .add (.t 40) (.t 41)⟩, 
  ⟨(some 43), none, .slc .str (.t 36) (some (.t 38)) (some (.t 42)) none⟩, 
  ⟨(some 44), none, .bsl 1 [(.t 43)]⟩, 
  ⟨(some 45), none, .app 1 16 false (.t 35) (.t 44)⟩, 
  ⟨(some 4), none, .mv (.t 45)⟩]
def c38r10 : List Opn := [
  ⟨(some 46), none, .mv (.t 5)⟩, 
  ⟨(some 47), none, .bin .add (.t 46) (.c (.s (.d (.int .i64 2))))⟩, 
  ⟨(some 48), none, .mv (.t 6)⟩, 
  ⟨(some 49), none, .bin .add (.t 47) (.t 48)⟩, 
  ⟨(some 5), none, .mv (.t 49)⟩]
def c38l11 : C := .seq (.seq (.reg c38r3 none [0, 4, 5, 11]) (.cond (.t 11) (.skip) (.exit 0))) (.blk 1 (.seq (.seq (.reg c38r4 none [0, 4, 5, 16]) (.cond (.t 16) (.seq (.reg c38r5 none [2, 3]) (.ret)) (.skip))) (.seq (.reg c38r6 none [0, 4, 5, 6]) (.seq (.seq (.reg c38r7 none [0, 4, 5, 6, 34]) (.cond (.t 34) (.seq (.reg c38r8 none [2, 3]) (.ret)) (.skip))) (.seq (.reg c38r9 none [0, 4, 5, 6]) (.reg c38r10 none [0, 4, 5]))))))
def c38r11 : List Opn := [
  ⟨(some 50), none, .mv (.t 4)⟩, 
  ⟨(some 2), none, .mv (.t 50)⟩, 
  ⟨(some 3), none, .mv (.c (.s (.d (.bool true))))⟩]
def c38 : C := .seq (.reg c38r0 none [0]) (.seq (.reg c38r1 none [0, 4]) (.seq (.reg c38r2 none [0, 4, 5]) (.seq (.blk 0 (.loop c38l11)) (.seq (.reg c38r11 none [2, 3]) (.ret)))))
def k38 : List (Nat × List Nat) := [(11, [2, 3]), (10, [0, 4, 5]), (9, [0, 4, 5, 6]), (8, [2, 3]), (7, [0, 4, 5, 6, 34]), (6, [0, 4, 5, 6]), (5, [2, 3]), (4, [0, 4, 5, 16]), (3, [0, 4, 5, 11]), (2, [0, 4, 5]), (1, [0, 4]), (0, [0])]
theorem cc38 : (Try.f38.body).bind (cC Try.prog 51 k38) = some c38 := by kernel_rfl
def rv38 : List RV := [.t 2, .t 3]
theorem cr38 : cRVs Try.prog Try.f38.results.toList = some rv38 := by kernel_rfl
theorem f_ref10_Entries_l11_ok (s : Str) (y_ : (List Str) × Bool) (R_ : St → Prop) (hR : (Ret Try.prog glP [7] rv38 (.tup [.s (.d (.sl (y_.1.map eS))), .s (.d (.bool y_.2))])) = R_) : ∀ (m_ : Nat) (atv : Int) (out : (List Str)) (res_ : (Int × (List Str)) ⊕ ((List Str) × Bool)) (h : f_ref10_Entries_l11 s m_ atv out = some res_) (k_ : List It) (hx : ∀ s_ : Int × (List Str), res_ = .inl s_ → W Try.prog glP 51 k_ ⟨lkT [(0, .b (.s (.d (.str s)))), (4, .b (.s (.own 7 s_.2.length))), (5, .b (.s (.d (.int .i64 s_.1))))], lkG [(7, ⟨1, er eS s_.2, false⟩)]⟩ R_) (hr : ∀ z_ : (List Str) × Bool, res_ = .inr z_ → z_ = y_), W Try.prog glP 51 (.c c38l11 :: .lp c38l11 :: .blk 0 :: k_) ⟨lkT [(0, .b (.s (.d (.str s)))), (4, .b (.s (.own 7 out.length))), (5, .b (.s (.d (.int .i64 atv))))], lkG [(7, ⟨1, er eS out, false⟩)]⟩ R_ := by
  intro m_; induction m_ with
  | zero => intro atv out res_ h; rw [f_ref10_Entries_l11.eq_1] at h; cases h
  | succ m_ ih =>
    intro atv out res_ h k_ hx hr; rw [f_ref10_Entries_l11.eq_2] at h; refine W.cdef c38l11.eq_1 ?_
    refine .seq ?_
    refine .seq ?_
    refine Rw.walk ?_
    simp only [wz, wd, ws, seval, c38r3, semI.eq_10, semI.eq_11, semI.eq_3, semI.eq_5, semI.eq_7]
    refine .cond (p := (decide (atv < (s.length : Int)))) (by first | rfl | simp only [wz, wd, ws, seval]) (fun h1 => ?_) (fun h1 => ?_)
    · rw [ite_t h1] at h
      refine .skip ?_
      refine .blk ?_
      refine .seq ?_
      refine .seq ?_
      refine Rw.walk ?_
      simp only [wz, wd, ws, seval, c38r4, semI.eq_10, semI.eq_11, semI.eq_3, semI.eq_5, semI.eq_7]
      refine .cond (p := (decide ((IntKind.i64.wrap ((s.length : Int) - atv)) < 2))) (by first | rfl | simp only [wz, wd, ws, seval]) (fun h1 => ?_) (fun h1 => ?_)
      · rw [ite_t h1] at h
        refine .seq ?_
        refine Rw.walk ?_
        simp only [wz, wd, ws, seval, c38r5, semI.eq_10, semI.eq_11, semI.eq_3, semI.eq_5, semI.eq_7]
        obtain rfl := Option.some.inj h; obtain rfl := hr _ rfl
        refine .ret ?_
        rw [← hR]
        simp only [wz, wd, ws, seval, rv38]
      · rw [ite_f h1] at h
        refine .skip ?_
        refine .seq ?_
        refine Rw.walk ?_
        obtain ⟨g1, h⟩ := gd_iff.1 h
        simp only [wz, wd, ws, seval, c38r6, semI.eq_10, semI.eq_11, semI.eq_3, semI.eq_5, semI.eq_7]
        repeat (refine And.intro ?_ ?_; · first | omega | (simp only [List.length_append, List.length_cons, List.length_nil] at *; omega) | (intro q; simp only [wz, wd, ws, seval, q]; done))
        obtain ⟨t, e2, h⟩ := Option.bind_eq_some_iff.1 h
        refine call_fun [] false ⟨trivial, trivial, trivial⟩ rfl ?_ (f_ref01_Whole_ok _ _ e2) (fun _ => rfl) (fun i hi => by cases hi) ?_
        · simp only [wz, wd, ws, seval]
        simp only [wz, wd, ws, seval, c38r6, semI.eq_10, semI.eq_11, semI.eq_3, semI.eq_5, semI.eq_7]
        refine .seq ?_
        refine .seq ?_
        refine Rw.walk ?_
        simp only [wz, wd, ws, seval, c38r7, semI.eq_10, semI.eq_11, semI.eq_3, semI.eq_5, semI.eq_7]
        repeat (refine And.intro ?_ ?_; · first | omega | (simp only [List.length_append, List.length_cons, List.length_nil] at *; omega) | (intro q; simp only [wz, wd, ws, seval, q]; done))
        refine .cond (p := ((decide ((IntKind.i64.wrap t) > 4096)) || (decide ((IntKind.i64.wrap t) > (IntKind.i64.wrap ((IntKind.i64.wrap ((s.length : Int) - atv)) - 2)))))) (by first | rfl | simp only [wz, wd, ws, seval]) (fun h1 => ?_) (fun h1 => ?_)
        · rw [ite_t h1] at h
          refine .seq ?_
          refine Rw.walk ?_
          simp only [wz, wd, ws, seval, c38r8, semI.eq_10, semI.eq_11, semI.eq_3, semI.eq_5, semI.eq_7]
          obtain rfl := Option.some.inj h; obtain rfl := hr _ rfl
          refine .ret ?_
          rw [← hR]
          simp only [wz, wd, ws, seval, rv38]
        · rw [ite_f h1] at h
          refine .skip ?_
          refine .seq ?_
          refine Rw.walk ?_
          obtain ⟨g3, h⟩ := gd_iff.1 h
          simp only [wz, wd, ws, seval, c38r9, semI.eq_10, semI.eq_11, semI.eq_3, semI.eq_5, semI.eq_7]
          repeat (refine And.intro ?_ ?_; · first | omega | (simp only [List.length_append, List.length_cons, List.length_nil] at *; omega) | (intro q; simp only [wz, wd, ws, seval, q]; done))
          refine Go1.of (sem_bsl (enc := eS) (m := ([(cut s (IntKind.i64.wrap (atv + 2)) (IntKind.i64.wrap ((IntKind.i64.wrap (atv + 2)) + (IntKind.i64.wrap t))))] : List Str)) eS_len (by rfl) (by rfl) (by rfl) ⟨trivial, trivial⟩) ?_
          simp only [wz, wd, ws, seval, c38r9, semI.eq_10, semI.eq_11, semI.eq_3, semI.eq_5, semI.eq_7]
          obtain ⟨g4, h⟩ := gd_iff.1 h
          refine Go1.of (sem_app (enc := eS) (l := out) (m := ([(cut s (IntKind.i64.wrap (atv + 2)) (IntKind.i64.wrap ((IntKind.i64.wrap (atv + 2)) + (IntKind.i64.wrap t))))] : List Str)) eS_len (by rfl) (by rfl) (newV_own (m := ([(cut s (IntKind.i64.wrap (atv + 2)) (IntKind.i64.wrap ((IntKind.i64.wrap (atv + 2)) + (IntKind.i64.wrap t))))] : List Str)) (by rfl) (by rfl))) ?_
          simp only [wz, wd, ws, seval, c38r9, semI.eq_10, semI.eq_11, semI.eq_3, semI.eq_5, semI.eq_7]
          repeat (refine And.intro ?_ ?_; · first | omega | (simp only [List.length_append, List.length_cons, List.length_nil] at *; omega) | (intro q; simp only [wz, wd, ws, seval, q]; done))
          refine Rw.walk ?_
          simp only [wz, wd, ws, seval, c38r10, semI.eq_10, semI.eq_11, semI.eq_3, semI.eq_5, semI.eq_7]
          refine .eblk ?_
          refine .lp ?_
          refine .weak (Imp.co [] _ _ ?_ ?_ ?_ ?_ ?_) (ih (IntKind.i64.wrap ((IntKind.i64.wrap (atv + 2)) + (IntKind.i64.wrap t))) (out ++ ([(cut s (IntKind.i64.wrap (atv + 2)) (IntKind.i64.wrap ((IntKind.i64.wrap (atv + 2)) + (IntKind.i64.wrap t))))] : List Str)) _ h k_ hx hr) <;> simp only [wz, wd, ws, seval, wi, er_nil]
    · rw [ite_f h1] at h
      refine .exit rfl ?_
      obtain rfl := Option.some.inj h
      refine .weak (Imp.co [] _ _ ?_ ?_ ?_ ?_ ?_) (hx _ rfl) <;> simp only [wz, wd, ws, seval, wi, er_nil]
theorem f_ref10_Entries_ok (s : Str) (y_ : (List Str) × Bool) (h : f_ref10_Entries s = some y_) : Fun Try.prog glP 38 [.b (.s (.d (.str s)))] (.tup [.s (.d (.sl (y_.1.map eS))), .s (.d (.bool y_.2))]) := by
  refine fun_walk [7] Try.func38 Try.ntmps38 cc38 cr38 (by kernel_rfl) (by simp only [List.length_cons, List.length_nil]; decide) ?_
  generalize hR : Ret _ _ _ _ _ = R_
  simp only [wz, wd, ws, seval]
  unfold f_ref10_Entries at h; unfold c38
  refine .seq ?_
  refine Rw.walk ?_
  simp only [wz, wd, ws, seval, c38r0, semI.eq_10, semI.eq_11, semI.eq_3, semI.eq_5, semI.eq_7]
  refine .seq ?_
  refine Rw.walk ?_
  simp only [wz, wd, ws, seval, c38r1, semI.eq_10, semI.eq_11, semI.eq_3, semI.eq_5, semI.eq_7]
  refine Go1.of (sem_bsl (enc := eS) (m := ([] : List Str)) eS_len (by rfl) (by rfl) (by rfl) trivial) ?_
  simp only [wz, wd, ws, seval, c38r1, semI.eq_10, semI.eq_11, semI.eq_3, semI.eq_5, semI.eq_7]
  refine .seq ?_
  refine Rw.walk ?_
  simp only [wz, wd, ws, seval, c38r2, semI.eq_10, semI.eq_11, semI.eq_3, semI.eq_5, semI.eq_7]
  refine .seq ?_
  refine .blk ?_
  obtain ⟨s2, hf, h⟩ := Option.bind_eq_some_iff.1 h
  refine .loop (.weak (Imp.co [] _ _ ?c1 ?c2 ?c3 ?c4 ?c5) (f_ref10_Entries_l11_ok s _ _ hR _ _ _ _ hf _ ?_ ?_))
  case c1 | c2 | c3 | c4 | c5 => simp only [wz, wd, ws, seval, wi, er_nil]
  · intro s3 hs; subst hs; dsimp only at h
    refine .seq ?_
    refine Rw.walk ?_
    simp only [wz, wd, ws, seval, c38r11, semI.eq_10, semI.eq_11, semI.eq_3, semI.eq_5, semI.eq_7]
    obtain rfl := Option.some.inj h
    refine .ret ?_
    rw [← hR]
    simp only [wz, wd, ws, seval, rv38]
  · intro z hz; subst hz; dsimp only at h
    exact Option.some.inj h
-- 11 consignor/consignorref10.Open
def c11r0 : List Opn := [
  ⟨(some 1), none, .box 2 (.t 0)⟩, 
  ⟨(some 2), none, .new [.nils, .nils, (.d (.int .i64 0)), (.d (.int .i64 0)), (.d (.int .i64 0)), .nils]⟩, 
  ⟨(some 3), none, .mv (.c (.s (.d (.int .i64 0))))⟩]
def c11r1 : List Opn := [
  ⟨(some 9), none, .load true 2 (.t 1)⟩, 
  ⟨(some 10), none, .build [.nils, .nils, (.d (.int .i64 0)), (.d (.int .i64 0)), (.d (.int .i64 0)), .nils] [(0, 2, (.t 9))]⟩, 
  ⟨(some 4), none, .new [.nils, .nils, (.d (.int .i64 0)), (.d (.int .i64 0)), (.d (.int .i64 0)), .nils]⟩, 
  ⟨none, none, .store 6 (.t 4) (.t 10)⟩]
def c11r2 : List Opn := [
  ⟨(some 11), none, .load true 2 (.t 1)⟩, 
  ⟨(some 12), none, .call (.fn 35) [(.t 11)]⟩, 
  ⟨(some 13), none, .un .not (.t 12)⟩, 
  ⟨(some 14), none, .mv (.t 13)⟩, 
  ⟨(some 15), some (14, false), .fadr 1 (.t 1)⟩, 
  ⟨(some 16), some (14, false), .load false 1 (.t 15)⟩, 
  ⟨(some 17), some (14, false), .len (.sl 0) (.t 16)⟩, 
  ⟨(some 18), some (14, false), .bin .gtr (.t 17) (.c (.s (.d (.int .i64 0))))⟩, 
  ⟨(some 19), none, .pick (.t 14) (.c (.s (.d (.bool true)))) (.t 18)⟩]
def c11r3 : List Opn := [
  ⟨(some 20), none, .build [.nils, .nils, (.d (.int .i64 0)), (.d (.int .i64 0)), (.d (.int .i64 0)), .nils] []⟩, 
  ⟨none, none, .store 6 (.t 2) (.t 20)⟩, 
  ⟨(some 3), none, .mv (.c (.s (.d (.int .i64 1))))⟩]
def c11r4 : List Opn := [
  ⟨(some 21), none, .load true 2 (.t 1)⟩, 
  ⟨(some 22), none, .call (.fn 36) [(.t 21), (.c (.s (.d (.int .i64 0))))]⟩, 
  ⟨(some 5), none, .mv (.t 22)⟩]
def c11r5 : List Opn := [
  ⟨(some 23), none, .load true 2 (.t 1)⟩, 
  ⟨(some 24), none, .call (.fn 36) [(.t 23), (.c (.s (.d (.int .i64 1))))]⟩, 
  ⟨(some 6), none, .mv (.t 24)⟩]
def c11r6 : List Opn := [
  ⟨(some 25), none, .mv (.t 5)⟩, 
  ⟨(some 26), none, .bin .eql (.t 25) (.c (.s (.d (.int .i64 0))))⟩, 
  ⟨(some 27), none, .mv (.t 26)⟩, 
  ⟨(some 28), some (27, true), .mv (.t 6)⟩, 
  ⟨(some 29), some (27, true), .bin .eql (.t 28) (.c (.s (.d (.int .i64 0))))⟩, 
  ⟨(some 30), none, .pick (.t 27) (.t 29) (.c (.s (.d (.bool false))))⟩]
def c11r7 : List Opn := [
  ⟨(some 31), none, .build [.nils, .nils, (.d (.int .i64 0)), (.d (.int .i64 0)), (.d (.int .i64 0)), .nils] []⟩, 
  ⟨none, none, .store 6 (.t 2) (.t 31)⟩, 
  ⟨(some 3), none, .mv (.c (.s (.d (.int .i64 14))))⟩]
def c11r8 : List Opn := [
  ⟨(some 32), none, .mv (.t 5)⟩, 
  ⟨(some 33), none, .fadr 3 (.t 4)⟩, 
  ⟨none, none, .store 1 (.t 33) (.t 32)⟩]
def c11r9 : List Opn := [
  ⟨(some 34), none, .mv (.t 6)⟩, 
  ⟨(some 35), none, .mv (.t 5)⟩, 
  ⟨(some 36), none, .bin .gtr (.t 34) (.t 35)⟩]
def c11r10 : List Opn := [
  ⟨(some 37), none, .mv (.t 6)⟩, 
  ⟨(some 38), none, .fadr 3 (.t 4)⟩, 
  ⟨none, none, .store 1 (.t 38) (.t 37)⟩]
def c11r11 : List Opn := [
  ⟨(some 39), none, .fadr 2 (.t 4)⟩, 
  ⟨none, none, .store 1 (.t 39) (.c (.s (.d (.int .i64 1))))⟩]
def c11r12 : List Opn := [
  ⟨(some 40), none, .load true 2 (.t 1)⟩, 
  ⟨(some 41), none, .fadr 2 (.t 4)⟩, 
  ⟨(some 42), none, .load false 1 (.t 41)⟩, 
  ⟨(some 43), none, .call (.fn 37) [(.t 40), (.t 42)]⟩, 
  ⟨(some 44), none, .fadr 4 (.t 4)⟩, 
  ⟨none, none, .store 1 (.t 44) (.t 43)⟩]
def c11r13 : List Opn := [
  ⟨(some 46), none, .load true 2 (.t 1)⟩, 
  ⟨(some 47), none, .fadr 2 (.t 4)⟩, 
  ⟨(some 48), none, .load false 1 (.t 47)⟩, 
  ⟨(some 49), none, .call (.fn 25) [(.t 46), (.t 48)]⟩, 
  ⟨(some 50), none, .fadr 4 (.t 4)⟩, 
  ⟨(some 51), none, .load false 1 (.t 50)⟩, 
  ⟨(some 52), none, .slc .str (.t 49) none (some (.t 51)) none⟩, 
  ⟨(some 53), none, .call (.fn 38) [(.t 52)]⟩, 
  ⟨(some 45), none, .mv (.t 53)⟩, 
  ⟨(some 54), none, .ext (.t 45) 0⟩, 
  ⟨(some 55), none, .ext (.t 45) 1⟩, 
  ⟨(some 7), none, .mv (.t 54)⟩, 
  ⟨(some 8), none, .mv (.t 55)⟩]
def c11r14 : List Opn := [
  ⟨(some 56), none, .mv (.t 8)⟩, 
  ⟨(some 57), none, .un .not (.t 56)⟩]
def c11r15 : List Opn := [
  ⟨(some 58), none, .build [.nils, .nils, (.d (.int .i64 0)), (.d (.int .i64 0)), (.d (.int .i64 0)), .nils] []⟩, 
  ⟨none, none, .store 6 (.t 2) (.t 58)⟩, 
  ⟨(some 3), none, .mv (.c (.s (.d (.int .i64 14))))⟩]
def c11r16 : List Opn := [
  ⟨(some 59), none, .mv (.t 7)⟩, 
  ⟨(some 60), none, .fadr 5 (.t 4)⟩, 
  ⟨none, none, .store 1 (.t 60) (.t 59)⟩]
def c11r17 : List Opn := [
  ⟨(some 61), none, .load true 6 (.t 4)⟩, 
  ⟨none, none, .store 6 (.t 2) (.t 61)⟩, 
  ⟨(some 3), none, .mv (.c (.s (.d (.int .i64 0))))⟩]
def c11 : C := .seq (.reg c11r0 none [1, 2]) (.seq (.reg c11r1 none [1, 2, 4]) (.seq (.seq (.reg c11r2 none [1, 2, 4, 19]) (.cond (.t 19) (.seq (.reg c11r3 none [2, 3]) (.ret)) (.skip))) (.seq (.reg c11r4 none [1, 2, 4, 5]) (.seq (.reg c11r5 none [1, 2, 4, 5, 6]) (.seq (.seq (.reg c11r6 none [1, 2, 4, 5, 6, 30]) (.cond (.t 30) (.seq (.reg c11r7 none [2, 3]) (.ret)) (.skip))) (.seq (.reg c11r8 none [1, 2, 4, 5, 6]) (.seq (.seq (.reg c11r9 none [1, 2, 4, 6, 36]) (.cond (.t 36) (.seq (.reg c11r10 none [1, 2, 4]) (.reg c11r11 none [1, 2, 4])) (.skip))) (.seq (.reg c11r12 none [1, 2, 4]) (.seq (.reg c11r13 (some [0, 0, 2, 7, 0, 16, 63, 127, 255, 511, 511, 1023, 4095]) [2, 4, 7, 8]) (.seq (.seq (.reg c11r14 none [2, 4, 7, 57]) (.cond (.t 57) (.seq (.reg c11r15 none [2, 3]) (.ret)) (.skip))) (.seq (.reg c11r16 none [2, 4]) (.seq (.reg c11r17 none [2, 3]) (.ret)))))))))))))
def k11 : List (Nat × List Nat) := [(17, [2, 3]), (16, [2, 4]), (15, [2, 3]), (14, [2, 4, 7, 57]), (13, [2, 4, 7, 8]), (12, [1, 2, 4]), (11, [1, 2, 4]), (10, [1, 2, 4]), (9, [1, 2, 4, 6, 36]), (8, [1, 2, 4, 5, 6]), (7, [2, 3]), (6, [1, 2, 4, 5, 6, 30]), (5, [1, 2, 4, 5, 6]), (4, [1, 2, 4, 5]), (3, [2, 3]), (2, [1, 2, 4, 19]), (1, [1, 2, 4]), (0, [1, 2])]
theorem cc11 : (Try.f11.body).bind (cC Try.prog 62 k11) = some c11 := by kernel_rfl
def rv11 : List RV := [.c 2 true 6, .t 3]
theorem cr11 : cRVs Try.prog Try.f11.results.toList = some rv11 := by kernel_rfl
theorem f_ref10_Open_ok (d : api_Disk) (y_ : api_Ledger × Int) (h : f_ref10_Open d = some y_) : Fun Try.prog glP 11 [.b (.agg ((e_api_Disk d).map Lc.d))] (.tup [.agg ((e_api_Ledger y_.1).map Lc.d), .s (.d (.int .i64 y_.2))]) := by
  refine fun_walk [] Try.func11 Try.ntmps11 cc11 cr11 (by kernel_rfl) (by simp only [List.length_cons, List.length_nil]; decide) ?_
  generalize hR : Ret _ _ _ _ _ = R_
  simp only [wz, wd, ws, seval, e_api_Ledger, e_api_Disk, e_api_Write]
  unfold f_ref10_Open at h; unfold c11
  refine .seq ?_
  refine Rw.walk ?_
  simp only [wz, wd, ws, seval, c11r0, semI.eq_10, semI.eq_11, semI.eq_3, semI.eq_5, semI.eq_7, e_api_Ledger, e_api_Disk, e_api_Write]
  refine .seq ?_
  refine Rw.walk ?_
  simp only [wz, wd, ws, seval, c11r1, semI.eq_10, semI.eq_11, semI.eq_3, semI.eq_5, semI.eq_7, e_api_Ledger, e_api_Disk, e_api_Write]
  refine .seq ?_
  refine .seq ?_
  refine Rw.walk ?_
  simp only [wz, wd, ws, seval, c11r2, semI.eq_10, semI.eq_11, semI.eq_3, semI.eq_5, semI.eq_7, e_api_Ledger, e_api_Disk, e_api_Write]
  obtain ⟨t, e1, h⟩ := Option.bind_eq_some_iff.1 h
  refine call_fun [] false ⟨trivial, trivial, trivial⟩ rfl ?_ (f_ref09_Right_ok _ _ e1) (fun _ => rfl) (fun i hi => by cases hi) ?_
  · simp only [wz, wd, ws, seval, e_api_Ledger, e_api_Disk, e_api_Write]
  simp only [wz, wd, ws, seval, c11r2, semI.eq_10, semI.eq_11, semI.eq_3, semI.eq_5, semI.eq_7, e_api_Ledger, e_api_Disk, e_api_Write]
  refine call_alt (v := .b (.s (.d (.sl (d.Dirty.map e_api_Write))))) rfl rfl (by simp only [wz, wd, ws, seval]) (fun q => ⟨_, by simp only [wz, wd, ws, seval, semI.eq_10, e_api_Ledger, e_api_Disk, e_api_Write], trivial⟩) ?_
  simp only [wz, wd, ws, seval, c11r2, semI.eq_10, semI.eq_11, semI.eq_3, semI.eq_5, semI.eq_7, e_api_Ledger, e_api_Disk, e_api_Write]
  repeat (refine And.intro ?_ ?_; · first | omega | (simp only [List.length_append, List.length_cons, List.length_nil] at *; omega) | (intro q; simp only [wz, wd, ws, seval, q]; done))
  refine .cond (p := ((!t) || (decide ((d.Dirty.length : Int) > 0)))) (by first | rfl | simp only [wz, wd, ws, seval]) (fun h1 => ?_) (fun h1 => ?_)
  · rw [ite_t h1] at h
    refine .seq ?_
    refine Rw.walk ?_
    simp only [wz, wd, ws, seval, c11r3, semI.eq_10, semI.eq_11, semI.eq_3, semI.eq_5, semI.eq_7, e_api_Ledger, e_api_Disk, e_api_Write]
    obtain rfl := Option.some.inj h
    refine .ret ?_
    rw [← hR]
    simp only [wz, wd, ws, seval, rv11, semI.eq_10, e_api_Ledger, e_api_Disk, e_api_Write]
  · rw [ite_f h1] at h
    refine .skip ?_
    refine .seq ?_
    refine Rw.walk ?_
    simp only [wz, wd, ws, seval, c11r4, semI.eq_10, semI.eq_11, semI.eq_3, semI.eq_5, semI.eq_7, e_api_Ledger, e_api_Disk, e_api_Write]
    obtain ⟨t2, e2, h⟩ := Option.bind_eq_some_iff.1 h
    refine call_fun [] false ⟨trivial, trivial, trivial, trivial⟩ rfl ?_ (f_ref10_Gen_ok _ _ _ e2) (fun _ => rfl) (fun i hi => by cases hi) ?_
    · simp only [wz, wd, ws, seval, e_api_Ledger, e_api_Disk, e_api_Write]
    simp only [wz, wd, ws, seval, c11r4, semI.eq_10, semI.eq_11, semI.eq_3, semI.eq_5, semI.eq_7, e_api_Ledger, e_api_Disk, e_api_Write]
    refine .seq ?_
    refine Rw.walk ?_
    simp only [wz, wd, ws, seval, c11r5, semI.eq_10, semI.eq_11, semI.eq_3, semI.eq_5, semI.eq_7, e_api_Ledger, e_api_Disk, e_api_Write]
    obtain ⟨t3, e3, h⟩ := Option.bind_eq_some_iff.1 h
    refine call_fun [] false ⟨trivial, trivial, trivial, trivial⟩ rfl ?_ (f_ref10_Gen_ok _ _ _ e3) (fun _ => rfl) (fun i hi => by cases hi) ?_
    · simp only [wz, wd, ws, seval, e_api_Ledger, e_api_Disk, e_api_Write]
    simp only [wz, wd, ws, seval, c11r5, semI.eq_10, semI.eq_11, semI.eq_3, semI.eq_5, semI.eq_7, e_api_Ledger, e_api_Disk, e_api_Write]
    refine .seq ?_
    refine .seq ?_
    refine Rw.walk ?_
    simp only [wz, wd, ws, seval, c11r6, semI.eq_10, semI.eq_11, semI.eq_3, semI.eq_5, semI.eq_7, e_api_Ledger, e_api_Disk, e_api_Write]
    repeat (refine And.intro ?_ ?_; · first | omega | (simp only [List.length_append, List.length_cons, List.length_nil] at *; omega) | (intro q; simp only [wz, wd, ws, seval, q]; done))
    refine .cond (p := ((t2 == 0) && (t3 == 0))) (by first | rfl | simp only [wz, wd, ws, seval]) (fun h1 => ?_) (fun h1 => ?_)
    · rw [ite_t h1] at h
      refine .seq ?_
      refine Rw.walk ?_
      simp only [wz, wd, ws, seval, c11r7, semI.eq_10, semI.eq_11, semI.eq_3, semI.eq_5, semI.eq_7, e_api_Ledger, e_api_Disk, e_api_Write]
      obtain rfl := Option.some.inj h
      refine .ret ?_
      rw [← hR]
      simp only [wz, wd, ws, seval, rv11, semI.eq_10, e_api_Ledger, e_api_Disk, e_api_Write]
    · rw [ite_f h1] at h
      refine .skip ?_
      refine .seq ?_
      refine Rw.walk ?_
      simp only [wz, wd, ws, seval, c11r8, semI.eq_10, semI.eq_11, semI.eq_3, semI.eq_5, semI.eq_7, e_api_Ledger, e_api_Disk, e_api_Write]
      refine .seq ?_
      obtain ⟨s, hf, h⟩ := Option.bind_eq_some_iff.1 h
      refine W.cut1 ⟨lkT [(1, .b (.s (.ptr 1 1 0 0))), (2, .b (.s (.ptr 2 1 0 0))), (4, .b (.s (.ptr 4 1 0 0)))], lkG [(1, ⟨2, [[(.d (.sl (d.Sectors.map eS))), (.d (.sl (d.Dirty.map e_api_Write)))]], false⟩), (2, ⟨6, [[.nils, .nils, (.d (.int .i64 0)), (.d (.int .i64 0)), (.d (.int .i64 0)), .nils]], false⟩), (4, ⟨6, [[(.d (.sl (d.Sectors.map eS))), (.d (.sl (d.Dirty.map e_api_Write))), (.d (.int .i64 s.1)), (.d (.int .i64 s.2)), (.d (.int .i64 0)), .nils]], false⟩)]⟩ ?_ (fun tail => ?_)
      · skip
        refine .seq ?_
        refine Rw.walk ?_
        simp only [wz, wd, ws, seval, c11r12, semI.eq_10, semI.eq_11, semI.eq_3, semI.eq_5, semI.eq_7, e_api_Ledger, e_api_Disk, e_api_Write]
        obtain ⟨t4, e4, h⟩ := Option.bind_eq_some_iff.1 h
        refine call_fun [] false ⟨trivial, trivial, trivial, trivial⟩ rfl ?_ (f_ref10_Used_ok _ _ _ e4) (fun _ => rfl) (fun i hi => by cases hi) ?_
        · simp only [wz, wd, ws, seval, e_api_Ledger, e_api_Disk, e_api_Write]
        simp only [wz, wd, ws, seval, c11r12, semI.eq_10, semI.eq_11, semI.eq_3, semI.eq_5, semI.eq_7, e_api_Ledger, e_api_Disk, e_api_Write]
        refine .seq ?_
        refine RwD.walk ?_
        simp only [wz, wd, ws, seval, c11r13, semI.eq_10, semI.eq_11, semI.eq_3, semI.eq_5, semI.eq_7, e_api_Ledger, e_api_Disk, e_api_Write]
        obtain ⟨t5, e5, h⟩ := Option.bind_eq_some_iff.1 h
        refine call_fun [] false ⟨trivial, trivial, trivial, trivial⟩ rfl ?_ (f_ref10_Room_ok _ _ _ e5) (fun _ => rfl) (fun i hi => by cases hi) ?_
        · simp only [wz, wd, ws, seval, e_api_Ledger, e_api_Disk, e_api_Write]
        simp only [wz, wd, ws, seval, c11r13, semI.eq_10, semI.eq_11, semI.eq_3, semI.eq_5, semI.eq_7, e_api_Ledger, e_api_Disk, e_api_Write]
        obtain ⟨g6, h⟩ := gd_iff.1 h
        repeat (refine And.intro ?_ ?_; · first | omega | (simp only [List.length_append, List.length_cons, List.length_nil] at *; omega) | (intro q; simp only [wz, wd, ws, seval, q]; done))
        obtain ⟨t6, e7, h⟩ := Option.bind_eq_some_iff.1 h
        refine call_fun [] true ⟨trivial, trivial, trivial⟩ rfl ?_ (f_ref10_Entries_ok _ _ e7) (fun h => by cases h) (fun i hi => by cases hi) ?_
        · simp only [wz, wd, ws, seval, e_api_Ledger, e_api_Disk, e_api_Write]
        simp only [wz, wd, ws, seval, c11r13, semI.eq_10, semI.eq_11, semI.eq_3, semI.eq_5, semI.eq_7, e_api_Ledger, e_api_Disk, e_api_Write]
        refine .seq ?_
        refine .seq ?_
        refine Rw.walk ?_
        simp only [wz, wd, ws, seval, c11r14, semI.eq_10, semI.eq_11, semI.eq_3, semI.eq_5, semI.eq_7, e_api_Ledger, e_api_Disk, e_api_Write]
        refine .cond (p := (!t6.2)) (by first | rfl | simp only [wz, wd, ws, seval]) (fun h1 => ?_) (fun h1 => ?_)
        · rw [ite_t h1] at h
          refine .seq ?_
          refine Rw.walk ?_
          simp only [wz, wd, ws, seval, c11r15, semI.eq_10, semI.eq_11, semI.eq_3, semI.eq_5, semI.eq_7, e_api_Ledger, e_api_Disk, e_api_Write]
          obtain rfl := Option.some.inj h
          refine .ret ?_
          rw [← hR]
          simp only [wz, wd, ws, seval, rv11, semI.eq_10, e_api_Ledger, e_api_Disk, e_api_Write]
        · rw [ite_f h1] at h
          refine .skip ?_
          refine .seq ?_
          refine Rw.walk ?_
          simp only [wz, wd, ws, seval, c11r16, semI.eq_10, semI.eq_11, semI.eq_3, semI.eq_5, semI.eq_7, e_api_Ledger, e_api_Disk, e_api_Write]
          refine .seq ?_
          refine Rw.walk ?_
          simp only [wz, wd, ws, seval, c11r17, semI.eq_10, semI.eq_11, semI.eq_3, semI.eq_5, semI.eq_7, e_api_Ledger, e_api_Disk, e_api_Write]
          obtain rfl := Option.some.inj h
          refine .ret ?_
          rw [← hR]
          simp only [wz, wd, ws, seval, rv11, semI.eq_10, e_api_Ledger, e_api_Disk, e_api_Write]
      replace h := hf
      refine .seq ?_
      refine Rw.walk ?_
      simp only [wz, wd, ws, seval, c11r9, semI.eq_10, semI.eq_11, semI.eq_3, semI.eq_5, semI.eq_7, e_api_Ledger, e_api_Disk, e_api_Write]
      refine .cond (p := (decide (t3 > t2))) (by first | rfl | simp only [wz, wd, ws, seval]) (fun h1 => ?_) (fun h1 => ?_)
      · rw [ite_t h1] at h
        refine .seq ?_
        refine Rw.walk ?_
        simp only [wz, wd, ws, seval, c11r10, semI.eq_10, semI.eq_11, semI.eq_3, semI.eq_5, semI.eq_7, e_api_Ledger, e_api_Disk, e_api_Write]
        refine Rw.walk ?_
        simp only [wz, wd, ws, seval, c11r11, semI.eq_10, semI.eq_11, semI.eq_3, semI.eq_5, semI.eq_7, e_api_Ledger, e_api_Disk, e_api_Write]
        obtain rfl := Option.some.inj h
        refine .weak (Imp.co [] _ _ ?_ ?_ ?_ ?_ ?_) (tail) <;> simp only [wz, wd, ws, seval, wi, er_nil, e_api_Ledger, e_api_Disk, e_api_Write]
      · rw [ite_f h1] at h
        refine .skip ?_
        obtain rfl := Option.some.inj h
        refine .weak (Imp.co [] _ _ ?_ ?_ ?_ ?_ ?_) (tail) <;> simp only [wz, wd, ws, seval, wi, er_nil, e_api_Ledger, e_api_Disk, e_api_Write]
-- 64 slices.IndexFunc[[]string,string]
def c64r0 : List Opn := [
  ⟨(some 4), none, .mv (.c (.s (.d (.int .i64 0))))⟩]
def c64r1 : List Opn := [
  ⟨(some 6), none, .mv (.t 0)⟩, 
  ⟨(some 7), none, .len (.sl 0) (.t 6)⟩, 
  ⟨(some 8), none, .mv (.c (.s (.d (.int .i64 0))))⟩]
def c64r2 : List Opn := [
  ⟨(some 9), none, .bin .lss (.t 8) (.t 7)⟩]
def c64r3 : List Opn := [
  ⟨(some 10), none, .mv (.t 8)⟩, 
  ⟨(some 5), none, .mv (.t 10)⟩]
def c64r4 : List Opn := [
  ⟨(some 11), none, .mv (.t 1)⟩, 
  ⟨(some 12), none, .mv (.t 0)⟩, 
  ⟨(some 13), none, .mv (.t 5)⟩, 
  ⟨(some 14), none, .iadr (.sl 1) (.t 12) (.t 13)⟩, 
  ⟨(some 15), none, .load false 1 (.t 14)⟩, 
  ⟨(some 16), none, .call (.t 11) [(.t 15)]⟩]
def c64r5 : List Opn := [
  ⟨(some 17), none, .mv (.t 5)⟩, 
  ⟨(some 4), none, .mv (.t 17)⟩]
def c64r6 : List Opn := [
  ⟨(some 18), none, .bin .add (.t 8) (.c (.s (.d (.int .i64 1))))⟩, 
  ⟨(some 8), none, .mv (.t 18)⟩]
def c64l7 : C := .seq (.reg c64r2 none [0, 1, 7, 8, 9]) (.seq (.cond (.t 9) (.skip) (.exit 0)) (.seq (.blk 1 (.seq (.reg c64r3 none [0, 1, 5, 7, 8]) (.seq (.reg c64r4 none [0, 1, 5, 7, 8, 16]) (.cond (.t 16) (.seq (.reg c64r5 none [4]) (.ret)) (.skip))))) (.reg c64r6 none [0, 1, 7, 8])))
def c64r7 : List Opn := [
  ⟨(some 4), none, .mv (.c (.s (.d (.int .i64 (-1)))))⟩]
def c64 : C := .seq (.reg c64r0 none [0, 1]) (.seq (.seq (.reg c64r1 none [0, 1, 7, 8]) (.blk 0 (.loop c64l7))) (.seq (.reg c64r7 none [4]) (.ret)))
def k64 : List (Nat × List Nat) := [(7, [4]), (6, [0, 1, 7, 8]), (5, [4]), (4, [0, 1, 5, 7, 8, 16]), (3, [0, 1, 5, 7, 8]), (2, [0, 1, 7, 8, 9]), (1, [0, 1, 7, 8]), (0, [0, 1])]
theorem cc64 : (Try.f64.body).bind (cC Try.prog 19 k64) = some c64 := by kernel_rfl
def rv64 : List RV := [.t 4]
theorem cr64 : cRVs Try.prog Try.f64.results.toList = some rv64 := by kernel_rfl
theorem f_slices_IndexFunc_string_string_l7_ok (s : (List Str)) (f_f : FuncId) (f_c : List Sc) (f : Str → Option (Bool)) (f_h : ∀ (a0 : Str) (r : Bool), f a0 = some r → Fun Try.prog glP f_f (.b (.s (.d (.str a0))) :: f_c.map fun x => .b (.s (.d x))) (.b (.s (.d (.bool r))))) (y_ : Int) (R_ : St → Prop) (hR : (Ret Try.prog glP [] rv64 (.b (.s (.d (.int .i64 y_))))) = R_) : ∀ (m_ : Nat) (v8 : Int) (res_ : (Int) ⊕ (Int)) (h : f_slices_IndexFunc_string_string_l7 s f m_ v8 = some res_) (k_ : List It) (hx : ∀ s_ : Int, res_ = .inl s_ → W Try.prog glP 19 k_ ⟨lkT [(0, .b (.s (.d (.sl (s.map eS))))), (1, .b (.s (.d (.clo f_f f_c)))), (7, .b (.s (.d (.int .i64 (s.length : Int))))), (8, .b (.s (.d (.int .i64 s_))))], lkG []⟩ R_) (hr : ∀ z_ : Int, res_ = .inr z_ → z_ = y_), W Try.prog glP 19 (.c c64l7 :: .lp c64l7 :: .blk 0 :: k_) ⟨lkT [(0, .b (.s (.d (.sl (s.map eS))))), (1, .b (.s (.d (.clo f_f f_c)))), (7, .b (.s (.d (.int .i64 (s.length : Int))))), (8, .b (.s (.d (.int .i64 v8))))], lkG []⟩ R_ := by
  intro m_; induction m_ with
  | zero => intro v8 res_ h; rw [f_slices_IndexFunc_string_string_l7.eq_1] at h; cases h
  | succ m_ ih =>
    intro v8 res_ h k_ hx hr; rw [f_slices_IndexFunc_string_string_l7.eq_2] at h; refine W.cdef c64l7.eq_1 ?_
    refine .seq ?_
    refine Rw.walk ?_
    simp only [wz, wd, ws, seval, c64r2, semI.eq_10, semI.eq_11, semI.eq_3, semI.eq_5, semI.eq_7]
    refine .seq ?_
    refine .cond (p := (decide (v8 < (s.length : Int)))) (by first | rfl | simp only [wz, wd, ws, seval]) (fun h1 => ?_) (fun h1 => ?_)
    · rw [ite_t h1] at h
      refine .skip ?_
      refine .seq ?_
      refine .blk ?_
      refine .seq ?_
      refine Rw.walk ?_
      simp only [wz, wd, ws, seval, c64r3, semI.eq_10, semI.eq_11, semI.eq_3, semI.eq_5, semI.eq_7]
      refine .seq ?_
      refine Rw.walk ?_
      simp only [wz, wd, ws, seval, c64r4, semI.eq_10, semI.eq_11, semI.eq_3, semI.eq_5, semI.eq_7]
      obtain ⟨x, e1, h⟩ := Option.bind_eq_some_iff.1 h
      refine Go1.of (sem_iadr eS_len e1 (by rfl) (by rfl)) ?_
      simp only [wz, wd, ws, seval, c64r4, semI.eq_10, semI.eq_11, semI.eq_3, semI.eq_5, semI.eq_7]
      obtain ⟨b, e2, h⟩ := Option.bind_eq_some_iff.1 h
      refine call_fun [] false ⟨trivial, trivial, trivial⟩ rfl ?_ (f_h _ _ e2) (fun _ => rfl) (fun i hi => by cases hi) ?_
      · simp only [wz, wd, ws, seval]
      simp only [wz, wd, ws, seval, c64r4, semI.eq_10, semI.eq_11, semI.eq_3, semI.eq_5, semI.eq_7]
      refine .cond (p := b) (by first | rfl | simp only [wz, wd, ws, seval]) (fun h1 => ?_) (fun h1 => ?_)
      · rw [ite_t h1] at h
        refine .seq ?_
        refine Rw.walk ?_
        simp only [wz, wd, ws, seval, c64r5, semI.eq_10, semI.eq_11, semI.eq_3, semI.eq_5, semI.eq_7]
        obtain rfl := Option.some.inj h; obtain rfl := hr _ rfl
        refine .ret ?_
        rw [← hR]
        simp only [wz, wd, ws, seval, rv64]
      · rw [ite_f h1] at h
        refine .skip ?_
        refine .eblk ?_
        refine Rw.walk ?_
        simp only [wz, wd, ws, seval, c64r6, semI.eq_10, semI.eq_11, semI.eq_3, semI.eq_5, semI.eq_7]
        refine .lp ?_
        refine .weak (Imp.co [] _ _ ?_ ?_ ?_ ?_ ?_) (ih (IntKind.i64.wrap (v8 + 1)) _ h k_ hx hr) <;> simp only [wz, wd, ws, seval, wi, er_nil]
    · rw [ite_f h1] at h
      refine .exit rfl ?_
      obtain rfl := Option.some.inj h
      refine .weak (Imp.co [] _ _ ?_ ?_ ?_ ?_ ?_) (hx _ rfl) <;> simp only [wz, wd, ws, seval, wi, er_nil]
theorem f_slices_IndexFunc_string_string_ok (s : (List Str)) (f_f : FuncId) (f_c : List Sc) (f : Str → Option (Bool)) (f_h : ∀ (a0 : Str) (r : Bool), f a0 = some r → Fun Try.prog glP f_f (.b (.s (.d (.str a0))) :: f_c.map fun x => .b (.s (.d x))) (.b (.s (.d (.bool r))))) (y_ : Int) (h : f_slices_IndexFunc_string_string s f = some y_) : Fun Try.prog glP 64 [.b (.s (.d (.sl (s.map eS)))), .b (.s (.d (.clo f_f f_c)))] (.b (.s (.d (.int .i64 y_)))) := by
  refine fun_walk [] Try.func64 Try.ntmps64 cc64 cr64 (by kernel_rfl) (by simp only [List.length_cons, List.length_nil]; decide) ?_
  generalize hR : Ret _ _ _ _ _ = R_
  simp only [wz, wd, ws, seval]
  unfold f_slices_IndexFunc_string_string at h; unfold c64
  refine .seq ?_
  refine Rw.walk ?_
  simp only [wz, wd, ws, seval, c64r0, semI.eq_10, semI.eq_11, semI.eq_3, semI.eq_5, semI.eq_7]
  refine .seq ?_
  refine .seq ?_
  refine Rw.walk ?_
  simp only [wz, wd, ws, seval, c64r1, semI.eq_10, semI.eq_11, semI.eq_3, semI.eq_5, semI.eq_7]
  refine .blk ?_
  obtain ⟨s2, hf, h⟩ := Option.bind_eq_some_iff.1 h
  refine .loop (.weak (Imp.co [] _ _ ?c1 ?c2 ?c3 ?c4 ?c5) (f_slices_IndexFunc_string_string_l7_ok s f_f f_c f f_h _ _ hR _ _ _ hf _ ?_ ?_))
  case c1 | c2 | c3 | c4 | c5 => simp only [wz, wd, ws, seval, wi, er_nil]
  · intro s3 hs; subst hs; dsimp only at h
    refine .seq ?_
    refine Rw.walk ?_
    simp only [wz, wd, ws, seval, c64r7, semI.eq_10, semI.eq_11, semI.eq_3, semI.eq_5, semI.eq_7]
    obtain rfl := Option.some.inj h
    refine .ret ?_
    rw [← hR]
    simp only [wz, wd, ws, seval, rv64]
  · intro z hz; subst hz; dsimp only at h
    exact Option.some.inj h
-- 51 slices.ContainsFunc[[]string,string]
def c51r0 : List Opn := [
  ⟨(some 4), none, .mv (.c (.s (.d (.bool false))))⟩]
def c51r1 : List Opn := [
  ⟨(some 5), none, .mv (.t 0)⟩, 
  ⟨(some 6), none, .mv (.t 1)⟩, 
  ⟨(some 7), none, .call (.fn 64) [(.t 5), (.t 6)]⟩, 
  ⟨(some 8), none, .bin .geq (.t 7) (.c (.s (.d (.int .i64 0))))⟩, 
  ⟨(some 4), none, .mv (.t 8)⟩]
def c51 : C := .seq (.reg c51r0 none [0, 1]) (.seq (.reg c51r1 none [4]) (.ret))
def k51 : List (Nat × List Nat) := [(1, [4]), (0, [0, 1])]
theorem cc51 : (Try.f51.body).bind (cC Try.prog 9 k51) = some c51 := by kernel_rfl
def rv51 : List RV := [.t 4]
theorem cr51 : cRVs Try.prog Try.f51.results.toList = some rv51 := by kernel_rfl
theorem f_slices_ContainsFunc_string_string_ok (s : (List Str)) (f_f : FuncId) (f_c : List Sc) (f : Str → Option (Bool)) (f_h : ∀ (a0 : Str) (r : Bool), f a0 = some r → Fun Try.prog glP f_f (.b (.s (.d (.str a0))) :: f_c.map fun x => .b (.s (.d x))) (.b (.s (.d (.bool r))))) (y_ : Bool) (h : f_slices_ContainsFunc_string_string s f = some y_) : Fun Try.prog glP 51 [.b (.s (.d (.sl (s.map eS)))), .b (.s (.d (.clo f_f f_c)))] (.b (.s (.d (.bool y_)))) := by
  refine fun_walk [] Try.func51 Try.ntmps51 cc51 cr51 (by kernel_rfl) (by simp only [List.length_cons, List.length_nil]; decide) ?_
  generalize hR : Ret _ _ _ _ _ = R_
  simp only [wz, wd, ws, seval]
  unfold f_slices_ContainsFunc_string_string at h; unfold c51
  refine .seq ?_
  refine Rw.walk ?_
  simp only [wz, wd, ws, seval, c51r0, semI.eq_10, semI.eq_11, semI.eq_3, semI.eq_5, semI.eq_7]
  refine .seq ?_
  refine Rw.walk ?_
  simp only [wz, wd, ws, seval, c51r1, semI.eq_10, semI.eq_11, semI.eq_3, semI.eq_5, semI.eq_7]
  obtain ⟨t, e1, h⟩ := Option.bind_eq_some_iff.1 h
  refine call_fun [] false ⟨trivial, trivial, trivial, trivial⟩ rfl ?_ (f_slices_IndexFunc_string_string_ok _ f_f f_c f f_h _ e1) (fun _ => rfl) (fun i hi => by cases hi) ?_
  · simp only [wz, wd, ws, seval]
  simp only [wz, wd, ws, seval, c51r1, semI.eq_10, semI.eq_11, semI.eq_3, semI.eq_5, semI.eq_7]
  obtain rfl := Option.some.inj h
  refine .ret ?_
  rw [← hR]
  simp only [wz, wd, ws, seval, rv51]
-- 50 consignor/disk.Right$1
def c50r0 : List Opn := [
  ⟨(some 2), none, .mv (.c (.s (.d (.bool false))))⟩]
def c50r1 : List Opn := [
  ⟨(some 3), none, .mv (.t 0)⟩, 
  ⟨(some 4), none, .len .str (.t 3)⟩, 
  ⟨(some 5), none, .bin .neq (.t 4) (.c (.s (.d (.int .i64 128))))⟩, 
  ⟨(some 2), none, .mv (.t 5)⟩]
def c50 : C := .seq (.reg c50r0 none [0]) (.seq (.reg c50r1 none [2]) (.ret))
def k50 : List (Nat × List Nat) := [(1, [2]), (0, [0])]
theorem cc50 : (Try.f50.body).bind (cC Try.prog 6 k50) = some c50 := by kernel_rfl
def rv50 : List RV := [.t 2]
theorem cr50 : cRVs Try.prog Try.f50.results.toList = some rv50 := by kernel_rfl
theorem f_disk_Right_1_ok (s : Str) (y_ : Bool) (h : f_disk_Right_1 s = some y_) : Fun Try.prog glP 50 [.b (.s (.d (.str s)))] (.b (.s (.d (.bool y_)))) := by
  refine fun_walk [] Try.func50 Try.ntmps50 cc50 cr50 (by kernel_rfl) (by simp only [List.length_cons, List.length_nil]; decide) ?_
  generalize hR : Ret _ _ _ _ _ = R_
  simp only [wz, wd, ws, seval]
  unfold f_disk_Right_1 at h; unfold c50
  refine .seq ?_
  refine Rw.walk ?_
  simp only [wz, wd, ws, seval, c50r0, semI.eq_10, semI.eq_11, semI.eq_3, semI.eq_5, semI.eq_7]
  refine .seq ?_
  refine Rw.walk ?_
  simp only [wz, wd, ws, seval, c50r1, semI.eq_10, semI.eq_11, semI.eq_3, semI.eq_5, semI.eq_7]
  obtain rfl := Option.some.inj h
  refine .ret ?_
  rw [← hR]
  simp only [wz, wd, ws, seval, rv50]
-- 70 slices.IndexFunc[[]consignor/api.Write,consignor/api.Write]
def c70r0 : List Opn := [
  ⟨(some 4), none, .mv (.c (.s (.d (.int .i64 0))))⟩]
def c70r1 : List Opn := [
  ⟨(some 6), none, .mv (.t 0)⟩, 
  ⟨(some 7), none, .len (.sl 0) (.t 6)⟩, 
  ⟨(some 8), none, .mv (.c (.s (.d (.int .i64 0))))⟩]
def c70r2 : List Opn := [
  ⟨(some 9), none, .bin .lss (.t 8) (.t 7)⟩]
def c70r3 : List Opn := [
  ⟨(some 10), none, .mv (.t 8)⟩, 
  ⟨(some 5), none, .mv (.t 10)⟩]
def c70r4 : List Opn := [
  ⟨(some 11), none, .mv (.t 1)⟩, 
  ⟨(some 12), none, .mv (.t 0)⟩, 
  ⟨(some 13), none, .mv (.t 5)⟩, 
  ⟨(some 14), none, .iadr (.sl 2) (.t 12) (.t 13)⟩, 
  ⟨(some 15), none, .load true 2 (.t 14)⟩, 
  ⟨(some 16), none, .call (.t 11) [(.t 15)]⟩]
def c70r5 : List Opn := [
  ⟨(some 17), none, .mv (.t 5)⟩, 
  ⟨(some 4), none, .mv (.t 17)⟩]
def c70r6 : List Opn := [
  ⟨(some 18), none, .bin .add (.t 8) (.c (.s (.d (.int .i64 1))))⟩, 
  ⟨(some 8), none, .mv (.t 18)⟩]
def c70l7 : C := .seq (.reg c70r2 none [0, 1, 7, 8, 9]) (.seq (.cond (.t 9) (.skip) (.exit 0)) (.seq (.blk 1 (.seq (.reg c70r3 none [0, 1, 5, 7, 8]) (.seq (.reg c70r4 none [0, 1, 5, 7, 8, 16]) (.cond (.t 16) (.seq (.reg c70r5 none [4]) (.ret)) (.skip))))) (.reg c70r6 none [0, 1, 7, 8])))
def c70r7 : List Opn := [
  ⟨(some 4), none, .mv (.c (.s (.d (.int .i64 (-1)))))⟩]
def c70 : C := .seq (.reg c70r0 none [0, 1]) (.seq (.seq (.reg c70r1 none [0, 1, 7, 8]) (.blk 0 (.loop c70l7))) (.seq (.reg c70r7 none [4]) (.ret)))
def k70 : List (Nat × List Nat) := [(7, [4]), (6, [0, 1, 7, 8]), (5, [4]), (4, [0, 1, 5, 7, 8, 16]), (3, [0, 1, 5, 7, 8]), (2, [0, 1, 7, 8, 9]), (1, [0, 1, 7, 8]), (0, [0, 1])]
theorem cc70 : (Try.f70.body).bind (cC Try.prog 19 k70) = some c70 := by kernel_rfl
def rv70 : List RV := [.t 4]
theorem cr70 : cRVs Try.prog Try.f70.results.toList = some rv70 := by kernel_rfl
theorem f_slices_IndexFunc_api_Write_api_Write_l7_ok (s : (List api_Write)) (f_f : FuncId) (f_c : List Sc) (f : api_Write → Option (Bool)) (f_h : ∀ (a0 : api_Write) (r : Bool), f a0 = some r → Fun Try.prog glP f_f (.b (.agg ((e_api_Write a0).map Lc.d)) :: f_c.map fun x => .b (.s (.d x))) (.b (.s (.d (.bool r))))) (y_ : Int) (R_ : St → Prop) (hR : (Ret Try.prog glP [] rv70 (.b (.s (.d (.int .i64 y_))))) = R_) : ∀ (m_ : Nat) (v8 : Int) (res_ : (Int) ⊕ (Int)) (h : f_slices_IndexFunc_api_Write_api_Write_l7 s f m_ v8 = some res_) (k_ : List It) (hx : ∀ s_ : Int, res_ = .inl s_ → W Try.prog glP 19 k_ ⟨lkT [(0, .b (.s (.d (.sl (s.map e_api_Write))))), (1, .b (.s (.d (.clo f_f f_c)))), (7, .b (.s (.d (.int .i64 (s.length : Int))))), (8, .b (.s (.d (.int .i64 s_))))], lkG []⟩ R_) (hr : ∀ z_ : Int, res_ = .inr z_ → z_ = y_), W Try.prog glP 19 (.c c70l7 :: .lp c70l7 :: .blk 0 :: k_) ⟨lkT [(0, .b (.s (.d (.sl (s.map e_api_Write))))), (1, .b (.s (.d (.clo f_f f_c)))), (7, .b (.s (.d (.int .i64 (s.length : Int))))), (8, .b (.s (.d (.int .i64 v8))))], lkG []⟩ R_ := by
  intro m_; induction m_ with
  | zero => intro v8 res_ h; rw [f_slices_IndexFunc_api_Write_api_Write_l7.eq_1] at h; cases h
  | succ m_ ih =>
    intro v8 res_ h k_ hx hr; rw [f_slices_IndexFunc_api_Write_api_Write_l7.eq_2] at h; refine W.cdef c70l7.eq_1 ?_
    refine .seq ?_
    refine Rw.walk ?_
    simp only [wz, wd, ws, seval, c70r2, semI.eq_10, semI.eq_11, semI.eq_3, semI.eq_5, semI.eq_7, e_api_Write]
    refine .seq ?_
    refine .cond (p := (decide (v8 < (s.length : Int)))) (by first | rfl | simp only [wz, wd, ws, seval]) (fun h1 => ?_) (fun h1 => ?_)
    · rw [ite_t h1] at h
      refine .skip ?_
      refine .seq ?_
      refine .blk ?_
      refine .seq ?_
      refine Rw.walk ?_
      simp only [wz, wd, ws, seval, c70r3, semI.eq_10, semI.eq_11, semI.eq_3, semI.eq_5, semI.eq_7, e_api_Write]
      refine .seq ?_
      refine Rw.walk ?_
      simp only [wz, wd, ws, seval, c70r4, semI.eq_10, semI.eq_11, semI.eq_3, semI.eq_5, semI.eq_7, e_api_Write]
      obtain ⟨x, e1, h⟩ := Option.bind_eq_some_iff.1 h
      refine Go1.of (sem_iadr e_api_Write_len e1 (by rfl) (by rfl)) ?_
      simp only [wz, wd, ws, seval, c70r4, semI.eq_10, semI.eq_11, semI.eq_3, semI.eq_5, semI.eq_7, e_api_Write]
      obtain ⟨b, e2, h⟩ := Option.bind_eq_some_iff.1 h
      refine call_fun [] false ⟨trivial, trivial, trivial⟩ rfl ?_ (f_h _ _ e2) (fun _ => rfl) (fun i hi => by cases hi) ?_
      · simp only [wz, wd, ws, seval, e_api_Write]
      simp only [wz, wd, ws, seval, c70r4, semI.eq_10, semI.eq_11, semI.eq_3, semI.eq_5, semI.eq_7, e_api_Write]
      refine .cond (p := b) (by first | rfl | simp only [wz, wd, ws, seval]) (fun h1 => ?_) (fun h1 => ?_)
      · rw [ite_t h1] at h
        refine .seq ?_
        refine Rw.walk ?_
        simp only [wz, wd, ws, seval, c70r5, semI.eq_10, semI.eq_11, semI.eq_3, semI.eq_5, semI.eq_7, e_api_Write]
        obtain rfl := Option.some.inj h; obtain rfl := hr _ rfl
        refine .ret ?_
        rw [← hR]
        simp only [wz, wd, ws, seval, rv70, e_api_Write]
      · rw [ite_f h1] at h
        refine .skip ?_
        refine .eblk ?_
        refine Rw.walk ?_
        simp only [wz, wd, ws, seval, c70r6, semI.eq_10, semI.eq_11, semI.eq_3, semI.eq_5, semI.eq_7, e_api_Write]
        refine .lp ?_
        refine .weak (Imp.co [] _ _ ?_ ?_ ?_ ?_ ?_) (ih (IntKind.i64.wrap (v8 + 1)) _ h k_ hx hr) <;> simp only [wz, wd, ws, seval, wi, er_nil, e_api_Write]
    · rw [ite_f h1] at h
      refine .exit rfl ?_
      obtain rfl := Option.some.inj h
      refine .weak (Imp.co [] _ _ ?_ ?_ ?_ ?_ ?_) (hx _ rfl) <;> simp only [wz, wd, ws, seval, wi, er_nil, e_api_Write]
theorem f_slices_IndexFunc_api_Write_api_Write_ok (s : (List api_Write)) (f_f : FuncId) (f_c : List Sc) (f : api_Write → Option (Bool)) (f_h : ∀ (a0 : api_Write) (r : Bool), f a0 = some r → Fun Try.prog glP f_f (.b (.agg ((e_api_Write a0).map Lc.d)) :: f_c.map fun x => .b (.s (.d x))) (.b (.s (.d (.bool r))))) (y_ : Int) (h : f_slices_IndexFunc_api_Write_api_Write s f = some y_) : Fun Try.prog glP 70 [.b (.s (.d (.sl (s.map e_api_Write)))), .b (.s (.d (.clo f_f f_c)))] (.b (.s (.d (.int .i64 y_)))) := by
  refine fun_walk [] Try.func70 Try.ntmps70 cc70 cr70 (by kernel_rfl) (by simp only [List.length_cons, List.length_nil]; decide) ?_
  generalize hR : Ret _ _ _ _ _ = R_
  simp only [wz, wd, ws, seval, e_api_Write]
  unfold f_slices_IndexFunc_api_Write_api_Write at h; unfold c70
  refine .seq ?_
  refine Rw.walk ?_
  simp only [wz, wd, ws, seval, c70r0, semI.eq_10, semI.eq_11, semI.eq_3, semI.eq_5, semI.eq_7, e_api_Write]
  refine .seq ?_
  refine .seq ?_
  refine Rw.walk ?_
  simp only [wz, wd, ws, seval, c70r1, semI.eq_10, semI.eq_11, semI.eq_3, semI.eq_5, semI.eq_7, e_api_Write]
  refine .blk ?_
  obtain ⟨s2, hf, h⟩ := Option.bind_eq_some_iff.1 h
  refine .loop (.weak (Imp.co [] _ _ ?c1 ?c2 ?c3 ?c4 ?c5) (f_slices_IndexFunc_api_Write_api_Write_l7_ok s f_f f_c f f_h _ _ hR _ _ _ hf _ ?_ ?_))
  case c1 | c2 | c3 | c4 | c5 => simp only [wz, wd, ws, seval, wi, er_nil, e_api_Write]
  · intro s3 hs; subst hs; dsimp only at h
    refine .seq ?_
    refine Rw.walk ?_
    simp only [wz, wd, ws, seval, c70r7, semI.eq_10, semI.eq_11, semI.eq_3, semI.eq_5, semI.eq_7, e_api_Write]
    obtain rfl := Option.some.inj h
    refine .ret ?_
    rw [← hR]
    simp only [wz, wd, ws, seval, rv70, e_api_Write]
  · intro z hz; subst hz; dsimp only at h
    exact Option.some.inj h
-- 61 slices.ContainsFunc[[]consignor/api.Write,consignor/api.Write]
def c61r0 : List Opn := [
  ⟨(some 4), none, .mv (.c (.s (.d (.bool false))))⟩]
def c61r1 : List Opn := [
  ⟨(some 5), none, .mv (.t 0)⟩, 
  ⟨(some 6), none, .mv (.t 1)⟩, 
  ⟨(some 7), none, .call (.fn 70) [(.t 5), (.t 6)]⟩, 
  ⟨(some 8), none, .bin .geq (.t 7) (.c (.s (.d (.int .i64 0))))⟩, 
  ⟨(some 4), none, .mv (.t 8)⟩]
def c61 : C := .seq (.reg c61r0 none [0, 1]) (.seq (.reg c61r1 none [4]) (.ret))
def k61 : List (Nat × List Nat) := [(1, [4]), (0, [0, 1])]
theorem cc61 : (Try.f61.body).bind (cC Try.prog 9 k61) = some c61 := by kernel_rfl
def rv61 : List RV := [.t 4]
theorem cr61 : cRVs Try.prog Try.f61.results.toList = some rv61 := by kernel_rfl
theorem f_slices_ContainsFunc_api_Write_api_Write_ok (s : (List api_Write)) (f_f : FuncId) (f_c : List Sc) (f : api_Write → Option (Bool)) (f_h : ∀ (a0 : api_Write) (r : Bool), f a0 = some r → Fun Try.prog glP f_f (.b (.agg ((e_api_Write a0).map Lc.d)) :: f_c.map fun x => .b (.s (.d x))) (.b (.s (.d (.bool r))))) (y_ : Bool) (h : f_slices_ContainsFunc_api_Write_api_Write s f = some y_) : Fun Try.prog glP 61 [.b (.s (.d (.sl (s.map e_api_Write)))), .b (.s (.d (.clo f_f f_c)))] (.b (.s (.d (.bool y_)))) := by
  refine fun_walk [] Try.func61 Try.ntmps61 cc61 cr61 (by kernel_rfl) (by simp only [List.length_cons, List.length_nil]; decide) ?_
  generalize hR : Ret _ _ _ _ _ = R_
  simp only [wz, wd, ws, seval, e_api_Write]
  unfold f_slices_ContainsFunc_api_Write_api_Write at h; unfold c61
  refine .seq ?_
  refine Rw.walk ?_
  simp only [wz, wd, ws, seval, c61r0, semI.eq_10, semI.eq_11, semI.eq_3, semI.eq_5, semI.eq_7, e_api_Write]
  refine .seq ?_
  refine Rw.walk ?_
  simp only [wz, wd, ws, seval, c61r1, semI.eq_10, semI.eq_11, semI.eq_3, semI.eq_5, semI.eq_7, e_api_Write]
  obtain ⟨t, e1, h⟩ := Option.bind_eq_some_iff.1 h
  refine call_fun [] false ⟨trivial, trivial, trivial, trivial⟩ rfl ?_ (f_slices_IndexFunc_api_Write_api_Write_ok _ f_f f_c f f_h _ e1) (fun _ => rfl) (fun i hi => by cases hi) ?_
  · simp only [wz, wd, ws, seval, e_api_Write]
  simp only [wz, wd, ws, seval, c61r1, semI.eq_10, semI.eq_11, semI.eq_3, semI.eq_5, semI.eq_7, e_api_Write]
  obtain rfl := Option.some.inj h
  refine .ret ?_
  rw [← hR]
  simp only [wz, wd, ws, seval, rv61, e_api_Write]
-- 62 consignor/disk.well$1
def c62r0 : List Opn := [
  ⟨(some 2), none, .box 2 (.t 0)⟩, 
  ⟨(some 3), none, .mv (.c (.s (.d (.bool false))))⟩]
def c62r1 : List Opn := [
  ⟨(some 4), none, .fadr 0 (.t 2)⟩, 
  ⟨(some 5), none, .load false 1 (.t 4)⟩, 
  ⟨(some 6), none, .bin .lss (.t 5) (.c (.s (.d (.int .i64 0))))⟩, 
  ⟨(some 7), none, .mv (.t 6)⟩, 
  ⟨(some 8), some (7, false), .fadr 0 (.t 2)⟩, 
  ⟨(some 9), some (7, false), .load false 1 (.t 8)⟩, 
  ⟨(some 10), some (7, false), .load false 1 (.t 1)⟩, 
  ⟨(some 11), some (7, false), .bin .geq (.t 9) (.t 10)⟩, 
  ⟨(some 12), none, .pick (.t 7) (.c (.s (.d (.bool true)))) (.t 11)⟩, 
  ⟨(some 13), none, .mv (.t 12)⟩, 
  ⟨(some 14), some (13, false), .fadr 1 (.t 2)⟩, 
  ⟨(some 15), some (13, false), .load false 1 (.t 14)⟩, 
  ⟨(some 16), some (13, false), .len .str (.t 15)⟩, 
  ⟨(some 17), some (13, false), .bin .neq (.t 16) (.c (.s (.d (.int .i64 128))))⟩, 
  ⟨(some 18), none, .pick (.t 13) (.c (.s (.d (.bool true)))) (.t 17)⟩, 
  ⟨(some 3), none, .mv (.t 18)⟩]
def c62 : C := .seq (.reg c62r0 none [1, 2]) (.seq (.reg c62r1 none [3]) (.ret))
def k62 : List (Nat × List Nat) := [(1, [3]), (0, [1, 2])]
theorem cc62 : (Try.f62.body).bind (cC Try.prog 19 k62) = some c62 := by kernel_rfl
def rv62 : List RV := [.t 3]
theorem cr62 : cRVs Try.prog Try.f62.results.toList = some rv62 := by kernel_rfl
theorem f_disk_well_1_ok (w : api_Write) (p1 : Int) (y_ : Bool) (h : f_disk_well_1 w p1 = some y_) : Fun Try.prog glP 62 [.b (.agg ((e_api_Write w).map Lc.d)), .b (.s (.d (.ref [(.int .i64 p1)] 0)))] (.b (.s (.d (.bool y_)))) := by
  refine fun_walk [] Try.func62 Try.ntmps62 cc62 cr62 (by kernel_rfl) (by simp only [List.length_cons, List.length_nil]; decide) ?_
  generalize hR : Ret _ _ _ _ _ = R_
  simp only [wz, wd, ws, seval, e_api_Write]
  unfold f_disk_well_1 at h; unfold c62
  refine .seq ?_
  refine Rw.walk ?_
  simp only [wz, wd, ws, seval, c62r0, semI.eq_10, semI.eq_11, semI.eq_3, semI.eq_5, semI.eq_7, e_api_Write]
  refine .seq ?_
  refine Rw.walk ?_
  simp only [wz, wd, ws, seval, c62r1, semI.eq_10, semI.eq_11, semI.eq_3, semI.eq_5, semI.eq_7, e_api_Write]
  refine call_alt (v := .b (.s (.d (.int .i64 w.At)))) rfl rfl (by simp only [wz, wd, ws, seval]) (fun q => ⟨_, by simp only [wz, wd, ws, seval, semI.eq_10, e_api_Write], trivial⟩) ?_
  simp only [wz, wd, ws, seval, c62r1, semI.eq_10, semI.eq_11, semI.eq_3, semI.eq_5, semI.eq_7, e_api_Write]
  refine call_alt (v := .b (.s (.d (.int .i64 p1)))) rfl rfl (by simp only [wz, wd, ws, seval]) (fun q => ⟨_, by simp only [wz, wd, ws, seval, semI.eq_10, e_api_Write], trivial⟩) ?_
  simp only [wz, wd, ws, seval, c62r1, semI.eq_10, semI.eq_11, semI.eq_3, semI.eq_5, semI.eq_7, e_api_Write]
  repeat (refine And.intro ?_ ?_; · first | omega | (simp only [List.length_append, List.length_cons, List.length_nil] at *; omega) | (intro q; simp only [wz, wd, ws, seval, q]; done))
  refine call_alt (v := .b (.s (.d (.str w.Data)))) rfl rfl (by simp only [wz, wd, ws, seval]) (fun q => ⟨_, by simp only [wz, wd, ws, seval, semI.eq_10, e_api_Write], trivial⟩) ?_
  simp only [wz, wd, ws, seval, c62r1, semI.eq_10, semI.eq_11, semI.eq_3, semI.eq_5, semI.eq_7, e_api_Write]
  repeat (refine And.intro ?_ ?_; · first | omega | (simp only [List.length_append, List.length_cons, List.length_nil] at *; omega) | (intro q; simp only [wz, wd, ws, seval, q]; done))
  obtain rfl := Option.some.inj h
  refine .ret ?_
  rw [← hR]
  simp only [wz, wd, ws, seval, rv62, e_api_Write]
-- 46 consignor/disk.well
def c46r0 : List Opn := [
  ⟨(some 3), none, .box 1 (.t 1)⟩, 
  ⟨(some 4), none, .mv (.c (.s (.d (.bool false))))⟩]
def c46r1 : List Opn := [
  ⟨(some 5), none, .mv (.t 0)⟩, 
  ⟨(some 6), none, .mkfn 62 [(.t 3)]⟩, 
  ⟨(some 7), none, .call (.fn 61) [(.t 5), (.t 6)]⟩, 
  ⟨(some 8), none, .un .not (.t 7)⟩, 
  ⟨(some 4), none, .mv (.t 8)⟩]
def c46 : C := .seq (.reg c46r0 none [0, 3]) (.seq (.reg c46r1 none [4]) (.ret))
def k46 : List (Nat × List Nat) := [(1, [4]), (0, [0, 3])]
theorem cc46 : (Try.f46.body).bind (cC Try.prog 9 k46) = some c46 := by kernel_rfl
def rv46 : List RV := [.t 4]
theorem cr46 : cRVs Try.prog Try.f46.results.toList = some rv46 := by kernel_rfl
theorem f_disk_well_ok (l : (List api_Write)) (sectors : Int) (y_ : Bool) (h : f_disk_well l sectors = some y_) : Fun Try.prog glP 46 [.b (.s (.d (.sl (l.map e_api_Write)))), .b (.s (.d (.int .i64 sectors)))] (.b (.s (.d (.bool y_)))) := by
  refine fun_walk [] Try.func46 Try.ntmps46 cc46 cr46 (by kernel_rfl) (by simp only [List.length_cons, List.length_nil]; decide) ?_
  generalize hR : Ret _ _ _ _ _ = R_
  simp only [wz, wd, ws, seval, e_api_Write]
  unfold f_disk_well at h; unfold c46
  refine .seq ?_
  refine Rw.walk ?_
  simp only [wz, wd, ws, seval, c46r0, semI.eq_10, semI.eq_11, semI.eq_3, semI.eq_5, semI.eq_7]
  refine .seq ?_
  refine Rw.walk ?_
  simp only [wz, wd, ws, seval, c46r1, semI.eq_10, semI.eq_11, semI.eq_3, semI.eq_5, semI.eq_7]
  obtain ⟨t, e1, h⟩ := Option.bind_eq_some_iff.1 h
  refine call_fun [3] false ⟨trivial, trivial, trivial, trivial⟩ rfl ?_ (f_slices_ContainsFunc_api_Write_api_Write_ok _ 62 [(.ref [(.int .i64 sectors)] 0)] (fun a0 => f_disk_well_1 a0 sectors) (fun a0 r hr => f_disk_well_1_ok a0 sectors r hr) _ e1) (fun _ => rfl) (fun i hi e he => coF_get (l := [3]) (by simp only [wz, wd, ws, seval, wi]) i e hi he) ?_
  · simp only [wz, wd, ws, seval]
  simp only [wz, wd, ws, seval, c46r1, semI.eq_10, semI.eq_11, semI.eq_3, semI.eq_5, semI.eq_7]
  obtain rfl := Option.some.inj h
  refine .ret ?_
  rw [← hR]
  simp only [wz, wd, ws, seval, rv46]
-- 31 consignor/disk.Right
def c31r0 : List Opn := [
  ⟨(some 1), none, .box 2 (.t 0)⟩, 
  ⟨(some 2), none, .mv (.c (.s (.d (.bool false))))⟩]
def c31r1 : List Opn := [
  ⟨(some 5), none, .fadr 0 (.t 1)⟩, 
  ⟨(some 6), none, .load false 1 (.t 5)⟩, 
  ⟨(some 7), none, .len (.sl 0) (.t 6)⟩, 
  ⟨(some 3), none, .mv (.t 7)⟩]
def c31r2 : List Opn := [
  ⟨(some 4), none, .mv (.fn 50)⟩]
def c31r3 : List Opn := [
  ⟨(some 8), none, .mv (.t 3)⟩, 
  ⟨(some 9), none, .bin .geq (.t 8) (.c (.s (.d (.int .i64 4))))⟩, 
  ⟨(some 10), none, .mv (.t 9)⟩, 
  ⟨(some 11), some (10, true), .mv (.t 3)⟩, 
  ⟨(some 12), some (10, true), .bin .leq (.t 11) (.c (.s (.d (.int .i64 64))))⟩, 
  ⟨(some 13), none, .pick (.t 10) (.t 12) (.c (.s (.d (.bool false))))⟩, 
  ⟨(some 14), none, .mv (.t 13)⟩, 
  ⟨(some 15), some (14, true), .fadr 1 (.t 1)⟩, 
  ⟨(some 16), some (14, true), .load false 1 (.t 15)⟩, 
  ⟨(some 17), some (14, true), .len (.sl 0) (.t 16)⟩, 
  ⟨(some 18), some (14, true), .bin .leq (.t 17) (.c (.s (.d (.int .i64 200))))⟩, 
  ⟨(some 19), none, .pick (.t 14) (.t 18) (.c (.s (.d (.bool false))))⟩, 
  ⟨(some 20), none, .mv (.t 19)⟩, 
  ⟨(some 21), some (20, true), .fadr 0 (.t 1)⟩, 
  ⟨(some 22), some (20, true), .load false 1 (.t 21)⟩, 
  ⟨(some 23), some (20, true), .mv (.t 4)⟩, 
  ⟨(some 24), some (20, true), .call (.fn 51) [(.t 22), (.t 23)]⟩, 
  ⟨(some 25), some (20, true), .un .not (.t 24)⟩, 
  ⟨(some 26), none, .pick (.t 20) (.t 25) (.c (.s (.d (.bool false))))⟩, 
  ⟨(some 27), none, .mv (.t 26)⟩, 
  ⟨(some 28), some (27, true), .fadr 1 (.t 1)⟩, 
  ⟨(some 29), some (27, true), .load false 1 (.t 28)⟩, 
  ⟨(some 30), some (27, true), .mv (.t 3)⟩, 
  ⟨(some 31), some (27, true), .call (.fn 46) [(.t 29), (.t 30)]⟩, 
  ⟨(some 32), none, .pick (.t 27) (.t 31) (.c (.s (.d (.bool false))))⟩, 
  ⟨(some 2), none, .mv (.t 32)⟩]
def c31 : C := .seq (.reg c31r0 none [1]) (.seq (.reg c31r1 none [1, 3]) (.seq (.reg c31r2 none [1, 3, 4]) (.seq (.reg c31r3 none [2]) (.ret))))
def k31 : List (Nat × List Nat) := [(3, [2]), (2, [1, 3, 4]), (1, [1, 3]), (0, [1])]
theorem cc31 : (Try.f31.body).bind (cC Try.prog 33 k31) = some c31 := by kernel_rfl
def rv31 : List RV := [.t 2]
theorem cr31 : cRVs Try.prog Try.f31.results.toList = some rv31 := by kernel_rfl
theorem f_disk_Right_ok (d : api_Disk) (y_ : Bool) (h : f_disk_Right d = some y_) : Fun Try.prog glP 31 [.b (.agg ((e_api_Disk d).map Lc.d))] (.b (.s (.d (.bool y_)))) := by
  refine fun_walk [] Try.func31 Try.ntmps31 cc31 cr31 (by kernel_rfl) (by simp only [List.length_cons, List.length_nil]; decide) ?_
  generalize hR : Ret _ _ _ _ _ = R_
  simp only [wz, wd, ws, seval, e_api_Disk, e_api_Write]
  unfold f_disk_Right at h; unfold c31
  refine .seq ?_
  refine Rw.walk ?_
  simp only [wz, wd, ws, seval, c31r0, semI.eq_10, semI.eq_11, semI.eq_3, semI.eq_5, semI.eq_7, e_api_Disk, e_api_Write]
  refine .seq ?_
  refine Rw.walk ?_
  simp only [wz, wd, ws, seval, c31r1, semI.eq_10, semI.eq_11, semI.eq_3, semI.eq_5, semI.eq_7, e_api_Disk, e_api_Write]
  refine .seq ?_
  refine Rw.walk ?_
  simp only [wz, wd, ws, seval, c31r2, semI.eq_10, semI.eq_11, semI.eq_3, semI.eq_5, semI.eq_7, e_api_Disk, e_api_Write]
  refine .seq ?_
  refine Rw.walk ?_
  simp only [wz, wd, ws, seval, c31r3, semI.eq_10, semI.eq_11, semI.eq_3, semI.eq_5, semI.eq_7, e_api_Disk, e_api_Write]
  repeat (refine And.intro ?_ ?_; · first | omega | (simp only [List.length_append, List.length_cons, List.length_nil] at *; omega) | (intro q; simp only [wz, wd, ws, seval, q]; done))
  refine call_alt (v := .b (.s (.d (.sl (d.Dirty.map e_api_Write))))) rfl rfl (by simp only [wz, wd, ws, seval]) (fun q => ⟨_, by simp only [wz, wd, ws, seval, semI.eq_10, e_api_Disk, e_api_Write], trivial⟩) ?_
  simp only [wz, wd, ws, seval, c31r3, semI.eq_10, semI.eq_11, semI.eq_3, semI.eq_5, semI.eq_7, e_api_Disk, e_api_Write]
  repeat (refine And.intro ?_ ?_; · first | omega | (simp only [List.length_append, List.length_cons, List.length_nil] at *; omega) | (intro q; simp only [wz, wd, ws, seval, q]; done))
  refine call_alt (v := .b (.s (.d (.sl (d.Sectors.map eS))))) rfl rfl (by simp only [wz, wd, ws, seval]) (fun q => ⟨_, by simp only [wz, wd, ws, seval, semI.eq_10, e_api_Disk, e_api_Write], trivial⟩) ?_
  simp only [wz, wd, ws, seval, c31r3, semI.eq_10, semI.eq_11, semI.eq_3, semI.eq_5, semI.eq_7, e_api_Disk, e_api_Write]
  obtain ⟨t, e1, h⟩ := Option.bind_eq_some_iff.1 h
  refine call_funG [] rfl (by simp only [wz, wd, ws, seval]) rfl ?_ (fun q => (f_slices_ContainsFunc_string_string_ok _ 50 [] f_disk_Right_1 (fun a0 r hr => f_disk_Right_1_ok a0 r hr) _ (gx_iff e1 (by simpa using q)))) rfl (fun i hi => by cases hi) ?_
  · simp only [wz, wd, ws, seval, e_api_Disk, e_api_Write]
  simp only [wz, wd, ws, seval, c31r3, semI.eq_10, semI.eq_11, semI.eq_3, semI.eq_5, semI.eq_7, e_api_Disk, e_api_Write]
  repeat (refine And.intro ?_ ?_; · first | omega | (simp only [List.length_append, List.length_cons, List.length_nil] at *; omega) | (intro q; simp only [wz, wd, ws, seval, q]; done))
  refine call_alt (v := .b (.s (.d (.sl (d.Dirty.map e_api_Write))))) rfl rfl (by simp only [wz, wd, ws, seval]) (fun q => ⟨_, by simp only [wz, wd, ws, seval, semI.eq_10, e_api_Disk, e_api_Write], trivial⟩) ?_
  simp only [wz, wd, ws, seval, c31r3, semI.eq_10, semI.eq_11, semI.eq_3, semI.eq_5, semI.eq_7, e_api_Disk, e_api_Write]
  obtain ⟨t2, e2, h⟩ := Option.bind_eq_some_iff.1 h
  refine call_funG [] rfl (by simp only [wz, wd, ws, seval]) rfl ?_ (fun q => (f_disk_well_ok _ _ _ (gx_iff e2 (by simpa using q)))) rfl (fun i hi => by cases hi) ?_
  · simp only [wz, wd, ws, seval, e_api_Disk, e_api_Write]
  simp only [wz, wd, ws, seval, c31r3, semI.eq_10, semI.eq_11, semI.eq_3, semI.eq_5, semI.eq_7, e_api_Disk, e_api_Write]
  repeat (refine And.intro ?_ ?_; · first | omega | (simp only [List.length_append, List.length_cons, List.length_nil] at *; omega) | (intro q; simp only [wz, wd, ws, seval, q]; done))
  obtain rfl := Option.some.inj h
  refine .ret ?_
  rw [← hR]
  simp only [wz, wd, ws, seval, rv31, e_api_Disk, e_api_Write]
-- 33 consignor/ledger.room
def c33r0 : List Opn := [
  ⟨(some 2), none, .box 2 (.t 0)⟩, 
  ⟨(some 4), none, .mv (.c (.s (.d (.int .i64 0))))⟩, 
  ⟨(some 5), none, .mv (.c (.s (.d (.str []))))⟩]
def c33r1 : List Opn := [
  ⟨(some 7), none, .fadr 0 (.t 2)⟩, 
  ⟨(some 8), none, .load false 1 (.t 7)⟩, 
  ⟨(some 9), none, .len (.sl 0) (.t 8)⟩, 
  ⟨(some 10), none, .bin .quo (.t 9) (.c (.s (.d (.int .i64 2))))⟩, 
  ⟨(some 6), none, .mv (.t 10)⟩]
def c33r2 : List Opn := [
  ⟨(some 11), none, .mv (.t 1)⟩, 
  ⟨(some 12), none, .mv (.t 6)⟩, 
  ⟨(some 13), none, .bin .mul (.t 11) (.t 12)⟩, 
  ⟨(some 14), none, .fadr 0 (.t 2)⟩, 
  ⟨(some 15), none, .load false 1 (.t 14)⟩, 
  ⟨(some 16), none, .mv (.t 1)⟩, 
  ⟨(some 17), none, .mv (.t 6)⟩, 
  ⟨(some 18), none, .bin .mul (.t 16) (.t 17)⟩, 
  ⟨(some 19), none, .bin .add (.t 18) (.c (.s (.d (.int .i64 1))))⟩, 
  ⟨(some 20), none, .mv (.t 1)⟩, 
  ⟨(some 21), none, .bin .add (.t 20) (.c (.s (.d (.int .i64 1))))⟩, 
  ⟨(some 22), none, .mv (.t 6)⟩, 
  ⟨(some 23), none, .bin .mul (.t 21) (.t 22)⟩, 
  ⟨(some 24), none, .slc (.sl 1) (.t 15) (some (.t 19)) (some (.t 23)) none⟩, 
  ⟨(some 25), none, .call (.fn 53) [(.t 24), (.c (.s (.d (.str []))))]⟩, 
  ⟨(some 4), none, .mv (.t 13)⟩, 
  ⟨(some 5), none, .mv (.t 25)⟩]
def c33 : C := .seq (.reg c33r0 none [1, 2]) (.seq (.reg c33r1 none [1, 2, 6]) (.seq (.reg c33r2 none [4, 5]) (.ret)))
def k33 : List (Nat × List Nat) := [(2, [4, 5]), (1, [1, 2, 6]), (0, [1, 2])]
theorem cc33 : (Try.f33.body).bind (cC Try.prog 26 k33) = some c33 := by kernel_rfl
def rv33 : List RV := [.t 4, .t 5]
theorem cr33 : cRVs Try.prog Try.f33.results.toList = some rv33 := by kernel_rfl
theorem f_ledger_room_ok (d : api_Disk) (half : Int) (y_ : Int × Str) (h : f_ledger_room d half = some y_) : Fun Try.prog glP 33 [.b (.agg ((e_api_Disk d).map Lc.d)), .b (.s (.d (.int .i64 half)))] (.tup [.s (.d (.int .i64 y_.1)), .s (.d (.str y_.2))]) := by
  refine fun_walk [] Try.func33 Try.ntmps33 cc33 cr33 (by kernel_rfl) (by simp only [List.length_cons, List.length_nil]; decide) ?_
  generalize hR : Ret _ _ _ _ _ = R_
  simp only [wz, wd, ws, seval, e_api_Disk, e_api_Write]
  unfold f_ledger_room at h; unfold c33
  refine .seq ?_
  refine Rw.walk ?_
  simp only [wz, wd, ws, seval, c33r0, semI.eq_10, semI.eq_11, semI.eq_3, semI.eq_5, semI.eq_7, e_api_Disk, e_api_Write]
  refine .seq ?_
  refine Rw.walk ?_
  simp only [wz, wd, ws, seval, c33r1, semI.eq_10, semI.eq_11, semI.eq_3, semI.eq_5, semI.eq_7, e_api_Disk, e_api_Write]
  repeat (refine And.intro ?_ ?_; · first | omega | (simp only [List.length_append, List.length_cons, List.length_nil] at *; omega) | (intro q; simp only [wz, wd, ws, seval, q]; done))
  refine .seq ?_
  refine Rw.walk ?_
  simp only [wz, wd, ws, seval, c33r2, semI.eq_10, semI.eq_11, semI.eq_3, semI.eq_5, semI.eq_7, e_api_Disk, e_api_Write]
  obtain ⟨g1, h⟩ := gd_iff.1 h
  repeat (refine And.intro ?_ ?_; · first | omega | (simp only [List.length_append, List.length_cons, List.length_nil] at *; omega) | (intro q; simp only [wz, wd, ws, seval, q]; done))
  refine Go1.of (sem_slc (p := (IntKind.i64.wrap ((IntKind.i64.wrap (half * (IntKind.i64.wrap ((d.Sectors.length : Int).tdiv 2)))) + 1))) (q := (IntKind.i64.wrap ((IntKind.i64.wrap (half + 1)) * (IntKind.i64.wrap ((d.Sectors.length : Int).tdiv 2))))) eS_len (by rfl) (by rfl) (by rfl)) ?_
  simp only [wz, wd, ws, seval, c33r2, semI.eq_10, semI.eq_11, semI.eq_3, semI.eq_5, semI.eq_7, e_api_Disk, e_api_Write]
  repeat (refine And.intro ?_ ?_; · first | omega | (simp only [List.length_append, List.length_cons, List.length_nil] at *; omega) | (intro q; simp only [wz, wd, ws, seval, q]; done))
  obtain ⟨t, e2, h⟩ := Option.bind_eq_some_iff.1 h
  refine call_fun [] false ⟨trivial, trivial, trivial, trivial⟩ rfl ?_ (f_strings_Join_ok _ _ _ e2) (fun _ => rfl) (fun i hi => by cases hi) ?_
  · simp only [wz, wd, ws, seval, e_api_Disk, e_api_Write]
  simp only [wz, wd, ws, seval, c33r2, semI.eq_10, semI.eq_11, semI.eq_3, semI.eq_5, semI.eq_7, e_api_Disk, e_api_Write]
  obtain rfl := Option.some.inj h
  refine .ret ?_
  rw [← hR]
  simp only [wz, wd, ws, seval, rv33, e_api_Disk, e_api_Write]
-- 52 consignor/octet.Whole
def c52r0 : List Opn := [
  ⟨(some 2), none, .mv (.c (.s (.d (.int .u64 0))))⟩, 
  ⟨(some 3), none, .mv (.c (.s (.d (.int .i64 0))))⟩]
def c52r1 : List Opn := [
  ⟨(some 6), none, .mv (.t 0)⟩, 
  ⟨(some 7), none, .len .str (.t 6)⟩, 
  ⟨(some 8), none, .bin .gtr (.t 7) (.c (.s (.d (.int .i64 8))))⟩]
def c52r2 : List Opn := [
  ⟨(some 2), none, .mv (.c (.s (.d (.int .u64 0))))⟩, 
  ⟨(some 3), none, .mv (.c (.s (.d (.int .i64 2))))⟩]
def c52r3 : List Opn := [
  ⟨(some 4), none, .mv (.c (.s (.d (.int .u64 0))))⟩]
def c52r4 : List Opn := [
  ⟨(some 9), none, .mv (.t 0)⟩, 
  ⟨(some 10), none, .len .str (.t 9)⟩, 
  ⟨(some 11), none, .mv (.c (.s (.d (.int .i64 0))))⟩]
def c52r5 : List Opn := [
  ⟨(some 12), none, .bin .lss (.t 11) (.t 10)⟩]
def c52r6 : List Opn := [
  ⟨(some 13), none, .mv (.t 11)⟩, 
  ⟨(some 5), none, .mv (.t 13)⟩]
def c52r7 : List Opn := [
  ⟨(some 14), none, .mv (.t 4)⟩, 
  ⟨(some 15), none, .mv (.t 0)⟩, 
  ⟨(some 16), none, .mv (.t 5)⟩, 
  ⟨(some 17), none, .idx .str (.t 15) (.t 16)⟩, 
  ⟨(some 18), none, .cv (.toInt .u64) (.t 17)⟩, 
  ⟨(some 19), none, .mv (.t 5)⟩, 
  ⟨(some 20), none, .bin .mul (.c (.s (.d (.int .i64 8)))) (.t 19)⟩, 
  ⟨(some 21), none, .bin .shl (.t 18) (.t 20)⟩, 
  ⟨(some 22), none, .bin .or (.t 14) (.t 21)⟩, 
  ⟨(some 4), none, .mv (.t 22)⟩]
def c52r8 : List Opn := [
  ⟨(some 23), none, .bin .add (.t 11) (.c (.s (.d (.int .i64 1))))⟩, 
  ⟨(some 11), none, .mv (.t 23)⟩]
def c52l9 : C := .seq (.reg c52r5 none [0, 4, 10, 11, 12]) (.seq (.cond (.t 12) (.skip) (.exit 0)) (.seq (.blk 1 (.seq (.reg c52r6 none [0, 4, 5, 10, 11]) (.reg c52r7 none [0, 4, 10, 11]))) (.reg c52r8 none [0, 4, 10, 11])))
def c52r9 : List Opn := [
  ⟨(some 24), none, .mv (.t 4)⟩, 
  ⟨(some 2), none, .mv (.t 24)⟩, 
  ⟨(some 3), none, .mv (.c (.s (.d (.int .i64 0))))⟩]
def c52 : C := .seq (.reg c52r0 none [0]) (.seq (.seq (.reg c52r1 none [0, 8]) (.cond (.t 8) (.seq (.reg c52r2 none [2, 3]) (.ret)) (.skip))) (.seq (.reg c52r3 none [0, 4]) (.seq (.seq (.reg c52r4 none [0, 4, 10, 11]) (.blk 0 (.loop c52l9))) (.seq (.reg c52r9 none [2, 3]) (.ret)))))
def k52 : List (Nat × List Nat) := [(9, [2, 3]), (8, [0, 4, 10, 11]), (7, [0, 4, 10, 11]), (6, [0, 4, 5, 10, 11]), (5, [0, 4, 10, 11, 12]), (4, [0, 4, 10, 11]), (3, [0, 4]), (2, [2, 3]), (1, [0, 8]), (0, [0])]
theorem cc52 : (Try.f52.body).bind (cC Try.prog 25 k52) = some c52 := by kernel_rfl
def rv52 : List RV := [.t 2, .t 3]
theorem cr52 : cRVs Try.prog Try.f52.results.toList = some rv52 := by kernel_rfl
theorem f_octet_Whole_l9_ok (s : Str) (y_ : Int × Int) (R_ : St → Prop) (hR : (Ret Try.prog glP [] rv52 (.tup [.s (.d (.int .u64 y_.1)), .s (.d (.int .i64 y_.2))])) = R_) : ∀ (m_ : Nat) (n : Int) (v11 : Int) (res_ : Int × Int) (h : f_octet_Whole_l9 s m_ n v11 = some res_) (k_ : List It) (hx : ∀ s_ : Int × Int, res_ = s_ → W Try.prog glP 25 k_ ⟨lkT [(0, .b (.s (.d (.str s)))), (4, .b (.s (.d (.int .u64 s_.1)))), (10, .b (.s (.d (.int .i64 (s.length : Int))))), (11, .b (.s (.d (.int .i64 s_.2))))], lkG []⟩ R_), W Try.prog glP 25 (.c c52l9 :: .lp c52l9 :: .blk 0 :: k_) ⟨lkT [(0, .b (.s (.d (.str s)))), (4, .b (.s (.d (.int .u64 n)))), (10, .b (.s (.d (.int .i64 (s.length : Int))))), (11, .b (.s (.d (.int .i64 v11))))], lkG []⟩ R_ := by
  intro m_; induction m_ with
  | zero => intro n v11 res_ h; rw [f_octet_Whole_l9.eq_1] at h; cases h
  | succ m_ ih =>
    intro n v11 res_ h k_ hx; rw [f_octet_Whole_l9.eq_2] at h; refine W.cdef c52l9.eq_1 ?_
    refine .seq ?_
    refine Rw.walk ?_
    simp only [wz, wd, ws, seval, c52r5, semI.eq_10, semI.eq_11, semI.eq_3, semI.eq_5, semI.eq_7]
    refine .seq ?_
    refine .cond (p := (decide (v11 < (s.length : Int)))) (by first | rfl | simp only [wz, wd, ws, seval]) (fun h1 => ?_) (fun h1 => ?_)
    · rw [ite_t h1] at h
      refine .skip ?_
      refine .seq ?_
      refine .blk ?_
      refine .seq ?_
      refine Rw.walk ?_
      simp only [wz, wd, ws, seval, c52r6, semI.eq_10, semI.eq_11, semI.eq_3, semI.eq_5, semI.eq_7]
      refine Rw.walk ?_
      simp only [wz, wd, ws, seval, c52r7, semI.eq_10, semI.eq_11, semI.eq_3, semI.eq_5, semI.eq_7]
      obtain ⟨c, e1, h⟩ := Option.bind_eq_some_iff.1 h
      refine Go1.of (sem_idx e1 (by rfl) (by rfl)) ?_
      simp only [wz, wd, ws, seval, c52r7, semI.eq_10, semI.eq_11, semI.eq_3, semI.eq_5, semI.eq_7]
      obtain ⟨g2, h⟩ := gd_iff.1 h
      repeat (refine And.intro ?_ ?_; · first | omega | (simp only [List.length_append, List.length_cons, List.length_nil] at *; omega) | (intro q; simp only [wz, wd, ws, seval, q]; done))
      obtain ⟨n2, e3, h⟩ := Option.bind_eq_some_iff.1 h
      replace e3 := Option.some.inj e3
      first | simp only [e3] | (simp only [wz, wd, ws, seval] at e3; simp only [e3])
      refine .eblk ?_
      refine Rw.walk ?_
      simp only [wz, wd, ws, seval, c52r8, semI.eq_10, semI.eq_11, semI.eq_3, semI.eq_5, semI.eq_7]
      refine .lp ?_
      refine .weak (Imp.co [] _ _ ?_ ?_ ?_ ?_ ?_) (ih n2 (IntKind.i64.wrap (v11 + 1)) _ h k_ hx) <;> simp only [wz, wd, ws, seval, wi, er_nil]
    · rw [ite_f h1] at h
      refine .exit rfl ?_
      obtain rfl := Option.some.inj h
      refine .weak (Imp.co [] _ _ ?_ ?_ ?_ ?_ ?_) (hx _ rfl) <;> simp only [wz, wd, ws, seval, wi, er_nil]
theorem f_octet_Whole_ok (s : Str) (y_ : Int × Int) (h : f_octet_Whole s = some y_) : Fun Try.prog glP 52 [.b (.s (.d (.str s)))] (.tup [.s (.d (.int .u64 y_.1)), .s (.d (.int .i64 y_.2))]) := by
  refine fun_walk [] Try.func52 Try.ntmps52 cc52 cr52 (by kernel_rfl) (by simp only [List.length_cons, List.length_nil]; decide) ?_
  generalize hR : Ret _ _ _ _ _ = R_
  simp only [wz, wd, ws, seval]
  unfold f_octet_Whole at h; unfold c52
  refine .seq ?_
  refine Rw.walk ?_
  simp only [wz, wd, ws, seval, c52r0, semI.eq_10, semI.eq_11, semI.eq_3, semI.eq_5, semI.eq_7]
  refine .seq ?_
  refine .seq ?_
  refine Rw.walk ?_
  simp only [wz, wd, ws, seval, c52r1, semI.eq_10, semI.eq_11, semI.eq_3, semI.eq_5, semI.eq_7]
  refine .cond (p := (decide ((s.length : Int) > 8))) (by first | rfl | simp only [wz, wd, ws, seval]) (fun h1 => ?_) (fun h1 => ?_)
  · rw [ite_t h1] at h
    refine .seq ?_
    refine Rw.walk ?_
    simp only [wz, wd, ws, seval, c52r2, semI.eq_10, semI.eq_11, semI.eq_3, semI.eq_5, semI.eq_7]
    obtain rfl := Option.some.inj h
    refine .ret ?_
    rw [← hR]
    simp only [wz, wd, ws, seval, rv52]
  · rw [ite_f h1] at h
    refine .skip ?_
    refine .seq ?_
    refine Rw.walk ?_
    simp only [wz, wd, ws, seval, c52r3, semI.eq_10, semI.eq_11, semI.eq_3, semI.eq_5, semI.eq_7]
    refine .seq ?_
    refine .seq ?_
    refine Rw.walk ?_
    simp only [wz, wd, ws, seval, c52r4, semI.eq_10, semI.eq_11, semI.eq_3, semI.eq_5, semI.eq_7]
    refine .blk ?_
    obtain ⟨s2, hf, h⟩ := Option.bind_eq_some_iff.1 h
    refine .loop (.weak (Imp.co [] _ _ ?c1 ?c2 ?c3 ?c4 ?c5) (f_octet_Whole_l9_ok s _ _ hR _ _ _ _ hf _ ?_))
    case c1 | c2 | c3 | c4 | c5 => simp only [wz, wd, ws, seval, wi, er_nil]
    · intro s2_ hs; subst hs
      refine .seq ?_
      refine Rw.walk ?_
      simp only [wz, wd, ws, seval, c52r9, semI.eq_10, semI.eq_11, semI.eq_3, semI.eq_5, semI.eq_7]
      obtain rfl := Option.some.inj h
      refine .ret ?_
      rw [← hR]
      simp only [wz, wd, ws, seval, rv52]
end Go.Proofs.Ytjhelpeglgigbaa.V
end
