/- Go functions compute what Lean functions do. -/
import Derived.Test.YtjhgkcbhllomaaaDoorQOctetBackB
import Derived.Lib.Bytealg
import Derived.Shelf.Strings.Builder1
import Derived.Shelf.Strings.Builder2
import Derived.Shelf.Strings.OnBuilder
import Derived.Shelf.Small.Strs
import Derived.Shelf.Small.Wraps
import Derived.Shelf.Strings.BuilderF
import Derived.Shelf.Strings.BuilderK
import Derived.Shelf.Strings.Builder2Cap
import Derived.Shelf.Strings.Search1
import Derived.Shelf.Strings.Prefix
import Derived.Shelf.Strings.BuilderCap
import Derived.Test.YtjhgkcbhllomaaaDoorProg
import Derived.Deep.Draws
import Derived.Below
import Derived.OpenShut
import Derived.OwnWalk
import Derived.Laws.BytesArg
import Derived.Laws.MakeOwn
import Derived.Laws.OwnMore
import Derived.Deep.OwnRows
import Derived.Tactics
import Derived.Lib.ConvBytes
import Derived.Laws.Slices
import Derived.WalkKit
import Derived.KernelRfl
import Derived.RowKit3
import Derived.Deep.LoopGhost
import Derived.Deep.QuietTactic
import Derived.BigQuiet
import Derived.WideLaws
import Derived.Deep.DeepCutAuto
import Derived.Deep.CutBlock
import Derived.Deep.RegionHeld3
import Derived.Laws.Rows
import Derived.Lib.AppendStr
import Derived.ArgAppend
import Derived.Laws.BitsLemmas
import Derived.RowKit
import Derived.Orders
import Derived.FnData
import Derived.LaidMore
import Derived.MakeChecks
import Derived.RangeFuncKeeps
import Derived.RangeFuncCalls
import Derived.RangeFuncLeaves
import Derived.LaidEql
import Derived.Stop.Asserts
import Derived.RowKitTokens
section
/- What Go functions compute, as Lean functions. -/
namespace Go.Proofs.YtjhgkcbhllomaaaDoor.V
open Go Go.RowKit
set_option linter.unusedVariables false
set_option linter.unusedSimpArgs false
set_option maxHeartbeats 1000000
def glP : Gl := fun g => if g = 1 then some [.ifc 114 true [.z (.hnd 3 69)]] else none
structure octet_fault where
  no : Int
deriving DecidableEq, Inhabited
def e_octet_fault (x : octet_fault) : List Sc := [(.int .i64 x.no)]
theorem e_octet_fault_len (x : octet_fault) : (e_octet_fault x).length = 1 := rfl
def W_octet_fault (x : octet_fault) : Prop := (Lit.int .i64 x.no).wf = true
structure octet_at where
  no : Int
  why : Sc
deriving Inhabited
def e_octet_at (x : octet_at) : List Sc := [(.int .i64 x.no), x.why]
theorem e_octet_at_len (x : octet_at) : (e_octet_at x).length = 2 := rfl
def W_octet_at (x : octet_at) : Prop := (Lit.int .i64 x.no).wf = true ∧ True
def f_octet_Hex (s : Str) : Option Str := gd (s.length ≤ 35184372088832) <| some (hexl s)
def f_internal_stringslite_IndexByte (s : Str) (c : Int) : Option Int := some (Lib.indexByte s c.toNat.toUInt8)
def f_octet_number (x : Sc) : Option Int := match x with
  | .ifc t true [.int .i64 n, .ifc u true [.int .i64 e]] => if t = 91 ∧ u = 93 ∧ (e = 2 ∨ e = 3) then some e else none
  | _ => none
def f_law01_few_l7 (l : (List Str)) : Nat → Int → (List Str) → Option (Int × (List Str))
  | 0, _, _ => none
  | m_ + 1, v14, l2 =>
    if (decide (v14 < ((([] : List Str) ++ (cut l 0 (if 66 < (l.length : Int) then 66 else (l.length : Int)))).length : Int))) then
      (ix l2 v14).bind fun x =>
      gd (0 ≤ (if 4100 < (x.length : Int) then 4100 else (x.length : Int)) ∧ (if 4100 < (x.length : Int) then 4100 else (x.length : Int)) ≤ (x.length : Int)) <|
      (ix l2 v14).bind fun x2 =>
      f_law01_few_l7 l m_ (IntKind.i64.wrap (v14 + 1)) (l2.set v14.toNat (cut x 0 (if 4100 < (x.length : Int) then 4100 else (x.length : Int))))
    else
      some (v14, l2)
def f_law01_few (l : (List Str)) : Option ((List Str)) :=
  gd (0 ≤ (if 66 < (l.length : Int) then 66 else (l.length : Int)) ∧ (if 66 < (l.length : Int) then 66 else (l.length : Int)) ≤ (l.length : Int)) <|
  gd ((0 + (cut l 0 (if 66 < (l.length : Int) then 66 else (l.length : Int))).length) * 16 ≤ 140737488355328) <|
  Option.bind (f_law01_few_l7 l (((((([] : List Str) ++ (cut l 0 (if 66 < (l.length : Int) then 66 else (l.length : Int)))).length : Int) : Int) - 0).toNat + 1) 0 (([] : List Str) ++ (cut l 0 (if 66 < (l.length : Int) then 66 else (l.length : Int))))) fun s : Int × (List Str) =>
  some s.2
def f_octet_Wide_l11 (n : Int) (size : Int) : Nat → Int → (List Int) → Option (Int × (List Int))
  | 0, _, _ => none
  | m_ + 1, v29, out =>
    if (decide (v29 < (size.toNat : Int))) then
      gd (0 ≤ (IntKind.i64.wrap (8 * v29))) <|
      (ix out v29).bind fun x =>
      f_octet_Wide_l11 n size m_ (IntKind.i64.wrap (v29 + 1)) (out.set v29.toNat (IntKind.u8.wrap (n.fdiv (2 ^ (min (IntKind.i64.wrap (8 * v29)).toNat IntKind.u64.bits)))))
    else
      some (v29, out)
def f_octet_Wide (n : Int) (size : Int) : Option (Str × Int) :=
  if ((decide (size < 0)) || (decide (size > 8))) then
    some (([] : Str), 1)
  else
    gd ((decide (size < 8)) = true → 0 ≤ (IntKind.i64.wrap (8 * size))) <|
    if ((decide (size < 8)) && ((n.fdiv (2 ^ (min (IntKind.i64.wrap (8 * size)).toNat IntKind.u64.bits))) != 0)) then
      some (([] : Str), 2)
    else
      gd (0 ≤ size ∧ size ≤ size ∧ size * 1 ≤ 140737488355328 ∧ size < 9223372036854775808) <|
      Option.bind (f_octet_Wide_l11 n size ((((size.toNat : Int) : Int) - 0).toNat + 1) 0 (List.replicate size.toNat 0)) fun s : Int × (List Int) =>
      some ((s.2.map nb), 0)
def f_octet_Bind (parts : List Str) : Option (Str × Int) := gd (parts.length ≤ 140737488355328) <| some (bindR parts)

def f_octet_short : Option (Sc) :=
  some (.ifc 93 true [(.int .i64 3)])
def f_octet_Whole_l9 (s : Str) : Nat → Int → Int → Option (Int × Int)
  | 0, _, _ => none
  | m_ + 1, n, v11 =>
    if (decide (v11 < (s.length : Int))) then
      (ix s v11).bind fun c =>
      gd (0 ≤ (IntKind.i64.wrap (8 * v11))) <|
      (some (IntKind.u64.wrap ((BitVec.ofInt IntKind.u64.bits n ||| BitVec.ofInt IntKind.u64.bits (IntKind.u64.wrap ((IntKind.u64.wrap (bn c)) * 2 ^ (min (IntKind.i64.wrap (8 * v11)).toNat IntKind.u64.bits)))).toNat))).bind fun n2 =>
      f_octet_Whole_l9 s m_ n2 (IntKind.i64.wrap (v11 + 1))
    else
      some (n, v11)
def f_octet_Whole (s : Str) : Option (Int × Int) :=
  if (decide ((s.length : Int) > 8)) then
    some (0, 2)
  else
    Option.bind (f_octet_Whole_l9 s ((((s.length : Int) : Int) - 0).toNat + 1) 0 0) fun s2 : Int × Int =>
    some (s2.1, 0)
def f_octet_take (s : Str) (no : Int) : Option (Str × Str × Sc) :=
  if (decide ((s.length : Int) < 2)) then
    (f_octet_short).bind fun t =>
    some (([] : Str), ([] : Str), (.ifc 91 true [(.int .i64 no), t]))
  else
    gd (2 ≤ (s.length : Int)) <|
    (f_octet_Whole (cut s 0 2)).bind fun t =>
    gd (2 ≤ (s.length : Int)) <|
    if ((decide (t.1 > 4096)) || (decide (no > 64))) then
      some (([] : Str), ([] : Str), (.ifc 91 true [(.int .i64 no), (.ifc 93 true [(.int .i64 2)])]))
    else
      if (decide (t.1 > (IntKind.u64.wrap ((cut s 2 (s.length : Int)).length : Int)))) then
        (f_octet_short).bind fun t2 =>
        some (([] : Str), ([] : Str), (.ifc 91 true [(.int .i64 no), t2]))
      else
        gd (0 ≤ t.1 ∧ t.1 ≤ ((cut s 2 (s.length : Int)).length : Int)) <|
        gd (0 ≤ t.1 ∧ t.1 ≤ ((cut s 2 (s.length : Int)).length : Int)) <|
        some ((cut (cut s 2 (s.length : Int)) 0 t.1), (cut (cut s 2 (s.length : Int)) t.1 ((cut s 2 (s.length : Int)).length : Int)), (Sc.z Zk.nilIface))
def f_octet_Loose_l7 (s : Str) : Nat → Str → (List Str) → Option ((Str × (List Str)) ⊕ ((List Str) × Int))
  | 0, _, _ => none
  | m_ + 1, s2, out =>
    if (!(s2 == ([] : Str))) then
      (f_octet_take s2 (IntKind.i64.wrap ((out.length : Int) + 1))).bind fun t =>
      gd (isIf t.2.2 = true) <|
      if (!(nilI t.2.2)) then
        (f_octet_number t.2.2).bind fun t2 =>
        some (.inr (([] : (List Str)), t2))
      else
        gd ((out.length + 1) * 16 ≤ 140737488355328) <|
        f_octet_Loose_l7 s m_ t.2.1 (out ++ ([t.1] : List Str))
    else
      some (.inl (s2, out))
def f_octet_Loose (s : Str) : Option ((List Str) × Int) :=
  Option.bind (f_octet_Loose_l7 s (s.length + 1) s []) fun s2 : (Str × (List Str)) ⊕ ((List Str) × Int) => match s2 with
  | .inr z => some z
  | .inl s3 =>
    some (s3.2, 0)
def f_ref01_Whole_l6 (s : Str) : Nat → Int → Int → Option (Int × Int)
  | 0, _, _ => none
  | m_ + 1, n, i =>
    if (decide (i ≥ 0)) then
      (ix s i).bind fun c =>
      f_ref01_Whole_l6 s m_ (IntKind.u64.wrap ((IntKind.u64.wrap (256 * n)) + (IntKind.u64.wrap (bn c)))) (IntKind.i64.wrap (i - 1))
    else
      some (n, i)
def f_ref01_Whole (s : Str) : Option (Int) :=
  Option.bind (f_ref01_Whole_l6 s ((((IntKind.i64.wrap ((s.length : Int) - 1)) : Int) - 0).toNat + 2) 0 (IntKind.i64.wrap ((s.length : Int) - 1))) fun s2 : Int × Int =>
  some s2.1
def f_ref01_Loose_l13 (s : Str) : Nat → Str → (List Str) → Option ((Str × (List Str)) ⊕ ((List Str) × Int))
  | 0, _, _ => none
  | m_ + 1, s2, out =>
    if (decide ((s2.length : Int) > 0)) then
      if (decide ((s2.length : Int) < 2)) then
        some (.inr (([] : (List Str)), 3))
      else
        gd (2 ≤ (s2.length : Int)) <|
        (f_ref01_Whole (cut s2 0 2)).bind fun t =>
        gd (2 ≤ (s2.length : Int)) <|
        if ((decide ((IntKind.i64.wrap t) > 4096)) || ((out.length : Int) == 64)) then
          some (.inr (([] : (List Str)), 2))
        else
          if (decide ((IntKind.i64.wrap t) > ((cut s2 2 (s2.length : Int)).length : Int))) then
            some (.inr (([] : (List Str)), 3))
          else
            gd (0 ≤ (IntKind.i64.wrap t) ∧ (IntKind.i64.wrap t) ≤ ((cut s2 2 (s2.length : Int)).length : Int)) <|
            gd ((out.length + 1) * 16 ≤ 140737488355328) <|
            gd (0 ≤ (IntKind.i64.wrap t) ∧ (IntKind.i64.wrap t) ≤ ((cut s2 2 (s2.length : Int)).length : Int)) <|
            (some (cut (cut s2 2 (s2.length : Int)) (IntKind.i64.wrap t) ((cut s2 2 (s2.length : Int)).length : Int))).bind fun s3 =>
            f_ref01_Loose_l13 s m_ s3 (out ++ ([(cut (cut s2 2 (s2.length : Int)) 0 (IntKind.i64.wrap t))] : List Str))
    else
      some (.inl (s2, out))
def f_ref01_Loose (s : Str) : Option ((List Str) × Int) :=
  Option.bind (f_ref01_Loose_l13 s ((((s.length : Int) : Int) - 0).toNat + 1) s ([] : List Str)) fun s2 : (Str × (List Str)) ⊕ ((List Str) × Int) => match s2 with
  | .inr z => some z
  | .inl s3 =>
    some (s3.2, 0)
def f_ref01_Same_l9 (a : (List Str)) (b : (List Str)) : Nat → Int → Option ((Int) ⊕ (Bool))
  | 0, _ => none
  | m_ + 1, v13 =>
    if (decide (v13 < (a.length : Int))) then
      (ix a v13).bind fun x =>
      (ix b v13).bind fun x2 =>
      if (!(x == x2)) then
        some (.inr false)
      else
        f_ref01_Same_l9 a b m_ (IntKind.i64.wrap (v13 + 1))
    else
      some (.inl v13)
def f_ref01_Same (a : (List Str)) (b : (List Str)) : Option (Bool) :=
  if ((a.length : Int) != (b.length : Int)) then
    some false
  else
    Option.bind (f_ref01_Same_l9 a b ((((a.length : Int) : Int) - 0).toNat + 1) 0) fun s : (Int) ⊕ (Bool) => match s with
    | .inr z => some z
    | .inl s2 =>
      some true
def f_law01_alive : Option (Bool) :=
  (f_octet_Wide 258 2).bind fun t =>
  (gx ((t.2 == 0) && (t.1 == ([2, 1] : Str))) (f_octet_Hex t.1) default).bind fun t2 =>
  some (((t.2 == 0) && (t.1 == ([2, 1] : Str))) && (t2 == ([48, 50, 48, 49] : Str)))
def f_ref01_May_l7 (l : (List Str)) : Nat → Int → Option ((Int) ⊕ (Bool))
  | 0, _ => none
  | m_ + 1, v7 =>
    if (decide (v7 < (l.length : Int))) then
      (ix l v7).bind fun x =>
      if (decide ((x.length : Int) > 4096)) then
        some (.inr false)
      else
        f_ref01_May_l7 l m_ (IntKind.i64.wrap (v7 + 1))
    else
      some (.inl v7)
def f_ref01_May (l : (List Str)) : Option (Bool) :=
  Option.bind (f_ref01_May_l7 l ((((l.length : Int) : Int) - 0).toNat + 1) 0) fun s : (Int) ⊕ (Bool) => match s with
  | .inr z => some z
  | .inl s2 =>
    some (decide ((l.length : Int) ≤ 64))
def f_ref01_Wide_l7 (size : Int) : Nat → Int → Int → (List Int) → Option (Int × Int × (List Int))
  | 0, _, _, _ => none
  | m_ + 1, n2, i, b =>
    if (decide (i < size)) then
      gd ((b.length + 1) * 1 ≤ 140737488355328) <|
      f_ref01_Wide_l7 size m_ (IntKind.u64.wrap (n2.tdiv 256)) (IntKind.i64.wrap (i + 1)) (b ++ ([(IntKind.u8.wrap (n2.tmod 256))] : List Int))
    else
      some (n2, i, b)
def f_ref01_Wide (n : Int) (size : Int) : Option (Str) :=
  Option.bind (f_ref01_Wide_l7 size (((size : Int) - 0).toNat + 1) n 0 ([] : List Int)) fun s : Int × Int × (List Int) =>
  some (s.2.2.map nb)
def f_ref01_Bind_l7 (l : (List Str)) : Nat → Str → Int → Option (Str × Int)
  | 0, _, _ => none
  | m_ + 1, out, v8 =>
    if (decide (v8 < (l.length : Int))) then
      (ix l v8).bind fun x =>
      (f_ref01_Wide (IntKind.u64.wrap (x.length : Int)) 2).bind fun t =>
      gd (out.length + t.length ≤ 9223372036854775807) <|
      gd ((out ++ t).length + x.length ≤ 9223372036854775807) <|
      f_ref01_Bind_l7 l m_ ((out ++ t) ++ x) (IntKind.i64.wrap (v8 + 1))
    else
      some (out, v8)
def f_ref01_Bind (l : (List Str)) : Option (Str) :=
  Option.bind (f_ref01_Bind_l7 l ((((l.length : Int) : Int) - 0).toNat + 1) ([] : Str) 0) fun s : Str × Int =>
  some s.1
def f_law01_OctetBinds (l : (List Str)) (s : Str) : Option (Bool) :=
  (f_law01_few l).bind fun t =>
  gd (0 ≤ (if 9000 < (s.length : Int) then 9000 else (s.length : Int)) ∧ (if 9000 < (s.length : Int) then 9000 else (s.length : Int)) ≤ (s.length : Int)) <|
  (f_octet_Bind t).bind fun t2 =>
  (f_octet_Loose (cut s 0 (if 9000 < (s.length : Int) then 9000 else (s.length : Int)))).bind fun t3 =>
  (f_ref01_Loose (cut s 0 (if 9000 < (s.length : Int) then 9000 else (s.length : Int)))).bind fun t4 =>
  (gx (!(t3.2 != t4.2)) (f_ref01_Same t3.1 t4.1) default).bind fun t5 =>
  (gx (!((t3.2 != t4.2) || (!t5))) (f_law01_alive) default).bind fun t6 =>
  if (((t3.2 != t4.2) || (!t5)) || (!t6)) then
    some false
  else
    (f_ref01_May t).bind fun t7 =>
    if (!t7) then
      some ((t2.2 == 2) && (t2.1 == ([] : Str)))
    else
      (gx (t2.2 == 0) (f_ref01_Bind t) default).bind fun t8 =>
      some ((t2.2 == 0) && (t2.1 == t8))
def f_law01_OctetLong_l13 (t : (List Str)) (t2 : Str × Int) (atv2 : Int) : Nat → Bool → Int → Int → Option (Bool × Int × Int)
  | 0, _, _, _ => none
  | m_ + 1, ends, now, v40 =>
    if (decide (v40 < (t.length : Int))) then
      (ix t v40).bind fun x =>
      f_law01_OctetLong_l13 t t2 atv2 m_ (ends || ((IntKind.i64.wrap (now + (IntKind.i64.wrap (2 + (x.length : Int))))) == atv2)) (IntKind.i64.wrap (now + (IntKind.i64.wrap (2 + (x.length : Int))))) (IntKind.i64.wrap (v40 + 1))
    else
      some (ends, now, v40)
def f_law01_OctetLong (l : (List Str)) (atv : Int) : Option (Bool) :=
  (f_law01_few l).bind fun t =>
  (f_octet_Bind t).bind fun t2 =>
  if (t2.2 != 0) then
    (f_law01_alive).bind fun t3 =>
    some t3
  else
    gd ((IntKind.i64.wrap ((t2.1.length : Int) + 1)) ≠ 0) <|
    gd ((IntKind.i64.wrap ((t2.1.length : Int) + 1)) ≠ 0) <|
    (some ((IntKind.i64.wrap ((IntKind.i64.wrap ((atv.tmod (IntKind.i64.wrap ((t2.1.length : Int) + 1))) + (t2.1.length : Int))) + 1)).tmod (IntKind.i64.wrap ((t2.1.length : Int) + 1)))).bind fun atv2 =>
    Option.bind (f_law01_OctetLong_l13 t t2 atv2 ((((t.length : Int) : Int) - 0).toNat + 1) (atv2 == 0) 0 0) fun s : Bool × Int × Int =>
    gd (0 ≤ atv2 ∧ atv2 ≤ (t2.1.length : Int)) <|
    (f_octet_Loose (cut t2.1 0 atv2)).bind fun t3 =>
    (f_law01_alive).bind fun t4 =>
    some (((t4 && ((t3.2 == 0) == s.1)) && (s.1 || (t3.2 == 3))) && (decide ((t3.1.length : Int) ≤ (t.length : Int))))
def f_strings_IndexByte (s : Str) (c : Int) : Option (Int) :=
  (f_internal_stringslite_IndexByte s c).bind fun t =>
  some t
def f_octet_Bytes_l12 (s : Str) : Nat → Int → (List Int) → Option ((Int × (List Int)) ⊕ (Str × Int))
  | 0, _, _ => none
  | m_ + 1, v18, out =>
    if (decide (v18 < ((List.replicate (IntKind.i64.wrap ((s.length : Int).tdiv 2)).toNat 0).length : Int))) then
      (ix s (IntKind.i64.wrap (2 * v18))).bind fun c =>
      (f_strings_IndexByte ([48, 49, 50, 51, 52, 53, 54, 55, 56, 57, 97, 98, 99, 100, 101, 102] : Str) (bn c)).bind fun t =>
      (ix s (IntKind.i64.wrap ((IntKind.i64.wrap (2 * v18)) + 1))).bind fun c2 =>
      (f_strings_IndexByte ([48, 49, 50, 51, 52, 53, 54, 55, 56, 57, 97, 98, 99, 100, 101, 102] : Str) (bn c2)).bind fun t2 =>
      if ((decide (t < 0)) || (decide (t2 < 0))) then
        some (.inr (([] : Str), 4))
      else
        (ix out v18).bind fun x =>
        f_octet_Bytes_l12 s m_ (IntKind.i64.wrap (v18 + 1)) (out.set v18.toNat (IntKind.u8.wrap (IntKind.i64.wrap ((IntKind.i64.wrap (t * 16)) + t2))))
    else
      some (.inl (v18, out))
def f_octet_Bytes (s : Str) : Option (Str × Int) :=
  if (((s.length : Int).tmod 2) != 0) then
    some (([] : Str), 4)
  else
    gd (0 ≤ (IntKind.i64.wrap ((s.length : Int).tdiv 2)) ∧ (IntKind.i64.wrap ((s.length : Int).tdiv 2)) ≤ (IntKind.i64.wrap ((s.length : Int).tdiv 2)) ∧ (IntKind.i64.wrap ((s.length : Int).tdiv 2)) * 1 ≤ 140737488355328 ∧ (IntKind.i64.wrap ((s.length : Int).tdiv 2)) < 9223372036854775808) <|
    Option.bind (f_octet_Bytes_l12 s (((((List.replicate (IntKind.i64.wrap ((s.length : Int).tdiv 2)).toNat 0).length : Int) : Int) - 0).toNat + 1) 0 (List.replicate (IntKind.i64.wrap ((s.length : Int).tdiv 2)).toNat 0)) fun s2 : (Int × (List Int)) ⊕ (Str × Int) => match s2 with
    | .inr z => some z
    | .inl s3 =>
      some ((s3.2.map nb), 0)
def f_law01_OctetBack_l13 (s : Str) (n : Int) (t : (List Str)) : Nat → Int → Option ((Int) ⊕ (Bool))
  | 0, _ => none
  | m_ + 1, v42 =>
    if (decide (v42 < 9)) then
      (f_octet_Wide n v42).bind fun t5 =>
      (f_octet_Whole t5.1).bind fun t6 =>
      if (((t5.2 == 0) && (((t6.2 != 0) || (t6.1 != n)) || ((t5.1.length : Int) != v42))) || ((t5.2 != 0) && (v42 == 8))) then
        some (.inr false)
      else
        f_law01_OctetBack_l13 s n t m_ (IntKind.i64.wrap (v42 + 1))
    else
      some (.inl v42)
def f_law01_OctetBack (s : Str) (n : Int) (l : (List Str)) : Option (Bool) :=
  gd (0 ≤ (if 300 < (s.length : Int) then 300 else (s.length : Int)) ∧ (if 300 < (s.length : Int) then 300 else (s.length : Int)) ≤ (s.length : Int)) <|
  (f_law01_few l).bind fun t =>
  (f_octet_Hex (cut s 0 (if 300 < (s.length : Int) then 300 else (s.length : Int)))).bind fun t2 =>
  (f_octet_Bytes t2).bind fun t3 =>
  (gx (!((t3.2 != 0) || (!(t3.1 == (cut s 0 (if 300 < (s.length : Int) then 300 else (s.length : Int))))))) (f_law01_alive) default).bind fun t4 =>
  if (((t3.2 != 0) || (!(t3.1 == (cut s 0 (if 300 < (s.length : Int) then 300 else (s.length : Int)))))) || (!t4)) then
    some false
  else
    Option.bind (f_law01_OctetBack_l13 s n t (((9 : Int) - 0).toNat + 1) 0) fun s2 : (Int) ⊕ (Bool) => match s2 with
    | .inr z => some z
    | .inl s3 =>
      (f_octet_Bind t).bind fun t5 =>
      (f_octet_Loose t5.1).bind fun t6 =>
      (gx (t5.2 != 0) (f_ref01_May t) default).bind fun t7 =>
      (gx ((!((t5.2 != 0) && (!t7))) && ((t5.2 == 0) && (t6.2 == 0))) (f_ref01_Same t6.1 t) default).bind fun t8 =>
      some (((t5.2 != 0) && (!t7)) || (((t5.2 == 0) && (t6.2 == 0)) && t8))
end Go.Proofs.YtjhgkcbhllomaaaDoor.V
end

section
/- The shelf contracts that this seat uses, in plain words. -/
namespace Go.Proofs
open Go.Shelf
def Tryd.lays169_ren : Go.Shelf.Ren := ⟨fun | 169 => 47 | n => n, fun | 70 => 64 | 9 => 9 | 0 => 0 | 72 => 66 | 37 => 39 | 127 => 88 | 3 => 3 | 5 => 5 | n => n, fun | n => n⟩
theorem Tryd.lays169 : Go.Proofs.Lays.n169 Tryd.prog Tryd.lays169_ren := {
  mixed := by kernel_rfl
  f169 := Tryd.func47.trans (congrArg some (by kernel_rfl))
  t0 := Tryd.underlying0
  a0 := Tryd.isAgg0
  z0 := Tryd.sizeOf0
  v0 := Tryd.zeroValue0
  t3 := Tryd.underlying3
  a3 := Tryd.isAgg3
  z3 := Tryd.sizeOf3
  v3 := Tryd.zeroValue3
  t9 := Tryd.underlying9
  a9 := Tryd.isAgg9
  z9 := Tryd.sizeOf9
  v9 := Tryd.zeroValue9
  t37 := Tryd.underlying39
  a37 := Tryd.isAgg39
  z37 := Tryd.sizeOf39
  v37 := Tryd.zeroValue39
  t70 := Tryd.underlying64
  a70 := Tryd.isAgg64
  z70 := Tryd.sizeOf64
  v70 := Tryd.zeroValue64
  t72 := Tryd.underlying66
  a72 := Tryd.isAgg66
  z72 := Tryd.sizeOf66
  v72 := Tryd.zeroValue66
  t127 := Tryd.underlying88
  a127 := Tryd.isAgg88
  z127 := Tryd.sizeOf88
  v127 := Tryd.zeroValue88 }
theorem Tryd.Builder_Extra_169 : Builder.Extra Tryd.prog Tryd.lays169_ren := {
  sizeBuilder := by kernel_rfl
  liesBuilder := by kernel_rfl
  t5 := Tryd.underlying5
  a5 := Tryd.isAgg5
  z5 := Tryd.sizeOf5
  v5 := Tryd.zeroValue5
  infoByte := by kernel_rfl
  cellsByte := by kernel_rfl
  sizeByte := by kernel_rfl
  neB5 := by decide }
open Go.RowKit in
theorem Tryd.Builder_String (B b : Nat) (l : List UInt8) (w : World) (h : Lib.IsBuilder 66 5 B b (Lib.byteCells l) w) (h0 : l ≠ []) :
    Calls Tryd.prog 47 #[.pointer (some ⟨b, 0, none⟩)] w fun e w' => e = .returned (.string ⟨l.toArray⟩) ∧ Below B w w' := Any.Builder_String Tryd.lays169 Tryd.Builder_Extra_169 B b l w h h0
open Go.RowKit in
theorem Tryd.Builder_String_empty (B b : Nat) (w : World) (h : Lib.IsBuilder 66 5 B b [] w) (hBw : B ≤ w.heap.size) :
    Calls Tryd.prog 47 #[.pointer (some ⟨b, 0, none⟩)] w fun e w' => e = .returned (.string ⟨#[]⟩) ∧ Below B w w' := Any.Builder_String_empty Tryd.lays169 Tryd.Builder_Extra_169 B b w h hBw
open Go.RowKit in
theorem Tryd.Builder_String_any (B b : Nat) (l : List UInt8) (w : World) (h : Lib.IsBuilder 66 5 B b (Lib.byteCells l) w) (hBw : B ≤ w.heap.size) :
    Calls Tryd.prog 47 #[.pointer (some ⟨b, 0, none⟩)] w fun e w' => e = .returned (.string ⟨l.toArray⟩) ∧ Below B w w' := Any.Builder_String_any Tryd.lays169 Tryd.Builder_Extra_169 B b l w h hBw
def Tryd.lays241_ren : Go.Shelf.Ren := ⟨fun | 241 => 63 | 277 => 71 | n => n, fun | 70 => 64 | 3 => 3 | 0 => 0 | 72 => 66 | 37 => 39 | 5 => 5 | n => n, fun | n => n⟩
theorem Tryd.lays241 : Go.Proofs.Lays.n241 Tryd.prog Tryd.lays241_ren := {
  mixed := by kernel_rfl
  f241 := Tryd.func63.trans (congrArg some (by kernel_rfl))
  f277 := Tryd.func71.trans (congrArg some (by kernel_rfl))
  t0 := Tryd.underlying0
  a0 := Tryd.isAgg0
  z0 := Tryd.sizeOf0
  v0 := Tryd.zeroValue0
  t3 := Tryd.underlying3
  a3 := Tryd.isAgg3
  z3 := Tryd.sizeOf3
  v3 := Tryd.zeroValue3
  t37 := Tryd.underlying39
  a37 := Tryd.isAgg39
  z37 := Tryd.sizeOf39
  v37 := Tryd.zeroValue39
  t70 := Tryd.underlying64
  a70 := Tryd.isAgg64
  z70 := Tryd.sizeOf64
  v70 := Tryd.zeroValue64
  t72 := Tryd.underlying66
  a72 := Tryd.isAgg66
  z72 := Tryd.sizeOf66
  v72 := Tryd.zeroValue66 }
theorem Tryd.Builder_Extra_241 : Builder.Extra Tryd.prog Tryd.lays241_ren := {
  sizeBuilder := by kernel_rfl
  liesBuilder := by kernel_rfl
  t5 := Tryd.underlying5
  a5 := Tryd.isAgg5
  z5 := Tryd.sizeOf5
  v5 := Tryd.zeroValue5
  infoByte := by kernel_rfl
  cellsByte := by kernel_rfl
  sizeByte := by kernel_rfl
  neB5 := by decide }
open Go.RowKit in
theorem Tryd.Builder_grow_fresh (B b n : Nat) (w : World) (hB : B ≤ b) (hbk : w.heap[b]? = some (.cells #[.pointer (some ⟨b, 0, none⟩), .slice none 0 0] 66 (0, 0))) (hBw : B ≤ w.heap.size) (hn : n ≤ 281474976710656) :
    Calls Tryd.prog 63 #[.pointer (some ⟨b, 0, none⟩), .int .i64 n] w fun e w' => e = .returned (.tuple #[]) ∧ (Lib.BuilderAt 66 5 B b (.pointer (some ⟨b, 0, none⟩)) [] w' ∧ Below B w w') := Any.Builder_grow_fresh Tryd.lays241 Tryd.Builder_Extra_241 B b n w hB hbk hBw hn
def Tryd.lays165_ren : Go.Shelf.Ren := ⟨fun | 165 => 45 | 240 => 62 | 241 => 63 | 276 => 70 | 277 => 71 | n => n, fun | 70 => 64 | 3 => 3 | 0 => 0 | 4 => 4 | 9 => 9 | 20 => 20 | 72 => 66 | 37 => 39 | 164 => 97 | 5 => 5 | n => n, fun | n => n⟩
theorem Tryd.lays165 : Go.Proofs.Lays.n165 Tryd.prog Tryd.lays165_ren := {
  mixed := by kernel_rfl
  f165 := Tryd.func45.trans (congrArg some (by kernel_rfl))
  f240 := Tryd.func62.trans (congrArg some (by kernel_rfl))
  f241 := Tryd.func63.trans (congrArg some (by kernel_rfl))
  f276 := Tryd.func70.trans (congrArg some (by kernel_rfl))
  f277 := Tryd.func71.trans (congrArg some (by kernel_rfl))
  t0 := Tryd.underlying0
  a0 := Tryd.isAgg0
  z0 := Tryd.sizeOf0
  v0 := Tryd.zeroValue0
  t3 := Tryd.underlying3
  a3 := Tryd.isAgg3
  z3 := Tryd.sizeOf3
  v3 := Tryd.zeroValue3
  t4 := Tryd.underlying4
  a4 := Tryd.isAgg4
  z4 := Tryd.sizeOf4
  v4 := Tryd.zeroValue4
  t9 := Tryd.underlying9
  a9 := Tryd.isAgg9
  z9 := Tryd.sizeOf9
  v9 := Tryd.zeroValue9
  t20 := Tryd.underlying20
  a20 := Tryd.isAgg20
  z20 := Tryd.sizeOf20
  v20 := Tryd.zeroValue20
  t37 := Tryd.underlying39
  a37 := Tryd.isAgg39
  z37 := Tryd.sizeOf39
  v37 := Tryd.zeroValue39
  t70 := Tryd.underlying64
  a70 := Tryd.isAgg64
  z70 := Tryd.sizeOf64
  v70 := Tryd.zeroValue64
  t72 := Tryd.underlying66
  a72 := Tryd.isAgg66
  z72 := Tryd.sizeOf66
  v72 := Tryd.zeroValue66
  t164 := Tryd.underlying97
  a164 := Tryd.isAgg97
  z164 := Tryd.sizeOf97
  v164 := Tryd.zeroValue97 }
theorem Tryd.Builder_Extra_165 : Builder.Extra Tryd.prog Tryd.lays165_ren := {
  sizeBuilder := by kernel_rfl
  liesBuilder := by kernel_rfl
  t5 := Tryd.underlying5
  a5 := Tryd.isAgg5
  z5 := Tryd.sizeOf5
  v5 := Tryd.zeroValue5
  infoByte := by kernel_rfl
  cellsByte := by kernel_rfl
  sizeByte := by kernel_rfl
  neB5 := by decide }
open Go.RowKit in
theorem Tryd.Builder_Grow_fresh (B b n : Nat) (w : World) (hB : B ≤ b) (hbk : w.heap[b]? = some (.cells #[.pointer none, .slice none 0 0] 66 (0, 0))) (hBw : B ≤ w.heap.size) (hn : n ≤ 281474976710656) :
    Calls Tryd.prog 45 #[.pointer (some ⟨b, 0, none⟩), .int .i64 n] w fun e w' => e = .returned (.tuple #[]) ∧ (Lib.BuilderAt 66 5 B b (.pointer (some ⟨b, 0, none⟩)) [] w' ∧ Below B w w') := Any.Builder_Grow_fresh Tryd.lays165 Tryd.Builder_Extra_165 B b n w hB hbk hBw hn
def Tryd.lays156_ren : Go.Shelf.Ren := ⟨fun | 156 => 24 | 165 => 45 | 166 => 46 | 169 => 47 | 240 => 62 | 241 => 63 | 276 => 70 | 277 => 71 | n => n, fun | 31 => 36 | 9 => 9 | 3 => 3 | 4 => 4 | 0 => 0 | 20 => 20 | 72 => 66 | 76 => 70 | 70 => 64 | 37 => 39 | 75 => 69 | 127 => 88 | 164 => 97 | 5 => 5 | 80 => 72 | n => n, fun | n => n⟩
theorem Tryd.lays156 : Go.Proofs.Lays.n156 Tryd.prog Tryd.lays156_ren := {
  mixed := by kernel_rfl
  f156 := Tryd.func24.trans (congrArg some (by kernel_rfl))
  f165 := Tryd.func45.trans (congrArg some (by kernel_rfl))
  f166 := Tryd.func46.trans (congrArg some (by kernel_rfl))
  f169 := Tryd.func47.trans (congrArg some (by kernel_rfl))
  f240 := Tryd.func62.trans (congrArg some (by kernel_rfl))
  f241 := Tryd.func63.trans (congrArg some (by kernel_rfl))
  f276 := Tryd.func70.trans (congrArg some (by kernel_rfl))
  f277 := Tryd.func71.trans (congrArg some (by kernel_rfl))
  t0 := Tryd.underlying0
  a0 := Tryd.isAgg0
  z0 := Tryd.sizeOf0
  v0 := Tryd.zeroValue0
  t3 := Tryd.underlying3
  a3 := Tryd.isAgg3
  z3 := Tryd.sizeOf3
  v3 := Tryd.zeroValue3
  t4 := Tryd.underlying4
  a4 := Tryd.isAgg4
  z4 := Tryd.sizeOf4
  v4 := Tryd.zeroValue4
  t9 := Tryd.underlying9
  a9 := Tryd.isAgg9
  z9 := Tryd.sizeOf9
  v9 := Tryd.zeroValue9
  t20 := Tryd.underlying20
  a20 := Tryd.isAgg20
  z20 := Tryd.sizeOf20
  v20 := Tryd.zeroValue20
  t31 := Tryd.underlying36
  a31 := Tryd.isAgg36
  z31 := Tryd.sizeOf36
  v31 := Tryd.zeroValue36
  t37 := Tryd.underlying39
  a37 := Tryd.isAgg39
  z37 := Tryd.sizeOf39
  v37 := Tryd.zeroValue39
  t70 := Tryd.underlying64
  a70 := Tryd.isAgg64
  z70 := Tryd.sizeOf64
  v70 := Tryd.zeroValue64
  t72 := Tryd.underlying66
  a72 := Tryd.isAgg66
  z72 := Tryd.sizeOf66
  v72 := Tryd.zeroValue66
  t75 := Tryd.underlying69
  a75 := Tryd.isAgg69
  z75 := Tryd.sizeOf69
  v75 := Tryd.zeroValue69
  t76 := Tryd.underlying70
  a76 := Tryd.isAgg70
  z76 := Tryd.sizeOf70
  v76 := Tryd.zeroValue70
  t127 := Tryd.underlying88
  a127 := Tryd.isAgg88
  z127 := Tryd.sizeOf88
  v127 := Tryd.zeroValue88
  t164 := Tryd.underlying97
  a164 := Tryd.isAgg97
  z164 := Tryd.sizeOf97
  v164 := Tryd.zeroValue97 }
theorem Tryd.Builder_Extra_156 : Builder.Extra Tryd.prog Tryd.lays156_ren := {
  sizeBuilder := by kernel_rfl
  liesBuilder := by kernel_rfl
  t5 := Tryd.underlying5
  a5 := Tryd.isAgg5
  z5 := Tryd.sizeOf5
  v5 := Tryd.zeroValue5
  infoByte := by kernel_rfl
  cellsByte := by kernel_rfl
  sizeByte := by kernel_rfl
  neB5 := by decide }
open Go.RowKit in
theorem Tryd.strings_Join_none (a : Option Addr) (c : Nat) (sep : ByteArray) (w : World) :
    Calls Tryd.prog 24 #[.slice a 0 c, .string sep] w fun e w' => e = .returned (.string ⟨#[]⟩) ∧ w' = w := Any.strings_Join_none Tryd.lays156 Tryd.Builder_Extra_156 a c sep w
open Go.RowKit in
theorem Tryd.strings_Join (bk o c : Nat) (xs : List ByteArray) (sep : ByteArray) (w : World) (hcells : ∀ (j : Nat) x, xs[j]? = some x → w.cell? ⟨bk, o + j, none⟩ = some (.string x)) (hbk : bk < w.heap.size) (hN : xs.length ≤ 140737488355328) (hcap : xs.length ≤ c) (hlen : (Lib.join (xs.map (·.data.toList)) sep.data.toList).length ≤ 140737488355328) :
    Calls Tryd.prog 24 #[.slice (some ⟨bk, o, none⟩) xs.length c, .string sep] w fun e w' => e = .returned (.string ⟨(Lib.join (xs.map (·.data.toList)) sep.data.toList).toArray⟩) ∧ Below w.heap.size w w' := Any.strings_Join Tryd.lays156 Tryd.Builder_Extra_156 bk o c xs sep w hcells hbk hN hcap hlen
def Tryd.lays137_ren : Go.Shelf.Ren := ⟨fun | 137 => 52 | 217 => 67 | 266 => 78 | n => n, fun | 9 => 9 | 5 => 5 | 3 => 3 | n => n, fun | n => n⟩
theorem Tryd.lays137 : Go.Proofs.Lays.n137 Tryd.prog Tryd.lays137_ren := {
  mixed := by kernel_rfl
  f137 := Tryd.func52.trans (congrArg some (by kernel_rfl))
  f217 := Tryd.func67.trans (congrArg some (by kernel_rfl))
  f266 := Tryd.func78.trans (congrArg some (by kernel_rfl))
  t3 := Tryd.underlying3
  a3 := Tryd.isAgg3
  z3 := Tryd.sizeOf3
  v3 := Tryd.zeroValue3
  t5 := Tryd.underlying5
  a5 := Tryd.isAgg5
  z5 := Tryd.sizeOf5
  v5 := Tryd.zeroValue5
  t9 := Tryd.underlying9
  a9 := Tryd.isAgg9
  z9 := Tryd.sizeOf9
  v9 := Tryd.zeroValue9 }
open Go.RowKit in
theorem Tryd.strings_IndexByte (s : ByteArray) (c : Int) (w : World) :
    Calls Tryd.prog 52 #[.string s, .int .u8 c] w fun e w' => e = .returned (.int .i64 (Lib.indexByte s.data.toList c.toNat.toUInt8)) ∧ w' = w := Any.strings_IndexByte Tryd.lays137 s c w
def Tryd.lays210_ren : Go.Shelf.Ren := ⟨fun | 210 => 60 | 206 => 69 | n => n, fun | 9 => 9 | 4 => 4 | 3 => 3 | n => n, fun | n => n⟩
theorem Tryd.lays210 : Go.Proofs.Lays.n210 Tryd.prog Tryd.lays210_ren := {
  mixed := by kernel_rfl
  f206 := Tryd.func69.trans (congrArg some (by kernel_rfl))
  f210 := Tryd.func60.trans (congrArg some (by kernel_rfl))
  t3 := Tryd.underlying3
  a3 := Tryd.isAgg3
  z3 := Tryd.sizeOf3
  v3 := Tryd.zeroValue3
  t4 := Tryd.underlying4
  a4 := Tryd.isAgg4
  z4 := Tryd.sizeOf4
  v4 := Tryd.zeroValue4
  t9 := Tryd.underlying9
  a9 := Tryd.isAgg9
  z9 := Tryd.sizeOf9
  v9 := Tryd.zeroValue9 }
open Go.RowKit in
theorem Tryd.stringslite_CutPrefix (s p : ByteArray) (w : World) :
    Calls Tryd.prog 60 #[.string s, .string p] w fun e w' => e = .returned (.tuple #[.string ⟨(Lib.trimPrefix s.data.toList p.data.toList).toArray⟩, .bool (Lib.hasPrefix s.data.toList p.data.toList)]) ∧ w' = w := Any.stringslite_CutPrefix Tryd.lays210 s p w
def Tryd.lays103_ren : Go.Shelf.Ren := ⟨fun | 103 => 43 | 210 => 60 | 206 => 69 | n => n, fun | 9 => 9 | 4 => 4 | 24 => 33 | 3 => 3 | n => n, fun | n => n⟩
theorem Tryd.lays103 : Go.Proofs.Lays.n103 Tryd.prog Tryd.lays103_ren := {
  mixed := by kernel_rfl
  f103 := Tryd.func43.trans (congrArg some (by kernel_rfl))
  f206 := Tryd.func69.trans (congrArg some (by kernel_rfl))
  f210 := Tryd.func60.trans (congrArg some (by kernel_rfl))
  t3 := Tryd.underlying3
  a3 := Tryd.isAgg3
  z3 := Tryd.sizeOf3
  v3 := Tryd.zeroValue3
  t4 := Tryd.underlying4
  a4 := Tryd.isAgg4
  z4 := Tryd.sizeOf4
  v4 := Tryd.zeroValue4
  t9 := Tryd.underlying9
  a9 := Tryd.isAgg9
  z9 := Tryd.sizeOf9
  v9 := Tryd.zeroValue9
  t24 := Tryd.underlying33
  a24 := Tryd.isAgg33
  z24 := Tryd.sizeOf33
  v24 := Tryd.zeroValue33 }
open Go.RowKit in
theorem Tryd.strings_CutPrefix (s p : ByteArray) (w : World) :
    Calls Tryd.prog 43 #[.string s, .string p] w fun e w' => e = .returned (.tuple #[.string ⟨(Lib.trimPrefix s.data.toList p.data.toList).toArray⟩, .bool (Lib.hasPrefix s.data.toList p.data.toList)]) ∧ w' = w := Any.strings_CutPrefix Tryd.lays103 s p w
open Go.RowKit in
theorem Tryd.Builder_String_f (B b : Nat) (l : List UInt8) (w : World) (h : Lib.IsBuilderF 66 5 B b (Lib.byteCells l) w) (h0 : l ≠ []) :
    Calls Tryd.prog 47 #[.pointer (some ⟨b, 0, none⟩)] w fun e w' => e = .returned (.string ⟨l.toArray⟩) ∧ (Lib.IsBuilderF 66 5 B b (Lib.byteCells l) w' ∧ Below B w w') := Any.Builder_String_f Tryd.lays169 Tryd.Builder_Extra_169 B b l w h h0
open Go.RowKit in
theorem Tryd.Builder_String_empty_f (B b : Nat) (w : World) (h : Lib.IsBuilderF 66 5 B b [] w) (hBw : B ≤ w.heap.size) :
    Calls Tryd.prog 47 #[.pointer (some ⟨b, 0, none⟩)] w fun e w' => e = .returned (.string ⟨#[]⟩) ∧ (Lib.IsBuilderF 66 5 B b [] w' ∧ Below B w w') := Any.Builder_String_empty_f Tryd.lays169 Tryd.Builder_Extra_169 B b w h hBw
open Go.RowKit in
theorem Tryd.Builder_String_any_f (B b : Nat) (l : List UInt8) (w : World) (h : Lib.IsBuilderF 66 5 B b (Lib.byteCells l) w) (hBw : B ≤ w.heap.size) :
    Calls Tryd.prog 47 #[.pointer (some ⟨b, 0, none⟩)] w fun e w' => e = .returned (.string ⟨l.toArray⟩) ∧ (Lib.IsBuilderF 66 5 B b (Lib.byteCells l) w' ∧ Below B w w') := Any.Builder_String_any_f Tryd.lays169 Tryd.Builder_Extra_169 B b l w h hBw
open Go.RowKit in
theorem Tryd.Builder_String_k (B b : Nat) (l : List UInt8) (w : World) (h : Lib.IsBuilderF 66 5 B b (Lib.byteCells l) w) (h0 : l ≠ []) :
    Calls Tryd.prog 47 #[.pointer (some ⟨b, 0, none⟩)] w fun e w' => e = .returned (.string ⟨l.toArray⟩) ∧ (Lib.IsBuilderF 66 5 B b (Lib.byteCells l) w' ∧ Below B w w' ∧ Lib.OthersKept 5 (some b) w w') := Any.Builder_String_k Tryd.lays169 Tryd.Builder_Extra_169 B b l w h h0
open Go.RowKit in
theorem Tryd.Builder_String_empty_k (B b : Nat) (w : World) (h : Lib.IsBuilderF 66 5 B b [] w) (hBw : B ≤ w.heap.size) :
    Calls Tryd.prog 47 #[.pointer (some ⟨b, 0, none⟩)] w fun e w' => e = .returned (.string ⟨#[]⟩) ∧ (Lib.IsBuilderF 66 5 B b [] w' ∧ Below B w w' ∧ Lib.OthersKept 5 (some b) w w') := Any.Builder_String_empty_k Tryd.lays169 Tryd.Builder_Extra_169 B b w h hBw
open Go.RowKit in
theorem Tryd.Builder_String_any_k (B b : Nat) (l : List UInt8) (w : World) (h : Lib.IsBuilderF 66 5 B b (Lib.byteCells l) w) (hBw : B ≤ w.heap.size) :
    Calls Tryd.prog 47 #[.pointer (some ⟨b, 0, none⟩)] w fun e w' => e = .returned (.string ⟨l.toArray⟩) ∧ (Lib.IsBuilderF 66 5 B b (Lib.byteCells l) w' ∧ Below B w w' ∧ Lib.OthersKept 5 (some b) w w') := Any.Builder_String_any_k Tryd.lays169 Tryd.Builder_Extra_169 B b l w h hBw
open Go.RowKit in
theorem Tryd.Builder_grow_fresh_cap (B b n : Nat) (w : World) (hB : B ≤ b) (hbk : w.heap[b]? = some (.cells #[.pointer (some ⟨b, 0, none⟩), .slice none 0 0] 66 (0, 0))) (hBw : B ≤ w.heap.size) (hn : n ≤ 281474976710656) :
    Calls Tryd.prog 63 #[.pointer (some ⟨b, 0, none⟩), .int .i64 n] w fun e w' => e = .returned (.tuple #[]) ∧ (Lib.BuilderAt 66 5 B b (.pointer (some ⟨b, 0, none⟩)) [] w' ∧ Below B w w') ∧ ∃ p cap, w'.cell? ⟨b, 1, none⟩ = some (.slice p 0 cap) ∧ n ≤ cap := Any.Builder_grow_fresh_cap Tryd.lays241 Tryd.Builder_Extra_241 B b n w hB hbk hBw hn
open Go.RowKit in
theorem Tryd.Builder_Grow_fresh_cap (B b n : Nat) (w : World) (hB : B ≤ b) (hbk : w.heap[b]? = some (.cells #[.pointer none, .slice none 0 0] 66 (0, 0))) (hBw : B ≤ w.heap.size) (hn : n ≤ 281474976710656) :
    Calls Tryd.prog 45 #[.pointer (some ⟨b, 0, none⟩), .int .i64 n] w fun e w' => e = .returned (.tuple #[]) ∧ (Lib.BuilderAt 66 5 B b (.pointer (some ⟨b, 0, none⟩)) [] w' ∧ Below B w w') ∧ ∃ p cap, w'.cell? ⟨b, 1, none⟩ = some (.slice p 0 cap) ∧ n ≤ cap := Any.Builder_Grow_fresh_cap Tryd.lays165 Tryd.Builder_Extra_165 B b n w hB hbk hBw hn
def Tryd.lays217_ren : Go.Shelf.Ren := ⟨fun | 217 => 67 | 266 => 78 | n => n, fun | 9 => 9 | 5 => 5 | 3 => 3 | n => n, fun | n => n⟩
theorem Tryd.lays217 : Go.Proofs.Lays.n217 Tryd.prog Tryd.lays217_ren := {
  mixed := by kernel_rfl
  f217 := Tryd.func67.trans (congrArg some (by kernel_rfl))
  f266 := Tryd.func78.trans (congrArg some (by kernel_rfl))
  t3 := Tryd.underlying3
  a3 := Tryd.isAgg3
  z3 := Tryd.sizeOf3
  v3 := Tryd.zeroValue3
  t5 := Tryd.underlying5
  a5 := Tryd.isAgg5
  z5 := Tryd.sizeOf5
  v5 := Tryd.zeroValue5
  t9 := Tryd.underlying9
  a9 := Tryd.isAgg9
  z9 := Tryd.sizeOf9
  v9 := Tryd.zeroValue9 }
open Go.RowKit Go.Lib in
theorem Tryd.stringslite_IndexByte (s : ByteArray) (c : Int) (w : World) :
    Calls Tryd.prog 67 #[.string s, .int .u8 c] w fun e w' => e = .returned (.int .i64 (Lib.indexByte s.data.toList c.toNat.toUInt8)) ∧ w' = w := Any.stringslite_IndexByte Tryd.lays217 s c w
def Tryd.lays206_ren : Go.Shelf.Ren := ⟨fun | 206 => 69 | n => n, fun | 9 => 9 | 4 => 4 | 3 => 3 | n => n, fun | n => n⟩
theorem Tryd.lays206 : Go.Proofs.Lays.n206 Tryd.prog Tryd.lays206_ren := {
  mixed := by kernel_rfl
  f206 := Tryd.func69.trans (congrArg some (by kernel_rfl))
  t3 := Tryd.underlying3
  a3 := Tryd.isAgg3
  z3 := Tryd.sizeOf3
  v3 := Tryd.zeroValue3
  t4 := Tryd.underlying4
  a4 := Tryd.isAgg4
  z4 := Tryd.sizeOf4
  v4 := Tryd.zeroValue4
  t9 := Tryd.underlying9
  a9 := Tryd.isAgg9
  z9 := Tryd.sizeOf9
  v9 := Tryd.zeroValue9 }
open Go.RowKit Go.Lib in
theorem Tryd.stringslite_HasPrefix (s p : ByteArray) (w : World) :
    Calls Tryd.prog 69 #[.string s, .string p] w fun e w' => e = .returned (.bool (Lib.hasPrefix s.data.toList p.data.toList)) ∧ w' = w := Any.stringslite_HasPrefix Tryd.lays206 s p w
end Go.Proofs
end

section
/- The contracts of strings.Builder's writing methods at this program: the shelf's theorems, with their tables of numbers typed by hand (the shelf's own command does not lay them where copyCheck's panic is refused by the loader). -/
namespace Go.Proofs
open Go.Shelf
def Tryd.bld_ren : Go.Shelf.Ren := ⟨fun
  | 166 => 46
  | 167 => 53
    | 240 => 62 | 276 => 70 | n => n, fun | 70 => 64 | 9 => 9 | 0 => 0 | 72 => 66 | 37 => 39 | 3 => 3 | 4 => 4 | 5 => 5 | 20 => 20 | 75 => 69 | 80 => 72 | 164 => 97 | n => n, fun | n => n⟩
theorem Tryd.bld240 : Go.Proofs.Lays.n240 Tryd.prog Tryd.bld_ren := {
  mixed := by kernel_rfl
  f240 := Tryd.func62.trans (congrArg some (by kernel_rfl))
  f276 := Tryd.func70.trans (congrArg some (by kernel_rfl))
  t0 := Tryd.underlying0
  a0 := Tryd.isAgg0
  z0 := Tryd.sizeOf0
  v0 := Tryd.zeroValue0
  t4 := Tryd.underlying4
  a4 := Tryd.isAgg4
  z4 := Tryd.sizeOf4
  v4 := Tryd.zeroValue4
  t9 := Tryd.underlying9
  a9 := Tryd.isAgg9
  z9 := Tryd.sizeOf9
  v9 := Tryd.zeroValue9
  t20 := Tryd.underlying20
  a20 := Tryd.isAgg20
  z20 := Tryd.sizeOf20
  v20 := Tryd.zeroValue20
  t70 := Tryd.underlying64
  a70 := Tryd.isAgg64
  z70 := Tryd.sizeOf64
  v70 := Tryd.zeroValue64
  t72 := Tryd.underlying66
  a72 := Tryd.isAgg66
  z72 := Tryd.sizeOf66
  v72 := Tryd.zeroValue66
  t164 := Tryd.underlying97
  a164 := Tryd.isAgg97
  z164 := Tryd.sizeOf97
  v164 := Tryd.zeroValue97 }
theorem Tryd.bldX : Builder.Extra Tryd.prog Tryd.bld_ren := {
  sizeBuilder := by kernel_rfl
  liesBuilder := by kernel_rfl
  t5 := Tryd.underlying5
  a5 := Tryd.isAgg5
  z5 := Tryd.sizeOf5
  v5 := Tryd.zeroValue5
  infoByte := by kernel_rfl
  cellsByte := by kernel_rfl
  sizeByte := by kernel_rfl
  neB5 := by decide }
theorem Tryd.bld167 : Go.Proofs.Lays.n167 Tryd.prog Tryd.bld_ren := { Tryd.bld240 with
  f167 := Tryd.func53.trans (congrArg some (by kernel_rfl))
  t5 := Tryd.underlying5
  a5 := Tryd.isAgg5
  z5 := Tryd.sizeOf5
  v5 := Tryd.zeroValue5
  t37 := Tryd.underlying39
  a37 := Tryd.isAgg39
  z37 := Tryd.sizeOf39
  v37 := Tryd.zeroValue39
  t75 := Tryd.underlying69
  a75 := Tryd.isAgg69
  z75 := Tryd.sizeOf69
  v75 := Tryd.zeroValue69 }
open Go.RowKit in
theorem Tryd.WriteByte_k (B b : Nat) (bs : List Value) (c : Int) (w : World) (h : Lib.IsBuilderF 66 5 B b bs w) (hlen : bs.length + 1 ≤ 140737488355328) (hBw : B ≤ w.heap.size) :
    Calls Tryd.prog 53 #[.pointer (some ⟨b, 0, none⟩), .int .u8 c] w fun e w' => e = .returned .nilIface ∧ (Lib.BuilderAtF 66 5 B b (.pointer (some ⟨b, 0, none⟩)) (bs ++ [.int .u8 c]) w' ∧ Below B w w' ∧ Lib.OthersKept 5 (some b) w w') := Any.Builder_WriteByte_k Tryd.bld167 Tryd.bldX B b bs c w h hlen hBw
theorem Tryd.bld166 : Go.Proofs.Lays.n166 Tryd.prog Tryd.bld_ren := { Tryd.bld240 with
  f166 := Tryd.func46.trans (congrArg some (by kernel_rfl))
  t3 := Tryd.underlying3
  a3 := Tryd.isAgg3
  z3 := Tryd.sizeOf3
  v3 := Tryd.zeroValue3
  t37 := Tryd.underlying39
  a37 := Tryd.isAgg39
  z37 := Tryd.sizeOf39
  v37 := Tryd.zeroValue39
  t75 := Tryd.underlying69
  a75 := Tryd.isAgg69
  z75 := Tryd.sizeOf69
  v75 := Tryd.zeroValue69 }
open Go.RowKit in
theorem Tryd.WriteString_k (B b : Nat) (bs : List Value) (s : ByteArray) (w : World) (h : Lib.IsBuilderF 66 5 B b bs w) (hlen : bs.length + s.size ≤ 140737488355328) (hBw : B ≤ w.heap.size) :
    Calls Tryd.prog 46 #[.pointer (some ⟨b, 0, none⟩), .string s] w fun e w' => e = .returned (.tuple #[.int .i64 s.size, .nilIface]) ∧ (Lib.BuilderAtF 66 5 B b (.pointer (some ⟨b, 0, none⟩)) (bs ++ Lib.strCells s) w' ∧ Below B w w' ∧ Lib.OthersKept 5 (some b) w w') := Any.Builder_WriteString_k Tryd.bld166 Tryd.bldX B b bs s w h hlen hBw
end Go.Proofs
end

section
/- The contract of octet.Bind, over what is known of octet.Wide at a length. -/
namespace Go.Proofs.YtjhgkcbhllomaaaDoor
open Go.RowKit
set_option linter.unusedVariables false
set_option linter.unusedSimpArgs false
theorem gr_below {w w1 : World} (h : Below w.heap.size w w1) (row : Option Nat) : w.grownBy w1 row := ⟨h.os, h.tape, h.output, h.size, fun i hi _ => h.block i hi⟩
theorem snoc_take {α : Type} (l : List α) (k : Nat) (x : α) (h : l[k]? = some x) : l.take (k + 1) = l.take k ++ [x] := by
  obtain ⟨hk, rfl⟩ := List.getElem?_eq_some_iff.1 h
  exact List.take_succ_eq_append_getElem hk
theorem bl_lt {T e B b : Nat} {p : Value} {bs : List Value} {w : World} (h : Lib.BuilderAtF T e B b p bs w) : b < w.heap.size := by
  obtain ⟨_, v, hb, _⟩ := h
  exact (Array.getElem?_eq_some_iff.1 hb).1
theorem bl_below {T e B b : Nat} {bs : List Value} {w w1 : World} (h : Lib.IsBuilderF T e B b bs w) (hb : Below w.heap.size w w1) : Lib.IsBuilderF T e B b bs w1 := by
  have go : ∀ p, Lib.BuilderAtF T e B b p bs w → Lib.BuilderAtF T e B b p bs w1 := by
    rintro p ⟨hB, v, hbk, hown, hne⟩
    exact ⟨hB, v, (hb.block b (Array.getElem?_eq_some_iff.1 hbk).1).trans hbk, hown.kept (gr_below hb none) (by cases v.ownBlock <;> simp), hne⟩
  exact h.elim (fun x => .inl (go _ x)) (fun x => .inr (go _ x))
theorem bcells (l : List UInt8) : (Lib.strCells ⟨⟨l⟩⟩) = Lib.byteCells l := by simp [Lib.strCells, Lib.byteCells]
set_option maxHeartbeats 2000000 in
set_option maxRecDepth 100000 in
theorem octet_Bind_spec (A : Option Addr) (b o c : Nat) (l : List (List UInt8)) (w : World) (hA : l ≠ [] → A = some ⟨b, o, none⟩) (hcell : ∀ (j : Nat) x, l[j]? = some x → w.cell? ⟨b, o + j, none⟩ = some (.string ⟨⟨x⟩⟩)) (hb0 : l ≠ [] → b < w.heap.size) (hc : l.length ≤ c) (hm : l.length ≤ 140737488355328)
    (hw : ∀ n : Nat, n ≤ 4096 → ∀ W : World, Below w.heap.size w W → Calls Tryd.prog 35 #[.int .u64 n, .int .i64 2] W fun e W' => e = .returned (.tuple #[.string ⟨⟨two n⟩⟩, .int .i64 0]) ∧ Below W.heap.size W W') :
    Calls Tryd.prog 26 #[.slice A l.length c] w fun e w' => e = .returned (.tuple #[.string ⟨⟨(bindR l).1⟩⟩, .int .i64 (bindR l).2]) ∧ Below w.heap.size w w' := by
  by_cases h64 : 64 < l.length
  · have hr : bindR l = ([], 2) := by unfold bindR; rw [if_neg (by rintro ⟨h, _⟩; omega)]
    rw [hr]
    go_enter Tryd.func26, Tryd.ntmps26
    go_wp2
    go_ret2
    exact ⟨rfl, Below.refl _ _⟩
  · have h65 : l.length ≤ 64 := by omega
    go_enter Tryd.func26, Tryd.ntmps26
    go_wp2
    go_loopw [14] (fun i wr => ∃ k : Nat, k ≤ l.length ∧ i = .int .i64 k ∧ Lib.IsBuilderF 66 5 w.heap.size w.heap.size (Lib.byteCells (bindP (l.take k))) wr ∧ Below w.heap.size w wr ∧ w.heap.size < wr.heap.size ∧ (∀ x ∈ l.take k, x.length ≤ 4096)) (fun i _ => l.length - (intOf i).toNat)
    case atStart => exact ⟨0, Nat.zero_le _, rfl, Lib.IsBuilderF.of (Lib.fresh_isBuilder 66 5 w), (Below.refl _ w).alloc (Nat.le_refl _) _, by simp, fun x hx => by simp at hx⟩
    case round =>
      obtain ⟨k, hk, rfl, hI, hb, hz, hA4⟩ := hrel
      by_cases hlt : k < l.length
      · obtain ⟨x, hx⟩ : ∃ x, l[k]? = some x := ⟨l[k], List.getElem?_eq_getElem hlt⟩
        have hne : l ≠ [] := by rintro rfl; simp at hlt
        obtain rfl := hA hne
        clear hA
        have hxc := (hb.cell (p := ⟨b, o + k, none⟩) (hb0 hne)).trans (hcell k x hx)
        have HB := snoc_take l k x hx
        have hlen := bindP_le _ hA4
        have htk : (l.take k).length = k := by rw [List.length_take]; omega
        rw [htk] at hlen
        have hln : (bindP (l.take k)).length ≤ 262272 := by omega
        by_cases h4 : 4096 < x.length
        · have hr : bindR l = ([], 2) := by unfold bindR; rw [if_neg (by rintro ⟨_, h⟩; have := h x (List.mem_of_getElem? hx); omega)]
          go_wp2
          go_ret2
          rw [hr]; exact ⟨rfl, hb⟩
        · have hA5 : ∀ y ∈ l.take (k + 1), y.length ≤ 4096 := fun y hy => by
            rw [HB, List.mem_append, List.mem_singleton] at hy
            rcases hy with hy | rfl
            · exact hA4 y hy
            · omega
          have hwide := hw x.length (by omega) wr hb
          go_wp2_with fail
          refine hwide.mono ?_
          rintro e w1 ⟨rfl, b1⟩
          have hz1 := b1.size
          go_wp2_with fail
          refine (Tryd.WriteString_k w.heap.size w.heap.size _ _ _ (bl_below hI b1) (by rw [Lib.byteCells_length]; have e2 : (⟨⟨two x.length⟩⟩ : ByteArray).size = 2 := rfl; omega) (by omega)).mono ?_
          rintro e w2 ⟨rfl, h2, b2, k2⟩
          have hz2 := b2.size
          have hlt2 := bl_lt h2
          go_wp2_with fail
          refine (Tryd.WriteString_k w.heap.size w.heap.size _ _ _ (Or.inr h2) (by rw [List.length_append, Lib.byteCells_length, bcells, Lib.byteCells_length]; have e2 : (two x.length).length = 2 := rfl; have e3 : (⟨⟨x⟩⟩ : ByteArray).size = x.length := rfl; omega) (by omega)).mono ?_
          rintro e w3 ⟨rfl, h3, b3, k3⟩
          have hlt3 := bl_lt h3
          go_wp2
          go_roundw
          case rel =>
            refine ⟨k + 1, by omega, by go_num, ?_, ((hb.trans (b1.mono (by omega))).trans b2).trans b3, hlt3, hA5⟩
            rw [bcells, bcells] at h3
            rw [HB, bindP_app, show bindP [x] = two x.length ++ x by simp [bindP], Lib.byteCells_append, Lib.byteCells_append, ← List.append_assoc]
            exact Or.inr h3
          case measure => simp [intOf]; omega
      · obtain rfl : k = l.length := by omega
        rw [List.take_length] at hI hA4
        have hr : bindR l = (bindP l, 0) := by unfold bindR; rw [if_pos ⟨by omega, hA4⟩]
        go_wp2_with fail
        refine (Tryd.Builder_String_any_k w.heap.size w.heap.size _ _ hI (by omega)).mono ?_
        rintro e w1 ⟨rfl, _, b1, _⟩
        go_wp2
        go_ret2
        rw [hr]; exact ⟨rfl, hb.trans b1⟩
end Go.Proofs.YtjhgkcbhllomaaaDoor
end

section
/- Package variables that hold rows of numbers, as the rows tell; a law whose function reads them. -/
namespace Go.Proofs.YtjhgkcbhllomaaaDoor.V
open Go Go.RowKit
set_option linter.unusedVariables false
set_option linter.unusedSimpArgs false
theorem laid_ints {P : Program} {w : World} {nm : String} {g t e n base fuel : Nat} {k : IntKind} {l : List Int} {cs : Array Value} {H : Type} {enc : TypeId × Value → H} {spare : Nat → Bool} {held : Bool} {ps : List MemPlace} (hg : P.globalNamed nm = some g) (hu : P.underlying t = some (.array n e)) (hi : P.underlying e = some (.int k)) (hc : P.cellsOf e = 1) (hv : w.var? P nm = some cs)
    (hd : DataW.trod enc P w base spare held fuel t cs.toList = some (.agg (l.map fun x => .lit (.int k x)), ps)) : ∀ (j : Nat) x, l[j]? = some x → w.cell? ⟨g, j, none⟩ = some (.int k x) := by
  obtain ⟨xs, m, rfl, hx, hl, hn, hel⟩ := DataW.trod_array hu hd
  simp only [Prod.mk.injEq, DataW.agg.injEq] at hx
  intro j x hj
  have h1 : (xs.map (·.1))[j]? = some (.lit (.int k x)) := by rw [← hx.1, List.getElem?_map, hj]; rfl
  rw [List.getElem?_map, Option.map_eq_some_iff] at h1
  obtain ⟨y, hy, hy2⟩ := h1
  have hjn : j < n := by rw [← hn]; exact (List.getElem?_eq_some_iff.1 hy).1
  have h2 := hel j hjn
  rw [hy, hc] at h2
  obtain ⟨q, hq, hq2, _⟩ := DataW.trod_int hi h2
  rw [hq2] at hy2
  simp only [DataW.lit.injEq, Lit.int.injEq, true_and] at hy2
  subst hy2
  have h3 : cs.toList[j]? = some (.int k q) := by
    have h4 : ((cs.toList.drop (j * 1)).take 1)[0]? = some (.int k q) := by rw [hq]; rfl
    simpa using h4
  rw [World.var?_cell hg hv j]
  simpa using h3
theorem flat_eI (k : IntKind) (l : List Int) : (l.map (eI k)).flatten = l.map (Sc.int k) := by
  induction l with
  | nil => rfl
  | cons x l ih => rw [List.map_cons, List.flatten_cons, ih]; rfl
theorem glrep {w : World} {g : Nat} {k : IntKind} {l : List Int} (h : ∀ (j : Nat) (x : Int), l[j]? = some x → w.cell? ⟨g, j, none⟩ = some (.int k x)) (hne : l ≠ []) : RepD w (fun b => b < w.heap.size) (.ref ((l.map (eI k)).flatten) 0) (.pointer (some ⟨g, 0, none⟩)) := by
  have key : ∀ (j : Nat) (sc : Sc), ((l.map (eI k)).flatten)[j]? = some sc → ∃ x : Int, l[j]? = some x ∧ sc = Sc.int k x := by
    intro j sc hj
    rw [flat_eI, List.getElem?_map, Option.map_eq_some_iff] at hj
    obtain ⟨x, hx, rfl⟩ := hj
    exact ⟨x, hx, rfl⟩
  have hb : g < w.heap.size := by
    cases l with
    | nil => exact absurd rfl hne
    | cons x l => exact cell?_lt (h 0 x rfl)
  refine .ref _ 0 g 0 (fun j => (w.cell? ⟨g, j, none⟩).getD undef) hb (fun j sc hj => ?_) (fun j sc hj => ?_)
  · obtain ⟨x, hx, rfl⟩ := key j sc hj
    rw [Nat.zero_add, h j x hx]; rfl
  · obtain ⟨x, hx, rfl⟩ := key j sc hj
    simp only [h j x hx, Option.getD_some]
    exact .int k x
/-- A law whose function reads package variables, out of what is shown of its function. -/
theorem Fun.lawG {P : Program} {gl : Gl} {f : FuncId} {xs : List Vb} {b : Bool} {vs : List Value} {w : World} (h : Fun P gl f (xs.map Va.b) (.bo b)) (hg : GlOk gl w (fun k => k < w.heap.size)) (hx : AtAll w xs vs) : Calls P f vs.toArray w fun e w1 => e = .returned (.bool b) ∧ Below w.heap.size w w1 := by
  obtain ⟨hl, hg2⟩ := hx.get
  refine (h.2 w (fun k => k < w.heap.size) vs.toArray (fun _ h => h) hg ⟨by simpa using hl, fun j x hj => ?_⟩).mono fun e w1 => ?_
  · rw [List.getElem?_map, Option.map_eq_some_iff] at hj
    obtain ⟨y, hj, rfl⟩ := hj
    have := hg2 j y hj
    show At w y _
    simpa [Array.getD_eq_getD_getElem?, List.getD] using this
  · rintro ⟨u, S1, rfl, _, _, hr, hb⟩
    refine ⟨?_, hb⟩
    cases hr with
    | d _ _ h => cases h with | bool _ => rfl
end Go.Proofs.YtjhgkcbhllomaaaDoor.V
end

section
/- A range over a function whose iterator turns blocks of its own: the statement, by what the iterator says and what a round keeps. -/
namespace Go.Proofs.YtjhgkcbhllomaaaDoor.V
open Go Go.RowKit
set_option linter.unusedVariables false
set_option linter.unusedSimpArgs false
/-- From one world to a later one: blocks of S lie as they lay. -/
structure Kp (S : Nat → Prop) (w w1 : World) : Prop where
  os : w1.os = w.os
  tape : w1.tape = w.tape
  output : w1.output = w.output
  size : w.heap.size ≤ w1.heap.size
  block : ∀ b, S b → b < w.heap.size → w1.heap[b]? = w.heap[b]?
theorem Kp.refl (S : Nat → Prop) (w : World) : Kp S w w := ⟨rfl, rfl, rfl, Nat.le_refl _, fun _ _ _ => rfl⟩
theorem Kp.trans {S : Nat → Prop} {w w1 w2 : World} (h : Kp S w w1) (h2 : Kp S w1 w2) : Kp S w w2 :=
  ⟨h2.os.trans h.os, h2.tape.trans h.tape, h2.output.trans h.output, Nat.le_trans h.size h2.size, fun b hb hl => (h2.block b hb (Nat.lt_of_lt_of_le hl h.size)).trans (h.block b hb hl)⟩
theorem Kp.mono {S S1 : Nat → Prop} {w w1 : World} (h : Kp S w w1) (hs : ∀ b, S1 b → b < w.heap.size → S b) : Kp S1 w w1 := ⟨h.os, h.tape, h.output, h.size, fun b hb hl => h.block b (hs b hb hl) hl⟩
theorem Kp.of_below {S : Nat → Prop} {w w1 : World} (h : Below w.heap.size w w1) : Kp S w w1 := ⟨h.os, h.tape, h.output, h.size, fun b _ hl => h.block b hl⟩
theorem Kp.below {S : Nat → Prop} {B : Nat} {w w1 : World} (h : Kp S w w1) (hs : ∀ b, b < B → S b) (hB : B ≤ w.heap.size) : Below B w w1 := ⟨h.os, h.tape, h.output, h.size, fun b hb => h.block b (hs b hb) (Nat.lt_of_lt_of_le hb hB)⟩
theorem Kp.alloc (S : Nat → Prop) (w : World) (o : Obj) : Kp S w (w.alloc o) := ⟨rfl, rfl, rfl, by simp, fun b _ hl => Below.heap_alloc w o b hl⟩
theorem Kp.putObj {S : Nat → Prop} (w : World) (l : Nat) (o : Obj) (h : ¬ S l) : Kp S w (w.putObj l o) := ⟨rfl, rfl, rfl, by rw [World.putObj_size]; exact Nat.le_refl _, fun b hb _ => World.putObj_heap_other (by rintro rfl; exact h hb)⟩
theorem Kp.setCell {S : Nat → Prop} (w : World) (b o : Nat) (v : Value) (h : ¬ S b) : Kp S w (w.setCell ⟨b, o, none⟩ v) := by
  refine ⟨rfl, rfl, rfl, by show w.heap.size ≤ (w.heap.modify _ _).size; rw [Array.size_modify]; exact Nat.le_refl _, fun k hk hl => ?_⟩
  exact Below.heap_setCell w ⟨b, o, none⟩ v k (by rintro rfl; exact h hk)
/-- What an iterator says: it hands over just these, one by one; between two rounds it turns the blocks of T alone, and lays new ones. -/
def Hands (P : Program) (k : FuncId) (lb : Array Value) (T : Nat → Prop) (xs : List Str) (enc : Str → Array Value) (w : World) : Prop :=
  ∀ (l : Nat) (J Jx : List Str → World → Prop) (W : World), Kp (fun _ => True) w W →
    (∀ pre W W', J pre W → Kp (fun b => ¬ T b) W W' → J pre W') →
    (∀ pre W W', Jx pre W → Kp (fun b => ¬ T b) W W' → Jx pre W') →
    (∀ pre x W, J pre W → pre ++ [x] <+: xs → YieldAt Fence.wide 0 P l (enc x) W fun e W' =>
      (e = .returned (.bool true) ∧ J (pre ++ [x]) W' ∧ Kp T W W') ∨ (e = .returned (.bool false) ∧ Jx (pre ++ [x]) W')) →
    J [] W →
    Calls P k (#[.func (.yield l) #[] #[]] ++ lb) W fun e W' => (∃ v, e = .returned v) ∧ (J xs W' ∨ ∃ pre, pre <+: xs ∧ Jx pre W')
/-- How a round's body may be left. -/
def handsPost (B : Nat) (I : List Str → World → Prop) (Ix : Code → List Str → World → Prop) (xs : List Str) (W : World) : Exit → Act → World → Prop
  | .normal, _, W' => Kp (fun b => B ≤ b) W W' ∧ I xs W'
  | .ret, _, W' => Kp (fun b => B ≤ b) W W' ∧ Ix .ret xs W'
  | .exit id, _, W' => Kp (fun b => B ≤ b) W W' ∧ Ix (.exit id) xs W'
  | _, _, _ => False
variable {P : Program}
theorem yieldAt_any {m n : Nat} {l : Nat} {args : Array Value} {W : World} {R : Ending → World → Prop} (h : YieldAt Fence.wide m P l args W R) : YieldAt Fence.wide n P l args W R := by
  obtain ⟨fn, tmps, assign, body, h1, h2, h3⟩ := h
  exact ⟨fn, tmps, assign, body, h1, h2, fun c cs _ => h3 c cs (room_wide _)⟩
set_option maxHeartbeats 1000000 in
/-- **The statement.** B: the heap's size where the loop begins, less what is the iterator's own: its blocks T lie from B on. -/
theorem wp_range {g : Operand} {ps : Array Tmp} {assign body : Code} {Q : Exit → Act → World → Prop} {a : Act} {w : World} {n B : Nat}
    {gf : Nat} {lb : Array Value} (hg : a.eval g = .func (.func gf) #[] lb) (eg : ∀ args w, (callFunc gf args).run P w = .ok (.enter gf args) w)
    {T : Nat → Prop} {xs : List Str} {enc : Str → Array Value} (hit : Hands P gf lb T xs enc w) (hT : ∀ b, T b → B ≤ b ∧ b < w.heap.size) (hps : ∀ x, (enc x).size = ps.size)
    (I : List Str → World → Prop) (Ix : Code → List Str → World → Prop)
    (hI : ∀ pre W W', I pre W → Kp (fun b => b < B) W W' → I pre W')
    (hIx : ∀ c pre W W', Ix c pre W → Kp (fun b => b < B) W W' → Ix c pre W')
    (hBw : B ≤ w.heap.size) (h0 : I [] w) (a₁ : Str → Act)
    (hassign : ∀ (l : Nat) (x : Str) (W : World) (K : Act → World → Prop), K (a₁ x) W →
      assign.wpIn (Fence.wide.inRound l) n P (Exit.then K (fun _ _ _ => False)) { tmps := (ps.zip (enc x)).foldl (fun t (p, v) => t.setIfInBounds p v) a.tmps, defers := [] } W)
    (hbody : ∀ (l : Nat) (pre : List Str) (x : Str) (W : World), I pre W → B ≤ W.heap.size → pre ++ [x] <+: xs → body.wpIn (Fence.wide.inRound l) n P (handsPost B I Ix (pre ++ [x]) W) (a₁ x) W)
    (hdone : ∀ (D : Nat) (W : World), I xs W → B ≤ D → W.heap[D]? = some (.deferred (some [])) → Q .normal { a with defers := { target := .collected D, args := #[] } :: a.defers } W)
    (hstop : ∀ (D : Nat) (c : Code) (pre : List Str) (W : World), Ix c pre W → pre <+: xs → B ≤ D → W.heap[D]? = some (.deferred (some [])) → c.wpIn Fence.wide n P Q { a with defers := { target := .collected D, args := #[] } :: a.defers } W) :
    (Code.rangeFunc g ps assign body).wpIn Fence.wide n P Q a w := by
  refine wpIn_rangeFunc ?_
  intro fn hfn
  obtain ⟨rec, hrec⟩ : ∃ rec : LoopState → Option Code → Loop, rec = fun st pe => { state := st, pending := pe, fn, tmps := a.tmps, params := ps, assign, body, defers := w.heap.size } := ⟨_, rfl⟩
  obtain ⟨W1, hW1⟩ : ∃ W1, (w.alloc (.deferred (some []))).alloc (.loop (rec .ready none)) = W1 := ⟨_, rfl⟩
  have k1 : Kp (fun _ => True) w W1 := by rw [← hW1]; exact (Kp.alloc _ _ _).trans (Kp.alloc _ _ _)
  have s1 : W1.heap.size = w.heap.size + 2 := by rw [← hW1]; simp
  have l1 : W1.heap[w.heap.size + 1]? = some (.loop (rec .ready none)) := by
    rw [← hW1]; have := World.alloc_heap_new (w.alloc (.deferred (some []))) (.loop (rec .ready none)); rwa [World.size_alloc] at this
  have d1 : W1.heap[w.heap.size]? = some (.deferred (some [])) := by
    rw [← hW1]; exact (Below.heap_alloc _ _ _ (by simp)).trans (World.alloc_heap_new w _)
  have i1 : I [] W1 := hI _ _ _ h0 (k1.mono fun _ _ _ => trivial)
  refine ⟨w.heap.size + 1, [{ target := .collected w.heap.size, args := #[] }], W1, { target := .fn (.func gf) lb, args := #[.func (.yield (w.heap.size + 1)) #[] #[]] }, W1, gf, #[.func (.yield (w.heap.size + 1)) #[] #[]] ++ lb, W1, ?_, ?_, ?_, ?_, (fun h => absurd h (by decide)), ?_⟩
  · rw [← hW1, hrec]; exact run_enterLoop_outer _ _ _ _ _
  · simp only [resolve, hg]
    simp [go_sem]
  · intro f' hf'; trivial
  · simp [invoke, go_sem, eg]
  · rw [callsIn_wide]
    have pb : ∀ (W : World) (o : Obj), Kp (fun b => b < B) W (W.putObj (w.heap.size + 1) o) := fun W o => .putObj _ _ _ (by omega)
    have nT : ∀ b, w.heap.size ≤ b → ¬ T b := fun b hb ht => by have := (hT b ht).2; omega
    have sub : ∀ b, b < B → ¬ T b := fun b hb ht => by have := (hT b ht).1; omega
    refine (hit (w.heap.size + 1)
      (fun pre W => I pre W ∧ W.heap[w.heap.size + 1]? = some (.loop (rec .ready none)) ∧ W.heap[w.heap.size]? = some (.deferred (some [])))
      (fun pre W => ∃ c, Ix c pre W ∧ W.heap[w.heap.size + 1]? = some (.loop (rec .done (some c))) ∧ W.heap[w.heap.size]? = some (.deferred (some [])))
      W1 k1 ?_ ?_ ?_ ⟨i1, l1, d1⟩).mono ?_
    · rintro pre W W' ⟨h1, h2, h3⟩ hk
      have q2 := (Array.getElem?_eq_some_iff.1 h2).1
      exact ⟨hI _ _ _ h1 (hk.mono fun b hb _ => sub b hb), (hk.block _ (nT _ (by omega)) q2).trans h2, (hk.block _ (nT _ (Nat.le_refl _)) (by omega)).trans h3⟩
    · rintro pre W W' ⟨c, h1, h2, h3⟩ hk
      have q2 := (Array.getElem?_eq_some_iff.1 h2).1
      exact ⟨c, hIx _ _ _ _ h1 (hk.mono fun b hb _ => sub b hb), (hk.block _ (nT _ (by omega)) q2).trans h2, (hk.block _ (nT _ (Nat.le_refl _)) (by omega)).trans h3⟩
    · rintro pre x W ⟨hi, hl, hk⟩ hpre
      have hlt : w.heap.size + 1 < W.heap.size := (Array.getElem?_eq_some_iff.1 hl).1
      have hy := run_yield (P := P) (args := enc x) hl (by rw [hrec]; exact hps x)
      rw [hrec] at hy
      refine yieldAt_any (m := n) ⟨fn, _, assign, body, hy, roundIn_of_wpIn hfn (hassign _ x W _ ⟨_, run_beginRound hl (by rw [hrec]), ?_⟩)⟩
      obtain ⟨W2, hW2⟩ : ∃ W2, W.putObj (w.heap.size + 1) (.loop { rec .ready none with state := .busy }) = W2 := ⟨_, rfl⟩
      have p2 : Kp (fun b => b ≠ w.heap.size + 1) W W2 := by rw [← hW2]; exact .putObj _ _ _ (fun h => h rfl)
      have z2 : W2.heap.size = W.heap.size := by rw [← hW2]; exact World.putObj_size
      have l2 : W2.heap[w.heap.size + 1]? = some (.loop { rec .ready none with state := .busy }) := by rw [← hW2]; exact World.putObj_heap_same hlt
      have d2 : W2.heap[w.heap.size]? = some (.deferred (some [])) := (p2.block _ (by omega) (by omega)).trans hk
      have i2 : I pre W2 := hI _ _ _ hi (p2.mono fun b hb _ => by omega)
      rw [hW2]
      refine wpIn_mono (hbody _ pre x _ i2 (by omega) hpre) ?_
      have fin : ∀ (jump : Option Code) (W3 : World), Kp (fun b => B ≤ b) W2 W3 →
          (Instr.endRound (w.heap.size + 1) jump).run P W3 = .ok (.bool jump.isNone) (W3.putObj (w.heap.size + 1) (.loop (rec (if jump.isNone then .ready else .done) jump))) ∧
          (W3.putObj (w.heap.size + 1) (.loop (rec (if jump.isNone then .ready else .done) jump))).heap[w.heap.size + 1]? = some (.loop (rec (if jump.isNone then .ready else .done) jump)) ∧
          (W3.putObj (w.heap.size + 1) (.loop (rec (if jump.isNone then .ready else .done) jump))).heap[w.heap.size]? = some (.deferred (some [])) ∧
          Kp T W (W3.putObj (w.heap.size + 1) (.loop (rec (if jump.isNone then .ready else .done) jump))) := fun jump W3 hk3 => by
        have hl3 := (hk3.block _ (by omega) (by omega)).trans l2
        have hd3 := (hk3.block _ hBw (by omega)).trans d2
        have := run_endRound (P := P) jump hl3
        rw [hrec] at this ⊢
        refine ⟨this, World.putObj_heap_same (Array.getElem?_eq_some_iff.1 hl3).1, (World.putObj_heap_other (by omega)).trans hd3, ((p2.mono fun b hb _ => ?_).trans (hk3.mono fun b hb _ => (hT b hb).1)).trans (.putObj _ _ _ fun hb => ?_)⟩
        · have := (hT b hb).2; omega
        · have := (hT _ hb).2; omega
      rintro e a3 W3 hp
      cases e with
      | normal =>
        obtain ⟨hk3, hi3⟩ := hp
        obtain ⟨hr, hl4, hk4, ht4⟩ := fin none W3 hk3
        exact ⟨_, _, hr, .inl ⟨rfl, ⟨hI _ _ _ hi3 (pb _ _), hl4, hk4⟩, ht4⟩⟩
      | ret =>
        obtain ⟨hk3, hi3⟩ := hp
        obtain ⟨hr, hl4, hk4, ht4⟩ := fin (some .ret) W3 hk3
        exact ⟨_, _, hr, .inr ⟨rfl, .ret, hIx _ _ _ _ hi3 (pb _ _), hl4, hk4⟩⟩
      | exit id =>
        obtain ⟨hk3, hi3⟩ := hp
        obtain ⟨hr, hl4, hk4, ht4⟩ := fin (some (.exit id)) W3 hk3
        exact ⟨_, _, hr, .inr ⟨rfl, .exit id, hIx _ _ _ _ hi3 (pb _ _), hl4, hk4⟩⟩
      | goto t => exact hp.elim
      | panic ch => exact hp.elim
      | outgrown => exact hp.elim
    · rintro e W2 ⟨⟨v, rfl⟩, (⟨hi, hl, hk⟩ | ⟨pre, hp, c, hi, hl, hk⟩)⟩
      · have := run_endLoop (P := P) hl (by rw [hrec]; simp)
        rw [hrec] at this
        exact ⟨none, _, this, hdone _ _ (hI _ _ _ hi (pb _ _)) hBw ((World.putObj_heap_other (by omega)).trans hk)⟩
      · have := run_endLoop (P := P) hl (by rw [hrec]; simp)
        rw [hrec] at this
        exact ⟨some c, _, this, hstop _ c pre _ (hIx _ _ _ _ hi (pb _ _)) hp hBw ((World.putObj_heap_other (by omega)).trans hk)⟩
/-- A contract of one's own typing whose function calls printed ones. -/
theorem Fun.flatG {gl : Gl} {f : FuncId} {xs : List Va} {y : Va} {v : Value} (hc : callable P f = true) (hy : ∀ w S, RepV w S (fun _ => none) (fun _ => none) y v) (h : ∀ w (S : Nat → Prop) vs, (∀ k, S k → k < w.heap.size) → GlOk gl w S → RepA w S xs vs → Calls P f vs w fun e w1 => e = .returned v ∧ Below w.heap.size w w1) : Fun P gl f xs y := by
  refine ⟨hc, fun w S vs hS hgl hA => (h w S vs hS hgl hA).mono fun e w1 => ?_⟩
  rintro ⟨rfl, hb⟩
  exact ⟨v, S, rfl, fun _ h => h, fun k hk => ⟨.inl hk, Nat.lt_of_lt_of_le (hS k hk) hb.size⟩, hy _ _, hb⟩
theorem GlOk.later {gl : Gl} {w w1 : World} {S : Nat → Prop} (hS : ∀ k, S k → k < w.heap.size) (hG : GlOk gl w S) (hb : Below w.heap.size w w1) : GlOk gl w1 S := fun g cs hg => (hG g cs hg).mono (fun _ h => h) (fun k hk => hb.block k (hS k hk))
theorem Fun.boolAt {gl : Gl} {f : FuncId} {xs : List Va} {b : Bool} {w w1 : World} {S : Nat → Prop} {vs : Array Value} (h : Fun P gl f xs (.bo b)) (hS : ∀ k, S k → k < w.heap.size) (hG : GlOk gl w S) (hb : Below w.heap.size w w1) (hA : RepA w1 S xs vs) : Calls P f vs w1 fun e w' => e = .returned (.bool b) ∧ Below w1.heap.size w1 w' :=
  (h.2 w1 S vs (fun k hk => Nat.lt_of_lt_of_le (hS k hk) hb.size) (hG.later hS hb) hA).mono fun e w' => by
    rintro ⟨u, S1, rfl, _, _, hr, hb⟩
    refine ⟨?_, hb⟩
    cases hr with
    | d _ _ h => cases h with | bool _ => rfl
theorem repA_str {w : World} {S : Nat → Prop} (x : List UInt8) : RepA w S [.b (.s (.d (.str x)))] #[strV x] := by
  refine ⟨rfl, fun j y hj => ?_⟩
  cases j with
  | zero => simp only [List.getElem?_cons_zero, Option.some.injEq] at hj; subst hj; exact .d _ _ (.str _)
  | succ j => simp at hj
/-- A package variable that holds a type's handle. -/
theorem ifa_one {w : World} {S : Nat → Prop} {t : TypeId} {x : Sc} {u : Value} (h : RepD w S (.ifc t true [x]) u) : ∃ v, u = .iface t (.agg #[v]) ∧ RepD w S x v := by
  cases h with
  | ifa _ _ vs hl hu =>
    obtain ⟨vs⟩ := vs
    match vs, hl with
    | [v], _ => exact ⟨v, rfl, hu 0 x rfl⟩
theorem ifa_two {w : World} {S : Nat → Prop} {t : TypeId} {x y : Sc} {u : Value} (h : RepD w S (.ifc t true [x, y]) u) : ∃ v v2, u = .iface t (.agg #[v, v2]) ∧ RepD w S x v ∧ RepD w S y v2 := by
  cases h with
  | ifa _ _ vs hl hu =>
    obtain ⟨vs⟩ := vs
    match vs, hl with
    | [v, v2], _ => exact ⟨v, v2, rfl, hu 0 x rfl, hu 1 y rfl⟩
theorem ifa_none {w : World} {S : Nat → Prop} {t : TypeId} {u : Value} (h : RepD w S (.ifc t true []) u) : u = .iface t (.agg #[]) := by
  cases h with
  | ifa _ _ vs hl hu =>
    obtain ⟨vs⟩ := vs
    match vs, hl with
    | [], _ => rfl
theorem repD_int {w : World} {S : Nat → Prop} {k : IntKind} {n : Int} {u : Value} (h : RepD w S (.int k n) u) : u = .int k n := by cases h; rfl
theorem gl_handle {gl : Gl} {w : World} {S : Nat → Prop} {g t b o : Nat} (hG : GlOk gl w S) (h : gl g = some [.ifc t true [.z (.hnd b o)]]) : w.cell? ⟨g, 0, none⟩ = some (.iface t (.agg #[.pointer (some ⟨b, o, none⟩)])) := by
  have h1 := hG g _ h
  cases h1 with
  | ref _ _ b1 o1 us hS hcell hu =>
    have h2 := hu 0 _ rfl
    obtain ⟨v, h3, h4⟩ := ifa_one h2
    have h5 := hcell 0 _ rfl
    rw [h3] at h5
    cases h4 with
    | z _ => exact h5
/-- Two plain values, handed back, or handed in. -/
theorem repV_two {w : World} {S : Nat → Prop} {x y : Sc} {u v : Value} (h1 : RepD w S x u) (h2 : RepD w S y v) : RepV w S (fun _ => none) (fun _ => none) (.tup [.s (.d x), .s (.d y)]) (.tuple #[u, v]) := by
  refine ⟨_, rfl, rfl, fun j z hj => ?_⟩
  match j, hj with
  | 0, hj => cases hj; exact .d _ _ h1
  | 1, hj => cases hj; exact .d _ _ h2
theorem repA_two {w : World} {S : Nat → Prop} {x y : Va} {u v : Value} (h1 : RepV w S (fun _ => none) (fun _ => none) x u) (h2 : RepV w S (fun _ => none) (fun _ => none) y v) : RepA w S [x, y] #[u, v] := by
  refine ⟨rfl, fun j z hj => ?_⟩
  match j, hj with
  | 0, hj => cases hj; exact h1
  | 1, hj => cases hj; exact h2
theorem Fun.strInt {gl : Gl} {f : FuncId} {xs : List Va} {s : List UInt8} {k : IntKind} {n : Int} {w w1 : World} {S : Nat → Prop} {vs : Array Value} (h : Fun P gl f xs (.tup [.s (.d (.str s)), .s (.d (.int k n))])) (hS : ∀ k, S k → k < w.heap.size) (hG : GlOk gl w S) (hb : Below w.heap.size w w1) (hA : RepA w1 S xs vs) : Calls P f vs w1 fun e w' => e = .returned (.tuple #[strV s, .int k n]) ∧ Below w1.heap.size w1 w' :=
  (h.2 w1 S vs (fun k hk => Nat.lt_of_lt_of_le (hS k hk) hb.size) (hG.later hS hb) hA).mono fun e w' => by
    rintro ⟨u, S1, rfl, _, _, hr, hb⟩
    refine ⟨?_, hb⟩
    obtain ⟨vs, rfl, hl, hr⟩ := hr
    obtain ⟨vs⟩ := vs
    match vs, hl with
    | [a, b], _ =>
      have h1 := hr 0 _ rfl
      have h2 := hr 1 _ rfl
      cases h1 with
      | d _ _ h1 => cases h2 with
        | d _ _ h2 => cases h1; cases h2; rfl
/-- A row of texts that is handed in. -/
theorem rep_strs {w : World} {S : Nat → Prop} {l : List (List UInt8)} {v : Value} (hS : ∀ k, S k → k < w.heap.size) (h : RepV w S (fun _ => none) (fun _ => none) (.b (.s (.d (.sl (l.map eS))))) v) :
    ∃ A b o c, v = .slice A l.length c ∧ (l ≠ [] → A = some ⟨b, o, none⟩) ∧ (∀ (j : Nat) x, l[j]? = some x → w.cell? ⟨b, o + j, none⟩ = some (strV x)) ∧ (l ≠ [] → b < w.heap.size) ∧ l.length ≤ c := by
  have hfl : (l.map eS).flatten = l.map Sc.str := by
    clear h
    induction l with
    | nil => rfl
    | cons x l ih => rw [List.map_cons, List.flatten_cons, ih]; rfl
  cases h with
  | d _ _ h =>
    cases h with
    | sl _ a c st b o us hc h0 hst ha hcell hu =>
      rw [List.length_map] at hc
      refine ⟨a, b, o, c, by rw [List.length_map], fun hne => (ha (by simpa using hne)).1, fun j x hj => ?_, fun hne => hS _ (ha (by simpa using hne)).2, hc⟩
      have hj2 : (l.map eS).flatten[j]? = some (.str x) := by rw [hfl, List.getElem?_map, hj]; rfl
      rw [hcell j _ hj2]
      have := hu j _ hj2
      generalize us j = q at this
      cases this; rfl
end Go.Proofs.YtjhgkcbhllomaaaDoor.V
end

section
/- The contract of octet.Hex. -/
namespace Go.Proofs.YtjhgkcbhllomaaaDoor
open Go.RowKit
set_option linter.unusedVariables false
set_option linter.unusedSimpArgs false
set_option maxHeartbeats 1000000 in
set_option maxRecDepth 100000 in
theorem octet_Hex.spec (a0 : ByteArray) (w : World) (hs : a0.size ≤ 35184372088832) :
    Calls Tryd.prog 34 #[.string a0] w fun e w' => e = .returned (.string (hexS a0)) ∧ Below w.heap.size w w' := by
  go_enter Tryd.func34, Tryd.ntmps34
  go_wp2
  go_loopw [7] (fun i wr => ∃ k : Nat, k ≤ a0.size ∧ i = .int .i64 k ∧ Lib.IsBuilderF 66 5 w.heap.size w.heap.size (Lib.byteCells (hexl (a0.data.toList.take k))) wr ∧ Below w.heap.size w wr ∧ w.heap.size < wr.heap.size) (fun i _ => a0.size - (intOf i).toNat)
  case atStart =>
    refine ⟨0, Nat.zero_le _, rfl, (Lib.IsBuilderF.of (Lib.fresh_isBuilder 66 5 w)), (Below.refl _ w).alloc (Nat.le_refl _) _, by simp⟩
  case round =>
    obtain ⟨k, hk, rfl, hI, hbw, hsz⟩ := hrel
    by_cases hlt : k < a0.size
    · have hl := hexl_length (a0.data.toList.take k)
      have hl2 : (a0.data.toList.take k).length ≤ k := List.length_take_le _ _
      have hc : a0[k].toNat < 256 := a0[k].toNat_lt
      go_wp2_with fail
      refine (Tryd.WriteByte_k w.heap.size w.heap.size _ _ _ hI (by rw [Lib.byteCells_length]; omega) (by omega)).mono ?_
      rintro e W1 ⟨rfl, h1, b1, k1⟩
      rw [dig_get] at h1
      have hz1 := b1.size
      go_wp2_with fail
      refine (Tryd.WriteByte_k w.heap.size w.heap.size _ _ _ (Or.inr h1) (by rw [List.length_append, Lib.byteCells_length]; simp only [List.length_cons, List.length_nil]; omega) (by omega)).mono ?_
      rintro e W2 ⟨rfl, h2, b2, k2⟩
      rw [dig_get] at h2
      have hz2 := b2.size
      go_wp2
      go_roundw
      case rel =>
        refine ⟨k + 1, by omega, by go_num, ?_, (hbw.trans b1).trans b2, by omega⟩
        rw [hexl_snoc a0 k hlt, Lib.byteCells_append, Lib.byteCells_append]
        exact Or.inr h2
      case measure => simp [intOf]; omega
    · obtain rfl : k = a0.size := by omega
      go_wp2_with fail
      rw [show a0.data.toList.take a0.size = a0.data.toList from List.take_of_length_le (by simp)] at hI
      refine (Tryd.Builder_String_any_k w.heap.size w.heap.size _ _ hI (by omega)).mono ?_
      rintro e W1 ⟨rfl, _, b1, _⟩
      go_wp2
      go_ret
      exact ⟨rfl, hbw.trans b1⟩
end Go.Proofs.YtjhgkcbhllomaaaDoor
end

section
/- The contract of octet.number at a text's error, by Go's own text of errors.Is and errors.As. -/
namespace Go.Proofs.YtjhgkcbhllomaaaDoor
open Go.RowKit Go.Extern.Stop Go.Stop Go.Extern Go.Extern.Rtype
set_option linter.unusedVariables false
set_option linter.unusedSimpArgs false
theorem nu_typeOf (t : TypeId) (v : Value) (ht : t = 93 ∨ t = 91) (w : World) : (ReflectliteType.typeOf #[.iface t v]).run Tryd.prog w = .ok (.iface 114 (.agg #[.pointer (some ⟨3, t, none⟩)])) w := by rcases ht with rfl | rfl <;> kernel_rfl
def nuCmp : TypeId → Sem Value := fun t => do noPackHeld "Comparable" t; pure (.bool (← typeInfo t).comparable)
def nuKind : TypeId → Sem Value := fun t => do pure (.int .u8 (← kind t))
theorem nu_cmp (w : World) : ((ReflectliteType.method nuCmp) #[.agg #[(.pointer (some ⟨3, 93, none⟩))]]).run Tryd.prog w = .ok (.bool true) w := by kernel_rfl
theorem nu_mcmp (v : Value) (w : World) : (Go.method 255 114 v "Comparable").run Tryd.prog w = .ok (107, v) w := by kernel_rfl
theorem nu_munw (v : Value) (w : World) : (Go.method 255 91 v "Unwrap").run Tryd.prog w = .ok (100, v) w := by kernel_rfl
theorem nu_isA (v : Value) (xT : TypeId) (w : World) : (Instr.typeAssert (.iface 91 v) xT 116 true).run Tryd.prog w = .ok (.tuple #[.nilIface, .bool false]) w := run_typeAssert_lacksB Tryd.underlying116 (by kernel_rfl) (by kernel_rfl) v xT w
theorem nu_isF (v : Value) (xT : TypeId) (w : World) : (Instr.typeAssert (.iface 93 v) xT 116 true).run Tryd.prog w = .ok (.tuple #[.nilIface, .bool false]) w := run_typeAssert_lacksB Tryd.underlying116 (by kernel_rfl) (by kernel_rfl) v xT w
theorem nu_uwA (v : Value) (xT : TypeId) (w : World) : (Instr.typeAssert (.iface 91 v) xT 119 true).run Tryd.prog w = .ok (.tuple #[.iface 91 v, .bool true]) w := run_typeAssert_hasB Tryd.underlying119 (by kernel_rfl) v xT w
theorem nu_uwF (v : Value) (xT : TypeId) (w : World) : (Instr.typeAssert (.iface 93 v) xT 119 true).run Tryd.prog w = .ok (.tuple #[.nilIface, .bool false]) w := run_typeAssert_lacksB Tryd.underlying119 (by kernel_rfl) (by kernel_rfl) v xT w
theorem nu_usF (v : Value) (xT : TypeId) (w : World) : (Instr.typeAssert (.iface 93 v) xT 120 true).run Tryd.prog w = .ok (.tuple #[.nilIface, .bool false]) w := run_typeAssert_lacksB Tryd.underlying120 (by kernel_rfl) (by kernel_rfl) v xT w
theorem nu_asA (v : Value) (xT : TypeId) (w : World) : (Instr.typeAssert (.iface 91 v) xT 125 true).run Tryd.prog w = .ok (.tuple #[.nilIface, .bool false]) w := run_typeAssert_lacksB Tryd.underlying125 (by kernel_rfl) (by kernel_rfl) v xT w
theorem nu_eq3 (w : World) : (binOp .eql 69 (.iface 93 (.agg #[.int .i64 3])) (.iface 93 (.agg #[.int .i64 3]))).run Tryd.prog w = .ok (.bool true) w := by kernel_rfl
theorem nu_eq2 (w : World) : (binOp .eql 69 (.iface 93 (.agg #[.int .i64 2])) (.iface 93 (.agg #[.int .i64 3]))).run Tryd.prog w = .ok (.bool false) w := by kernel_rfl
theorem nu_unw (n e : Int) (w : World) : Calls Tryd.prog 100 #[.agg #[.int .i64 n, .iface 93 (.agg #[.int .i64 e])]] w fun x w' => x = .returned (.iface 93 (.agg #[.int .i64 e])) ∧ w' = w.alloc (.cells #[.int .i64 n, .iface 93 (.agg #[.int .i64 e])] 91) := by
  go_enter Tryd.func100, Tryd.ntmps100
  go_wp2
  go_ret
  exact ⟨rfl, rfl⟩
set_option maxHeartbeats 4000000 in
theorem nu_Is (n e : Int) (he : e = 2 ∨ e = 3) (w : World) : Calls Tryd.prog 65 #[.iface 91 (.agg #[.int .i64 n, .iface 93 (.agg #[.int .i64 e])]), .iface 93 (.agg #[.int .i64 3])] w fun x w' => x = .returned (.bool (decide (e = 3))) ∧ Below w.heap.size w w' := by
  have h8 := @run_callFunc_extern Tryd.prog 72 _ ReflectliteType.typeOf Tryd.func72 (by kernel_rfl) (by kernel_rfl) (by kernel_rfl) (by kernel_rfl)
  have h32 := @run_callFunc_extern Tryd.prog 107 _ (ReflectliteType.method nuCmp) Tryd.func107 (by kernel_rfl) (by kernel_rfl) (by kernel_rfl) (by kernel_rfl)
  have tT := fun (v : Value) (w : World) => nu_typeOf 93 v (.inl rfl) w
  have cT := nu_cmp
  have mR := nu_mcmp
  have iA := nu_isA
  have iF := nu_isF
  have uA := nu_uwA
  have uF := nu_uwF
  have vF := nu_usF
  have mU := nu_munw
  have q3 := nu_eq3
  have q2 := nu_eq2
  have hty := run_eql_iface_types (P := Tryd.prog) 91 93 (.agg #[.int .i64 n, .iface 93 (.agg #[.int .i64 e])]) (.agg #[.int .i64 3]) Tryd.underlying69 (by decide) w
  rcases he with rfl | rfl
  · go_enter Tryd.func65, Tryd.ntmps65
    go_wp2
    refine wp_loop_rounds 2 ?_
    rw [rounds_succ]
    go_wp2
    rw [rounds_succ]
    go_wp2
    go_ret
    exact ⟨rfl, (Below.refl _ _).alloc (Nat.le_refl _) _⟩
  · go_enter Tryd.func65, Tryd.ntmps65
    go_wp2
    refine wp_loop_rounds 2 ?_
    rw [rounds_succ]
    go_wp2
    rw [rounds_succ]
    go_wp2
    go_ret
    exact ⟨rfl, (Below.refl _ _).alloc (Nat.le_refl _) _⟩
theorem cell?_block {w : World} {a : Addr} {v : Value} (h : w.cell? a = some v) : a.block < w.heap.size := by
  unfold World.cell? at h
  cases hb : w.heap[a.block]? with
  | none => rw [hb] at h; cases h
  | some q => exact (Array.getElem?_eq_some_iff.1 hb).1
theorem nu_valueOfP (t : Addr) (w : World) : (ReflectliteValue.unpack (.iface 96 (.pointer (some t)))).run Tryd.prog w = .ok (.agg #[(.pointer (some ⟨3, 96, none⟩)), .pointer (some ⟨w.heap.size, 0, none⟩), .int .u64 150]) (w.alloc (.cells #[.pointer (some t)] 96)) := by kernel_rfl
theorem nu_typeP (a : Addr) (w : World) : (ReflectliteValue.methodAny (ReflectliteValue.valueError "reflectlite.Value.Type" 0) (fun t _ _ _ => ReflectliteType.toType t) #[.agg #[(.pointer (some ⟨3, 96, none⟩)), .pointer (some a), .int .u64 150]]).run Tryd.prog w = .ok (.iface 114 (.agg #[(.pointer (some ⟨3, 96, none⟩))])) w := by kernel_rfl
theorem nu_mkind (h : Value) (w : World) : (Go.method 255 114 (.agg #[h]) "Kind").run Tryd.prog w = .ok (95, h) w := by kernel_rfl
theorem nu_melem (h : Value) (w : World) : (Go.method 255 114 (.agg #[h]) "Elem").run Tryd.prog w = .ok (108, .agg #[h]) w := by kernel_rfl
theorem nu_mimpl (h : Value) (w : World) : (Go.method 255 114 (.agg #[h]) "Implements").run Tryd.prog w = .ok (109, .agg #[h]) w := by kernel_rfl
theorem nu_masg (h : Value) (w : World) : (Go.method 255 114 (.agg #[h]) "AssignableTo").run Tryd.prog w = .ok (106, .agg #[h]) w := by kernel_rfl
theorem nu_kindP (w : World) : ((ReflectliteType.abiMethod nuKind) #[(.pointer (some ⟨3, 96, none⟩))]).run Tryd.prog w = .ok (.int .u8 22) w := by kernel_rfl
theorem nu_kindF (w : World) : ((ReflectliteType.abiMethod nuKind) #[(.pointer (some ⟨3, 93, none⟩))]).run Tryd.prog w = .ok (.int .u8 25) w := by kernel_rfl
theorem rlm (z : Sem Value) (f : TypeId → Addr → Nat → Nat → Sem Value) (v : Value) :
    ReflectliteValue.method z f #[v] = (do match ← ReflectliteValue.parts v with | none => z | some (t, a, fl) => f t a fl (fl % 32)) := rfl
theorem nu_partsP (a : Addr) (w : World) : (ReflectliteValue.parts (.agg #[(.pointer (some ⟨3, 96, none⟩)), .pointer (some a), .int .u64 150])).run Tryd.prog w = .ok (some (96, a, 150)) w := by kernel_rfl
theorem nu_isNil (a p : Addr) (W : World) (ha : W.cell? a = some (.pointer (some p))) :
    (ReflectliteValue.method (ReflectliteValue.valueError "reflectlite.Value.IsNil" 0) ReflectliteValue.isNil #[.agg #[(.pointer (some ⟨3, 96, none⟩)), .pointer (some a), .int .u64 150]]).run Tryd.prog W = .ok (.bool false) W := by
  rw [rlm]
  simp only [Sem.run_bind, nu_partsP, Result.andThen]
  simp [ReflectliteValue.isNil, loadVar, isAgg, underlying, Tryd.underlying96, ha, Result.andThen]
theorem nu_elemP (w : World) : (ReflectliteType.method ReflectliteType.elem #[.agg #[(.pointer (some ⟨3, 96, none⟩))]]).run Tryd.prog w = .ok (.iface 114 (.agg #[(.pointer (some ⟨3, 93, none⟩))])) w := by kernel_rfl
theorem nu_implF (w : World) : (ReflectliteType.relation "Implements" ReflectliteType.implements_ #[.agg #[(.pointer (some ⟨3, 93, none⟩))], .iface 114 (.agg #[(.pointer (some ⟨3, 69, none⟩))])]).run Tryd.prog w = .ok (.bool true) w := by kernel_rfl
theorem nu_asgA (w : World) : (ReflectliteType.relation "AssignableTo" ReflectliteType.assignableTo #[.agg #[(.pointer (some ⟨3, 91, none⟩))], .iface 114 (.agg #[(.pointer (some ⟨3, 93, none⟩))])]).run Tryd.prog w = .ok (.bool false) w := by kernel_rfl
theorem nu_asgF (w : World) : (ReflectliteType.relation "AssignableTo" ReflectliteType.assignableTo #[.agg #[(.pointer (some ⟨3, 93, none⟩))], .iface 114 (.agg #[(.pointer (some ⟨3, 93, none⟩))])]).run Tryd.prog w = .ok (.bool true) w := by kernel_rfl
theorem nu_valueOfF (v : Value) (w : World) : (ReflectliteValue.unpack (.iface 93 (.agg #[v]))).run Tryd.prog w = .ok (.agg #[(.pointer (some ⟨3, 93, none⟩)), .pointer (some ⟨w.heap.size, 0, none⟩), .int .u64 153]) (w.alloc (.cells #[v] 93)) := by kernel_rfl
theorem nu_elemOf (w : World) : (Rtype.elem? 96).run Tryd.prog w = .ok (some 93) w := by kernel_rfl
theorem nu_mk (p : Addr) (w : World) : (ReflectliteValue.mk 93 p ReflectliteValue.flagAddr).run Tryd.prog w = .ok (.agg #[(.pointer (some ⟨3, 93, none⟩)), .pointer (some p), .int .u64 409]) w := by kernel_rfl
theorem nu_elemV (a p : Addr) (W : World) (ha : W.cell? a = some (.pointer (some p))) :
    (ReflectliteValue.method (ReflectliteValue.valueError "reflectlite.Value.Elem" 0) ReflectliteValue.elem #[.agg #[(.pointer (some ⟨3, 96, none⟩)), .pointer (some a), .int .u64 150]]).run Tryd.prog W
      = .ok (.agg #[(.pointer (some ⟨3, 93, none⟩)), .pointer (some p), .int .u64 409]) W := by
  rw [rlm]
  simp only [Sem.run_bind, nu_partsP, Result.andThen]
  simp [ReflectliteValue.elem, loadVar, isAgg, underlying, Tryd.underlying96, ha, Result.andThen, nu_elemOf, nu_mk]
theorem rls (v x : Value) : ReflectliteValue.set #[v, x] = (do
    let (some (dst, a, fl), some (src, b, _)) := (← ReflectliteValue.parts v, ← ReflectliteValue.parts x)
      | unsupported (.noEntry "extern/(internal/reflectlite.Value).Set.zeroValue")
    if fl / ReflectliteValue.flagAddr % 2 == 0 then unsupported (.noEntry "extern/(internal/reflectlite.Value).Set.unaddressable")
    let val ← loadVar src b
    if ← Rtype.directlyAssignable dst src then storeVar dst a val
    else if ← Rtype.implements dst src then
      if (← Rtype.kind src) == 20 then
        match val with
        | .nilIface => unsupported (.noEntry "extern/reflectlite: a nil value of one interface type handed on as a value of another")
        | _ => storeVar dst a val
      else storeVar dst a (.iface src val)
    else panicString ("reflectlite.Set: value of type " ++ (← Rtype.spelt src) ++ " is not assignable to type " ++ (← Rtype.spelt dst))
    pure (.tuple #[])) := rfl
theorem nu_parts9 (a : Addr) (w : World) : (ReflectliteValue.parts (.agg #[(.pointer (some ⟨3, 93, none⟩)), .pointer (some a), .int .u64 409])).run Tryd.prog w = .ok (some (93, a, 409)) w := by kernel_rfl
theorem nu_parts3 (a : Addr) (w : World) : (ReflectliteValue.parts (.agg #[(.pointer (some ⟨3, 93, none⟩)), .pointer (some a), .int .u64 153])).run Tryd.prog w = .ok (some (93, a, 153)) w := by kernel_rfl
theorem nu_direct (w : World) : (Rtype.directlyAssignable 93 93).run Tryd.prog w = .ok true w := by kernel_rfl
theorem nu_size (w : World) : (sizeOf 93).run Tryd.prog w = .ok 1 w := by kernel_rfl
theorem nu_set (ta : Addr) (b : Nat) (e : Int) (old : Value) (W : World) (ty : TypeId) (fr : Nat × Nat) (hb : W.heap[b]? = some (.cells #[.int .i64 e] ty fr)) (ht : W.cell? ta = some old) (hf : W.frozen? ta = false) :
    (ReflectliteValue.set #[.agg #[(.pointer (some ⟨3, 93, none⟩)), .pointer (some ta), .int .u64 409], .agg #[(.pointer (some ⟨3, 93, none⟩)), .pointer (some ⟨b, 0, none⟩), .int .u64 153]]).run Tryd.prog W
      = .ok (.tuple #[]) (W.setCell ta (.int .i64 e)) := by
  have hl : (loadVar 93 ⟨b, 0, none⟩).run Tryd.prog W = .ok (.agg #[.int .i64 e]) W := run_loadVar_row W b ty 93 _ fr _ hb Tryd.underlying93 rfl (by kernel_rfl)
  rw [rls]
  simp only [Sem.run_bind, nu_parts9, nu_parts3, Result.andThen]
  simp [ReflectliteValue.flagAddr, isAgg, underlying, Tryd.underlying93, nu_size, hl, Result.andThen, nu_direct, storeVar, Value.cells, storeCells, Addr.add]
  rw [run_store Tryd.prog W ta _ _ (by rfl)]
  simp [ht, hf]
end Go.Proofs.YtjhgkcbhllomaaaDoor
end

section
/- The contract of octet.number: errors.As, and the whole. -/
namespace Go.Proofs.YtjhgkcbhllomaaaDoor
open Go.RowKit Go.Extern.Stop Go.Stop Go.Extern Go.Extern.Rtype
set_option linter.unusedVariables false
set_option linter.unusedSimpArgs false
set_option maxRecDepth 100000 in
set_option maxHeartbeats 4000000 in
theorem nu_As (n : Int) (B : Nat) (old : Value) (w : World) (hg : w.cell? ⟨1, 0, none⟩ = some (.iface 114 (.agg #[(.pointer (some ⟨3, 69, none⟩))]))) (ht0 : w.cell? ⟨B, 0, none⟩ = some old) (hf0 : w.frozen? ⟨B, 0, none⟩ = false) (hB : B < w.heap.size) :
    Calls Tryd.prog 66 #[.iface 91 (.agg #[.int .i64 n, .iface 93 (.agg #[.int .i64 2])]), .iface 96 (.pointer (some ⟨B, 0, none⟩))] w fun x w' => x = .returned (.bool true) ∧ Below B w w' ∧ w'.cell? ⟨B, 0, none⟩ = some (.int .i64 2) := by
  have h6 := @run_callFunc_extern Tryd.prog 74 _ (fun args => ReflectliteValue.unpack (args.getD 0 (.tuple #[]))) Tryd.func74 (by kernel_rfl) (by kernel_rfl) (by kernel_rfl) (by kernel_rfl)
  have h7 := @run_callFunc_extern Tryd.prog 75 _ (ReflectliteValue.methodAny (ReflectliteValue.valueError "reflectlite.Value.Type" 0) (fun t _ _ _ => ReflectliteType.toType t)) Tryd.func75 (by kernel_rfl) (by kernel_rfl) (by kernel_rfl) (by kernel_rfl)
  have h8 := @run_callFunc_extern Tryd.prog 76 _ (ReflectliteValue.method (ReflectliteValue.valueError "reflectlite.Value.IsNil" 0) ReflectliteValue.isNil) Tryd.func76 (by kernel_rfl) (by kernel_rfl) (by kernel_rfl) (by kernel_rfl)
  have h27 := @run_callFunc_extern Tryd.prog 95 _ (ReflectliteType.abiMethod nuKind) Tryd.func95 (by kernel_rfl) (by kernel_rfl) (by kernel_rfl) (by kernel_rfl)
  have h37 := @run_callFunc_extern Tryd.prog 108 _ (ReflectliteType.method ReflectliteType.elem) Tryd.func108 (by kernel_rfl) (by kernel_rfl) (by kernel_rfl) (by kernel_rfl)
  have h38 := @run_callFunc_extern Tryd.prog 109 _ (ReflectliteType.relation "Implements" ReflectliteType.implements_) Tryd.func109 (by kernel_rfl) (by kernel_rfl) (by kernel_rfl) (by kernel_rfl)
  have h10 := @run_callFunc_extern Tryd.prog 72 _ ReflectliteType.typeOf Tryd.func72 (by kernel_rfl) (by kernel_rfl) (by kernel_rfl) (by kernel_rfl)
  have h35 := @run_callFunc_extern Tryd.prog 106 _ (ReflectliteType.relation "AssignableTo" ReflectliteType.assignableTo) Tryd.func106 (by kernel_rfl) (by kernel_rfl) (by kernel_rfl) (by kernel_rfl)
  have h11 := @run_callFunc_extern Tryd.prog 79 _ (ReflectliteValue.method (ReflectliteValue.valueError "reflectlite.Value.Elem" 0) ReflectliteValue.elem) Tryd.func79 (by kernel_rfl) (by kernel_rfl) (by kernel_rfl) (by kernel_rfl)
  have h12 := @run_callFunc_extern Tryd.prog 80 _ ReflectliteValue.set Tryd.func80 (by kernel_rfl) (by kernel_rfl) (by kernel_rfl) (by kernel_rfl)
  have tA := fun (v : Value) (w : World) => nu_typeOf 91 v (.inr rfl) w
  have tF := fun (v : Value) (w : World) => nu_typeOf 93 v (.inl rfl) w
  have mA := nu_masg
  have aA := nu_asgA
  have aF := nu_asgF
  have vF := nu_valueOfF
  have vP := nu_valueOfP
  have tP := nu_typeP
  have mK := nu_mkind
  have mE := nu_melem
  have mI := nu_mimpl
  have kP := nu_kindP
  have kF := nu_kindF
  have eP := nu_elemP
  have iF := nu_implF
  have sA := nu_asA
  have uA := nu_uwA
  have mU := nu_munw
  have gl := cell?_block hg
  have w1c : ∀ o : Obj, ((w.alloc (.cells #[.pointer (some ⟨B, 0, none⟩)] 96)).alloc o).cell? ⟨w.heap.size, 0, none⟩ = some (.pointer (some ⟨B, 0, none⟩)) := fun o => by
    rw [World.cell?_alloc_past _ _ _ (by simp), World.cell?_alloc_at _ _ _ _ rfl]; rfl
  have n8 := nu_isNil ⟨w.heap.size, 0, none⟩ ⟨B, 0, none⟩ _ (w1c (.cells #[(.pointer (some ⟨3, 96, none⟩)), .pointer (some ⟨w.heap.size, 0, none⟩), .int .u64 150] 106))
  have hg2 : ∀ o1 o2 : Obj, ((w.alloc o1).alloc o2).cell? ⟨1, 0, none⟩ = some (.iface 114 (.agg #[(.pointer (some ⟨3, 69, none⟩))])) := fun o1 o2 => by
    rw [World.cell?_alloc_past _ _ _ (by simp; omega), World.cell?_alloc_past _ _ _ gl, hg]
  have el := nu_elemV ⟨w.heap.size, 0, none⟩ ⟨B, 0, none⟩ ((((w.alloc (.cells #[.pointer (some ⟨B, 0, none⟩)] 96)).alloc (.cells #[(.pointer (some ⟨3, 96, none⟩)), .pointer (some ⟨w.heap.size, 0, none⟩), .int .u64 150] 106)).alloc (.cells #[(.pointer (some ⟨3, 96, none⟩)), .pointer (some ⟨w.heap.size, 0, none⟩), .int .u64 150] 106)).alloc (.cells #[.int .i64 n, .iface 93 (.agg #[.int .i64 2])] 91))
    (by rw [World.cell?_alloc_past _ _ _ (by simp; omega), World.cell?_alloc_past _ _ _ (by simp; omega), w1c])
  have st := nu_set ⟨B, 0, none⟩ (w.heap.size + 1 + 1 + 1 + 1) 2 old (((((w.alloc (.cells #[.pointer (some ⟨B, 0, none⟩)] 96)).alloc (.cells #[(.pointer (some ⟨3, 96, none⟩)), .pointer (some ⟨w.heap.size, 0, none⟩), .int .u64 150] 106)).alloc (.cells #[(.pointer (some ⟨3, 96, none⟩)), .pointer (some ⟨w.heap.size, 0, none⟩), .int .u64 150] 106)).alloc (.cells #[.int .i64 n, .iface 93 (.agg #[.int .i64 2])] 91)).alloc (.cells #[.int .i64 2] 93)) 93 (0, 0)
    (by have h := heap_alloc_new ((((w.alloc (.cells #[.pointer (some ⟨B, 0, none⟩)] 96)).alloc (.cells #[(.pointer (some ⟨3, 96, none⟩)), .pointer (some ⟨w.heap.size, 0, none⟩), .int .u64 150] 106)).alloc (.cells #[(.pointer (some ⟨3, 96, none⟩)), .pointer (some ⟨w.heap.size, 0, none⟩), .int .u64 150] 106)).alloc (.cells #[.int .i64 n, .iface 93 (.agg #[.int .i64 2])] 91)) (.cells #[.int .i64 2] 93); simpa only [World.size_alloc] using h)
    (by rw [World.cell?_alloc_past _ _ _ (by simp; omega), World.cell?_alloc_past _ _ _ (by simp; omega), World.cell?_alloc_past _ _ _ (by simp; omega), World.cell?_alloc_past _ _ _ (by simp; omega), World.cell?_alloc_past _ _ _ hB, ht0])
    (by rw [World.frozen?_alloc_past _ _ _ (by simp; omega), World.frozen?_alloc_past _ _ _ (by simp; omega), World.frozen?_alloc_past _ _ _ (by simp; omega), World.frozen?_alloc_past _ _ _ (by simp; omega), World.frozen?_alloc_past _ _ _ hB, hf0])
  go_enter Tryd.func66, Tryd.ntmps66
  go_wp2
  refine wp_loop_rounds 2 ?_
  rw [rounds_succ]
  go_wp2
  rw [rounds_succ]
  go_wp2
  go_ret
  refine ⟨rfl, ?_, ?_⟩
  · exact Below.setCell (p := ⟨B, 0, none⟩) (((((((Below.refl B w).alloc (by omega) _).alloc (by simp; omega) _).alloc (by simp; omega) _).alloc (by simp; omega) _).alloc (by simp; omega) _)) (Nat.le_refl _) _
  · refine World.cell?_setCell_same' _ _ _ ?_
    rw [World.cell?_alloc_past _ _ _ (by simp; omega), World.cell?_alloc_past _ _ _ (by simp; omega), World.cell?_alloc_past _ _ _ (by simp; omega), World.cell?_alloc_past _ _ _ (by simp; omega), World.cell?_alloc_past _ _ _ hB, ht0]; rfl
theorem nu_short (w : World) : Calls Tryd.prog 64 #[] w fun x w' => x = .returned (.iface 93 (.agg #[.int .i64 3])) ∧ w' = w := by
  go_enter Tryd.func64, Tryd.ntmps64
  go_wp2
  go_ret
  exact ⟨rfl, rfl⟩
set_option maxRecDepth 100000 in
set_option maxHeartbeats 4000000 in
/-- octet.number at the error of a text: its fault's number. -/
theorem octet_number_spec (n e : Int) (he : e = 2 ∨ e = 3) (w : World) (hg : w.cell? ⟨1, 0, none⟩ = some (.iface 114 (.agg #[(.pointer (some ⟨3, 69, none⟩))]))) :
    Calls Tryd.prog 49 #[.iface 91 (.agg #[.int .i64 n, .iface 93 (.agg #[.int .i64 e])])] w fun x w' => x = .returned (.int .i64 e) ∧ Below w.heap.size w w' := by
  have hz := World.cell?_alloc_at (w := w) #[.int .i64 0] 93 w.heap.size 0 rfl
  have hfz := World.frozen?_alloc_at (w := w) #[.int .i64 0] 93 w.heap.size 0 rfl
  have gl := cell?_block hg
  have b0 := (Below.refl w.heap.size w).alloc (Nat.le_refl _) (.cells #[.int .i64 0] 93)
  rcases he with rfl | rfl
  · go_enter Tryd.func49, Tryd.ntmps49
    go_wp2_with (first | (go_at_call 64; refine (nu_short _).mono ?_; rintro e w' ⟨rfl, rfl⟩) | (go_at_call 65; refine (nu_Is n 2 (.inl rfl) _).mono ?_; rintro e w1 ⟨rfl, b1⟩))
    have hg1 := (b1.cell (p := ⟨1, 0, none⟩) (show 1 < _ by simp; omega)).trans ((World.cell?_alloc_past _ _ _ gl).trans hg)
    have hz1 := (b1.cell (p := ⟨w.heap.size, 0, none⟩) (show w.heap.size < _ by simp)).trans hz
    have hf1 := (b1.frozen (p := ⟨w.heap.size, 0, none⟩) (show w.heap.size < _ by simp)).trans hfz
    have z1 := b1.size
    rw [World.size_alloc] at z1
    go_wp2_with (go_at_call 66; refine (nu_As n w.heap.size _ _ hg1 hz1 hf1 (by omega)).mono ?_; rintro e w2 ⟨rfl, b2, hc2⟩)
    go_ret
    exact ⟨rfl, (b0.trans (b1.mono (by simp))).trans b2⟩
  · go_enter Tryd.func49, Tryd.ntmps49
    go_wp2_with (first | (go_at_call 64; refine (nu_short _).mono ?_; rintro e w' ⟨rfl, rfl⟩) | (go_at_call 65; refine (nu_Is n 3 (.inr rfl) _).mono ?_; rintro e w1 ⟨rfl, b1⟩))
    go_ret
    exact ⟨rfl, b0.trans (b1.mono (by simp))⟩
end Go.Proofs.YtjhgkcbhllomaaaDoor
end

section
/- Go functions compute what Lean functions do. -/
namespace Go.Proofs.YtjhgkcbhllomaaaDoor.V
open Go Go.RowKit
set_option linter.unusedVariables false
set_option linter.unusedSimpArgs false
set_option maxHeartbeats 1000000
theorem f_octet_Hex_ok (s : Str) (y_ : Str) (h : f_octet_Hex s = some y_) : Fun Tryd.prog glP 34 [.b (.s (.d (.str s)))] (.b (.s (.d (.str y_)))) := by
  obtain ⟨hN, h⟩ := gd_iff.1 h
  obtain rfl := Option.some.inj h
  refine Fun.flat (by kernel_rfl) (of_str _) fun w S vs hA => ?_
  obtain ⟨v, rfl, h1⟩ := args1 hA
  obtain rfl := repv_str (l := s) h1
  exact octet_Hex.spec ⟨⟨s⟩⟩ w hN
theorem f_internal_stringslite_IndexByte_ok (s : Str) (c : Int) (y_ : Int) (h : f_internal_stringslite_IndexByte s c = some y_) : Fun Tryd.prog glP 67 [.b (.s (.d (.str s))), .b (.s (.d (.int .u8 c)))] (.b (.s (.d (.int .i64 y_)))) := by
  obtain rfl := Option.some.inj h
  refine Fun.flat (by kernel_rfl) (of_int _ _) fun w S vs hA => ?_
  obtain ⟨v, u, rfl, h1, h2⟩ := args2 hA
  obtain rfl := repv_str (l := s) h1
  obtain rfl := repv_int (n := c) h2
  refine (Tryd.stringslite_IndexByte ⟨⟨s⟩⟩ c w).mono fun e w' => ?_
  rintro ⟨rfl, rfl⟩
  exact ⟨rfl, Below.refl _ _⟩
theorem f_octet_number_ok (x : Sc) (y_ : Int) (h : f_octet_number x = some y_) : Fun Tryd.prog glP 49 [.b (.s (.d x))] (.b (.s (.d (.int .i64 y_)))) := by
  unfold f_octet_number at h
  split at h
  · rename_i t n u e
    split at h
    · rename_i hh
      obtain ⟨rfl, rfl, he⟩ := hh
      obtain rfl := Option.some.inj h
      refine Fun.flatG (by kernel_rfl) (of_int _ _) fun w S vs hS hG hA => ?_
      obtain ⟨v, rfl, h1⟩ := args1 hA
      cases h1 with
      | d _ _ h1 =>
        obtain ⟨v1, v2, rfl, h2, h3⟩ := ifa_two h1
        obtain ⟨v3, rfl, h4⟩ := ifa_one h3
        rw [repD_int h2, repD_int h4]
        exact octet_number_spec n e he w (gl_handle hG (by unfold glP; rfl))
    · cases h
  · cases h
-- 25 consignor/consignorlaw01.few
def c25r0 : List Opn := [
  ⟨(some 2), none, .mv (.c (.s .nils))⟩]
def c25r1 : List Opn := [
  ⟨(some 5), none, .bsl 1 []⟩, 
  ⟨(some 6), none, .mv (.t 0)⟩, 
  ⟨(some 7), none, .mv (.t 0)⟩, 
  ⟨(some 8), none, .len (.sl 0) (.t 7)⟩, 
  ⟨(some 9), none, .mm false (.t 8) (.c (.s (.d (.int .i64 66))))⟩, 
  ⟨(some 10), none, .slc (.sl 1) (.t 6) none (some (.t 9)) none⟩, 
  ⟨(some 11), none, .app 1 16 false (.t 5) (.t 10)⟩, 
  ⟨(some 0), none, .mv (.t 11)⟩]
def c25r2 : List Opn := [
  ⟨(some 12), none, .mv (.t 0)⟩, 
  ⟨(some 13), none, .len (.sl 0) (.t 12)⟩, 
  ⟨(some 14), none, .mv (.c (.s (.d (.int .i64 0))))⟩]
def c25r3 : List Opn := [
  ⟨(some 15), none, .bin .lss (.t 14) (.t 13)⟩]
def c25r4 : List Opn := [
  ⟨(some 16), none, .mv (.t 14)⟩, 
  ⟨(some 17), none, .iadr (.sl 1) (.t 12) (.t 14)⟩, 
  ⟨(some 18), none, .load false 1 (.t 17)⟩, 
  ⟨(some 3), none, .mv (.t 16)⟩, 
  ⟨(some 4), none, .mv (.t 18)⟩]
def c25r5 : List Opn := [
  ⟨(some 19), none, .mv (.t 0)⟩, 
  ⟨(some 20), none, .mv (.t 3)⟩, 
  ⟨(some 21), none, .mv (.t 4)⟩, 
  ⟨(some 22), none, .mv (.t 4)⟩, 
  ⟨(some 23), none, .len .str (.t 22)⟩, 
  ⟨(some 24), none, .mm false (.t 23) (.c (.s (.d (.int .i64 4100))))⟩, 
  ⟨(some 25), none, .slc .str (.t 21) none (some (.t 24)) none⟩, 
  ⟨(some 26), none, .iadr (.sl 1) (.t 19) (.t 20)⟩, 
  ⟨none, none, .store 1 (.t 26) (.t 25)⟩]
def c25r6 : List Opn := [
  ⟨(some 27), none, .bin .add (.t 14) (.c (.s (.d (.int .i64 1))))⟩, 
  ⟨(some 14), none, .mv (.t 27)⟩]
def c25l7 : C := .seq (.reg c25r3 none [0, 12, 13, 14, 15]) (.seq (.cond (.t 15) (.skip) (.exit 0)) (.seq (.blk 1 (.seq (.reg c25r4 none [0, 3, 4, 12, 13, 14]) (.reg c25r5 none [0, 12, 13, 14]))) (.reg c25r6 none [0, 12, 13, 14])))
def c25r7 : List Opn := [
  ⟨(some 28), none, .mv (.t 0)⟩, 
  ⟨(some 2), none, .mv (.t 28)⟩]
def c25 : C := .seq (.reg c25r0 none [0]) (.seq (.reg c25r1 none [0]) (.seq (.seq (.reg c25r2 none [0, 12, 13, 14]) (.blk 0 (.loop c25l7))) (.seq (.reg c25r7 none [2]) (.ret))))
def k25 : List (Nat × List Nat) := [(7, [2]), (6, [0, 12, 13, 14]), (5, [0, 12, 13, 14]), (4, [0, 3, 4, 12, 13, 14]), (3, [0, 12, 13, 14, 15]), (2, [0, 12, 13, 14]), (1, [0]), (0, [0])]
theorem cc25 : (Tryd.f25.body).bind (cC Tryd.prog 29 k25) = some c25 := by kernel_rfl
def rv25 : List RV := [.t 2]
theorem cr25 : cRVs Tryd.prog Tryd.f25.results.toList = some rv25 := by kernel_rfl
theorem f_law01_few_l7_ok (l : (List Str)) (y_ : (List Str)) (R_ : St → Prop) (hR : (RetO Tryd.prog glP 2 1 (y_.map eS)) = R_) : ∀ (m_ : Nat) (v14 : Int) (l2 : (List Str)) (res_ : Int × (List Str)) (h : f_law01_few_l7 l m_ v14 l2 = some res_) (k_ : List It) (hx : ∀ s_ : Int × (List Str), res_ = s_ → W Tryd.prog glP 29 k_ ⟨lkT [(0, .b (.s (.own 5 s_.2.length))), (12, .b (.s (.own 5 s_.2.length))), (13, .b (.s (.d (.int .i64 ((([] : List Str) ++ (cut l 0 (if 66 < (l.length : Int) then 66 else (l.length : Int)))).length : Int))))), (14, .b (.s (.d (.int .i64 s_.1))))], lkG [(5, ⟨1, er eS s_.2, false⟩)]⟩ R_), W Tryd.prog glP 29 (.c c25l7 :: .lp c25l7 :: .blk 0 :: k_) ⟨lkT [(0, .b (.s (.own 5 l2.length))), (12, .b (.s (.own 5 l2.length))), (13, .b (.s (.d (.int .i64 ((([] : List Str) ++ (cut l 0 (if 66 < (l.length : Int) then 66 else (l.length : Int)))).length : Int))))), (14, .b (.s (.d (.int .i64 v14))))], lkG [(5, ⟨1, er eS l2, false⟩)]⟩ R_ := by
  intro m_; induction m_ with
  | zero => intro v14 l2 res_ h; rw [f_law01_few_l7.eq_1] at h; cases h
  | succ m_ ih =>
    intro v14 l2 res_ h k_ hx; rw [f_law01_few_l7.eq_2] at h; refine W.cdef c25l7.eq_1 ?_
    refine .seq ?_
    refine Rw.walk ?_
    simp only [wz, wd, ws, Nat.reduceAdd, Nat.reduceSub, Nat.reduceMul, Nat.reduceLeDiff, Nat.reduceEqDiff, Nat.reduceLT, Nat.reduceBEq, reduceIte, reduceCtorEq, Int.reduceToNat, Nat.reduceShiftRight, Nat.reduceAnd, Nat.reduceBneDiff, Nat.reduceBNe, c25r3, semI.eq_10, semI.eq_11, semI.eq_3, semI.eq_5, semI.eq_7]
    refine .seq ?_
    refine .cond (p := (decide (v14 < ((([] : List Str) ++ (cut l 0 (if 66 < (l.length : Int) then 66 else (l.length : Int)))).length : Int)))) (by first | rfl | simp only [wz, wd, ws, Nat.reduceAdd, Nat.reduceSub, Nat.reduceMul, Nat.reduceLeDiff, Nat.reduceEqDiff, Nat.reduceLT, Nat.reduceBEq, reduceIte, reduceCtorEq, Int.reduceToNat, Nat.reduceShiftRight, Nat.reduceAnd, Nat.reduceBneDiff, Nat.reduceBNe]) (fun h1 => ?_) (fun h1 => ?_)
    · rw [ite_t h1] at h
      refine .skip ?_
      refine .seq ?_
      refine .blk ?_
      refine .seq ?_
      refine Rw.walk ?_
      simp only [wz, wd, ws, Nat.reduceAdd, Nat.reduceSub, Nat.reduceMul, Nat.reduceLeDiff, Nat.reduceEqDiff, Nat.reduceLT, Nat.reduceBEq, reduceIte, reduceCtorEq, Int.reduceToNat, Nat.reduceShiftRight, Nat.reduceAnd, Nat.reduceBneDiff, Nat.reduceBNe, c25r4, semI.eq_10, semI.eq_11, semI.eq_3, semI.eq_5, semI.eq_7]
      obtain ⟨x, e3, h⟩ := Option.bind_eq_some_iff.1 h
      refine Go1.of (sem_iadrO (l := l2) e3 (by rfl) (by rfl) (by rfl)) ?_
      simp only [wz, wd, ws, Nat.reduceAdd, Nat.reduceSub, Nat.reduceMul, Nat.reduceLeDiff, Nat.reduceEqDiff, Nat.reduceLT, Nat.reduceBEq, reduceIte, reduceCtorEq, Int.reduceToNat, Nat.reduceShiftRight, Nat.reduceAnd, Nat.reduceBneDiff, Nat.reduceBNe, c25r4, semI.eq_10, semI.eq_11, semI.eq_3, semI.eq_5, semI.eq_7, er_get e3]
      refine Rw.walk ?_
      obtain ⟨g4, h⟩ := gd_iff.1 h
      simp only [wz, wd, ws, Nat.reduceAdd, Nat.reduceSub, Nat.reduceMul, Nat.reduceLeDiff, Nat.reduceEqDiff, Nat.reduceLT, Nat.reduceBEq, reduceIte, reduceCtorEq, Int.reduceToNat, Nat.reduceShiftRight, Nat.reduceAnd, Nat.reduceBneDiff, Nat.reduceBNe, c25r5, semI.eq_3, semI.eq_5, semI.eq_7, er_get e3]
      repeat (refine And.intro ?_ ?_; · first | omega | (intro q; simp only [wz, wd, ws, Nat.reduceAdd, Nat.reduceSub, Nat.reduceMul, Nat.reduceLeDiff, Nat.reduceEqDiff, Nat.reduceLT, Nat.reduceBEq, reduceIte, reduceCtorEq, Int.reduceToNat, Nat.reduceShiftRight, Nat.reduceAnd, Nat.reduceBneDiff, Nat.reduceBNe, q]; done))
      obtain ⟨x2, e5, h⟩ := Option.bind_eq_some_iff.1 h
      refine Go1.of (sem_iadrO (l := l2) e5 (by rfl) (by rfl) (by rfl)) ?_
      simp only [wz, wd, ws, Nat.reduceAdd, Nat.reduceSub, Nat.reduceMul, Nat.reduceLeDiff, Nat.reduceEqDiff, Nat.reduceLT, Nat.reduceBEq, reduceIte, reduceCtorEq, Int.reduceToNat, Nat.reduceShiftRight, Nat.reduceAnd, Nat.reduceBneDiff, Nat.reduceBNe, c25r5, semI.eq_3, semI.eq_5, semI.eq_7, er_get e3, er_get e5]
      refine Go1.of (sem_store (enc := eS) (l := l2) (a := x2) (a' := (cut x 0 (if 4100 < (x.length : Int) then 4100 else (x.length : Int)))) (v := .b (.s (.d (.str (cut x 0 (if 4100 < (x.length : Int) then 4100 else (x.length : Int))))))) (by rfl) (by rfl) (er_get e5) (by rfl) (by trivial) (by rfl) (Nat.le_of_ble_eq_true (by rfl)) (by rfl)) ?_
      simp only [wz, wd, ws, Nat.reduceAdd, Nat.reduceSub, Nat.reduceMul, Nat.reduceLeDiff, Nat.reduceEqDiff, Nat.reduceLT, Nat.reduceBEq, reduceIte, reduceCtorEq, Int.reduceToNat, Nat.reduceShiftRight, Nat.reduceAnd, Nat.reduceBneDiff, Nat.reduceBNe, c25r5, semI.eq_3, semI.eq_5, semI.eq_7, er_get e3, er_get e5]
      refine .eblk ?_
      refine Rw.walk ?_
      simp only [wz, wd, ws, Nat.reduceAdd, Nat.reduceSub, Nat.reduceMul, Nat.reduceLeDiff, Nat.reduceEqDiff, Nat.reduceLT, Nat.reduceBEq, reduceIte, reduceCtorEq, Int.reduceToNat, Nat.reduceShiftRight, Nat.reduceAnd, Nat.reduceBneDiff, Nat.reduceBNe, c25r6, semI.eq_10, semI.eq_11, semI.eq_3, semI.eq_5, semI.eq_7, er_get e3, er_get e5]
      refine .lp ?_
      refine .weak (Imp.co [] _ _ ?_ ?_ ?_ ?_ ?_) (ih (IntKind.i64.wrap (v14 + 1)) (l2.set v14.toNat (cut x 0 (if 4100 < (x.length : Int) then 4100 else (x.length : Int)))) _ h k_ hx) <;> simp only [wz, wd, ws, Nat.reduceAdd, Nat.reduceSub, Nat.reduceMul, Nat.reduceLeDiff, Nat.reduceEqDiff, Nat.reduceLT, Nat.reduceBEq, reduceIte, reduceCtorEq, Int.reduceToNat, Nat.reduceShiftRight, Nat.reduceAnd, Nat.reduceBneDiff, Nat.reduceBNe, wi, er_nil]
    · rw [ite_f h1] at h
      refine .exit rfl ?_
      obtain rfl := Option.some.inj h
      refine .weak (Imp.co [] _ _ ?_ ?_ ?_ ?_ ?_) (hx _ rfl) <;> simp only [wz, wd, ws, Nat.reduceAdd, Nat.reduceSub, Nat.reduceMul, Nat.reduceLeDiff, Nat.reduceEqDiff, Nat.reduceLT, Nat.reduceBEq, reduceIte, reduceCtorEq, Int.reduceToNat, Nat.reduceShiftRight, Nat.reduceAnd, Nat.reduceBneDiff, Nat.reduceBNe, wi, er_nil]
theorem f_law01_few_ok (l : (List Str)) (y_ : (List Str)) (h : f_law01_few l = some y_) : FunO Tryd.prog glP 25 [.b (.s (.d (.sl (l.map eS))))] 1 (y_.map eS) := by
  refine funO_walk Tryd.func25 Tryd.ntmps25 cc25 cr25 (by kernel_rfl) (by simp only [List.length_cons, List.length_nil]; decide) ?_
  generalize hR : RetO _ _ _ _ _ = R_
  simp only [wz, wd, ws, Nat.reduceAdd, Nat.reduceSub, Nat.reduceMul, Nat.reduceLeDiff, Nat.reduceEqDiff, Nat.reduceLT, Nat.reduceBEq, reduceIte, reduceCtorEq, Int.reduceToNat, Nat.reduceShiftRight, Nat.reduceAnd, Nat.reduceBneDiff, Nat.reduceBNe]
  unfold f_law01_few at h; unfold c25
  refine .seq ?_
  refine Rw.walk ?_
  simp only [wz, wd, ws, Nat.reduceAdd, Nat.reduceSub, Nat.reduceMul, Nat.reduceLeDiff, Nat.reduceEqDiff, Nat.reduceLT, Nat.reduceBEq, reduceIte, reduceCtorEq, Int.reduceToNat, Nat.reduceShiftRight, Nat.reduceAnd, Nat.reduceBneDiff, Nat.reduceBNe, c25r0, semI.eq_10, semI.eq_11, semI.eq_3, semI.eq_5, semI.eq_7]
  refine .seq ?_
  refine Rw.walk ?_
  simp only [wz, wd, ws, Nat.reduceAdd, Nat.reduceSub, Nat.reduceMul, Nat.reduceLeDiff, Nat.reduceEqDiff, Nat.reduceLT, Nat.reduceBEq, reduceIte, reduceCtorEq, Int.reduceToNat, Nat.reduceShiftRight, Nat.reduceAnd, Nat.reduceBneDiff, Nat.reduceBNe, c25r1, semI.eq_10, semI.eq_11, semI.eq_3, semI.eq_5, semI.eq_7]
  refine Go1.of (sem_bsl (enc := eS) (m := ([] : List Str)) eS_len (by rfl) (by rfl) (by rfl) trivial) ?_
  simp only [wz, wd, ws, Nat.reduceAdd, Nat.reduceSub, Nat.reduceMul, Nat.reduceLeDiff, Nat.reduceEqDiff, Nat.reduceLT, Nat.reduceBEq, reduceIte, reduceCtorEq, Int.reduceToNat, Nat.reduceShiftRight, Nat.reduceAnd, Nat.reduceBneDiff, Nat.reduceBNe, c25r1, semI.eq_10, semI.eq_11, semI.eq_3, semI.eq_5, semI.eq_7]
  obtain ⟨g1, h⟩ := gd_iff.1 h
  repeat (refine And.intro ?_ ?_; · first | omega | (intro q; simp only [wz, wd, ws, Nat.reduceAdd, Nat.reduceSub, Nat.reduceMul, Nat.reduceLeDiff, Nat.reduceEqDiff, Nat.reduceLT, Nat.reduceBEq, reduceIte, reduceCtorEq, Int.reduceToNat, Nat.reduceShiftRight, Nat.reduceAnd, Nat.reduceBneDiff, Nat.reduceBNe, q]; done))
  refine Go1.of (sem_slc (p := 0) (q := (if 66 < (l.length : Int) then 66 else (l.length : Int))) eS_len (by rfl) (by rfl) (by rfl)) ?_
  simp only [wz, wd, ws, Nat.reduceAdd, Nat.reduceSub, Nat.reduceMul, Nat.reduceLeDiff, Nat.reduceEqDiff, Nat.reduceLT, Nat.reduceBEq, reduceIte, reduceCtorEq, Int.reduceToNat, Nat.reduceShiftRight, Nat.reduceAnd, Nat.reduceBneDiff, Nat.reduceBNe, c25r1, semI.eq_10, semI.eq_11, semI.eq_3, semI.eq_5, semI.eq_7]
  repeat (refine And.intro ?_ ?_; · first | omega | (intro q; simp only [wz, wd, ws, Nat.reduceAdd, Nat.reduceSub, Nat.reduceMul, Nat.reduceLeDiff, Nat.reduceEqDiff, Nat.reduceLT, Nat.reduceBEq, reduceIte, reduceCtorEq, Int.reduceToNat, Nat.reduceShiftRight, Nat.reduceAnd, Nat.reduceBneDiff, Nat.reduceBNe, q]; done))
  obtain ⟨g2, h⟩ := gd_iff.1 h
  refine Go1.of (sem_app (enc := eS) (l := ([] : List Str)) (m := (cut l 0 (if 66 < (l.length : Int) then 66 else (l.length : Int)))) eS_len (by rfl) (by rfl) ((by rfl))) ?_
  simp only [wz, wd, ws, Nat.reduceAdd, Nat.reduceSub, Nat.reduceMul, Nat.reduceLeDiff, Nat.reduceEqDiff, Nat.reduceLT, Nat.reduceBEq, reduceIte, reduceCtorEq, Int.reduceToNat, Nat.reduceShiftRight, Nat.reduceAnd, Nat.reduceBneDiff, Nat.reduceBNe, c25r1, semI.eq_10, semI.eq_11, semI.eq_3, semI.eq_5, semI.eq_7]
  repeat (refine And.intro ?_ ?_; · first | omega | (intro q; simp only [wz, wd, ws, Nat.reduceAdd, Nat.reduceSub, Nat.reduceMul, Nat.reduceLeDiff, Nat.reduceEqDiff, Nat.reduceLT, Nat.reduceBEq, reduceIte, reduceCtorEq, Int.reduceToNat, Nat.reduceShiftRight, Nat.reduceAnd, Nat.reduceBneDiff, Nat.reduceBNe, q]; done))
  refine .seq ?_
  refine .seq ?_
  refine Rw.walk ?_
  simp only [wz, wd, ws, Nat.reduceAdd, Nat.reduceSub, Nat.reduceMul, Nat.reduceLeDiff, Nat.reduceEqDiff, Nat.reduceLT, Nat.reduceBEq, reduceIte, reduceCtorEq, Int.reduceToNat, Nat.reduceShiftRight, Nat.reduceAnd, Nat.reduceBneDiff, Nat.reduceBNe, c25r2, semI.eq_10, semI.eq_11, semI.eq_3, semI.eq_5, semI.eq_7]
  refine .blk ?_
  obtain ⟨s, hf, h⟩ := Option.bind_eq_some_iff.1 h
  refine .loop (.weak (Imp.co [] _ _ ?c1 ?c2 ?c3 ?c4 ?c5) (f_law01_few_l7_ok l _ _ hR _ _ _ _ hf _ ?_))
  case c1 | c2 | c3 | c4 | c5 => simp only [wz, wd, ws, Nat.reduceAdd, Nat.reduceSub, Nat.reduceMul, Nat.reduceLeDiff, Nat.reduceEqDiff, Nat.reduceLT, Nat.reduceBEq, reduceIte, reduceCtorEq, Int.reduceToNat, Nat.reduceShiftRight, Nat.reduceAnd, Nat.reduceBneDiff, Nat.reduceBNe, wi, er_nil]
  · intro s_ hs; subst hs
    refine .seq ?_
    refine Rw.walk ?_
    simp only [wz, wd, ws, Nat.reduceAdd, Nat.reduceSub, Nat.reduceMul, Nat.reduceLeDiff, Nat.reduceEqDiff, Nat.reduceLT, Nat.reduceBEq, reduceIte, reduceCtorEq, Int.reduceToNat, Nat.reduceShiftRight, Nat.reduceAnd, Nat.reduceBneDiff, Nat.reduceBNe, c25r7, semI.eq_10, semI.eq_11, semI.eq_3, semI.eq_5, semI.eq_7]
    obtain rfl := Option.some.inj h
    refine .ret ?_
    rw [← hR]
    refine ⟨5, ?_, ?_⟩ <;> simp only [wz, wd, ws, Nat.reduceAdd, Nat.reduceSub, Nat.reduceMul, Nat.reduceLeDiff, Nat.reduceEqDiff, Nat.reduceLT, Nat.reduceBEq, reduceIte, reduceCtorEq, Int.reduceToNat, Nat.reduceShiftRight, Nat.reduceAnd, Nat.reduceBneDiff, Nat.reduceBNe, er, List.length_map]
-- 35 consignor/octet.Wide
def c35r0 : List Opn := [
  ⟨(some 4), none, .mv (.c (.s (.d (.str []))))⟩, 
  ⟨(some 5), none, .mv (.c (.s (.d (.int .i64 0))))⟩]
def c35r1 : List Opn := [
  ⟨(some 9), none, .mv (.t 1)⟩, 
  ⟨(some 10), none, .bin .lss (.t 9) (.c (.s (.d (.int .i64 0))))⟩, 
  ⟨(some 11), none, .mv (.t 10)⟩, 
  ⟨(some 12), some (11, false), .mv (.t 1)⟩, 
  ⟨(some 13), some (11, false), .bin .gtr (.t 12) (.c (.s (.d (.int .i64 8))))⟩, 
  ⟨(some 14), none, .pick (.t 11) (.c (.s (.d (.bool true)))) (.t 13)⟩, 
  ⟨(some 8), none, .mv (.t 14)⟩]
def c35r2 : List Opn := [
  ⟨(some 4), none, .mv (.c (.s (.d (.str []))))⟩, 
  ⟨(some 5), none, .mv (.c (.s (.d (.int .i64 1))))⟩]
def c35r3 : List Opn := [
  ⟨(some 16), none, .mv (.t 1)⟩, 
  ⟨(some 17), none, .bin .lss (.t 16) (.c (.s (.d (.int .i64 8))))⟩, 
  ⟨(some 18), none, .mv (.t 17)⟩, 
  ⟨(some 19), some (18, true), .mv (.t 0)⟩, 
  ⟨(some 20), some (18, true), .mv (.t 1)⟩, 
  ⟨(some 21), some (18, true), .bin .mul (.c (.s (.d (.int .i64 8)))) (.t 20)⟩, 
  ⟨(some 22), some (18, true), .bin .shr (.t 19) (.t 21)⟩, 
  ⟨(some 23), some (18, true), .bin .neq (.t 22) (.c (.s (.d (.int .u64 0))))⟩, 
  ⟨(some 24), none, .pick (.t 18) (.t 23) (.c (.s (.d (.bool false))))⟩, 
  ⟨(some 15), none, .mv (.t 24)⟩]
def c35r4 : List Opn := [
  ⟨(some 4), none, .mv (.c (.s (.d (.str []))))⟩, 
  ⟨(some 5), none, .mv (.c (.s (.d (.int .i64 2))))⟩]
def c35r5 : List Opn := [
  ⟨(some 25), none, .mv (.t 1)⟩, 
  ⟨(some 26), none, .mksl 1 1 [(.d (.int .u8 0))] (.t 25) (.t 25)⟩, 
  ⟨(some 6), none, .mv (.t 26)⟩]
def c35r6 : List Opn := [
  ⟨(some 27), none, .mv (.t 6)⟩, 
  ⟨(some 28), none, .len (.sl 0) (.t 27)⟩, 
  ⟨(some 29), none, .mv (.c (.s (.d (.int .i64 0))))⟩]
def c35r7 : List Opn := [
  ⟨(some 30), none, .bin .lss (.t 29) (.t 28)⟩]
def c35r8 : List Opn := [
  ⟨(some 31), none, .mv (.t 29)⟩, 
  ⟨(some 7), none, .mv (.t 31)⟩]
def c35r9 : List Opn := [
  ⟨(some 32), none, .mv (.t 6)⟩, 
  ⟨(some 33), none, .mv (.t 7)⟩, 
  ⟨(some 34), none, .mv (.t 0)⟩, 
  ⟨(some 35), none, .mv (.t 7)⟩, 
  ⟨(some 36), none, .bin .mul (.c (.s (.d (.int .i64 8)))) (.t 35)⟩, 
  ⟨(some 37), none, .bin .shr (.t 34) (.t 36)⟩, 
  ⟨(some 38), none, .cv (.toInt .u8) (.t 37)⟩, 
  ⟨(some 39), none, .iadr (.sl 1) (.t 32) (.t 33)⟩, 
  ⟨none, none, .store 1 (.t 39) (.t 38)⟩]
def c35r10 : List Opn := [
  ⟨(some 40), none, .bin .add (.t 29) (.c (.s (.d (.int .i64 1))))⟩, 
  ⟨(some 29), none, .mv (.t 40)⟩]
def c35l11 : C := .seq (.reg c35r7 none [0, 6, 28, 29, 30]) (.seq (.cond (.t 30) (.skip) (.exit 1)) (.seq (.blk 2 (.seq (.reg c35r8 none [0, 6, 7, 28, 29]) (.reg c35r9 none [0, 6, 28, 29]))) (.reg c35r10 none [0, 6, 28, 29])))
def c35r11 : List Opn := [
  ⟨(some 41), none, .mv (.t 6)⟩, 
  ⟨(some 42), none, .cv .b2s (.t 41)⟩, 
  ⟨(some 4), none, .mv (.t 42)⟩, 
  ⟨(some 5), none, .mv (.c (.s (.d (.int .i64 0))))⟩]
def c35 : C := .seq (.reg c35r0 none [0, 1]) (.seq (.blk 0 (.seq (.reg c35r1 none [0, 1, 8]) (.cond (.t 8) (.seq (.reg c35r2 none [4, 5]) (.ret)) (.seq (.reg c35r3 none [0, 1, 15]) (.cond (.t 15) (.seq (.reg c35r4 none [4, 5]) (.ret)) (.skip)))))) (.seq (.reg c35r5 none [0, 6]) (.seq (.seq (.reg c35r6 none [0, 6, 28, 29]) (.blk 1 (.loop c35l11))) (.seq (.reg c35r11 none [4, 5]) (.ret)))))
def k35 : List (Nat × List Nat) := [(11, [4, 5]), (10, [0, 6, 28, 29]), (9, [0, 6, 28, 29]), (8, [0, 6, 7, 28, 29]), (7, [0, 6, 28, 29, 30]), (6, [0, 6, 28, 29]), (5, [0, 6]), (2, [4, 5]), (4, [4, 5]), (3, [0, 1, 15]), (1, [0, 1, 8]), (0, [0, 1])]
theorem cc35 : (Tryd.f35.body).bind (cC Tryd.prog 43 k35) = some c35 := by kernel_rfl
def rv35 : List RV := [.t 4, .t 5]
theorem cr35 : cRVs Tryd.prog Tryd.f35.results.toList = some rv35 := by kernel_rfl
theorem f_octet_Wide_l11_ok (n : Int) (size : Int) (y_ : Str × Int) (R_ : St → Prop) (hR : (Ret Tryd.prog glP [] rv35 (.tup [.s (.d (.str y_.1)), .s (.d (.int .i64 y_.2))])) = R_) : ∀ (m_ : Nat) (v29 : Int) (out : (List Int)) (res_ : Int × (List Int)) (h : f_octet_Wide_l11 n size m_ v29 out = some res_) (k_ : List It) (hx : ∀ s_ : Int × (List Int), res_ = s_ → W Tryd.prog glP 43 k_ ⟨lkT [(0, .b (.s (.d (.int .u64 n)))), (6, .b (.s (.own 26 s_.2.length))), (28, .b (.s (.d (.int .i64 (size.toNat : Int))))), (29, .b (.s (.d (.int .i64 s_.1))))], lkG [(26, ⟨1, er (eI .u8) s_.2, false⟩)]⟩ R_), W Tryd.prog glP 43 (.c c35l11 :: .lp c35l11 :: .blk 1 :: k_) ⟨lkT [(0, .b (.s (.d (.int .u64 n)))), (6, .b (.s (.own 26 out.length))), (28, .b (.s (.d (.int .i64 (size.toNat : Int))))), (29, .b (.s (.d (.int .i64 v29))))], lkG [(26, ⟨1, er (eI .u8) out, false⟩)]⟩ R_ := by
  intro m_; induction m_ with
  | zero => intro v29 out res_ h; rw [f_octet_Wide_l11.eq_1] at h; cases h
  | succ m_ ih =>
    intro v29 out res_ h k_ hx; rw [f_octet_Wide_l11.eq_2] at h; refine W.cdef c35l11.eq_1 ?_
    refine .seq ?_
    refine Rw.walk ?_
    simp only [wz, wd, ws, Nat.reduceAdd, Nat.reduceSub, Nat.reduceMul, Nat.reduceLeDiff, Nat.reduceEqDiff, Nat.reduceLT, Nat.reduceBEq, reduceIte, reduceCtorEq, Int.reduceToNat, Nat.reduceShiftRight, Nat.reduceAnd, Nat.reduceBneDiff, Nat.reduceBNe, c35r7, semI.eq_10, semI.eq_11, semI.eq_3, semI.eq_5, semI.eq_7]
    refine .seq ?_
    refine .cond (p := (decide (v29 < (size.toNat : Int)))) (by first | rfl | simp only [wz, wd, ws, Nat.reduceAdd, Nat.reduceSub, Nat.reduceMul, Nat.reduceLeDiff, Nat.reduceEqDiff, Nat.reduceLT, Nat.reduceBEq, reduceIte, reduceCtorEq, Int.reduceToNat, Nat.reduceShiftRight, Nat.reduceAnd, Nat.reduceBneDiff, Nat.reduceBNe]) (fun h1 => ?_) (fun h1 => ?_)
    · rw [ite_t h1] at h
      refine .skip ?_
      refine .seq ?_
      refine .blk ?_
      refine .seq ?_
      refine Rw.walk ?_
      simp only [wz, wd, ws, Nat.reduceAdd, Nat.reduceSub, Nat.reduceMul, Nat.reduceLeDiff, Nat.reduceEqDiff, Nat.reduceLT, Nat.reduceBEq, reduceIte, reduceCtorEq, Int.reduceToNat, Nat.reduceShiftRight, Nat.reduceAnd, Nat.reduceBneDiff, Nat.reduceBNe, c35r8, semI.eq_10, semI.eq_11, semI.eq_3, semI.eq_5, semI.eq_7]
      refine Rw.walk ?_
      obtain ⟨g3, h⟩ := gd_iff.1 h
      simp only [wz, wd, ws, Nat.reduceAdd, Nat.reduceSub, Nat.reduceMul, Nat.reduceLeDiff, Nat.reduceEqDiff, Nat.reduceLT, Nat.reduceBEq, reduceIte, reduceCtorEq, Int.reduceToNat, Nat.reduceShiftRight, Nat.reduceAnd, Nat.reduceBneDiff, Nat.reduceBNe, c35r9, semI.eq_3, semI.eq_5, semI.eq_7]
      repeat (refine And.intro ?_ ?_; · first | omega | (intro q; simp only [wz, wd, ws, Nat.reduceAdd, Nat.reduceSub, Nat.reduceMul, Nat.reduceLeDiff, Nat.reduceEqDiff, Nat.reduceLT, Nat.reduceBEq, reduceIte, reduceCtorEq, Int.reduceToNat, Nat.reduceShiftRight, Nat.reduceAnd, Nat.reduceBneDiff, Nat.reduceBNe, q]; done))
      obtain ⟨x, e4, h⟩ := Option.bind_eq_some_iff.1 h
      refine Go1.of (sem_iadrO (l := out) e4 (by rfl) (by rfl) (by rfl)) ?_
      simp only [wz, wd, ws, Nat.reduceAdd, Nat.reduceSub, Nat.reduceMul, Nat.reduceLeDiff, Nat.reduceEqDiff, Nat.reduceLT, Nat.reduceBEq, reduceIte, reduceCtorEq, Int.reduceToNat, Nat.reduceShiftRight, Nat.reduceAnd, Nat.reduceBneDiff, Nat.reduceBNe, c35r9, semI.eq_3, semI.eq_5, semI.eq_7, er_get e4]
      refine Go1.of (sem_store (enc := (eI .u8)) (l := out) (a := x) (a' := (IntKind.u8.wrap (n.fdiv (2 ^ (min (IntKind.i64.wrap (8 * v29)).toNat IntKind.u64.bits))))) (v := .b (.s (.d (.int .u8 (IntKind.u8.wrap (n.fdiv (2 ^ (min (IntKind.i64.wrap (8 * v29)).toNat IntKind.u64.bits)))))))) (by rfl) (by rfl) (er_get e4) (by rfl) (by trivial) (by rfl) (Nat.le_of_ble_eq_true (by rfl)) (by rfl)) ?_
      simp only [wz, wd, ws, Nat.reduceAdd, Nat.reduceSub, Nat.reduceMul, Nat.reduceLeDiff, Nat.reduceEqDiff, Nat.reduceLT, Nat.reduceBEq, reduceIte, reduceCtorEq, Int.reduceToNat, Nat.reduceShiftRight, Nat.reduceAnd, Nat.reduceBneDiff, Nat.reduceBNe, c35r9, semI.eq_3, semI.eq_5, semI.eq_7, er_get e4]
      refine .eblk ?_
      refine Rw.walk ?_
      simp only [wz, wd, ws, Nat.reduceAdd, Nat.reduceSub, Nat.reduceMul, Nat.reduceLeDiff, Nat.reduceEqDiff, Nat.reduceLT, Nat.reduceBEq, reduceIte, reduceCtorEq, Int.reduceToNat, Nat.reduceShiftRight, Nat.reduceAnd, Nat.reduceBneDiff, Nat.reduceBNe, c35r10, semI.eq_10, semI.eq_11, semI.eq_3, semI.eq_5, semI.eq_7, er_get e4]
      refine .lp ?_
      refine .weak (Imp.co [] _ _ ?_ ?_ ?_ ?_ ?_) (ih (IntKind.i64.wrap (v29 + 1)) (out.set v29.toNat (IntKind.u8.wrap (n.fdiv (2 ^ (min (IntKind.i64.wrap (8 * v29)).toNat IntKind.u64.bits))))) _ h k_ hx) <;> simp only [wz, wd, ws, Nat.reduceAdd, Nat.reduceSub, Nat.reduceMul, Nat.reduceLeDiff, Nat.reduceEqDiff, Nat.reduceLT, Nat.reduceBEq, reduceIte, reduceCtorEq, Int.reduceToNat, Nat.reduceShiftRight, Nat.reduceAnd, Nat.reduceBneDiff, Nat.reduceBNe, wi, er_nil]
    · rw [ite_f h1] at h
      refine .exit rfl ?_
      obtain rfl := Option.some.inj h
      refine .weak (Imp.co [] _ _ ?_ ?_ ?_ ?_ ?_) (hx _ rfl) <;> simp only [wz, wd, ws, Nat.reduceAdd, Nat.reduceSub, Nat.reduceMul, Nat.reduceLeDiff, Nat.reduceEqDiff, Nat.reduceLT, Nat.reduceBEq, reduceIte, reduceCtorEq, Int.reduceToNat, Nat.reduceShiftRight, Nat.reduceAnd, Nat.reduceBneDiff, Nat.reduceBNe, wi, er_nil]
theorem f_octet_Wide_ok (n : Int) (size : Int) (y_ : Str × Int) (h : f_octet_Wide n size = some y_) : Fun Tryd.prog glP 35 [.b (.s (.d (.int .u64 n))), .b (.s (.d (.int .i64 size)))] (.tup [.s (.d (.str y_.1)), .s (.d (.int .i64 y_.2))]) := by
  refine fun_walk [] Tryd.func35 Tryd.ntmps35 cc35 cr35 (by kernel_rfl) (by simp only [List.length_cons, List.length_nil]; decide) ?_
  generalize hR : Ret _ _ _ _ _ = R_
  simp only [wz, wd, ws, Nat.reduceAdd, Nat.reduceSub, Nat.reduceMul, Nat.reduceLeDiff, Nat.reduceEqDiff, Nat.reduceLT, Nat.reduceBEq, reduceIte, reduceCtorEq, Int.reduceToNat, Nat.reduceShiftRight, Nat.reduceAnd, Nat.reduceBneDiff, Nat.reduceBNe]
  unfold f_octet_Wide at h; unfold c35
  refine .seq ?_
  refine Rw.walk ?_
  simp only [wz, wd, ws, Nat.reduceAdd, Nat.reduceSub, Nat.reduceMul, Nat.reduceLeDiff, Nat.reduceEqDiff, Nat.reduceLT, Nat.reduceBEq, reduceIte, reduceCtorEq, Int.reduceToNat, Nat.reduceShiftRight, Nat.reduceAnd, Nat.reduceBneDiff, Nat.reduceBNe, c35r0, semI.eq_10, semI.eq_11, semI.eq_3, semI.eq_5, semI.eq_7]
  refine .seq ?_
  refine .blk ?_
  refine .seq ?_
  refine Rw.walk ?_
  simp only [wz, wd, ws, Nat.reduceAdd, Nat.reduceSub, Nat.reduceMul, Nat.reduceLeDiff, Nat.reduceEqDiff, Nat.reduceLT, Nat.reduceBEq, reduceIte, reduceCtorEq, Int.reduceToNat, Nat.reduceShiftRight, Nat.reduceAnd, Nat.reduceBneDiff, Nat.reduceBNe, c35r1, semI.eq_10, semI.eq_11, semI.eq_3, semI.eq_5, semI.eq_7]
  repeat (refine And.intro ?_ ?_; · first | omega | (intro q; simp only [wz, wd, ws, Nat.reduceAdd, Nat.reduceSub, Nat.reduceMul, Nat.reduceLeDiff, Nat.reduceEqDiff, Nat.reduceLT, Nat.reduceBEq, reduceIte, reduceCtorEq, Int.reduceToNat, Nat.reduceShiftRight, Nat.reduceAnd, Nat.reduceBneDiff, Nat.reduceBNe, q]; done))
  refine .cond (p := ((decide (size < 0)) || (decide (size > 8)))) (by first | rfl | simp only [wz, wd, ws, Nat.reduceAdd, Nat.reduceSub, Nat.reduceMul, Nat.reduceLeDiff, Nat.reduceEqDiff, Nat.reduceLT, Nat.reduceBEq, reduceIte, reduceCtorEq, Int.reduceToNat, Nat.reduceShiftRight, Nat.reduceAnd, Nat.reduceBneDiff, Nat.reduceBNe]) (fun h1 => ?_) (fun h1 => ?_)
  · rw [ite_t h1] at h
    refine .seq ?_
    refine Rw.walk ?_
    simp only [wz, wd, ws, Nat.reduceAdd, Nat.reduceSub, Nat.reduceMul, Nat.reduceLeDiff, Nat.reduceEqDiff, Nat.reduceLT, Nat.reduceBEq, reduceIte, reduceCtorEq, Int.reduceToNat, Nat.reduceShiftRight, Nat.reduceAnd, Nat.reduceBneDiff, Nat.reduceBNe, c35r2, semI.eq_10, semI.eq_11, semI.eq_3, semI.eq_5, semI.eq_7]
    obtain rfl := Option.some.inj h
    refine .ret ?_
    rw [← hR]
    simp only [wz, wd, ws, Nat.reduceAdd, Nat.reduceSub, Nat.reduceMul, Nat.reduceLeDiff, Nat.reduceEqDiff, Nat.reduceLT, Nat.reduceBEq, reduceIte, reduceCtorEq, Int.reduceToNat, Nat.reduceShiftRight, Nat.reduceAnd, Nat.reduceBneDiff, Nat.reduceBNe, rv35]
  · rw [ite_f h1] at h
    refine .seq ?_
    refine Rw.walk ?_
    obtain ⟨g1, h⟩ := gd_iff.1 h
    simp only [wz, wd, ws, Nat.reduceAdd, Nat.reduceSub, Nat.reduceMul, Nat.reduceLeDiff, Nat.reduceEqDiff, Nat.reduceLT, Nat.reduceBEq, reduceIte, reduceCtorEq, Int.reduceToNat, Nat.reduceShiftRight, Nat.reduceAnd, Nat.reduceBneDiff, Nat.reduceBNe, c35r3, semI.eq_10, semI.eq_11, semI.eq_3, semI.eq_5, semI.eq_7]
    repeat (refine And.intro ?_ ?_; · first | omega | exact g1 | (intro q; first | omega | (have q2 := g1 (by simpa using q); omega) | (have q2 := g1 q; omega) | (have q2 := g1 (by simpa using q); simp only [List.length_append, List.length_cons, List.length_nil] at q2 ⊢; omega)) | (intro q; simp only [wz, wd, ws, Nat.reduceAdd, Nat.reduceSub, Nat.reduceMul, Nat.reduceLeDiff, Nat.reduceEqDiff, Nat.reduceLT, Nat.reduceBEq, reduceIte, reduceCtorEq, Int.reduceToNat, Nat.reduceShiftRight, Nat.reduceAnd, Nat.reduceBneDiff, Nat.reduceBNe, q]; done))
    refine .cond (p := ((decide (size < 8)) && ((n.fdiv (2 ^ (min (IntKind.i64.wrap (8 * size)).toNat IntKind.u64.bits))) != 0))) (by first | rfl | simp only [wz, wd, ws, Nat.reduceAdd, Nat.reduceSub, Nat.reduceMul, Nat.reduceLeDiff, Nat.reduceEqDiff, Nat.reduceLT, Nat.reduceBEq, reduceIte, reduceCtorEq, Int.reduceToNat, Nat.reduceShiftRight, Nat.reduceAnd, Nat.reduceBneDiff, Nat.reduceBNe]) (fun h1 => ?_) (fun h1 => ?_)
    · rw [ite_t h1] at h
      refine .seq ?_
      refine Rw.walk ?_
      simp only [wz, wd, ws, Nat.reduceAdd, Nat.reduceSub, Nat.reduceMul, Nat.reduceLeDiff, Nat.reduceEqDiff, Nat.reduceLT, Nat.reduceBEq, reduceIte, reduceCtorEq, Int.reduceToNat, Nat.reduceShiftRight, Nat.reduceAnd, Nat.reduceBneDiff, Nat.reduceBNe, c35r4, semI.eq_10, semI.eq_11, semI.eq_3, semI.eq_5, semI.eq_7]
      obtain rfl := Option.some.inj h
      refine .ret ?_
      rw [← hR]
      simp only [wz, wd, ws, Nat.reduceAdd, Nat.reduceSub, Nat.reduceMul, Nat.reduceLeDiff, Nat.reduceEqDiff, Nat.reduceLT, Nat.reduceBEq, reduceIte, reduceCtorEq, Int.reduceToNat, Nat.reduceShiftRight, Nat.reduceAnd, Nat.reduceBneDiff, Nat.reduceBNe, rv35]
    · rw [ite_f h1] at h
      refine .skip ?_
      refine .eblk ?_
      refine .seq ?_
      refine Rw.walk ?_
      simp only [wz, wd, ws, Nat.reduceAdd, Nat.reduceSub, Nat.reduceMul, Nat.reduceLeDiff, Nat.reduceEqDiff, Nat.reduceLT, Nat.reduceBEq, reduceIte, reduceCtorEq, Int.reduceToNat, Nat.reduceShiftRight, Nat.reduceAnd, Nat.reduceBneDiff, Nat.reduceBNe, c35r5, semI.eq_10, semI.eq_11, semI.eq_3, semI.eq_5, semI.eq_7]
      obtain ⟨g2, h⟩ := gd_iff.1 h
      repeat (refine And.intro ?_ ?_; · first | omega | (intro q; simp only [wz, wd, ws, Nat.reduceAdd, Nat.reduceSub, Nat.reduceMul, Nat.reduceLeDiff, Nat.reduceEqDiff, Nat.reduceLT, Nat.reduceBEq, reduceIte, reduceCtorEq, Int.reduceToNat, Nat.reduceShiftRight, Nat.reduceAnd, Nat.reduceBneDiff, Nat.reduceBNe, q]; done))
      refine Go1.of (sem_mksl (enc := (eI .u8)) (z1 := 0) (p := size) (q := size) (by rfl) (by rfl) (by rfl) (by rfl) (by rfl)) ?_
      simp only [wz, wd, ws, Nat.reduceAdd, Nat.reduceSub, Nat.reduceMul, Nat.reduceLeDiff, Nat.reduceEqDiff, Nat.reduceLT, Nat.reduceBEq, reduceIte, reduceCtorEq, Int.reduceToNat, Nat.reduceShiftRight, Nat.reduceAnd, Nat.reduceBneDiff, Nat.reduceBNe, c35r5, semI.eq_10, semI.eq_11, semI.eq_3, semI.eq_5, semI.eq_7]
      repeat (refine And.intro ?_ ?_; · first | omega | (intro q; simp only [wz, wd, ws, Nat.reduceAdd, Nat.reduceSub, Nat.reduceMul, Nat.reduceLeDiff, Nat.reduceEqDiff, Nat.reduceLT, Nat.reduceBEq, reduceIte, reduceCtorEq, Int.reduceToNat, Nat.reduceShiftRight, Nat.reduceAnd, Nat.reduceBneDiff, Nat.reduceBNe, q]; done))
      refine .seq ?_
      refine .seq ?_
      refine Rw.walk ?_
      simp only [wz, wd, ws, Nat.reduceAdd, Nat.reduceSub, Nat.reduceMul, Nat.reduceLeDiff, Nat.reduceEqDiff, Nat.reduceLT, Nat.reduceBEq, reduceIte, reduceCtorEq, Int.reduceToNat, Nat.reduceShiftRight, Nat.reduceAnd, Nat.reduceBneDiff, Nat.reduceBNe, c35r6, semI.eq_10, semI.eq_11, semI.eq_3, semI.eq_5, semI.eq_7]
      refine .blk ?_
      obtain ⟨s, hf, h⟩ := Option.bind_eq_some_iff.1 h
      refine .loop (.weak (Imp.co [] _ _ ?c1 ?c2 ?c3 ?c4 ?c5) (f_octet_Wide_l11_ok n size _ _ hR _ _ _ _ hf _ ?_))
      case c1 | c2 | c3 | c4 | c5 => simp only [wz, wd, ws, Nat.reduceAdd, Nat.reduceSub, Nat.reduceMul, Nat.reduceLeDiff, Nat.reduceEqDiff, Nat.reduceLT, Nat.reduceBEq, reduceIte, reduceCtorEq, Int.reduceToNat, Nat.reduceShiftRight, Nat.reduceAnd, Nat.reduceBneDiff, Nat.reduceBNe, wi, er_nil]
      · intro s_ hs; subst hs
        refine .seq ?_
        refine Rw.walk ?_
        simp only [wz, wd, ws, Nat.reduceAdd, Nat.reduceSub, Nat.reduceMul, Nat.reduceLeDiff, Nat.reduceEqDiff, Nat.reduceLT, Nat.reduceBEq, reduceIte, reduceCtorEq, Int.reduceToNat, Nat.reduceShiftRight, Nat.reduceAnd, Nat.reduceBneDiff, Nat.reduceBNe, c35r11, semI.eq_10, semI.eq_11, semI.eq_3, semI.eq_5, semI.eq_7]
        refine Go1.of (sem_b2s (n := s.2) (rowsV_own (m := s.2) (by rfl) (by rfl))) ?_
        simp only [wz, wd, ws, Nat.reduceAdd, Nat.reduceSub, Nat.reduceMul, Nat.reduceLeDiff, Nat.reduceEqDiff, Nat.reduceLT, Nat.reduceBEq, reduceIte, reduceCtorEq, Int.reduceToNat, Nat.reduceShiftRight, Nat.reduceAnd, Nat.reduceBneDiff, Nat.reduceBNe, c35r11, semI.eq_10, semI.eq_11, semI.eq_3, semI.eq_5, semI.eq_7]
        obtain rfl := Option.some.inj h
        refine .ret ?_
        rw [← hR]
        simp only [wz, wd, ws, Nat.reduceAdd, Nat.reduceSub, Nat.reduceMul, Nat.reduceLeDiff, Nat.reduceEqDiff, Nat.reduceLT, Nat.reduceBEq, reduceIte, reduceCtorEq, Int.reduceToNat, Nat.reduceShiftRight, Nat.reduceAnd, Nat.reduceBneDiff, Nat.reduceBNe, rv35]
theorem wide_two (n : Nat) (hn : n ≤ 4096) : f_octet_Wide (n : Int) 2 = some (two n, 0) := by
  have h1 : ∀ k : Nat, k < 4097 → f_octet_Wide (k : Int) 2 = some (two k, 0) := by
    intro k hk
    have h2 : (List.range 4097).all (fun k => decide (f_octet_Wide (k : Int) 2 = some (two k, 0))) = true := by kernel_rfl
    have h3 := List.all_eq_true.1 h2 k (List.mem_range.2 hk)
    exact of_decide_eq_true h3
  exact h1 n (by omega)
theorem f_octet_Bind_ok (parts : List Str) (y_ : Str × Int) (h : f_octet_Bind parts = some y_) : Fun Tryd.prog glP 26 [.b (.s (.d (.sl (parts.map eS))))] (.tup [.s (.d (.str y_.1)), .s (.d (.int .i64 y_.2))]) := by
  obtain ⟨hN, h⟩ := gd_iff.1 h
  obtain rfl := Option.some.inj h
  refine Fun.flatG (v := .tuple #[strV (bindR parts).1, .int .i64 (bindR parts).2]) (by kernel_rfl) (fun w S => repV_two (.str _) (.int _ _)) fun w S vs hS hG hA => ?_
  obtain ⟨v, rfl, h1⟩ := args1 hA
  obtain ⟨A, b, o, c, rfl, e1, e2, e3, e4⟩ := rep_strs hS h1
  refine octet_Bind_spec A b o c parts w e1 e2 e3 e4 hN fun n hn W hb => ?_
  exact (f_octet_Wide_ok (n : Int) 2 _ (wide_two n hn)).strInt hS hG hb (repA_two (.d _ _ (.int _ _)) (.d _ _ (.int _ _)))
-- 64 consignor/octet.short
def c64r0 : List Opn := [
  ⟨(some 0), none, .mv (.c (.s (.d (.z .nilIface))))⟩]
def c64r1 : List Opn := [
  ⟨(some 1), none, .build [(.d (.int .i64 0))] [(0, 1, (.c (.s (.d (.int .i64 3)))))]⟩, 
  ⟨(some 2), none, .mkif 93 (.t 1)⟩, 
  ⟨(some 0), none, .mv (.t 2)⟩]
def c64 : C := .seq (.reg c64r0 none []) (.seq (.reg c64r1 none [0]) (.ret))
def k64 : List (Nat × List Nat) := [(1, [0]), (0, [])]
theorem cc64 : (Tryd.f64.body).bind (cC Tryd.prog 3 k64) = some c64 := by kernel_rfl
def rv64 : List RV := [.t 0]
theorem cr64 : cRVs Tryd.prog Tryd.f64.results.toList = some rv64 := by kernel_rfl
theorem f_octet_short_ok (y_ : Sc) (h : f_octet_short = some y_) : Fun Tryd.prog glP 64 [] (.b (.s (.d y_))) := by
  refine fun_walk [] Tryd.func64 Tryd.ntmps64 cc64 cr64 (by kernel_rfl) (by simp only [List.length_cons, List.length_nil]; decide) ?_
  generalize hR : Ret _ _ _ _ _ = R_
  simp only [wz, wd, ws, Nat.reduceAdd, Nat.reduceSub, Nat.reduceMul, Nat.reduceLeDiff, Nat.reduceEqDiff, Nat.reduceLT, Nat.reduceBEq, reduceIte, reduceCtorEq, Int.reduceToNat, Nat.reduceShiftRight, Nat.reduceAnd, Nat.reduceBneDiff, Nat.reduceBNe, e_octet_fault]
  unfold f_octet_short at h; unfold c64
  refine .seq ?_
  refine Rw.walk ?_
  simp only [wz, wd, ws, Nat.reduceAdd, Nat.reduceSub, Nat.reduceMul, Nat.reduceLeDiff, Nat.reduceEqDiff, Nat.reduceLT, Nat.reduceBEq, reduceIte, reduceCtorEq, Int.reduceToNat, Nat.reduceShiftRight, Nat.reduceAnd, Nat.reduceBneDiff, Nat.reduceBNe, c64r0, semI.eq_10, semI.eq_11, semI.eq_3, semI.eq_5, semI.eq_7, e_octet_fault]
  refine .seq ?_
  refine Rw.walk ?_
  simp only [wz, wd, ws, Nat.reduceAdd, Nat.reduceSub, Nat.reduceMul, Nat.reduceLeDiff, Nat.reduceEqDiff, Nat.reduceLT, Nat.reduceBEq, reduceIte, reduceCtorEq, Int.reduceToNat, Nat.reduceShiftRight, Nat.reduceAnd, Nat.reduceBneDiff, Nat.reduceBNe, c64r1, semI.eq_10, semI.eq_11, semI.eq_3, semI.eq_5, semI.eq_7, e_octet_fault]
  obtain rfl := Option.some.inj h
  refine .ret ?_
  rw [← hR]
  simp only [wz, wd, ws, Nat.reduceAdd, Nat.reduceSub, Nat.reduceMul, Nat.reduceLeDiff, Nat.reduceEqDiff, Nat.reduceLT, Nat.reduceBEq, reduceIte, reduceCtorEq, Int.reduceToNat, Nat.reduceShiftRight, Nat.reduceAnd, Nat.reduceBneDiff, Nat.reduceBNe, rv64, e_octet_fault]
-- 36 consignor/octet.Whole
def c36r0 : List Opn := [
  ⟨(some 2), none, .mv (.c (.s (.d (.int .u64 0))))⟩, 
  ⟨(some 3), none, .mv (.c (.s (.d (.int .i64 0))))⟩]
def c36r1 : List Opn := [
  ⟨(some 6), none, .mv (.t 0)⟩, 
  ⟨(some 7), none, .len .str (.t 6)⟩, 
  ⟨(some 8), none, .bin .gtr (.t 7) (.c (.s (.d (.int .i64 8))))⟩]
def c36r2 : List Opn := [
  ⟨(some 2), none, .mv (.c (.s (.d (.int .u64 0))))⟩, 
  ⟨(some 3), none, .mv (.c (.s (.d (.int .i64 2))))⟩]
def c36r3 : List Opn := [
  ⟨(some 4), none, .mv (.c (.s (.d (.int .u64 0))))⟩]
def c36r4 : List Opn := [
  ⟨(some 9), none, .mv (.t 0)⟩, 
  ⟨(some 10), none, .len .str (.t 9)⟩, 
  ⟨(some 11), none, .mv (.c (.s (.d (.int .i64 0))))⟩]
def c36r5 : List Opn := [
  ⟨(some 12), none, .bin .lss (.t 11) (.t 10)⟩]
def c36r6 : List Opn := [
  ⟨(some 13), none, .mv (.t 11)⟩, 
  ⟨(some 5), none, .mv (.t 13)⟩]
def c36r7 : List Opn := [
  ⟨(some 14), none, .mv (.t 4)⟩, 
  ⟨(some 15), none, .mv (.t 0)⟩, 
  ⟨(some 16), none, .mv (.t 5)⟩, 
  ⟨(some 17), none, .idx .str (.t 15) (.t 16)⟩, 
  ⟨(some 18), none, .cv (.toInt .u64) (.t 17)⟩, 
  ⟨(some 19), none, .mv (.t 5)⟩, 
  ⟨(some 20), none, .bin .mul (.c (.s (.d (.int .i64 8)))) (.t 19)⟩, 
  ⟨(some 21), none, .bin .shl (.t 18) (.t 20)⟩, 
  ⟨(some 22), none, .bin .or (.t 14) (.t 21)⟩, 
  ⟨(some 4), none, .mv (.t 22)⟩]
def c36r8 : List Opn := [
  ⟨(some 23), none, .bin .add (.t 11) (.c (.s (.d (.int .i64 1))))⟩, 
  ⟨(some 11), none, .mv (.t 23)⟩]
def c36l9 : C := .seq (.reg c36r5 none [0, 4, 10, 11, 12]) (.seq (.cond (.t 12) (.skip) (.exit 0)) (.seq (.blk 1 (.seq (.reg c36r6 none [0, 4, 5, 10, 11]) (.reg c36r7 none [0, 4, 10, 11]))) (.reg c36r8 none [0, 4, 10, 11])))
def c36r9 : List Opn := [
  ⟨(some 24), none, .mv (.t 4)⟩, 
  ⟨(some 2), none, .mv (.t 24)⟩, 
  ⟨(some 3), none, .mv (.c (.s (.d (.int .i64 0))))⟩]
def c36 : C := .seq (.reg c36r0 none [0]) (.seq (.seq (.reg c36r1 none [0, 8]) (.cond (.t 8) (.seq (.reg c36r2 none [2, 3]) (.ret)) (.skip))) (.seq (.reg c36r3 none [0, 4]) (.seq (.seq (.reg c36r4 none [0, 4, 10, 11]) (.blk 0 (.loop c36l9))) (.seq (.reg c36r9 none [2, 3]) (.ret)))))
def k36 : List (Nat × List Nat) := [(9, [2, 3]), (8, [0, 4, 10, 11]), (7, [0, 4, 10, 11]), (6, [0, 4, 5, 10, 11]), (5, [0, 4, 10, 11, 12]), (4, [0, 4, 10, 11]), (3, [0, 4]), (2, [2, 3]), (1, [0, 8]), (0, [0])]
theorem cc36 : (Tryd.f36.body).bind (cC Tryd.prog 25 k36) = some c36 := by kernel_rfl
def rv36 : List RV := [.t 2, .t 3]
theorem cr36 : cRVs Tryd.prog Tryd.f36.results.toList = some rv36 := by kernel_rfl
theorem f_octet_Whole_l9_ok (s : Str) (y_ : Int × Int) (R_ : St → Prop) (hR : (Ret Tryd.prog glP [] rv36 (.tup [.s (.d (.int .u64 y_.1)), .s (.d (.int .i64 y_.2))])) = R_) : ∀ (m_ : Nat) (n : Int) (v11 : Int) (res_ : Int × Int) (h : f_octet_Whole_l9 s m_ n v11 = some res_) (k_ : List It) (hx : ∀ s_ : Int × Int, res_ = s_ → W Tryd.prog glP 25 k_ ⟨lkT [(0, .b (.s (.d (.str s)))), (4, .b (.s (.d (.int .u64 s_.1)))), (10, .b (.s (.d (.int .i64 (s.length : Int))))), (11, .b (.s (.d (.int .i64 s_.2))))], lkG []⟩ R_), W Tryd.prog glP 25 (.c c36l9 :: .lp c36l9 :: .blk 0 :: k_) ⟨lkT [(0, .b (.s (.d (.str s)))), (4, .b (.s (.d (.int .u64 n)))), (10, .b (.s (.d (.int .i64 (s.length : Int))))), (11, .b (.s (.d (.int .i64 v11))))], lkG []⟩ R_ := by
  intro m_; induction m_ with
  | zero => intro n v11 res_ h; rw [f_octet_Whole_l9.eq_1] at h; cases h
  | succ m_ ih =>
    intro n v11 res_ h k_ hx; rw [f_octet_Whole_l9.eq_2] at h; refine W.cdef c36l9.eq_1 ?_
    refine .seq ?_
    refine Rw.walk ?_
    simp only [wz, wd, ws, Nat.reduceAdd, Nat.reduceSub, Nat.reduceMul, Nat.reduceLeDiff, Nat.reduceEqDiff, Nat.reduceLT, Nat.reduceBEq, reduceIte, reduceCtorEq, Int.reduceToNat, Nat.reduceShiftRight, Nat.reduceAnd, Nat.reduceBneDiff, Nat.reduceBNe, c36r5, semI.eq_10, semI.eq_11, semI.eq_3, semI.eq_5, semI.eq_7]
    refine .seq ?_
    refine .cond (p := (decide (v11 < (s.length : Int)))) (by first | rfl | simp only [wz, wd, ws, Nat.reduceAdd, Nat.reduceSub, Nat.reduceMul, Nat.reduceLeDiff, Nat.reduceEqDiff, Nat.reduceLT, Nat.reduceBEq, reduceIte, reduceCtorEq, Int.reduceToNat, Nat.reduceShiftRight, Nat.reduceAnd, Nat.reduceBneDiff, Nat.reduceBNe]) (fun h1 => ?_) (fun h1 => ?_)
    · rw [ite_t h1] at h
      refine .skip ?_
      refine .seq ?_
      refine .blk ?_
      refine .seq ?_
      refine Rw.walk ?_
      simp only [wz, wd, ws, Nat.reduceAdd, Nat.reduceSub, Nat.reduceMul, Nat.reduceLeDiff, Nat.reduceEqDiff, Nat.reduceLT, Nat.reduceBEq, reduceIte, reduceCtorEq, Int.reduceToNat, Nat.reduceShiftRight, Nat.reduceAnd, Nat.reduceBneDiff, Nat.reduceBNe, c36r6, semI.eq_10, semI.eq_11, semI.eq_3, semI.eq_5, semI.eq_7]
      refine Rw.walk ?_
      simp only [wz, wd, ws, Nat.reduceAdd, Nat.reduceSub, Nat.reduceMul, Nat.reduceLeDiff, Nat.reduceEqDiff, Nat.reduceLT, Nat.reduceBEq, reduceIte, reduceCtorEq, Int.reduceToNat, Nat.reduceShiftRight, Nat.reduceAnd, Nat.reduceBneDiff, Nat.reduceBNe, c36r7, semI.eq_10, semI.eq_11, semI.eq_3, semI.eq_5, semI.eq_7]
      obtain ⟨c, e1, h⟩ := Option.bind_eq_some_iff.1 h
      refine Go1.of (sem_idx e1 (by rfl) (by rfl)) ?_
      simp only [wz, wd, ws, Nat.reduceAdd, Nat.reduceSub, Nat.reduceMul, Nat.reduceLeDiff, Nat.reduceEqDiff, Nat.reduceLT, Nat.reduceBEq, reduceIte, reduceCtorEq, Int.reduceToNat, Nat.reduceShiftRight, Nat.reduceAnd, Nat.reduceBneDiff, Nat.reduceBNe, c36r7, semI.eq_10, semI.eq_11, semI.eq_3, semI.eq_5, semI.eq_7]
      obtain ⟨g2, h⟩ := gd_iff.1 h
      repeat (refine And.intro ?_ ?_; · first | omega | (intro q; simp only [wz, wd, ws, Nat.reduceAdd, Nat.reduceSub, Nat.reduceMul, Nat.reduceLeDiff, Nat.reduceEqDiff, Nat.reduceLT, Nat.reduceBEq, reduceIte, reduceCtorEq, Int.reduceToNat, Nat.reduceShiftRight, Nat.reduceAnd, Nat.reduceBneDiff, Nat.reduceBNe, q]; done))
      obtain ⟨n2, e3, h⟩ := Option.bind_eq_some_iff.1 h
      replace e3 := Option.some.inj e3
      first | simp only [e3] | (simp only [wz, wd, ws, Nat.reduceAdd, Nat.reduceSub, Nat.reduceMul, Nat.reduceLeDiff, Nat.reduceEqDiff, Nat.reduceLT, Nat.reduceBEq, reduceIte, reduceCtorEq, Int.reduceToNat, Nat.reduceShiftRight, Nat.reduceAnd, Nat.reduceBneDiff, Nat.reduceBNe] at e3; simp only [e3])
      refine .eblk ?_
      refine Rw.walk ?_
      simp only [wz, wd, ws, Nat.reduceAdd, Nat.reduceSub, Nat.reduceMul, Nat.reduceLeDiff, Nat.reduceEqDiff, Nat.reduceLT, Nat.reduceBEq, reduceIte, reduceCtorEq, Int.reduceToNat, Nat.reduceShiftRight, Nat.reduceAnd, Nat.reduceBneDiff, Nat.reduceBNe, c36r8, semI.eq_10, semI.eq_11, semI.eq_3, semI.eq_5, semI.eq_7]
      refine .lp ?_
      refine .weak (Imp.co [] _ _ ?_ ?_ ?_ ?_ ?_) (ih n2 (IntKind.i64.wrap (v11 + 1)) _ h k_ hx) <;> simp only [wz, wd, ws, Nat.reduceAdd, Nat.reduceSub, Nat.reduceMul, Nat.reduceLeDiff, Nat.reduceEqDiff, Nat.reduceLT, Nat.reduceBEq, reduceIte, reduceCtorEq, Int.reduceToNat, Nat.reduceShiftRight, Nat.reduceAnd, Nat.reduceBneDiff, Nat.reduceBNe, wi, er_nil]
    · rw [ite_f h1] at h
      refine .exit rfl ?_
      obtain rfl := Option.some.inj h
      refine .weak (Imp.co [] _ _ ?_ ?_ ?_ ?_ ?_) (hx _ rfl) <;> simp only [wz, wd, ws, Nat.reduceAdd, Nat.reduceSub, Nat.reduceMul, Nat.reduceLeDiff, Nat.reduceEqDiff, Nat.reduceLT, Nat.reduceBEq, reduceIte, reduceCtorEq, Int.reduceToNat, Nat.reduceShiftRight, Nat.reduceAnd, Nat.reduceBneDiff, Nat.reduceBNe, wi, er_nil]
theorem f_octet_Whole_ok (s : Str) (y_ : Int × Int) (h : f_octet_Whole s = some y_) : Fun Tryd.prog glP 36 [.b (.s (.d (.str s)))] (.tup [.s (.d (.int .u64 y_.1)), .s (.d (.int .i64 y_.2))]) := by
  refine fun_walk [] Tryd.func36 Tryd.ntmps36 cc36 cr36 (by kernel_rfl) (by simp only [List.length_cons, List.length_nil]; decide) ?_
  generalize hR : Ret _ _ _ _ _ = R_
  simp only [wz, wd, ws, Nat.reduceAdd, Nat.reduceSub, Nat.reduceMul, Nat.reduceLeDiff, Nat.reduceEqDiff, Nat.reduceLT, Nat.reduceBEq, reduceIte, reduceCtorEq, Int.reduceToNat, Nat.reduceShiftRight, Nat.reduceAnd, Nat.reduceBneDiff, Nat.reduceBNe]
  unfold f_octet_Whole at h; unfold c36
  refine .seq ?_
  refine Rw.walk ?_
  simp only [wz, wd, ws, Nat.reduceAdd, Nat.reduceSub, Nat.reduceMul, Nat.reduceLeDiff, Nat.reduceEqDiff, Nat.reduceLT, Nat.reduceBEq, reduceIte, reduceCtorEq, Int.reduceToNat, Nat.reduceShiftRight, Nat.reduceAnd, Nat.reduceBneDiff, Nat.reduceBNe, c36r0, semI.eq_10, semI.eq_11, semI.eq_3, semI.eq_5, semI.eq_7]
  refine .seq ?_
  refine .seq ?_
  refine Rw.walk ?_
  simp only [wz, wd, ws, Nat.reduceAdd, Nat.reduceSub, Nat.reduceMul, Nat.reduceLeDiff, Nat.reduceEqDiff, Nat.reduceLT, Nat.reduceBEq, reduceIte, reduceCtorEq, Int.reduceToNat, Nat.reduceShiftRight, Nat.reduceAnd, Nat.reduceBneDiff, Nat.reduceBNe, c36r1, semI.eq_10, semI.eq_11, semI.eq_3, semI.eq_5, semI.eq_7]
  refine .cond (p := (decide ((s.length : Int) > 8))) (by first | rfl | simp only [wz, wd, ws, Nat.reduceAdd, Nat.reduceSub, Nat.reduceMul, Nat.reduceLeDiff, Nat.reduceEqDiff, Nat.reduceLT, Nat.reduceBEq, reduceIte, reduceCtorEq, Int.reduceToNat, Nat.reduceShiftRight, Nat.reduceAnd, Nat.reduceBneDiff, Nat.reduceBNe]) (fun h1 => ?_) (fun h1 => ?_)
  · rw [ite_t h1] at h
    refine .seq ?_
    refine Rw.walk ?_
    simp only [wz, wd, ws, Nat.reduceAdd, Nat.reduceSub, Nat.reduceMul, Nat.reduceLeDiff, Nat.reduceEqDiff, Nat.reduceLT, Nat.reduceBEq, reduceIte, reduceCtorEq, Int.reduceToNat, Nat.reduceShiftRight, Nat.reduceAnd, Nat.reduceBneDiff, Nat.reduceBNe, c36r2, semI.eq_10, semI.eq_11, semI.eq_3, semI.eq_5, semI.eq_7]
    obtain rfl := Option.some.inj h
    refine .ret ?_
    rw [← hR]
    simp only [wz, wd, ws, Nat.reduceAdd, Nat.reduceSub, Nat.reduceMul, Nat.reduceLeDiff, Nat.reduceEqDiff, Nat.reduceLT, Nat.reduceBEq, reduceIte, reduceCtorEq, Int.reduceToNat, Nat.reduceShiftRight, Nat.reduceAnd, Nat.reduceBneDiff, Nat.reduceBNe, rv36]
  · rw [ite_f h1] at h
    refine .skip ?_
    refine .seq ?_
    refine Rw.walk ?_
    simp only [wz, wd, ws, Nat.reduceAdd, Nat.reduceSub, Nat.reduceMul, Nat.reduceLeDiff, Nat.reduceEqDiff, Nat.reduceLT, Nat.reduceBEq, reduceIte, reduceCtorEq, Int.reduceToNat, Nat.reduceShiftRight, Nat.reduceAnd, Nat.reduceBneDiff, Nat.reduceBNe, c36r3, semI.eq_10, semI.eq_11, semI.eq_3, semI.eq_5, semI.eq_7]
    refine .seq ?_
    refine .seq ?_
    refine Rw.walk ?_
    simp only [wz, wd, ws, Nat.reduceAdd, Nat.reduceSub, Nat.reduceMul, Nat.reduceLeDiff, Nat.reduceEqDiff, Nat.reduceLT, Nat.reduceBEq, reduceIte, reduceCtorEq, Int.reduceToNat, Nat.reduceShiftRight, Nat.reduceAnd, Nat.reduceBneDiff, Nat.reduceBNe, c36r4, semI.eq_10, semI.eq_11, semI.eq_3, semI.eq_5, semI.eq_7]
    refine .blk ?_
    obtain ⟨s2, hf, h⟩ := Option.bind_eq_some_iff.1 h
    refine .loop (.weak (Imp.co [] _ _ ?c1 ?c2 ?c3 ?c4 ?c5) (f_octet_Whole_l9_ok s _ _ hR _ _ _ _ hf _ ?_))
    case c1 | c2 | c3 | c4 | c5 => simp only [wz, wd, ws, Nat.reduceAdd, Nat.reduceSub, Nat.reduceMul, Nat.reduceLeDiff, Nat.reduceEqDiff, Nat.reduceLT, Nat.reduceBEq, reduceIte, reduceCtorEq, Int.reduceToNat, Nat.reduceShiftRight, Nat.reduceAnd, Nat.reduceBneDiff, Nat.reduceBNe, wi, er_nil]
    · intro s2_ hs; subst hs
      refine .seq ?_
      refine Rw.walk ?_
      simp only [wz, wd, ws, Nat.reduceAdd, Nat.reduceSub, Nat.reduceMul, Nat.reduceLeDiff, Nat.reduceEqDiff, Nat.reduceLT, Nat.reduceBEq, reduceIte, reduceCtorEq, Int.reduceToNat, Nat.reduceShiftRight, Nat.reduceAnd, Nat.reduceBneDiff, Nat.reduceBNe, c36r9, semI.eq_10, semI.eq_11, semI.eq_3, semI.eq_5, semI.eq_7]
      obtain rfl := Option.some.inj h
      refine .ret ?_
      rw [← hR]
      simp only [wz, wd, ws, Nat.reduceAdd, Nat.reduceSub, Nat.reduceMul, Nat.reduceLeDiff, Nat.reduceEqDiff, Nat.reduceLT, Nat.reduceBEq, reduceIte, reduceCtorEq, Int.reduceToNat, Nat.reduceShiftRight, Nat.reduceAnd, Nat.reduceBneDiff, Nat.reduceBNe, rv36]
-- 48 consignor/octet.take
def c48r0 : List Opn := [
  ⟨(some 4), none, .mv (.c (.s (.d (.str []))))⟩, 
  ⟨(some 5), none, .mv (.c (.s (.d (.str []))))⟩, 
  ⟨(some 6), none, .mv (.c (.s (.d (.z .nilIface))))⟩]
def c48r1 : List Opn := [
  ⟨(some 9), none, .mv (.t 0)⟩, 
  ⟨(some 10), none, .len .str (.t 9)⟩, 
  ⟨(some 11), none, .bin .lss (.t 10) (.c (.s (.d (.int .i64 2))))⟩]
def c48r2 : List Opn := [
  ⟨(some 12), none, .mv (.t 1)⟩, 
  ⟨(some 13), none, .call (.fn 64) []⟩, 
  ⟨(some 14), none, .build [(.d (.int .i64 0)), (.d (.z .nilIface))] [(0, 1, (.t 12)), (1, 1, (.t 13))]⟩, 
  ⟨(some 15), none, .mkif 91 (.t 14)⟩, 
  ⟨(some 4), none, .mv (.c (.s (.d (.str []))))⟩, 
  ⟨(some 5), none, .mv (.c (.s (.d (.str []))))⟩, 
  ⟨(some 6), none, .mv (.t 15)⟩]
def c48r3 : List Opn := [
  ⟨(some 17), none, .mv (.t 0)⟩, 
  ⟨(some 18), none, .slc .str (.t 17) none (some (.c (.s (.d (.int .i64 2))))) none⟩, 
  ⟨(some 19), none, .call (.fn 36) [(.t 18)]⟩, 
  ⟨(some 16), none, .mv (.t 19)⟩, 
  ⟨(some 20), none, .ext (.t 16) 0⟩, 
  ⟨(some 21), none, .ext (.t 16) 1⟩, 
  ⟨(some 7), none, .mv (.t 20)⟩, 
  ⟨(some 8), none, .mv (.t 21)⟩]
def c48r4 : List Opn := [
  ⟨(some 22), none, .mv (.t 0)⟩, 
  ⟨(some 23), none, .slc .str (.t 22) (some (.c (.s (.d (.int .i64 2))))) none none⟩, 
  ⟨(some 0), none, .mv (.t 23)⟩]
def c48r5 : List Opn := [
  ⟨(some 24), none, .mv (.t 7)⟩, 
  ⟨(some 25), none, .bin .gtr (.t 24) (.c (.s (.d (.int .u64 4096))))⟩, 
  ⟨(some 26), none, .mv (.t 25)⟩, 
  ⟨(some 27), some (26, false), .mv (.t 1)⟩, 
  ⟨(some 28), some (26, false), .bin .gtr (.t 27) (.c (.s (.d (.int .i64 64))))⟩, 
  ⟨(some 29), none, .pick (.t 26) (.c (.s (.d (.bool true)))) (.t 28)⟩]
def c48r6 : List Opn := [
  ⟨(some 30), none, .mv (.t 1)⟩, 
  ⟨(some 31), none, .build [(.d (.int .i64 0))] [(0, 1, (.c (.s (.d (.int .i64 2)))))]⟩, 
  ⟨(some 32), none, .mkif 93 (.t 31)⟩, 
  ⟨(some 33), none, .build [(.d (.int .i64 0)), (.d (.z .nilIface))] [(0, 1, (.t 30)), (1, 1, (.t 32))]⟩, 
  ⟨(some 34), none, .mkif 91 (.t 33)⟩, 
  ⟨(some 4), none, .mv (.c (.s (.d (.str []))))⟩, 
  ⟨(some 5), none, .mv (.c (.s (.d (.str []))))⟩, 
  ⟨(some 6), none, .mv (.t 34)⟩]
def c48r7 : List Opn := [
  ⟨(some 35), none, .mv (.t 7)⟩, 
  ⟨(some 36), none, .mv (.t 0)⟩, 
  ⟨(some 37), none, .len .str (.t 36)⟩, 
  ⟨(some 38), none, .cv (.toInt .u64) (.t 37)⟩, 
  ⟨(some 39), none, .bin .gtr (.t 35) (.t 38)⟩]
def c48r8 : List Opn := [
  ⟨(some 40), none, .mv (.t 1)⟩, 
  ⟨(some 41), none, .call (.fn 64) []⟩, 
  ⟨(some 42), none, .build [(.d (.int .i64 0)), (.d (.z .nilIface))] [(0, 1, (.t 40)), (1, 1, (.t 41))]⟩, 
  ⟨(some 43), none, .mkif 91 (.t 42)⟩, 
  ⟨(some 4), none, .mv (.c (.s (.d (.str []))))⟩, 
  ⟨(some 5), none, .mv (.c (.s (.d (.str []))))⟩, 
  ⟨(some 6), none, .mv (.t 43)⟩]
def c48r9 : List Opn := [
  ⟨(some 44), none, .mv (.t 0)⟩, 
  ⟨(some 45), none, .mv (.t 7)⟩, 
  ⟨(some 46), none, .slc .str (.t 44) none (some (.t 45)) none⟩, 
  ⟨(some 47), none, .mv (.t 0)⟩, 
  ⟨(some 48), none, .mv (.t 7)⟩, 
  ⟨(some 49), none, .slc .str (.t 47) (some (.t 48)) none none⟩, 
  ⟨(some 4), none, .mv (.t 46)⟩, 
  ⟨(some 5), none, .mv (.t 49)⟩, 
  ⟨(some 6), none, .mv (.c (.s (.d (.z .nilIface))))⟩]
def c48 : C := .seq (.reg c48r0 none [0, 1]) (.seq (.seq (.reg c48r1 none [0, 1, 11]) (.cond (.t 11) (.seq (.reg c48r2 none [4, 5, 6]) (.ret)) (.skip))) (.seq (.reg c48r3 none [0, 1, 7]) (.seq (.seq (.reg c48r4 none [0, 1, 7]) (.seq (.reg c48r5 none [0, 1, 7, 29]) (.cond (.t 29) (.seq (.reg c48r6 none [4, 5, 6]) (.ret)) (.skip)))) (.seq (.seq (.reg c48r7 none [0, 1, 7, 39]) (.cond (.t 39) (.seq (.reg c48r8 none [4, 5, 6]) (.ret)) (.skip))) (.seq (.reg c48r9 (some [0, 0, 3, 0, 0, 24, 7, 127, 255]) [4, 5, 6]) (.ret))))))
def k48 : List (Nat × List Nat) := [(9, [4, 5, 6]), (8, [4, 5, 6]), (7, [0, 1, 7, 39]), (6, [4, 5, 6]), (5, [0, 1, 7, 29]), (4, [0, 1, 7]), (3, [0, 1, 7]), (2, [4, 5, 6]), (1, [0, 1, 11]), (0, [0, 1])]
theorem cc48 : (Tryd.f48.body).bind (cC Tryd.prog 50 k48) = some c48 := by kernel_rfl
def rv48 : List RV := [.t 4, .t 5, .t 6]
theorem cr48 : cRVs Tryd.prog Tryd.f48.results.toList = some rv48 := by kernel_rfl
theorem f_octet_take_ok (s : Str) (no : Int) (y_ : Str × Str × Sc) (h : f_octet_take s no = some y_) : Fun Tryd.prog glP 48 [.b (.s (.d (.str s))), .b (.s (.d (.int .i64 no)))] (.tup [.s (.d (.str y_.1)), .s (.d (.str y_.2.1)), .s (.d y_.2.2)]) := by
  refine fun_walk [] Tryd.func48 Tryd.ntmps48 cc48 cr48 (by kernel_rfl) (by simp only [List.length_cons, List.length_nil]; decide) ?_
  generalize hR : Ret _ _ _ _ _ = R_
  simp only [wz, wd, ws, Nat.reduceAdd, Nat.reduceSub, Nat.reduceMul, Nat.reduceLeDiff, Nat.reduceEqDiff, Nat.reduceLT, Nat.reduceBEq, reduceIte, reduceCtorEq, Int.reduceToNat, Nat.reduceShiftRight, Nat.reduceAnd, Nat.reduceBneDiff, Nat.reduceBNe, e_octet_at, e_octet_fault]
  unfold f_octet_take at h; unfold c48
  refine .seq ?_
  refine Rw.walk ?_
  simp only [wz, wd, ws, Nat.reduceAdd, Nat.reduceSub, Nat.reduceMul, Nat.reduceLeDiff, Nat.reduceEqDiff, Nat.reduceLT, Nat.reduceBEq, reduceIte, reduceCtorEq, Int.reduceToNat, Nat.reduceShiftRight, Nat.reduceAnd, Nat.reduceBneDiff, Nat.reduceBNe, c48r0, semI.eq_10, semI.eq_11, semI.eq_3, semI.eq_5, semI.eq_7, e_octet_at, e_octet_fault]
  refine .seq ?_
  refine .seq ?_
  refine Rw.walk ?_
  simp only [wz, wd, ws, Nat.reduceAdd, Nat.reduceSub, Nat.reduceMul, Nat.reduceLeDiff, Nat.reduceEqDiff, Nat.reduceLT, Nat.reduceBEq, reduceIte, reduceCtorEq, Int.reduceToNat, Nat.reduceShiftRight, Nat.reduceAnd, Nat.reduceBneDiff, Nat.reduceBNe, c48r1, semI.eq_10, semI.eq_11, semI.eq_3, semI.eq_5, semI.eq_7, e_octet_at, e_octet_fault]
  refine .cond (p := (decide ((s.length : Int) < 2))) (by first | rfl | simp only [wz, wd, ws, Nat.reduceAdd, Nat.reduceSub, Nat.reduceMul, Nat.reduceLeDiff, Nat.reduceEqDiff, Nat.reduceLT, Nat.reduceBEq, reduceIte, reduceCtorEq, Int.reduceToNat, Nat.reduceShiftRight, Nat.reduceAnd, Nat.reduceBneDiff, Nat.reduceBNe]) (fun h1 => ?_) (fun h1 => ?_)
  · rw [ite_t h1] at h
    refine .seq ?_
    refine Rw.walk ?_
    simp only [wz, wd, ws, Nat.reduceAdd, Nat.reduceSub, Nat.reduceMul, Nat.reduceLeDiff, Nat.reduceEqDiff, Nat.reduceLT, Nat.reduceBEq, reduceIte, reduceCtorEq, Int.reduceToNat, Nat.reduceShiftRight, Nat.reduceAnd, Nat.reduceBneDiff, Nat.reduceBNe, c48r2, semI.eq_10, semI.eq_11, semI.eq_3, semI.eq_5, semI.eq_7, e_octet_at, e_octet_fault]
    obtain ⟨t, e1, h⟩ := Option.bind_eq_some_iff.1 h
    refine call_fun [] true ⟨trivial, trivial⟩ rfl ?_ (f_octet_short_ok _ e1) (fun h => by cases h) (fun i hi => by cases hi) ?_
    · simp only [wz, wd, ws, Nat.reduceAdd, Nat.reduceSub, Nat.reduceMul, Nat.reduceLeDiff, Nat.reduceEqDiff, Nat.reduceLT, Nat.reduceBEq, reduceIte, reduceCtorEq, Int.reduceToNat, Nat.reduceShiftRight, Nat.reduceAnd, Nat.reduceBneDiff, Nat.reduceBNe, e_octet_at, e_octet_fault]
    simp only [wz, wd, ws, Nat.reduceAdd, Nat.reduceSub, Nat.reduceMul, Nat.reduceLeDiff, Nat.reduceEqDiff, Nat.reduceLT, Nat.reduceBEq, reduceIte, reduceCtorEq, Int.reduceToNat, Nat.reduceShiftRight, Nat.reduceAnd, Nat.reduceBneDiff, Nat.reduceBNe, c48r2, semI.eq_10, semI.eq_11, semI.eq_3, semI.eq_5, semI.eq_7, e_octet_at, e_octet_fault]
    obtain rfl := Option.some.inj h
    refine .ret ?_
    rw [← hR]
    simp only [wz, wd, ws, Nat.reduceAdd, Nat.reduceSub, Nat.reduceMul, Nat.reduceLeDiff, Nat.reduceEqDiff, Nat.reduceLT, Nat.reduceBEq, reduceIte, reduceCtorEq, Int.reduceToNat, Nat.reduceShiftRight, Nat.reduceAnd, Nat.reduceBneDiff, Nat.reduceBNe, rv48, e_octet_at, e_octet_fault]
  · rw [ite_f h1] at h
    refine .skip ?_
    refine .seq ?_
    refine Rw.walk ?_
    obtain ⟨g2, h⟩ := gd_iff.1 h
    simp only [wz, wd, ws, Nat.reduceAdd, Nat.reduceSub, Nat.reduceMul, Nat.reduceLeDiff, Nat.reduceEqDiff, Nat.reduceLT, Nat.reduceBEq, reduceIte, reduceCtorEq, Int.reduceToNat, Nat.reduceShiftRight, Nat.reduceAnd, Nat.reduceBneDiff, Nat.reduceBNe, c48r3, semI.eq_10, semI.eq_11, semI.eq_3, semI.eq_5, semI.eq_7, e_octet_at, e_octet_fault]
    repeat (refine And.intro ?_ ?_; · first | omega | (intro q; simp only [wz, wd, ws, Nat.reduceAdd, Nat.reduceSub, Nat.reduceMul, Nat.reduceLeDiff, Nat.reduceEqDiff, Nat.reduceLT, Nat.reduceBEq, reduceIte, reduceCtorEq, Int.reduceToNat, Nat.reduceShiftRight, Nat.reduceAnd, Nat.reduceBneDiff, Nat.reduceBNe, q]; done))
    obtain ⟨t, e3, h⟩ := Option.bind_eq_some_iff.1 h
    refine call_fun [] false ⟨trivial, trivial, trivial⟩ rfl ?_ (f_octet_Whole_ok _ _ e3) (fun _ => rfl) (fun i hi => by cases hi) ?_
    · simp only [wz, wd, ws, Nat.reduceAdd, Nat.reduceSub, Nat.reduceMul, Nat.reduceLeDiff, Nat.reduceEqDiff, Nat.reduceLT, Nat.reduceBEq, reduceIte, reduceCtorEq, Int.reduceToNat, Nat.reduceShiftRight, Nat.reduceAnd, Nat.reduceBneDiff, Nat.reduceBNe, e_octet_at, e_octet_fault]
    simp only [wz, wd, ws, Nat.reduceAdd, Nat.reduceSub, Nat.reduceMul, Nat.reduceLeDiff, Nat.reduceEqDiff, Nat.reduceLT, Nat.reduceBEq, reduceIte, reduceCtorEq, Int.reduceToNat, Nat.reduceShiftRight, Nat.reduceAnd, Nat.reduceBneDiff, Nat.reduceBNe, c48r3, semI.eq_10, semI.eq_11, semI.eq_3, semI.eq_5, semI.eq_7, e_octet_at, e_octet_fault]
    refine .seq ?_
    refine .seq ?_
    refine Rw.walk ?_
    obtain ⟨g4, h⟩ := gd_iff.1 h
    simp only [wz, wd, ws, Nat.reduceAdd, Nat.reduceSub, Nat.reduceMul, Nat.reduceLeDiff, Nat.reduceEqDiff, Nat.reduceLT, Nat.reduceBEq, reduceIte, reduceCtorEq, Int.reduceToNat, Nat.reduceShiftRight, Nat.reduceAnd, Nat.reduceBneDiff, Nat.reduceBNe, c48r4, semI.eq_10, semI.eq_11, semI.eq_3, semI.eq_5, semI.eq_7, e_octet_at, e_octet_fault]
    repeat (refine And.intro ?_ ?_; · first | omega | (intro q; simp only [wz, wd, ws, Nat.reduceAdd, Nat.reduceSub, Nat.reduceMul, Nat.reduceLeDiff, Nat.reduceEqDiff, Nat.reduceLT, Nat.reduceBEq, reduceIte, reduceCtorEq, Int.reduceToNat, Nat.reduceShiftRight, Nat.reduceAnd, Nat.reduceBneDiff, Nat.reduceBNe, q]; done))
    refine .seq ?_
    refine Rw.walk ?_
    simp only [wz, wd, ws, Nat.reduceAdd, Nat.reduceSub, Nat.reduceMul, Nat.reduceLeDiff, Nat.reduceEqDiff, Nat.reduceLT, Nat.reduceBEq, reduceIte, reduceCtorEq, Int.reduceToNat, Nat.reduceShiftRight, Nat.reduceAnd, Nat.reduceBneDiff, Nat.reduceBNe, c48r5, semI.eq_10, semI.eq_11, semI.eq_3, semI.eq_5, semI.eq_7, e_octet_at, e_octet_fault]
    repeat (refine And.intro ?_ ?_; · first | omega | (intro q; simp only [wz, wd, ws, Nat.reduceAdd, Nat.reduceSub, Nat.reduceMul, Nat.reduceLeDiff, Nat.reduceEqDiff, Nat.reduceLT, Nat.reduceBEq, reduceIte, reduceCtorEq, Int.reduceToNat, Nat.reduceShiftRight, Nat.reduceAnd, Nat.reduceBneDiff, Nat.reduceBNe, q]; done))
    refine .cond (p := ((decide (t.1 > 4096)) || (decide (no > 64)))) (by first | rfl | simp only [wz, wd, ws, Nat.reduceAdd, Nat.reduceSub, Nat.reduceMul, Nat.reduceLeDiff, Nat.reduceEqDiff, Nat.reduceLT, Nat.reduceBEq, reduceIte, reduceCtorEq, Int.reduceToNat, Nat.reduceShiftRight, Nat.reduceAnd, Nat.reduceBneDiff, Nat.reduceBNe]) (fun h1 => ?_) (fun h1 => ?_)
    · rw [ite_t h1] at h
      refine .seq ?_
      refine Rw.walk ?_
      simp only [wz, wd, ws, Nat.reduceAdd, Nat.reduceSub, Nat.reduceMul, Nat.reduceLeDiff, Nat.reduceEqDiff, Nat.reduceLT, Nat.reduceBEq, reduceIte, reduceCtorEq, Int.reduceToNat, Nat.reduceShiftRight, Nat.reduceAnd, Nat.reduceBneDiff, Nat.reduceBNe, c48r6, semI.eq_10, semI.eq_11, semI.eq_3, semI.eq_5, semI.eq_7, e_octet_at, e_octet_fault]
      obtain rfl := Option.some.inj h
      refine .ret ?_
      rw [← hR]
      simp only [wz, wd, ws, Nat.reduceAdd, Nat.reduceSub, Nat.reduceMul, Nat.reduceLeDiff, Nat.reduceEqDiff, Nat.reduceLT, Nat.reduceBEq, reduceIte, reduceCtorEq, Int.reduceToNat, Nat.reduceShiftRight, Nat.reduceAnd, Nat.reduceBneDiff, Nat.reduceBNe, rv48, e_octet_at, e_octet_fault]
    · rw [ite_f h1] at h
      refine .skip ?_
      refine .seq ?_
      refine .seq ?_
      refine Rw.walk ?_
      simp only [wz, wd, ws, Nat.reduceAdd, Nat.reduceSub, Nat.reduceMul, Nat.reduceLeDiff, Nat.reduceEqDiff, Nat.reduceLT, Nat.reduceBEq, reduceIte, reduceCtorEq, Int.reduceToNat, Nat.reduceShiftRight, Nat.reduceAnd, Nat.reduceBneDiff, Nat.reduceBNe, c48r7, semI.eq_10, semI.eq_11, semI.eq_3, semI.eq_5, semI.eq_7, e_octet_at, e_octet_fault]
      refine .cond (p := (decide (t.1 > (IntKind.u64.wrap ((cut s 2 (s.length : Int)).length : Int))))) (by first | rfl | simp only [wz, wd, ws, Nat.reduceAdd, Nat.reduceSub, Nat.reduceMul, Nat.reduceLeDiff, Nat.reduceEqDiff, Nat.reduceLT, Nat.reduceBEq, reduceIte, reduceCtorEq, Int.reduceToNat, Nat.reduceShiftRight, Nat.reduceAnd, Nat.reduceBneDiff, Nat.reduceBNe]) (fun h1 => ?_) (fun h1 => ?_)
      · rw [ite_t h1] at h
        refine .seq ?_
        refine Rw.walk ?_
        simp only [wz, wd, ws, Nat.reduceAdd, Nat.reduceSub, Nat.reduceMul, Nat.reduceLeDiff, Nat.reduceEqDiff, Nat.reduceLT, Nat.reduceBEq, reduceIte, reduceCtorEq, Int.reduceToNat, Nat.reduceShiftRight, Nat.reduceAnd, Nat.reduceBneDiff, Nat.reduceBNe, c48r8, semI.eq_10, semI.eq_11, semI.eq_3, semI.eq_5, semI.eq_7, e_octet_at, e_octet_fault]
        obtain ⟨t2, e5, h⟩ := Option.bind_eq_some_iff.1 h
        refine call_fun [] true ⟨trivial, trivial⟩ rfl ?_ (f_octet_short_ok _ e5) (fun h => by cases h) (fun i hi => by cases hi) ?_
        · simp only [wz, wd, ws, Nat.reduceAdd, Nat.reduceSub, Nat.reduceMul, Nat.reduceLeDiff, Nat.reduceEqDiff, Nat.reduceLT, Nat.reduceBEq, reduceIte, reduceCtorEq, Int.reduceToNat, Nat.reduceShiftRight, Nat.reduceAnd, Nat.reduceBneDiff, Nat.reduceBNe, e_octet_at, e_octet_fault]
        simp only [wz, wd, ws, Nat.reduceAdd, Nat.reduceSub, Nat.reduceMul, Nat.reduceLeDiff, Nat.reduceEqDiff, Nat.reduceLT, Nat.reduceBEq, reduceIte, reduceCtorEq, Int.reduceToNat, Nat.reduceShiftRight, Nat.reduceAnd, Nat.reduceBneDiff, Nat.reduceBNe, c48r8, semI.eq_10, semI.eq_11, semI.eq_3, semI.eq_5, semI.eq_7, e_octet_at, e_octet_fault]
        obtain rfl := Option.some.inj h
        refine .ret ?_
        rw [← hR]
        simp only [wz, wd, ws, Nat.reduceAdd, Nat.reduceSub, Nat.reduceMul, Nat.reduceLeDiff, Nat.reduceEqDiff, Nat.reduceLT, Nat.reduceBEq, reduceIte, reduceCtorEq, Int.reduceToNat, Nat.reduceShiftRight, Nat.reduceAnd, Nat.reduceBneDiff, Nat.reduceBNe, rv48, e_octet_at, e_octet_fault]
      · rw [ite_f h1] at h
        refine .skip ?_
        refine .seq ?_
        refine RwD.walk ?_
        obtain ⟨g6, h⟩ := gd_iff.1 h
        obtain ⟨g7, h⟩ := gd_iff.1 h
        simp only [wz, wd, ws, Nat.reduceAdd, Nat.reduceSub, Nat.reduceMul, Nat.reduceLeDiff, Nat.reduceEqDiff, Nat.reduceLT, Nat.reduceBEq, reduceIte, reduceCtorEq, Int.reduceToNat, Nat.reduceShiftRight, Nat.reduceAnd, Nat.reduceBneDiff, Nat.reduceBNe, c48r9, semI.eq_10, semI.eq_11, semI.eq_3, semI.eq_5, semI.eq_7, e_octet_at, e_octet_fault]
        repeat (refine And.intro ?_ ?_; · first | omega | (intro q; simp only [wz, wd, ws, Nat.reduceAdd, Nat.reduceSub, Nat.reduceMul, Nat.reduceLeDiff, Nat.reduceEqDiff, Nat.reduceLT, Nat.reduceBEq, reduceIte, reduceCtorEq, Int.reduceToNat, Nat.reduceShiftRight, Nat.reduceAnd, Nat.reduceBneDiff, Nat.reduceBNe, q]; done))
        obtain rfl := Option.some.inj h
        refine .ret ?_
        rw [← hR]
        simp only [wz, wd, ws, Nat.reduceAdd, Nat.reduceSub, Nat.reduceMul, Nat.reduceLeDiff, Nat.reduceEqDiff, Nat.reduceLT, Nat.reduceBEq, reduceIte, reduceCtorEq, Int.reduceToNat, Nat.reduceShiftRight, Nat.reduceAnd, Nat.reduceBneDiff, Nat.reduceBNe, rv48, e_octet_at, e_octet_fault]
-- 27 consignor/octet.Loose
def c27r0 : List Opn := [
  ⟨(some 2), none, .mv (.c (.s .nils))⟩, 
  ⟨(some 3), none, .mv (.c (.s (.d (.int .i64 0))))⟩]
def c27r1 : List Opn := [
  ⟨(some 4), none, .mv (.c (.s .nils))⟩]
def c27r2 : List Opn := [
  ⟨(some 8), none, .mv (.t 0)⟩, 
  ⟨(some 9), none, .bin .neq (.t 8) (.c (.s (.d (.str []))))⟩]
def c27r3 : List Opn := [
  ⟨(some 11), none, .mv (.t 0)⟩, 
  ⟨(some 12), none, .mv (.t 4)⟩, 
  ⟨(some 13), none, .len (.sl 0) (.t 12)⟩, 
  ⟨(some 14), none, .bin .add (.t 13) (.c (.s (.d (.int .i64 1))))⟩, 
  ⟨(some 15), none, .call (.fn 48) [(.t 11), (.t 14)]⟩, 
  ⟨(some 10), none, .mv (.t 15)⟩, 
  ⟨(some 16), none, .ext (.t 10) 0⟩, 
  ⟨(some 17), none, .ext (.t 10) 1⟩, 
  ⟨(some 18), none, .ext (.t 10) 2⟩, 
  ⟨(some 5), none, .mv (.t 16)⟩, 
  ⟨(some 6), none, .mv (.t 17)⟩, 
  ⟨(some 7), none, .mv (.t 18)⟩]
def c27r4 : List Opn := [
  ⟨(some 19), none, .mv (.t 7)⟩, 
  ⟨(some 20), none, .bic .neq (.t 19) (.c (.s (.d (.z .nilIface))))⟩]
def c27r5 : List Opn := [
  ⟨(some 21), none, .mv (.t 7)⟩, 
  ⟨(some 22), none, .call (.fn 49) [(.t 21)]⟩, 
  ⟨(some 2), none, .mv (.c (.s .nils))⟩, 
  ⟨(some 3), none, .mv (.t 22)⟩]
def c27r6 : List Opn := [
  ⟨(some 23), none, .mv (.t 4)⟩, 
  ⟨(some 24), none, .mv (.t 5)⟩, 
  ⟨(some 25), none, .bsl 1 [(.t 24)]⟩, 
  ⟨(some 26), none, .app 1 16 false (.t 23) (.t 25)⟩, 
  ⟨(some 27), none, .mv (.t 6)⟩, 
  ⟨(some 4), none, .mv (.t 26)⟩, 
  ⟨(some 0), none, .mv (.t 27)⟩]
def c27l7 : C := .seq (.seq (.reg c27r2 none [0, 4, 9]) (.cond (.t 9) (.skip) (.exit 0))) (.blk 1 (.seq (.reg c27r3 none [4, 5, 6, 7]) (.seq (.seq (.reg c27r4 none [4, 5, 6, 7, 20]) (.cond (.t 20) (.seq (.reg c27r5 none [2, 3]) (.ret)) (.skip))) (.reg c27r6 none [0, 4]))))
def c27r7 : List Opn := [
  ⟨(some 28), none, .mv (.t 4)⟩, 
  ⟨(some 2), none, .mv (.t 28)⟩, 
  ⟨(some 3), none, .mv (.c (.s (.d (.int .i64 0))))⟩]
def c27 : C := .seq (.reg c27r0 none [0]) (.seq (.reg c27r1 none [0, 4]) (.seq (.blk 0 (.loop c27l7)) (.seq (.reg c27r7 none [2, 3]) (.ret))))
def k27 : List (Nat × List Nat) := [(7, [2, 3]), (6, [0, 4]), (5, [2, 3]), (4, [4, 5, 6, 7, 20]), (3, [4, 5, 6, 7]), (2, [0, 4, 9]), (1, [0, 4]), (0, [0])]
theorem cc27 : (Tryd.f27.body).bind (cC Tryd.prog 29 k27) = some c27 := by kernel_rfl
def rv27 : List RV := [.t 2, .t 3]
theorem cr27 : cRVs Tryd.prog Tryd.f27.results.toList = some rv27 := by kernel_rfl
theorem f_octet_Loose_l7_ok (s : Str) (y_ : (List Str) × Int) (R_ : St → Prop) (hR : (Ret Tryd.prog glP [26] rv27 (.tup [.s (.d (.sl (y_.1.map eS))), .s (.d (.int .i64 y_.2))])) = R_) : ∀ (m_ : Nat) (s2 : Str) (out : (List Str)) (res_ : (Str × (List Str)) ⊕ ((List Str) × Int)) (h : f_octet_Loose_l7 s m_ s2 out = some res_) (k_ : List It) (hx : ∀ s_ : Str × (List Str), res_ = .inl s_ → W Tryd.prog glP 29 k_ ⟨lkT [(0, .b (.s (.d (.str s_.1)))), (4, .b (.s (.own 26 s_.2.length)))], lkG [(26, ⟨1, er eS s_.2, false⟩)]⟩ R_) (hr : ∀ z_ : (List Str) × Int, res_ = .inr z_ → z_ = y_), W Tryd.prog glP 29 (.c c27l7 :: .lp c27l7 :: .blk 0 :: k_) ⟨lkT [(0, .b (.s (.d (.str s2)))), (4, .b (.s (.own 26 out.length)))], lkG [(26, ⟨1, er eS out, false⟩)]⟩ R_ := by
  intro m_; induction m_ with
  | zero => intro s2 out res_ h; rw [f_octet_Loose_l7.eq_1] at h; cases h
  | succ m_ ih =>
    intro s2 out res_ h k_ hx hr; rw [f_octet_Loose_l7.eq_2] at h; refine W.cdef c27l7.eq_1 ?_
    refine .seq ?_
    refine .seq ?_
    refine Rw.walk ?_
    simp only [wz, wd, ws, Nat.reduceAdd, Nat.reduceSub, Nat.reduceMul, Nat.reduceLeDiff, Nat.reduceEqDiff, Nat.reduceLT, Nat.reduceBEq, reduceIte, reduceCtorEq, Int.reduceToNat, Nat.reduceShiftRight, Nat.reduceAnd, Nat.reduceBneDiff, Nat.reduceBNe, c27r2, semI.eq_10, semI.eq_11, semI.eq_3, semI.eq_5, semI.eq_7]
    refine .cond (p := (!(s2 == ([] : Str)))) (by first | rfl | simp only [wz, wd, ws, Nat.reduceAdd, Nat.reduceSub, Nat.reduceMul, Nat.reduceLeDiff, Nat.reduceEqDiff, Nat.reduceLT, Nat.reduceBEq, reduceIte, reduceCtorEq, Int.reduceToNat, Nat.reduceShiftRight, Nat.reduceAnd, Nat.reduceBneDiff, Nat.reduceBNe]) (fun h1 => ?_) (fun h1 => ?_)
    · rw [ite_t h1] at h
      refine .skip ?_
      refine .blk ?_
      refine .seq ?_
      refine Rw.walk ?_
      simp only [wz, wd, ws, Nat.reduceAdd, Nat.reduceSub, Nat.reduceMul, Nat.reduceLeDiff, Nat.reduceEqDiff, Nat.reduceLT, Nat.reduceBEq, reduceIte, reduceCtorEq, Int.reduceToNat, Nat.reduceShiftRight, Nat.reduceAnd, Nat.reduceBneDiff, Nat.reduceBNe, c27r3, semI.eq_10, semI.eq_11, semI.eq_3, semI.eq_5, semI.eq_7]
      obtain ⟨t, e1, h⟩ := Option.bind_eq_some_iff.1 h
      refine call_fun [] true ⟨trivial, trivial, trivial, trivial⟩ rfl ?_ (f_octet_take_ok _ _ _ e1) (fun h => by cases h) (fun i hi => by cases hi) ?_
      · simp only [wz, wd, ws, Nat.reduceAdd, Nat.reduceSub, Nat.reduceMul, Nat.reduceLeDiff, Nat.reduceEqDiff, Nat.reduceLT, Nat.reduceBEq, reduceIte, reduceCtorEq, Int.reduceToNat, Nat.reduceShiftRight, Nat.reduceAnd, Nat.reduceBneDiff, Nat.reduceBNe]
      simp only [wz, wd, ws, Nat.reduceAdd, Nat.reduceSub, Nat.reduceMul, Nat.reduceLeDiff, Nat.reduceEqDiff, Nat.reduceLT, Nat.reduceBEq, reduceIte, reduceCtorEq, Int.reduceToNat, Nat.reduceShiftRight, Nat.reduceAnd, Nat.reduceBneDiff, Nat.reduceBNe, c27r3, semI.eq_10, semI.eq_11, semI.eq_3, semI.eq_5, semI.eq_7]
      refine .seq ?_
      refine .seq ?_
      refine Rw.walk ?_
      obtain ⟨g2, h⟩ := gd_iff.1 h
      simp only [wz, wd, ws, Nat.reduceAdd, Nat.reduceSub, Nat.reduceMul, Nat.reduceLeDiff, Nat.reduceEqDiff, Nat.reduceLT, Nat.reduceBEq, reduceIte, reduceCtorEq, Int.reduceToNat, Nat.reduceShiftRight, Nat.reduceAnd, Nat.reduceBneDiff, Nat.reduceBNe, c27r4, semI.eq_10, semI.eq_11, semI.eq_3, semI.eq_5, semI.eq_7]
      repeat (refine And.intro ?_ ?_; · first | omega | (intro q; simp only [wz, wd, ws, Nat.reduceAdd, Nat.reduceSub, Nat.reduceMul, Nat.reduceLeDiff, Nat.reduceEqDiff, Nat.reduceLT, Nat.reduceBEq, reduceIte, reduceCtorEq, Int.reduceToNat, Nat.reduceShiftRight, Nat.reduceAnd, Nat.reduceBneDiff, Nat.reduceBNe, q]; done))
      refine .cond (p := (!(nilI t.2.2))) (by first | rfl | simp only [wz, wd, ws, Nat.reduceAdd, Nat.reduceSub, Nat.reduceMul, Nat.reduceLeDiff, Nat.reduceEqDiff, Nat.reduceLT, Nat.reduceBEq, reduceIte, reduceCtorEq, Int.reduceToNat, Nat.reduceShiftRight, Nat.reduceAnd, Nat.reduceBneDiff, Nat.reduceBNe]) (fun h1 => ?_) (fun h1 => ?_)
      · rw [ite_t h1] at h
        refine .seq ?_
        refine Rw.walk ?_
        simp only [wz, wd, ws, Nat.reduceAdd, Nat.reduceSub, Nat.reduceMul, Nat.reduceLeDiff, Nat.reduceEqDiff, Nat.reduceLT, Nat.reduceBEq, reduceIte, reduceCtorEq, Int.reduceToNat, Nat.reduceShiftRight, Nat.reduceAnd, Nat.reduceBneDiff, Nat.reduceBNe, c27r5, semI.eq_10, semI.eq_11, semI.eq_3, semI.eq_5, semI.eq_7]
        obtain ⟨t2, e3, h⟩ := Option.bind_eq_some_iff.1 h
        refine call_fun [] false ⟨trivial, trivial, trivial⟩ rfl ?_ (f_octet_number_ok _ _ e3) (fun _ => rfl) (fun i hi => by cases hi) ?_
        · simp only [wz, wd, ws, Nat.reduceAdd, Nat.reduceSub, Nat.reduceMul, Nat.reduceLeDiff, Nat.reduceEqDiff, Nat.reduceLT, Nat.reduceBEq, reduceIte, reduceCtorEq, Int.reduceToNat, Nat.reduceShiftRight, Nat.reduceAnd, Nat.reduceBneDiff, Nat.reduceBNe]
        simp only [wz, wd, ws, Nat.reduceAdd, Nat.reduceSub, Nat.reduceMul, Nat.reduceLeDiff, Nat.reduceEqDiff, Nat.reduceLT, Nat.reduceBEq, reduceIte, reduceCtorEq, Int.reduceToNat, Nat.reduceShiftRight, Nat.reduceAnd, Nat.reduceBneDiff, Nat.reduceBNe, c27r5, semI.eq_10, semI.eq_11, semI.eq_3, semI.eq_5, semI.eq_7]
        obtain rfl := Option.some.inj h; obtain rfl := hr _ rfl
        refine .ret ?_
        rw [← hR]
        simp only [wz, wd, ws, Nat.reduceAdd, Nat.reduceSub, Nat.reduceMul, Nat.reduceLeDiff, Nat.reduceEqDiff, Nat.reduceLT, Nat.reduceBEq, reduceIte, reduceCtorEq, Int.reduceToNat, Nat.reduceShiftRight, Nat.reduceAnd, Nat.reduceBneDiff, Nat.reduceBNe, rv27]
      · rw [ite_f h1] at h
        refine .skip ?_
        refine Rw.walk ?_
        simp only [wz, wd, ws, Nat.reduceAdd, Nat.reduceSub, Nat.reduceMul, Nat.reduceLeDiff, Nat.reduceEqDiff, Nat.reduceLT, Nat.reduceBEq, reduceIte, reduceCtorEq, Int.reduceToNat, Nat.reduceShiftRight, Nat.reduceAnd, Nat.reduceBneDiff, Nat.reduceBNe, c27r6, semI.eq_10, semI.eq_11, semI.eq_3, semI.eq_5, semI.eq_7]
        refine Go1.of (sem_bsl (enc := eS) (m := ([t.1] : List Str)) eS_len (by rfl) (by rfl) (by rfl) ⟨trivial, trivial⟩) ?_
        simp only [wz, wd, ws, Nat.reduceAdd, Nat.reduceSub, Nat.reduceMul, Nat.reduceLeDiff, Nat.reduceEqDiff, Nat.reduceLT, Nat.reduceBEq, reduceIte, reduceCtorEq, Int.reduceToNat, Nat.reduceShiftRight, Nat.reduceAnd, Nat.reduceBneDiff, Nat.reduceBNe, c27r6, semI.eq_10, semI.eq_11, semI.eq_3, semI.eq_5, semI.eq_7]
        obtain ⟨g4, h⟩ := gd_iff.1 h
        refine Go1.of (sem_app (enc := eS) (l := out) (m := ([t.1] : List Str)) eS_len (by rfl) (by rfl) (newV_own (m := ([t.1] : List Str)) (by rfl) (by rfl))) ?_
        simp only [wz, wd, ws, Nat.reduceAdd, Nat.reduceSub, Nat.reduceMul, Nat.reduceLeDiff, Nat.reduceEqDiff, Nat.reduceLT, Nat.reduceBEq, reduceIte, reduceCtorEq, Int.reduceToNat, Nat.reduceShiftRight, Nat.reduceAnd, Nat.reduceBneDiff, Nat.reduceBNe, c27r6, semI.eq_10, semI.eq_11, semI.eq_3, semI.eq_5, semI.eq_7]
        repeat (refine And.intro ?_ ?_; · first | omega | (intro q; simp only [wz, wd, ws, Nat.reduceAdd, Nat.reduceSub, Nat.reduceMul, Nat.reduceLeDiff, Nat.reduceEqDiff, Nat.reduceLT, Nat.reduceBEq, reduceIte, reduceCtorEq, Int.reduceToNat, Nat.reduceShiftRight, Nat.reduceAnd, Nat.reduceBneDiff, Nat.reduceBNe, q]; done))
        refine .eblk ?_
        refine .lp ?_
        refine .weak (Imp.co [] _ _ ?_ ?_ ?_ ?_ ?_) (ih t.2.1 (out ++ ([t.1] : List Str)) _ h k_ hx hr) <;> simp only [wz, wd, ws, Nat.reduceAdd, Nat.reduceSub, Nat.reduceMul, Nat.reduceLeDiff, Nat.reduceEqDiff, Nat.reduceLT, Nat.reduceBEq, reduceIte, reduceCtorEq, Int.reduceToNat, Nat.reduceShiftRight, Nat.reduceAnd, Nat.reduceBneDiff, Nat.reduceBNe, wi, er_nil]
    · rw [ite_f h1] at h
      refine .exit rfl ?_
      obtain rfl := Option.some.inj h
      refine .weak (Imp.co [] _ _ ?_ ?_ ?_ ?_ ?_) (hx _ rfl) <;> simp only [wz, wd, ws, Nat.reduceAdd, Nat.reduceSub, Nat.reduceMul, Nat.reduceLeDiff, Nat.reduceEqDiff, Nat.reduceLT, Nat.reduceBEq, reduceIte, reduceCtorEq, Int.reduceToNat, Nat.reduceShiftRight, Nat.reduceAnd, Nat.reduceBneDiff, Nat.reduceBNe, wi, er_nil]
theorem f_octet_Loose_ok (s : Str) (y_ : (List Str) × Int) (h : f_octet_Loose s = some y_) : Fun Tryd.prog glP 27 [.b (.s (.d (.str s)))] (.tup [.s (.d (.sl (y_.1.map eS))), .s (.d (.int .i64 y_.2))]) := by
  refine fun_walk [26] Tryd.func27 Tryd.ntmps27 cc27 cr27 (by kernel_rfl) (by simp only [List.length_cons, List.length_nil]; decide) ?_
  generalize hR : Ret _ _ _ _ _ = R_
  simp only [wz, wd, ws, Nat.reduceAdd, Nat.reduceSub, Nat.reduceMul, Nat.reduceLeDiff, Nat.reduceEqDiff, Nat.reduceLT, Nat.reduceBEq, reduceIte, reduceCtorEq, Int.reduceToNat, Nat.reduceShiftRight, Nat.reduceAnd, Nat.reduceBneDiff, Nat.reduceBNe]
  unfold f_octet_Loose at h; unfold c27
  refine .seq ?_
  refine Rw.walk ?_
  simp only [wz, wd, ws, Nat.reduceAdd, Nat.reduceSub, Nat.reduceMul, Nat.reduceLeDiff, Nat.reduceEqDiff, Nat.reduceLT, Nat.reduceBEq, reduceIte, reduceCtorEq, Int.reduceToNat, Nat.reduceShiftRight, Nat.reduceAnd, Nat.reduceBneDiff, Nat.reduceBNe, c27r0, semI.eq_10, semI.eq_11, semI.eq_3, semI.eq_5, semI.eq_7]
  refine .seq ?_
  refine Rw.walk ?_
  simp only [wz, wd, ws, Nat.reduceAdd, Nat.reduceSub, Nat.reduceMul, Nat.reduceLeDiff, Nat.reduceEqDiff, Nat.reduceLT, Nat.reduceBEq, reduceIte, reduceCtorEq, Int.reduceToNat, Nat.reduceShiftRight, Nat.reduceAnd, Nat.reduceBneDiff, Nat.reduceBNe, c27r1, semI.eq_10, semI.eq_11, semI.eq_3, semI.eq_5, semI.eq_7]
  refine .seq ?_
  refine .blk ?_
  obtain ⟨s2, hf, h⟩ := Option.bind_eq_some_iff.1 h
  refine .weak (Imp.adoptN 4 26 1 rfl rfl) ?_
  simp only [wz, wd, ws, Nat.reduceAdd, Nat.reduceSub, Nat.reduceMul, Nat.reduceLeDiff, Nat.reduceEqDiff, Nat.reduceLT, Nat.reduceBEq, reduceIte, reduceCtorEq, Int.reduceToNat, Nat.reduceShiftRight, Nat.reduceAnd, Nat.reduceBneDiff, Nat.reduceBNe]
  refine .loop (.weak (Imp.co [] _ _ ?c1 ?c2 ?c3 ?c4 ?c5) (f_octet_Loose_l7_ok s _ _ hR _ _ _ _ hf _ ?_ ?_))
  case c1 | c2 | c3 | c4 | c5 => simp only [wz, wd, ws, Nat.reduceAdd, Nat.reduceSub, Nat.reduceMul, Nat.reduceLeDiff, Nat.reduceEqDiff, Nat.reduceLT, Nat.reduceBEq, reduceIte, reduceCtorEq, Int.reduceToNat, Nat.reduceShiftRight, Nat.reduceAnd, Nat.reduceBneDiff, Nat.reduceBNe, wi, er_nil]
  · intro s3 hs; subst hs; dsimp only at h
    refine .seq ?_
    refine Rw.walk ?_
    simp only [wz, wd, ws, Nat.reduceAdd, Nat.reduceSub, Nat.reduceMul, Nat.reduceLeDiff, Nat.reduceEqDiff, Nat.reduceLT, Nat.reduceBEq, reduceIte, reduceCtorEq, Int.reduceToNat, Nat.reduceShiftRight, Nat.reduceAnd, Nat.reduceBneDiff, Nat.reduceBNe, c27r7, semI.eq_10, semI.eq_11, semI.eq_3, semI.eq_5, semI.eq_7]
    obtain rfl := Option.some.inj h
    refine .ret ?_
    rw [← hR]
    simp only [wz, wd, ws, Nat.reduceAdd, Nat.reduceSub, Nat.reduceMul, Nat.reduceLeDiff, Nat.reduceEqDiff, Nat.reduceLT, Nat.reduceBEq, reduceIte, reduceCtorEq, Int.reduceToNat, Nat.reduceShiftRight, Nat.reduceAnd, Nat.reduceBneDiff, Nat.reduceBNe, rv27]
  · intro z hz; subst hz; dsimp only at h
    exact Option.some.inj h
-- 50 consignor/consignorref01.Whole
def c50r0 : List Opn := [
  ⟨(some 2), none, .mv (.c (.s (.d (.int .u64 0))))⟩]
def c50r1 : List Opn := [
  ⟨(some 3), none, .mv (.c (.s (.d (.int .u64 0))))⟩]
def c50r2 : List Opn := [
  ⟨(some 5), none, .mv (.t 0)⟩, 
  ⟨(some 6), none, .len .str (.t 5)⟩, 
  ⟨(some 7), none, .bin .sub (.t 6) (.c (.s (.d (.int .i64 1))))⟩, 
  ⟨(some 4), none, .mv (.t 7)⟩]
def c50r3 : List Opn := [
  ⟨(some 8), none, .mv (.t 4)⟩, 
  ⟨(some 9), none, .bin .geq (.t 8) (.c (.s (.d (.int .i64 0))))⟩]
def c50r5 : List Opn := [
  ⟨(some 12), none, .mv (.t 3)⟩, 
  ⟨(some 13), none, .bin .mul (.c (.s (.d (.int .u64 256)))) (.t 12)⟩, 
  ⟨(some 14), none, .mv (.t 0)⟩, 
  ⟨(some 15), none, .mv (.t 4)⟩, 
  ⟨(some 16), none, .idx .str (.t 14) (.t 15)⟩, 
  ⟨(some 17), none, .cv (.toInt .u64) (.t 16)⟩, 
  ⟨(some 18), none, .bin .add (.t 13) (.t 17)⟩, 
  ⟨(some 3), none, .mv (.t 18)⟩]
def c50r4 : List Opn := [
  ⟨(some 10), none, .mv (.t 4)⟩, 
  ⟨(some 11), none, .bin .sub (.t 10) (.c (.s (.d (.int .i64 1))))⟩, 
  ⟨(some 4), none, .mv (.t 11)⟩]
def c50l6 : C := .seq (.seq (.reg c50r3 none [0, 3, 4, 9]) (.cond (.t 9) (.skip) (.exit 0))) (.seq (.blk 1 (.reg c50r5 none [0, 3, 4])) (.reg c50r4 none [0, 3, 4]))
def c50r6 : List Opn := [
  ⟨(some 19), none, .mv (.t 3)⟩, 
  ⟨(some 2), none, .mv (.t 19)⟩]
def c50 : C := .seq (.reg c50r0 none [0]) (.seq (.reg c50r1 none [0, 3]) (.seq (.seq (.reg c50r2 none [0, 3, 4]) (.blk 0 (.loop c50l6))) (.seq (.reg c50r6 none [2]) (.ret))))
def k50 : List (Nat × List Nat) := [(6, [2]), (4, [0, 3, 4]), (5, [0, 3, 4]), (3, [0, 3, 4, 9]), (2, [0, 3, 4]), (1, [0, 3]), (0, [0])]
theorem cc50 : (Tryd.f50.body).bind (cC Tryd.prog 20 k50) = some c50 := by kernel_rfl
def rv50 : List RV := [.t 2]
theorem cr50 : cRVs Tryd.prog Tryd.f50.results.toList = some rv50 := by kernel_rfl
theorem f_ref01_Whole_l6_ok (s : Str) (y_ : Int) (R_ : St → Prop) (hR : (Ret Tryd.prog glP [] rv50 (.b (.s (.d (.int .u64 y_))))) = R_) : ∀ (m_ : Nat) (n : Int) (i : Int) (res_ : Int × Int) (h : f_ref01_Whole_l6 s m_ n i = some res_) (k_ : List It) (hx : ∀ s_ : Int × Int, res_ = s_ → W Tryd.prog glP 20 k_ ⟨lkT [(0, .b (.s (.d (.str s)))), (3, .b (.s (.d (.int .u64 s_.1)))), (4, .b (.s (.d (.int .i64 s_.2))))], lkG []⟩ R_), W Tryd.prog glP 20 (.c c50l6 :: .lp c50l6 :: .blk 0 :: k_) ⟨lkT [(0, .b (.s (.d (.str s)))), (3, .b (.s (.d (.int .u64 n)))), (4, .b (.s (.d (.int .i64 i))))], lkG []⟩ R_ := by
  intro m_; induction m_ with
  | zero => intro n i res_ h; rw [f_ref01_Whole_l6.eq_1] at h; cases h
  | succ m_ ih =>
    intro n i res_ h k_ hx; rw [f_ref01_Whole_l6.eq_2] at h; refine W.cdef c50l6.eq_1 ?_
    refine .seq ?_
    refine .seq ?_
    refine Rw.walk ?_
    simp only [wz, wd, ws, Nat.reduceAdd, Nat.reduceSub, Nat.reduceMul, Nat.reduceLeDiff, Nat.reduceEqDiff, Nat.reduceLT, Nat.reduceBEq, reduceIte, reduceCtorEq, Int.reduceToNat, Nat.reduceShiftRight, Nat.reduceAnd, Nat.reduceBneDiff, Nat.reduceBNe, c50r3, semI.eq_10, semI.eq_11, semI.eq_3, semI.eq_5, semI.eq_7]
    refine .cond (p := (decide (i ≥ 0))) (by first | rfl | simp only [wz, wd, ws, Nat.reduceAdd, Nat.reduceSub, Nat.reduceMul, Nat.reduceLeDiff, Nat.reduceEqDiff, Nat.reduceLT, Nat.reduceBEq, reduceIte, reduceCtorEq, Int.reduceToNat, Nat.reduceShiftRight, Nat.reduceAnd, Nat.reduceBneDiff, Nat.reduceBNe]) (fun h1 => ?_) (fun h1 => ?_)
    · rw [ite_t h1] at h
      refine .skip ?_
      refine .seq ?_
      refine .blk ?_
      refine Rw.walk ?_
      simp only [wz, wd, ws, Nat.reduceAdd, Nat.reduceSub, Nat.reduceMul, Nat.reduceLeDiff, Nat.reduceEqDiff, Nat.reduceLT, Nat.reduceBEq, reduceIte, reduceCtorEq, Int.reduceToNat, Nat.reduceShiftRight, Nat.reduceAnd, Nat.reduceBneDiff, Nat.reduceBNe, c50r5, semI.eq_10, semI.eq_11, semI.eq_3, semI.eq_5, semI.eq_7]
      obtain ⟨c, e1, h⟩ := Option.bind_eq_some_iff.1 h
      refine Go1.of (sem_idx e1 (by rfl) (by rfl)) ?_
      simp only [wz, wd, ws, Nat.reduceAdd, Nat.reduceSub, Nat.reduceMul, Nat.reduceLeDiff, Nat.reduceEqDiff, Nat.reduceLT, Nat.reduceBEq, reduceIte, reduceCtorEq, Int.reduceToNat, Nat.reduceShiftRight, Nat.reduceAnd, Nat.reduceBneDiff, Nat.reduceBNe, c50r5, semI.eq_10, semI.eq_11, semI.eq_3, semI.eq_5, semI.eq_7]
      refine .eblk ?_
      refine Rw.walk ?_
      simp only [wz, wd, ws, Nat.reduceAdd, Nat.reduceSub, Nat.reduceMul, Nat.reduceLeDiff, Nat.reduceEqDiff, Nat.reduceLT, Nat.reduceBEq, reduceIte, reduceCtorEq, Int.reduceToNat, Nat.reduceShiftRight, Nat.reduceAnd, Nat.reduceBneDiff, Nat.reduceBNe, c50r4, semI.eq_10, semI.eq_11, semI.eq_3, semI.eq_5, semI.eq_7]
      refine .lp ?_
      refine .weak (Imp.co [] _ _ ?_ ?_ ?_ ?_ ?_) (ih (IntKind.u64.wrap ((IntKind.u64.wrap (256 * n)) + (IntKind.u64.wrap (bn c)))) (IntKind.i64.wrap (i - 1)) _ h k_ hx) <;> simp only [wz, wd, ws, Nat.reduceAdd, Nat.reduceSub, Nat.reduceMul, Nat.reduceLeDiff, Nat.reduceEqDiff, Nat.reduceLT, Nat.reduceBEq, reduceIte, reduceCtorEq, Int.reduceToNat, Nat.reduceShiftRight, Nat.reduceAnd, Nat.reduceBneDiff, Nat.reduceBNe, wi, er_nil]
    · rw [ite_f h1] at h
      refine .exit rfl ?_
      obtain rfl := Option.some.inj h
      refine .weak (Imp.co [] _ _ ?_ ?_ ?_ ?_ ?_) (hx _ rfl) <;> simp only [wz, wd, ws, Nat.reduceAdd, Nat.reduceSub, Nat.reduceMul, Nat.reduceLeDiff, Nat.reduceEqDiff, Nat.reduceLT, Nat.reduceBEq, reduceIte, reduceCtorEq, Int.reduceToNat, Nat.reduceShiftRight, Nat.reduceAnd, Nat.reduceBneDiff, Nat.reduceBNe, wi, er_nil]
theorem f_ref01_Whole_ok (s : Str) (y_ : Int) (h : f_ref01_Whole s = some y_) : Fun Tryd.prog glP 50 [.b (.s (.d (.str s)))] (.b (.s (.d (.int .u64 y_)))) := by
  refine fun_walk [] Tryd.func50 Tryd.ntmps50 cc50 cr50 (by kernel_rfl) (by simp only [List.length_cons, List.length_nil]; decide) ?_
  generalize hR : Ret _ _ _ _ _ = R_
  simp only [wz, wd, ws, Nat.reduceAdd, Nat.reduceSub, Nat.reduceMul, Nat.reduceLeDiff, Nat.reduceEqDiff, Nat.reduceLT, Nat.reduceBEq, reduceIte, reduceCtorEq, Int.reduceToNat, Nat.reduceShiftRight, Nat.reduceAnd, Nat.reduceBneDiff, Nat.reduceBNe]
  unfold f_ref01_Whole at h; unfold c50
  refine .seq ?_
  refine Rw.walk ?_
  simp only [wz, wd, ws, Nat.reduceAdd, Nat.reduceSub, Nat.reduceMul, Nat.reduceLeDiff, Nat.reduceEqDiff, Nat.reduceLT, Nat.reduceBEq, reduceIte, reduceCtorEq, Int.reduceToNat, Nat.reduceShiftRight, Nat.reduceAnd, Nat.reduceBneDiff, Nat.reduceBNe, c50r0, semI.eq_10, semI.eq_11, semI.eq_3, semI.eq_5, semI.eq_7]
  refine .seq ?_
  refine Rw.walk ?_
  simp only [wz, wd, ws, Nat.reduceAdd, Nat.reduceSub, Nat.reduceMul, Nat.reduceLeDiff, Nat.reduceEqDiff, Nat.reduceLT, Nat.reduceBEq, reduceIte, reduceCtorEq, Int.reduceToNat, Nat.reduceShiftRight, Nat.reduceAnd, Nat.reduceBneDiff, Nat.reduceBNe, c50r1, semI.eq_10, semI.eq_11, semI.eq_3, semI.eq_5, semI.eq_7]
  refine .seq ?_
  refine .seq ?_
  refine Rw.walk ?_
  simp only [wz, wd, ws, Nat.reduceAdd, Nat.reduceSub, Nat.reduceMul, Nat.reduceLeDiff, Nat.reduceEqDiff, Nat.reduceLT, Nat.reduceBEq, reduceIte, reduceCtorEq, Int.reduceToNat, Nat.reduceShiftRight, Nat.reduceAnd, Nat.reduceBneDiff, Nat.reduceBNe, c50r2, semI.eq_10, semI.eq_11, semI.eq_3, semI.eq_5, semI.eq_7]
  refine .blk ?_
  obtain ⟨s2, hf, h⟩ := Option.bind_eq_some_iff.1 h
  refine .loop (.weak (Imp.co [] _ _ ?c1 ?c2 ?c3 ?c4 ?c5) (f_ref01_Whole_l6_ok s _ _ hR _ _ _ _ hf _ ?_))
  case c1 | c2 | c3 | c4 | c5 => simp only [wz, wd, ws, Nat.reduceAdd, Nat.reduceSub, Nat.reduceMul, Nat.reduceLeDiff, Nat.reduceEqDiff, Nat.reduceLT, Nat.reduceBEq, reduceIte, reduceCtorEq, Int.reduceToNat, Nat.reduceShiftRight, Nat.reduceAnd, Nat.reduceBneDiff, Nat.reduceBNe, wi, er_nil]
  · intro s2_ hs; subst hs
    refine .seq ?_
    refine Rw.walk ?_
    simp only [wz, wd, ws, Nat.reduceAdd, Nat.reduceSub, Nat.reduceMul, Nat.reduceLeDiff, Nat.reduceEqDiff, Nat.reduceLT, Nat.reduceBEq, reduceIte, reduceCtorEq, Int.reduceToNat, Nat.reduceShiftRight, Nat.reduceAnd, Nat.reduceBneDiff, Nat.reduceBNe, c50r6, semI.eq_10, semI.eq_11, semI.eq_3, semI.eq_5, semI.eq_7]
    obtain rfl := Option.some.inj h
    refine .ret ?_
    rw [← hR]
    simp only [wz, wd, ws, Nat.reduceAdd, Nat.reduceSub, Nat.reduceMul, Nat.reduceLeDiff, Nat.reduceEqDiff, Nat.reduceLT, Nat.reduceBEq, reduceIte, reduceCtorEq, Int.reduceToNat, Nat.reduceShiftRight, Nat.reduceAnd, Nat.reduceBneDiff, Nat.reduceBNe, rv50]
-- 28 consignor/consignorref01.Loose
def c28r0 : List Opn := [
  ⟨(some 2), none, .mv (.c (.s .nils))⟩, 
  ⟨(some 3), none, .mv (.c (.s (.d (.int .i64 0))))⟩]
def c28r1 : List Opn := [
  ⟨(some 6), none, .bsl 1 []⟩, 
  ⟨(some 4), none, .mv (.t 6)⟩]
def c28r2 : List Opn := [
  ⟨(some 7), none, .mv (.t 0)⟩, 
  ⟨(some 8), none, .len .str (.t 7)⟩, 
  ⟨(some 9), none, .bin .gtr (.t 8) (.c (.s (.d (.int .i64 0))))⟩]
def c28r3 : List Opn := [
  ⟨(some 10), none, .mv (.t 0)⟩, 
  ⟨(some 11), none, .len .str (.t 10)⟩, 
  ⟨(some 12), none, .bin .lss (.t 11) (.c (.s (.d (.int .i64 2))))⟩]
def c28r4 : List Opn := [
  ⟨(some 2), none, .mv (.c (.s .nils))⟩, 
  ⟨(some 3), none, .mv (.c (.s (.d (.int .i64 3))))⟩]
def c28r5 : List Opn := [
  ⟨(some 13), none, .mv (.t 0)⟩, 
  ⟨(some 14), none, .slc .str (.t 13) none (some (.c (.s (.d (.int .i64 2))))) none⟩, 
  ⟨(some 15), none, .call (.fn 50) [(.t 14)]⟩, 
  ⟨(some 16), none, .cv (.toInt .i64) (.t 15)⟩, 
  ⟨(some 5), none, .mv (.t 16)⟩]
def c28r6 : List Opn := [
  ⟨(some 17), none, .mv (.t 0)⟩, 
  ⟨(some 18), none, .slc .str (.t 17) (some (.c (.s (.d (.int .i64 2))))) none none⟩, 
  ⟨(some 0), none, .mv (.t 18)⟩]
def c28r7 : List Opn := [
  ⟨(some 19), none, .mv (.t 5)⟩, 
  ⟨(some 20), none, .bin .gtr (.t 19) (.c (.s (.d (.int .i64 4096))))⟩, 
  ⟨(some 21), none, .mv (.t 20)⟩, 
  ⟨(some 22), some (21, false), .mv (.t 4)⟩, 
  ⟨(some 23), some (21, false), .len (.sl 0) (.t 22)⟩, 
  ⟨(some 24), some (21, false), .bin .eql (.t 23) (.c (.s (.d (.int .i64 64))))⟩, 
  ⟨(some 25), none, .pick (.t 21) (.c (.s (.d (.bool true)))) (.t 24)⟩]
def c28r8 : List Opn := [
  ⟨(some 2), none, .mv (.c (.s .nils))⟩, 
  ⟨(some 3), none, .mv (.c (.s (.d (.int .i64 2))))⟩]
def c28r9 : List Opn := [
  ⟨(some 26), none, .mv (.t 5)⟩, 
  ⟨(some 27), none, .mv (.t 0)⟩, 
  ⟨(some 28), none, .len .str (.t 27)⟩, 
  ⟨(some 29), none, .bin .gtr (.t 26) (.t 28)⟩]
def c28r10 : List Opn := [
  ⟨(some 2), none, .mv (.c (.s .nils))⟩, 
  ⟨(some 3), none, .mv (.c (.s (.d (.int .i64 3))))⟩]
def c28r11 : List Opn := [
  ⟨(some 30), none, .mv (.t 4)⟩, 
  ⟨(some 31), none, .mv (.t 0)⟩, 
  ⟨(some 32), none, .mv (.t 5)⟩, 
  ⟨(some 33), none, .slc .str (.t 31) none (some (.t 32)) none⟩, 
  ⟨(some 34), none, .bsl 1 [(.t 33)]⟩, 
  ⟨(some 35), none, .app 1 16 false (.t 30) (.t 34)⟩, 
  ⟨(some 4), none, .mv (.t 35)⟩]
def c28r12 : List Opn := [
  ⟨(some 36), none, .mv (.t 0)⟩, 
  ⟨(some 37), none, .mv (.t 5)⟩, 
  ⟨(some 38), none, .slc .str (.t 36) (some (.t 37)) none none⟩, 
  ⟨(some 0), none, .mv (.t 38)⟩]
def c28l13 : C := .seq (.seq (.reg c28r2 none [0, 4, 9]) (.cond (.t 9) (.skip) (.exit 0))) (.blk 1 (.seq (.seq (.reg c28r3 none [0, 4, 12]) (.cond (.t 12) (.seq (.reg c28r4 none [2, 3]) (.ret)) (.skip))) (.seq (.reg c28r5 none [0, 4, 5]) (.seq (.reg c28r6 none [0, 4, 5]) (.seq (.seq (.reg c28r7 none [0, 4, 5, 25]) (.cond (.t 25) (.seq (.reg c28r8 none [2, 3]) (.ret)) (.skip))) (.seq (.seq (.reg c28r9 none [0, 4, 5, 29]) (.cond (.t 29) (.seq (.reg c28r10 none [2, 3]) (.ret)) (.skip))) (.seq (.reg c28r11 none [0, 4, 5]) (.reg c28r12 none [0, 4]))))))))
def c28r13 : List Opn := [
  ⟨(some 39), none, .mv (.t 4)⟩, 
  ⟨(some 2), none, .mv (.t 39)⟩, 
  ⟨(some 3), none, .mv (.c (.s (.d (.int .i64 0))))⟩]
def c28 : C := .seq (.reg c28r0 none [0]) (.seq (.reg c28r1 none [0, 4]) (.seq (.blk 0 (.loop c28l13)) (.seq (.reg c28r13 none [2, 3]) (.ret))))
def k28 : List (Nat × List Nat) := [(13, [2, 3]), (12, [0, 4]), (11, [0, 4, 5]), (10, [2, 3]), (9, [0, 4, 5, 29]), (8, [2, 3]), (7, [0, 4, 5, 25]), (6, [0, 4, 5]), (5, [0, 4, 5]), (4, [2, 3]), (3, [0, 4, 12]), (2, [0, 4, 9]), (1, [0, 4]), (0, [0])]
theorem cc28 : (Tryd.f28.body).bind (cC Tryd.prog 40 k28) = some c28 := by kernel_rfl
def rv28 : List RV := [.t 2, .t 3]
theorem cr28 : cRVs Tryd.prog Tryd.f28.results.toList = some rv28 := by kernel_rfl
theorem f_ref01_Loose_l13_ok (s : Str) (y_ : (List Str) × Int) (R_ : St → Prop) (hR : (Ret Tryd.prog glP [6] rv28 (.tup [.s (.d (.sl (y_.1.map eS))), .s (.d (.int .i64 y_.2))])) = R_) : ∀ (m_ : Nat) (s2 : Str) (out : (List Str)) (res_ : (Str × (List Str)) ⊕ ((List Str) × Int)) (h : f_ref01_Loose_l13 s m_ s2 out = some res_) (k_ : List It) (hx : ∀ s_ : Str × (List Str), res_ = .inl s_ → W Tryd.prog glP 40 k_ ⟨lkT [(0, .b (.s (.d (.str s_.1)))), (4, .b (.s (.own 6 s_.2.length)))], lkG [(6, ⟨1, er eS s_.2, false⟩)]⟩ R_) (hr : ∀ z_ : (List Str) × Int, res_ = .inr z_ → z_ = y_), W Tryd.prog glP 40 (.c c28l13 :: .lp c28l13 :: .blk 0 :: k_) ⟨lkT [(0, .b (.s (.d (.str s2)))), (4, .b (.s (.own 6 out.length)))], lkG [(6, ⟨1, er eS out, false⟩)]⟩ R_ := by
  intro m_; induction m_ with
  | zero => intro s2 out res_ h; rw [f_ref01_Loose_l13.eq_1] at h; cases h
  | succ m_ ih =>
    intro s2 out res_ h k_ hx hr; rw [f_ref01_Loose_l13.eq_2] at h; refine W.cdef c28l13.eq_1 ?_
    refine .seq ?_
    refine .seq ?_
    refine Rw.walk ?_
    simp only [wz, wd, ws, Nat.reduceAdd, Nat.reduceSub, Nat.reduceMul, Nat.reduceLeDiff, Nat.reduceEqDiff, Nat.reduceLT, Nat.reduceBEq, reduceIte, reduceCtorEq, Int.reduceToNat, Nat.reduceShiftRight, Nat.reduceAnd, Nat.reduceBneDiff, Nat.reduceBNe, c28r2, semI.eq_10, semI.eq_11, semI.eq_3, semI.eq_5, semI.eq_7]
    refine .cond (p := (decide ((s2.length : Int) > 0))) (by first | rfl | simp only [wz, wd, ws, Nat.reduceAdd, Nat.reduceSub, Nat.reduceMul, Nat.reduceLeDiff, Nat.reduceEqDiff, Nat.reduceLT, Nat.reduceBEq, reduceIte, reduceCtorEq, Int.reduceToNat, Nat.reduceShiftRight, Nat.reduceAnd, Nat.reduceBneDiff, Nat.reduceBNe]) (fun h1 => ?_) (fun h1 => ?_)
    · rw [ite_t h1] at h
      refine .skip ?_
      refine .blk ?_
      refine .seq ?_
      refine .seq ?_
      refine Rw.walk ?_
      simp only [wz, wd, ws, Nat.reduceAdd, Nat.reduceSub, Nat.reduceMul, Nat.reduceLeDiff, Nat.reduceEqDiff, Nat.reduceLT, Nat.reduceBEq, reduceIte, reduceCtorEq, Int.reduceToNat, Nat.reduceShiftRight, Nat.reduceAnd, Nat.reduceBneDiff, Nat.reduceBNe, c28r3, semI.eq_10, semI.eq_11, semI.eq_3, semI.eq_5, semI.eq_7]
      refine .cond (p := (decide ((s2.length : Int) < 2))) (by first | rfl | simp only [wz, wd, ws, Nat.reduceAdd, Nat.reduceSub, Nat.reduceMul, Nat.reduceLeDiff, Nat.reduceEqDiff, Nat.reduceLT, Nat.reduceBEq, reduceIte, reduceCtorEq, Int.reduceToNat, Nat.reduceShiftRight, Nat.reduceAnd, Nat.reduceBneDiff, Nat.reduceBNe]) (fun h1 => ?_) (fun h1 => ?_)
      · rw [ite_t h1] at h
        refine .seq ?_
        refine Rw.walk ?_
        simp only [wz, wd, ws, Nat.reduceAdd, Nat.reduceSub, Nat.reduceMul, Nat.reduceLeDiff, Nat.reduceEqDiff, Nat.reduceLT, Nat.reduceBEq, reduceIte, reduceCtorEq, Int.reduceToNat, Nat.reduceShiftRight, Nat.reduceAnd, Nat.reduceBneDiff, Nat.reduceBNe, c28r4, semI.eq_10, semI.eq_11, semI.eq_3, semI.eq_5, semI.eq_7]
        obtain rfl := Option.some.inj h; obtain rfl := hr _ rfl
        refine .ret ?_
        rw [← hR]
        simp only [wz, wd, ws, Nat.reduceAdd, Nat.reduceSub, Nat.reduceMul, Nat.reduceLeDiff, Nat.reduceEqDiff, Nat.reduceLT, Nat.reduceBEq, reduceIte, reduceCtorEq, Int.reduceToNat, Nat.reduceShiftRight, Nat.reduceAnd, Nat.reduceBneDiff, Nat.reduceBNe, rv28]
      · rw [ite_f h1] at h
        refine .skip ?_
        refine .seq ?_
        refine Rw.walk ?_
        obtain ⟨g1, h⟩ := gd_iff.1 h
        simp only [wz, wd, ws, Nat.reduceAdd, Nat.reduceSub, Nat.reduceMul, Nat.reduceLeDiff, Nat.reduceEqDiff, Nat.reduceLT, Nat.reduceBEq, reduceIte, reduceCtorEq, Int.reduceToNat, Nat.reduceShiftRight, Nat.reduceAnd, Nat.reduceBneDiff, Nat.reduceBNe, c28r5, semI.eq_10, semI.eq_11, semI.eq_3, semI.eq_5, semI.eq_7]
        repeat (refine And.intro ?_ ?_; · first | omega | (intro q; simp only [wz, wd, ws, Nat.reduceAdd, Nat.reduceSub, Nat.reduceMul, Nat.reduceLeDiff, Nat.reduceEqDiff, Nat.reduceLT, Nat.reduceBEq, reduceIte, reduceCtorEq, Int.reduceToNat, Nat.reduceShiftRight, Nat.reduceAnd, Nat.reduceBneDiff, Nat.reduceBNe, q]; done))
        obtain ⟨t, e2, h⟩ := Option.bind_eq_some_iff.1 h
        refine call_fun [] false ⟨trivial, trivial, trivial⟩ rfl ?_ (f_ref01_Whole_ok _ _ e2) (fun _ => rfl) (fun i hi => by cases hi) ?_
        · simp only [wz, wd, ws, Nat.reduceAdd, Nat.reduceSub, Nat.reduceMul, Nat.reduceLeDiff, Nat.reduceEqDiff, Nat.reduceLT, Nat.reduceBEq, reduceIte, reduceCtorEq, Int.reduceToNat, Nat.reduceShiftRight, Nat.reduceAnd, Nat.reduceBneDiff, Nat.reduceBNe]
        simp only [wz, wd, ws, Nat.reduceAdd, Nat.reduceSub, Nat.reduceMul, Nat.reduceLeDiff, Nat.reduceEqDiff, Nat.reduceLT, Nat.reduceBEq, reduceIte, reduceCtorEq, Int.reduceToNat, Nat.reduceShiftRight, Nat.reduceAnd, Nat.reduceBneDiff, Nat.reduceBNe, c28r5, semI.eq_10, semI.eq_11, semI.eq_3, semI.eq_5, semI.eq_7]
        refine .seq ?_
        refine Rw.walk ?_
        obtain ⟨g3, h⟩ := gd_iff.1 h
        simp only [wz, wd, ws, Nat.reduceAdd, Nat.reduceSub, Nat.reduceMul, Nat.reduceLeDiff, Nat.reduceEqDiff, Nat.reduceLT, Nat.reduceBEq, reduceIte, reduceCtorEq, Int.reduceToNat, Nat.reduceShiftRight, Nat.reduceAnd, Nat.reduceBneDiff, Nat.reduceBNe, c28r6, semI.eq_10, semI.eq_11, semI.eq_3, semI.eq_5, semI.eq_7]
        repeat (refine And.intro ?_ ?_; · first | omega | (intro q; simp only [wz, wd, ws, Nat.reduceAdd, Nat.reduceSub, Nat.reduceMul, Nat.reduceLeDiff, Nat.reduceEqDiff, Nat.reduceLT, Nat.reduceBEq, reduceIte, reduceCtorEq, Int.reduceToNat, Nat.reduceShiftRight, Nat.reduceAnd, Nat.reduceBneDiff, Nat.reduceBNe, q]; done))
        refine .seq ?_
        refine .seq ?_
        refine Rw.walk ?_
        simp only [wz, wd, ws, Nat.reduceAdd, Nat.reduceSub, Nat.reduceMul, Nat.reduceLeDiff, Nat.reduceEqDiff, Nat.reduceLT, Nat.reduceBEq, reduceIte, reduceCtorEq, Int.reduceToNat, Nat.reduceShiftRight, Nat.reduceAnd, Nat.reduceBneDiff, Nat.reduceBNe, c28r7, semI.eq_10, semI.eq_11, semI.eq_3, semI.eq_5, semI.eq_7]
        repeat (refine And.intro ?_ ?_; · first | omega | (intro q; simp only [wz, wd, ws, Nat.reduceAdd, Nat.reduceSub, Nat.reduceMul, Nat.reduceLeDiff, Nat.reduceEqDiff, Nat.reduceLT, Nat.reduceBEq, reduceIte, reduceCtorEq, Int.reduceToNat, Nat.reduceShiftRight, Nat.reduceAnd, Nat.reduceBneDiff, Nat.reduceBNe, q]; done))
        refine .cond (p := ((decide ((IntKind.i64.wrap t) > 4096)) || ((out.length : Int) == 64))) (by first | rfl | simp only [wz, wd, ws, Nat.reduceAdd, Nat.reduceSub, Nat.reduceMul, Nat.reduceLeDiff, Nat.reduceEqDiff, Nat.reduceLT, Nat.reduceBEq, reduceIte, reduceCtorEq, Int.reduceToNat, Nat.reduceShiftRight, Nat.reduceAnd, Nat.reduceBneDiff, Nat.reduceBNe]) (fun h1 => ?_) (fun h1 => ?_)
        · rw [ite_t h1] at h
          refine .seq ?_
          refine Rw.walk ?_
          simp only [wz, wd, ws, Nat.reduceAdd, Nat.reduceSub, Nat.reduceMul, Nat.reduceLeDiff, Nat.reduceEqDiff, Nat.reduceLT, Nat.reduceBEq, reduceIte, reduceCtorEq, Int.reduceToNat, Nat.reduceShiftRight, Nat.reduceAnd, Nat.reduceBneDiff, Nat.reduceBNe, c28r8, semI.eq_10, semI.eq_11, semI.eq_3, semI.eq_5, semI.eq_7]
          obtain rfl := Option.some.inj h; obtain rfl := hr _ rfl
          refine .ret ?_
          rw [← hR]
          simp only [wz, wd, ws, Nat.reduceAdd, Nat.reduceSub, Nat.reduceMul, Nat.reduceLeDiff, Nat.reduceEqDiff, Nat.reduceLT, Nat.reduceBEq, reduceIte, reduceCtorEq, Int.reduceToNat, Nat.reduceShiftRight, Nat.reduceAnd, Nat.reduceBneDiff, Nat.reduceBNe, rv28]
        · rw [ite_f h1] at h
          refine .skip ?_
          refine .seq ?_
          refine .seq ?_
          refine Rw.walk ?_
          simp only [wz, wd, ws, Nat.reduceAdd, Nat.reduceSub, Nat.reduceMul, Nat.reduceLeDiff, Nat.reduceEqDiff, Nat.reduceLT, Nat.reduceBEq, reduceIte, reduceCtorEq, Int.reduceToNat, Nat.reduceShiftRight, Nat.reduceAnd, Nat.reduceBneDiff, Nat.reduceBNe, c28r9, semI.eq_10, semI.eq_11, semI.eq_3, semI.eq_5, semI.eq_7]
          refine .cond (p := (decide ((IntKind.i64.wrap t) > ((cut s2 2 (s2.length : Int)).length : Int)))) (by first | rfl | simp only [wz, wd, ws, Nat.reduceAdd, Nat.reduceSub, Nat.reduceMul, Nat.reduceLeDiff, Nat.reduceEqDiff, Nat.reduceLT, Nat.reduceBEq, reduceIte, reduceCtorEq, Int.reduceToNat, Nat.reduceShiftRight, Nat.reduceAnd, Nat.reduceBneDiff, Nat.reduceBNe]) (fun h1 => ?_) (fun h1 => ?_)
          · rw [ite_t h1] at h
            refine .seq ?_
            refine Rw.walk ?_
            simp only [wz, wd, ws, Nat.reduceAdd, Nat.reduceSub, Nat.reduceMul, Nat.reduceLeDiff, Nat.reduceEqDiff, Nat.reduceLT, Nat.reduceBEq, reduceIte, reduceCtorEq, Int.reduceToNat, Nat.reduceShiftRight, Nat.reduceAnd, Nat.reduceBneDiff, Nat.reduceBNe, c28r10, semI.eq_10, semI.eq_11, semI.eq_3, semI.eq_5, semI.eq_7]
            obtain rfl := Option.some.inj h; obtain rfl := hr _ rfl
            refine .ret ?_
            rw [← hR]
            simp only [wz, wd, ws, Nat.reduceAdd, Nat.reduceSub, Nat.reduceMul, Nat.reduceLeDiff, Nat.reduceEqDiff, Nat.reduceLT, Nat.reduceBEq, reduceIte, reduceCtorEq, Int.reduceToNat, Nat.reduceShiftRight, Nat.reduceAnd, Nat.reduceBneDiff, Nat.reduceBNe, rv28]
          · rw [ite_f h1] at h
            refine .skip ?_
            refine .seq ?_
            refine Rw.walk ?_
            obtain ⟨g4, h⟩ := gd_iff.1 h
            simp only [wz, wd, ws, Nat.reduceAdd, Nat.reduceSub, Nat.reduceMul, Nat.reduceLeDiff, Nat.reduceEqDiff, Nat.reduceLT, Nat.reduceBEq, reduceIte, reduceCtorEq, Int.reduceToNat, Nat.reduceShiftRight, Nat.reduceAnd, Nat.reduceBneDiff, Nat.reduceBNe, c28r11, semI.eq_10, semI.eq_11, semI.eq_3, semI.eq_5, semI.eq_7]
            repeat (refine And.intro ?_ ?_; · first | omega | (intro q; simp only [wz, wd, ws, Nat.reduceAdd, Nat.reduceSub, Nat.reduceMul, Nat.reduceLeDiff, Nat.reduceEqDiff, Nat.reduceLT, Nat.reduceBEq, reduceIte, reduceCtorEq, Int.reduceToNat, Nat.reduceShiftRight, Nat.reduceAnd, Nat.reduceBneDiff, Nat.reduceBNe, q]; done))
            refine Go1.of (sem_bsl (enc := eS) (m := ([(cut (cut s2 2 (s2.length : Int)) 0 (IntKind.i64.wrap t))] : List Str)) eS_len (by rfl) (by rfl) (by rfl) ⟨trivial, trivial⟩) ?_
            simp only [wz, wd, ws, Nat.reduceAdd, Nat.reduceSub, Nat.reduceMul, Nat.reduceLeDiff, Nat.reduceEqDiff, Nat.reduceLT, Nat.reduceBEq, reduceIte, reduceCtorEq, Int.reduceToNat, Nat.reduceShiftRight, Nat.reduceAnd, Nat.reduceBneDiff, Nat.reduceBNe, c28r11, semI.eq_10, semI.eq_11, semI.eq_3, semI.eq_5, semI.eq_7]
            obtain ⟨g5, h⟩ := gd_iff.1 h
            refine Go1.of (sem_app (enc := eS) (l := out) (m := ([(cut (cut s2 2 (s2.length : Int)) 0 (IntKind.i64.wrap t))] : List Str)) eS_len (by rfl) (by rfl) (newV_own (m := ([(cut (cut s2 2 (s2.length : Int)) 0 (IntKind.i64.wrap t))] : List Str)) (by rfl) (by rfl))) ?_
            simp only [wz, wd, ws, Nat.reduceAdd, Nat.reduceSub, Nat.reduceMul, Nat.reduceLeDiff, Nat.reduceEqDiff, Nat.reduceLT, Nat.reduceBEq, reduceIte, reduceCtorEq, Int.reduceToNat, Nat.reduceShiftRight, Nat.reduceAnd, Nat.reduceBneDiff, Nat.reduceBNe, c28r11, semI.eq_10, semI.eq_11, semI.eq_3, semI.eq_5, semI.eq_7]
            repeat (refine And.intro ?_ ?_; · first | omega | (intro q; simp only [wz, wd, ws, Nat.reduceAdd, Nat.reduceSub, Nat.reduceMul, Nat.reduceLeDiff, Nat.reduceEqDiff, Nat.reduceLT, Nat.reduceBEq, reduceIte, reduceCtorEq, Int.reduceToNat, Nat.reduceShiftRight, Nat.reduceAnd, Nat.reduceBneDiff, Nat.reduceBNe, q]; done))
            refine Rw.walk ?_
            obtain ⟨g6, h⟩ := gd_iff.1 h
            simp only [wz, wd, ws, Nat.reduceAdd, Nat.reduceSub, Nat.reduceMul, Nat.reduceLeDiff, Nat.reduceEqDiff, Nat.reduceLT, Nat.reduceBEq, reduceIte, reduceCtorEq, Int.reduceToNat, Nat.reduceShiftRight, Nat.reduceAnd, Nat.reduceBneDiff, Nat.reduceBNe, c28r12, semI.eq_10, semI.eq_11, semI.eq_3, semI.eq_5, semI.eq_7]
            repeat (refine And.intro ?_ ?_; · first | omega | (intro q; simp only [wz, wd, ws, Nat.reduceAdd, Nat.reduceSub, Nat.reduceMul, Nat.reduceLeDiff, Nat.reduceEqDiff, Nat.reduceLT, Nat.reduceBEq, reduceIte, reduceCtorEq, Int.reduceToNat, Nat.reduceShiftRight, Nat.reduceAnd, Nat.reduceBneDiff, Nat.reduceBNe, q]; done))
            obtain ⟨s3, e7, h⟩ := Option.bind_eq_some_iff.1 h
            replace e7 := Option.some.inj e7
            first | simp only [e7] | (simp only [wz, wd, ws, Nat.reduceAdd, Nat.reduceSub, Nat.reduceMul, Nat.reduceLeDiff, Nat.reduceEqDiff, Nat.reduceLT, Nat.reduceBEq, reduceIte, reduceCtorEq, Int.reduceToNat, Nat.reduceShiftRight, Nat.reduceAnd, Nat.reduceBneDiff, Nat.reduceBNe] at e7; simp only [e7])
            refine .eblk ?_
            refine .lp ?_
            refine .weak (Imp.co [] _ _ ?_ ?_ ?_ ?_ ?_) (ih s3 (out ++ ([(cut (cut s2 2 (s2.length : Int)) 0 (IntKind.i64.wrap t))] : List Str)) _ h k_ hx hr) <;> simp only [wz, wd, ws, Nat.reduceAdd, Nat.reduceSub, Nat.reduceMul, Nat.reduceLeDiff, Nat.reduceEqDiff, Nat.reduceLT, Nat.reduceBEq, reduceIte, reduceCtorEq, Int.reduceToNat, Nat.reduceShiftRight, Nat.reduceAnd, Nat.reduceBneDiff, Nat.reduceBNe, wi, er_nil]
    · rw [ite_f h1] at h
      refine .exit rfl ?_
      obtain rfl := Option.some.inj h
      refine .weak (Imp.co [] _ _ ?_ ?_ ?_ ?_ ?_) (hx _ rfl) <;> simp only [wz, wd, ws, Nat.reduceAdd, Nat.reduceSub, Nat.reduceMul, Nat.reduceLeDiff, Nat.reduceEqDiff, Nat.reduceLT, Nat.reduceBEq, reduceIte, reduceCtorEq, Int.reduceToNat, Nat.reduceShiftRight, Nat.reduceAnd, Nat.reduceBneDiff, Nat.reduceBNe, wi, er_nil]
theorem f_ref01_Loose_ok (s : Str) (y_ : (List Str) × Int) (h : f_ref01_Loose s = some y_) : Fun Tryd.prog glP 28 [.b (.s (.d (.str s)))] (.tup [.s (.d (.sl (y_.1.map eS))), .s (.d (.int .i64 y_.2))]) := by
  refine fun_walk [6] Tryd.func28 Tryd.ntmps28 cc28 cr28 (by kernel_rfl) (by simp only [List.length_cons, List.length_nil]; decide) ?_
  generalize hR : Ret _ _ _ _ _ = R_
  simp only [wz, wd, ws, Nat.reduceAdd, Nat.reduceSub, Nat.reduceMul, Nat.reduceLeDiff, Nat.reduceEqDiff, Nat.reduceLT, Nat.reduceBEq, reduceIte, reduceCtorEq, Int.reduceToNat, Nat.reduceShiftRight, Nat.reduceAnd, Nat.reduceBneDiff, Nat.reduceBNe]
  unfold f_ref01_Loose at h; unfold c28
  refine .seq ?_
  refine Rw.walk ?_
  simp only [wz, wd, ws, Nat.reduceAdd, Nat.reduceSub, Nat.reduceMul, Nat.reduceLeDiff, Nat.reduceEqDiff, Nat.reduceLT, Nat.reduceBEq, reduceIte, reduceCtorEq, Int.reduceToNat, Nat.reduceShiftRight, Nat.reduceAnd, Nat.reduceBneDiff, Nat.reduceBNe, c28r0, semI.eq_10, semI.eq_11, semI.eq_3, semI.eq_5, semI.eq_7]
  refine .seq ?_
  refine Rw.walk ?_
  simp only [wz, wd, ws, Nat.reduceAdd, Nat.reduceSub, Nat.reduceMul, Nat.reduceLeDiff, Nat.reduceEqDiff, Nat.reduceLT, Nat.reduceBEq, reduceIte, reduceCtorEq, Int.reduceToNat, Nat.reduceShiftRight, Nat.reduceAnd, Nat.reduceBneDiff, Nat.reduceBNe, c28r1, semI.eq_10, semI.eq_11, semI.eq_3, semI.eq_5, semI.eq_7]
  refine Go1.of (sem_bsl (enc := eS) (m := ([] : List Str)) eS_len (by rfl) (by rfl) (by rfl) trivial) ?_
  simp only [wz, wd, ws, Nat.reduceAdd, Nat.reduceSub, Nat.reduceMul, Nat.reduceLeDiff, Nat.reduceEqDiff, Nat.reduceLT, Nat.reduceBEq, reduceIte, reduceCtorEq, Int.reduceToNat, Nat.reduceShiftRight, Nat.reduceAnd, Nat.reduceBneDiff, Nat.reduceBNe, c28r1, semI.eq_10, semI.eq_11, semI.eq_3, semI.eq_5, semI.eq_7]
  refine .seq ?_
  refine .blk ?_
  obtain ⟨s2, hf, h⟩ := Option.bind_eq_some_iff.1 h
  refine .loop (.weak (Imp.co [] _ _ ?c1 ?c2 ?c3 ?c4 ?c5) (f_ref01_Loose_l13_ok s _ _ hR _ _ _ _ hf _ ?_ ?_))
  case c1 | c2 | c3 | c4 | c5 => simp only [wz, wd, ws, Nat.reduceAdd, Nat.reduceSub, Nat.reduceMul, Nat.reduceLeDiff, Nat.reduceEqDiff, Nat.reduceLT, Nat.reduceBEq, reduceIte, reduceCtorEq, Int.reduceToNat, Nat.reduceShiftRight, Nat.reduceAnd, Nat.reduceBneDiff, Nat.reduceBNe, wi, er_nil]
  · intro s3 hs; subst hs; dsimp only at h
    refine .seq ?_
    refine Rw.walk ?_
    simp only [wz, wd, ws, Nat.reduceAdd, Nat.reduceSub, Nat.reduceMul, Nat.reduceLeDiff, Nat.reduceEqDiff, Nat.reduceLT, Nat.reduceBEq, reduceIte, reduceCtorEq, Int.reduceToNat, Nat.reduceShiftRight, Nat.reduceAnd, Nat.reduceBneDiff, Nat.reduceBNe, c28r13, semI.eq_10, semI.eq_11, semI.eq_3, semI.eq_5, semI.eq_7]
    obtain rfl := Option.some.inj h
    refine .ret ?_
    rw [← hR]
    simp only [wz, wd, ws, Nat.reduceAdd, Nat.reduceSub, Nat.reduceMul, Nat.reduceLeDiff, Nat.reduceEqDiff, Nat.reduceLT, Nat.reduceBEq, reduceIte, reduceCtorEq, Int.reduceToNat, Nat.reduceShiftRight, Nat.reduceAnd, Nat.reduceBneDiff, Nat.reduceBNe, rv28]
  · intro z hz; subst hz; dsimp only at h
    exact Option.some.inj h
-- 29 consignor/consignorref01.Same
def c29r0 : List Opn := [
  ⟨(some 4), none, .mv (.c (.s (.d (.bool false))))⟩]
def c29r1 : List Opn := [
  ⟨(some 6), none, .mv (.t 0)⟩, 
  ⟨(some 7), none, .len (.sl 0) (.t 6)⟩, 
  ⟨(some 8), none, .mv (.t 1)⟩, 
  ⟨(some 9), none, .len (.sl 0) (.t 8)⟩, 
  ⟨(some 10), none, .bin .neq (.t 7) (.t 9)⟩]
def c29r2 : List Opn := [
  ⟨(some 4), none, .mv (.c (.s (.d (.bool false))))⟩]
def c29r3 : List Opn := [
  ⟨(some 11), none, .mv (.t 0)⟩, 
  ⟨(some 12), none, .len (.sl 0) (.t 11)⟩, 
  ⟨(some 13), none, .mv (.c (.s (.d (.int .i64 0))))⟩]
def c29r4 : List Opn := [
  ⟨(some 14), none, .bin .lss (.t 13) (.t 12)⟩]
def c29r5 : List Opn := [
  ⟨(some 15), none, .mv (.t 13)⟩, 
  ⟨(some 5), none, .mv (.t 15)⟩]
def c29r6 : List Opn := [
  ⟨(some 16), none, .mv (.t 0)⟩, 
  ⟨(some 17), none, .mv (.t 5)⟩, 
  ⟨(some 18), none, .iadr (.sl 1) (.t 16) (.t 17)⟩, 
  ⟨(some 19), none, .load false 1 (.t 18)⟩, 
  ⟨(some 20), none, .mv (.t 1)⟩, 
  ⟨(some 21), none, .mv (.t 5)⟩, 
  ⟨(some 22), none, .iadr (.sl 1) (.t 20) (.t 21)⟩, 
  ⟨(some 23), none, .load false 1 (.t 22)⟩, 
  ⟨(some 24), none, .bin .neq (.t 19) (.t 23)⟩]
def c29r7 : List Opn := [
  ⟨(some 4), none, .mv (.c (.s (.d (.bool false))))⟩]
def c29r8 : List Opn := [
  ⟨(some 25), none, .bin .add (.t 13) (.c (.s (.d (.int .i64 1))))⟩, 
  ⟨(some 13), none, .mv (.t 25)⟩]
def c29l9 : C := .seq (.reg c29r4 none [0, 1, 12, 13, 14]) (.seq (.cond (.t 14) (.skip) (.exit 0)) (.seq (.blk 1 (.seq (.reg c29r5 none [0, 1, 5, 12, 13]) (.seq (.reg c29r6 (some [0, 0, 3, 7, 0, 0, 48, 112, 255]) [0, 1, 12, 13, 24]) (.cond (.t 24) (.seq (.reg c29r7 none [4]) (.ret)) (.skip))))) (.reg c29r8 none [0, 1, 12, 13])))
def c29r9 : List Opn := [
  ⟨(some 4), none, .mv (.c (.s (.d (.bool true))))⟩]
def c29 : C := .seq (.reg c29r0 none [0, 1]) (.seq (.seq (.reg c29r1 none [0, 1, 10]) (.cond (.t 10) (.seq (.reg c29r2 none [4]) (.ret)) (.skip))) (.seq (.seq (.reg c29r3 none [0, 1, 12, 13]) (.blk 0 (.loop c29l9))) (.seq (.reg c29r9 none [4]) (.ret))))
def k29 : List (Nat × List Nat) := [(9, [4]), (8, [0, 1, 12, 13]), (7, [4]), (6, [0, 1, 12, 13, 24]), (5, [0, 1, 5, 12, 13]), (4, [0, 1, 12, 13, 14]), (3, [0, 1, 12, 13]), (2, [4]), (1, [0, 1, 10]), (0, [0, 1])]
theorem cc29 : (Tryd.f29.body).bind (cC Tryd.prog 26 k29) = some c29 := by kernel_rfl
def rv29 : List RV := [.t 4]
theorem cr29 : cRVs Tryd.prog Tryd.f29.results.toList = some rv29 := by kernel_rfl
theorem f_ref01_Same_l9_ok (a : (List Str)) (b : (List Str)) (y_ : Bool) (R_ : St → Prop) (hR : (Ret Tryd.prog glP [] rv29 (.b (.s (.d (.bool y_))))) = R_) : ∀ (m_ : Nat) (v13 : Int) (res_ : (Int) ⊕ (Bool)) (h : f_ref01_Same_l9 a b m_ v13 = some res_) (k_ : List It) (hx : ∀ s_ : Int, res_ = .inl s_ → W Tryd.prog glP 26 k_ ⟨lkT [(0, .b (.s (.d (.sl (a.map eS))))), (1, .b (.s (.d (.sl (b.map eS))))), (12, .b (.s (.d (.int .i64 (a.length : Int))))), (13, .b (.s (.d (.int .i64 s_))))], lkG []⟩ R_) (hr : ∀ z_ : Bool, res_ = .inr z_ → z_ = y_), W Tryd.prog glP 26 (.c c29l9 :: .lp c29l9 :: .blk 0 :: k_) ⟨lkT [(0, .b (.s (.d (.sl (a.map eS))))), (1, .b (.s (.d (.sl (b.map eS))))), (12, .b (.s (.d (.int .i64 (a.length : Int))))), (13, .b (.s (.d (.int .i64 v13))))], lkG []⟩ R_ := by
  intro m_; induction m_ with
  | zero => intro v13 res_ h; rw [f_ref01_Same_l9.eq_1] at h; cases h
  | succ m_ ih =>
    intro v13 res_ h k_ hx hr; rw [f_ref01_Same_l9.eq_2] at h; refine W.cdef c29l9.eq_1 ?_
    refine .seq ?_
    refine Rw.walk ?_
    simp only [wz, wd, ws, Nat.reduceAdd, Nat.reduceSub, Nat.reduceMul, Nat.reduceLeDiff, Nat.reduceEqDiff, Nat.reduceLT, Nat.reduceBEq, reduceIte, reduceCtorEq, Int.reduceToNat, Nat.reduceShiftRight, Nat.reduceAnd, Nat.reduceBneDiff, Nat.reduceBNe, c29r4, semI.eq_10, semI.eq_11, semI.eq_3, semI.eq_5, semI.eq_7]
    refine .seq ?_
    refine .cond (p := (decide (v13 < (a.length : Int)))) (by first | rfl | simp only [wz, wd, ws, Nat.reduceAdd, Nat.reduceSub, Nat.reduceMul, Nat.reduceLeDiff, Nat.reduceEqDiff, Nat.reduceLT, Nat.reduceBEq, reduceIte, reduceCtorEq, Int.reduceToNat, Nat.reduceShiftRight, Nat.reduceAnd, Nat.reduceBneDiff, Nat.reduceBNe]) (fun h1 => ?_) (fun h1 => ?_)
    · rw [ite_t h1] at h
      refine .skip ?_
      refine .seq ?_
      refine .blk ?_
      refine .seq ?_
      refine Rw.walk ?_
      simp only [wz, wd, ws, Nat.reduceAdd, Nat.reduceSub, Nat.reduceMul, Nat.reduceLeDiff, Nat.reduceEqDiff, Nat.reduceLT, Nat.reduceBEq, reduceIte, reduceCtorEq, Int.reduceToNat, Nat.reduceShiftRight, Nat.reduceAnd, Nat.reduceBneDiff, Nat.reduceBNe, c29r5, semI.eq_10, semI.eq_11, semI.eq_3, semI.eq_5, semI.eq_7]
      refine .seq ?_
      refine RwD.walk ?_
      simp only [wz, wd, ws, Nat.reduceAdd, Nat.reduceSub, Nat.reduceMul, Nat.reduceLeDiff, Nat.reduceEqDiff, Nat.reduceLT, Nat.reduceBEq, reduceIte, reduceCtorEq, Int.reduceToNat, Nat.reduceShiftRight, Nat.reduceAnd, Nat.reduceBneDiff, Nat.reduceBNe, c29r6, semI.eq_10, semI.eq_11, semI.eq_3, semI.eq_5, semI.eq_7]
      obtain ⟨x, e1, h⟩ := Option.bind_eq_some_iff.1 h
      refine GoD1.of (sem_iadr eS_len e1 (by rfl) (by rfl)) ?_
      simp only [wz, wd, ws, Nat.reduceAdd, Nat.reduceSub, Nat.reduceMul, Nat.reduceLeDiff, Nat.reduceEqDiff, Nat.reduceLT, Nat.reduceBEq, reduceIte, reduceCtorEq, Int.reduceToNat, Nat.reduceShiftRight, Nat.reduceAnd, Nat.reduceBneDiff, Nat.reduceBNe, c29r6, semI.eq_10, semI.eq_11, semI.eq_3, semI.eq_5, semI.eq_7]
      obtain ⟨x2, e2, h⟩ := Option.bind_eq_some_iff.1 h
      refine GoD1.of (sem_iadr eS_len e2 (by rfl) (by rfl)) ?_
      simp only [wz, wd, ws, Nat.reduceAdd, Nat.reduceSub, Nat.reduceMul, Nat.reduceLeDiff, Nat.reduceEqDiff, Nat.reduceLT, Nat.reduceBEq, reduceIte, reduceCtorEq, Int.reduceToNat, Nat.reduceShiftRight, Nat.reduceAnd, Nat.reduceBneDiff, Nat.reduceBNe, c29r6, semI.eq_10, semI.eq_11, semI.eq_3, semI.eq_5, semI.eq_7]
      refine .cond (p := (!(x == x2))) (by first | rfl | simp only [wz, wd, ws, Nat.reduceAdd, Nat.reduceSub, Nat.reduceMul, Nat.reduceLeDiff, Nat.reduceEqDiff, Nat.reduceLT, Nat.reduceBEq, reduceIte, reduceCtorEq, Int.reduceToNat, Nat.reduceShiftRight, Nat.reduceAnd, Nat.reduceBneDiff, Nat.reduceBNe]) (fun h1 => ?_) (fun h1 => ?_)
      · rw [ite_t h1] at h
        refine .seq ?_
        refine Rw.walk ?_
        simp only [wz, wd, ws, Nat.reduceAdd, Nat.reduceSub, Nat.reduceMul, Nat.reduceLeDiff, Nat.reduceEqDiff, Nat.reduceLT, Nat.reduceBEq, reduceIte, reduceCtorEq, Int.reduceToNat, Nat.reduceShiftRight, Nat.reduceAnd, Nat.reduceBneDiff, Nat.reduceBNe, c29r7, semI.eq_10, semI.eq_11, semI.eq_3, semI.eq_5, semI.eq_7]
        obtain rfl := Option.some.inj h; obtain rfl := hr _ rfl
        refine .ret ?_
        rw [← hR]
        simp only [wz, wd, ws, Nat.reduceAdd, Nat.reduceSub, Nat.reduceMul, Nat.reduceLeDiff, Nat.reduceEqDiff, Nat.reduceLT, Nat.reduceBEq, reduceIte, reduceCtorEq, Int.reduceToNat, Nat.reduceShiftRight, Nat.reduceAnd, Nat.reduceBneDiff, Nat.reduceBNe, rv29]
      · rw [ite_f h1] at h
        refine .skip ?_
        refine .eblk ?_
        refine Rw.walk ?_
        simp only [wz, wd, ws, Nat.reduceAdd, Nat.reduceSub, Nat.reduceMul, Nat.reduceLeDiff, Nat.reduceEqDiff, Nat.reduceLT, Nat.reduceBEq, reduceIte, reduceCtorEq, Int.reduceToNat, Nat.reduceShiftRight, Nat.reduceAnd, Nat.reduceBneDiff, Nat.reduceBNe, c29r8, semI.eq_10, semI.eq_11, semI.eq_3, semI.eq_5, semI.eq_7]
        refine .lp ?_
        refine .weak (Imp.co [] _ _ ?_ ?_ ?_ ?_ ?_) (ih (IntKind.i64.wrap (v13 + 1)) _ h k_ hx hr) <;> simp only [wz, wd, ws, Nat.reduceAdd, Nat.reduceSub, Nat.reduceMul, Nat.reduceLeDiff, Nat.reduceEqDiff, Nat.reduceLT, Nat.reduceBEq, reduceIte, reduceCtorEq, Int.reduceToNat, Nat.reduceShiftRight, Nat.reduceAnd, Nat.reduceBneDiff, Nat.reduceBNe, wi, er_nil]
    · rw [ite_f h1] at h
      refine .exit rfl ?_
      obtain rfl := Option.some.inj h
      refine .weak (Imp.co [] _ _ ?_ ?_ ?_ ?_ ?_) (hx _ rfl) <;> simp only [wz, wd, ws, Nat.reduceAdd, Nat.reduceSub, Nat.reduceMul, Nat.reduceLeDiff, Nat.reduceEqDiff, Nat.reduceLT, Nat.reduceBEq, reduceIte, reduceCtorEq, Int.reduceToNat, Nat.reduceShiftRight, Nat.reduceAnd, Nat.reduceBneDiff, Nat.reduceBNe, wi, er_nil]
theorem f_ref01_Same_ok (a : (List Str)) (b : (List Str)) (y_ : Bool) (h : f_ref01_Same a b = some y_) : Fun Tryd.prog glP 29 [.b (.s (.d (.sl (a.map eS)))), .b (.s (.d (.sl (b.map eS))))] (.b (.s (.d (.bool y_)))) := by
  refine fun_walk [] Tryd.func29 Tryd.ntmps29 cc29 cr29 (by kernel_rfl) (by simp only [List.length_cons, List.length_nil]; decide) ?_
  generalize hR : Ret _ _ _ _ _ = R_
  simp only [wz, wd, ws, Nat.reduceAdd, Nat.reduceSub, Nat.reduceMul, Nat.reduceLeDiff, Nat.reduceEqDiff, Nat.reduceLT, Nat.reduceBEq, reduceIte, reduceCtorEq, Int.reduceToNat, Nat.reduceShiftRight, Nat.reduceAnd, Nat.reduceBneDiff, Nat.reduceBNe]
  unfold f_ref01_Same at h; unfold c29
  refine .seq ?_
  refine Rw.walk ?_
  simp only [wz, wd, ws, Nat.reduceAdd, Nat.reduceSub, Nat.reduceMul, Nat.reduceLeDiff, Nat.reduceEqDiff, Nat.reduceLT, Nat.reduceBEq, reduceIte, reduceCtorEq, Int.reduceToNat, Nat.reduceShiftRight, Nat.reduceAnd, Nat.reduceBneDiff, Nat.reduceBNe, c29r0, semI.eq_10, semI.eq_11, semI.eq_3, semI.eq_5, semI.eq_7]
  refine .seq ?_
  refine .seq ?_
  refine Rw.walk ?_
  simp only [wz, wd, ws, Nat.reduceAdd, Nat.reduceSub, Nat.reduceMul, Nat.reduceLeDiff, Nat.reduceEqDiff, Nat.reduceLT, Nat.reduceBEq, reduceIte, reduceCtorEq, Int.reduceToNat, Nat.reduceShiftRight, Nat.reduceAnd, Nat.reduceBneDiff, Nat.reduceBNe, c29r1, semI.eq_10, semI.eq_11, semI.eq_3, semI.eq_5, semI.eq_7]
  refine .cond (p := ((a.length : Int) != (b.length : Int))) (by first | rfl | simp only [wz, wd, ws, Nat.reduceAdd, Nat.reduceSub, Nat.reduceMul, Nat.reduceLeDiff, Nat.reduceEqDiff, Nat.reduceLT, Nat.reduceBEq, reduceIte, reduceCtorEq, Int.reduceToNat, Nat.reduceShiftRight, Nat.reduceAnd, Nat.reduceBneDiff, Nat.reduceBNe]) (fun h1 => ?_) (fun h1 => ?_)
  · rw [ite_t h1] at h
    refine .seq ?_
    refine Rw.walk ?_
    simp only [wz, wd, ws, Nat.reduceAdd, Nat.reduceSub, Nat.reduceMul, Nat.reduceLeDiff, Nat.reduceEqDiff, Nat.reduceLT, Nat.reduceBEq, reduceIte, reduceCtorEq, Int.reduceToNat, Nat.reduceShiftRight, Nat.reduceAnd, Nat.reduceBneDiff, Nat.reduceBNe, c29r2, semI.eq_10, semI.eq_11, semI.eq_3, semI.eq_5, semI.eq_7]
    obtain rfl := Option.some.inj h
    refine .ret ?_
    rw [← hR]
    simp only [wz, wd, ws, Nat.reduceAdd, Nat.reduceSub, Nat.reduceMul, Nat.reduceLeDiff, Nat.reduceEqDiff, Nat.reduceLT, Nat.reduceBEq, reduceIte, reduceCtorEq, Int.reduceToNat, Nat.reduceShiftRight, Nat.reduceAnd, Nat.reduceBneDiff, Nat.reduceBNe, rv29]
  · rw [ite_f h1] at h
    refine .skip ?_
    refine .seq ?_
    refine .seq ?_
    refine Rw.walk ?_
    simp only [wz, wd, ws, Nat.reduceAdd, Nat.reduceSub, Nat.reduceMul, Nat.reduceLeDiff, Nat.reduceEqDiff, Nat.reduceLT, Nat.reduceBEq, reduceIte, reduceCtorEq, Int.reduceToNat, Nat.reduceShiftRight, Nat.reduceAnd, Nat.reduceBneDiff, Nat.reduceBNe, c29r3, semI.eq_10, semI.eq_11, semI.eq_3, semI.eq_5, semI.eq_7]
    refine .blk ?_
    obtain ⟨s, hf, h⟩ := Option.bind_eq_some_iff.1 h
    refine .loop (.weak (Imp.co [] _ _ ?c1 ?c2 ?c3 ?c4 ?c5) (f_ref01_Same_l9_ok a b _ _ hR _ _ _ hf _ ?_ ?_))
    case c1 | c2 | c3 | c4 | c5 => simp only [wz, wd, ws, Nat.reduceAdd, Nat.reduceSub, Nat.reduceMul, Nat.reduceLeDiff, Nat.reduceEqDiff, Nat.reduceLT, Nat.reduceBEq, reduceIte, reduceCtorEq, Int.reduceToNat, Nat.reduceShiftRight, Nat.reduceAnd, Nat.reduceBneDiff, Nat.reduceBNe, wi, er_nil]
    · intro s2 hs; subst hs; dsimp only at h
      refine .seq ?_
      refine Rw.walk ?_
      simp only [wz, wd, ws, Nat.reduceAdd, Nat.reduceSub, Nat.reduceMul, Nat.reduceLeDiff, Nat.reduceEqDiff, Nat.reduceLT, Nat.reduceBEq, reduceIte, reduceCtorEq, Int.reduceToNat, Nat.reduceShiftRight, Nat.reduceAnd, Nat.reduceBneDiff, Nat.reduceBNe, c29r9, semI.eq_10, semI.eq_11, semI.eq_3, semI.eq_5, semI.eq_7]
      obtain rfl := Option.some.inj h
      refine .ret ?_
      rw [← hR]
      simp only [wz, wd, ws, Nat.reduceAdd, Nat.reduceSub, Nat.reduceMul, Nat.reduceLeDiff, Nat.reduceEqDiff, Nat.reduceLT, Nat.reduceBEq, reduceIte, reduceCtorEq, Int.reduceToNat, Nat.reduceShiftRight, Nat.reduceAnd, Nat.reduceBneDiff, Nat.reduceBNe, rv29]
    · intro z hz; subst hz; dsimp only at h
      exact Option.some.inj h
-- 30 consignor/consignorlaw01.alive
def c30r0 : List Opn := [
  ⟨(some 0), none, .mv (.c (.s (.d (.bool false))))⟩]
def c30r1 : List Opn := [
  ⟨(some 4), none, .call (.fn 35) [(.c (.s (.d (.int .u64 258)))), (.c (.s (.d (.int .i64 2))))]⟩, 
  ⟨(some 3), none, .mv (.t 4)⟩, 
  ⟨(some 5), none, .ext (.t 3) 0⟩, 
  ⟨(some 6), none, .ext (.t 3) 1⟩, 
  ⟨(some 1), none, .mv (.t 5)⟩, 
  ⟨(some 2), none, .mv (.t 6)⟩]
def c30r2 : List Opn := [
  ⟨(some 7), none, .mv (.t 2)⟩, 
  ⟨(some 8), none, .bin .eql (.t 7) (.c (.s (.d (.int .i64 0))))⟩, 
  ⟨(some 9), none, .mv (.t 8)⟩, 
  ⟨(some 10), some (9, true), .mv (.t 1)⟩, 
  ⟨(some 11), some (9, true), .bin .eql (.t 10) (.c (.s (.d (.str [2, 1]))))⟩, 
  ⟨(some 12), none, .pick (.t 9) (.t 11) (.c (.s (.d (.bool false))))⟩, 
  ⟨(some 13), none, .mv (.t 12)⟩, 
  ⟨(some 14), some (13, true), .mv (.t 1)⟩, 
  ⟨(some 15), some (13, true), .call (.fn 34) [(.t 14)]⟩, 
  ⟨(some 16), some (13, true), .bin .eql (.t 15) (.c (.s (.d (.str [48, 50, 48, 49]))))⟩, 
  ⟨(some 17), none, .pick (.t 13) (.t 16) (.c (.s (.d (.bool false))))⟩, 
  ⟨(some 0), none, .mv (.t 17)⟩]
def c30 : C := .seq (.reg c30r0 none []) (.seq (.reg c30r1 none [1, 2]) (.seq (.reg c30r2 none [0]) (.ret)))
def k30 : List (Nat × List Nat) := [(2, [0]), (1, [1, 2]), (0, [])]
theorem cc30 : (Tryd.f30.body).bind (cC Tryd.prog 18 k30) = some c30 := by kernel_rfl
def rv30 : List RV := [.t 0]
theorem cr30 : cRVs Tryd.prog Tryd.f30.results.toList = some rv30 := by kernel_rfl
theorem f_law01_alive_ok (y_ : Bool) (h : f_law01_alive = some y_) : Fun Tryd.prog glP 30 [] (.b (.s (.d (.bool y_)))) := by
  refine fun_walk [] Tryd.func30 Tryd.ntmps30 cc30 cr30 (by kernel_rfl) (by simp only [List.length_cons, List.length_nil]; decide) ?_
  generalize hR : Ret _ _ _ _ _ = R_
  simp only [wz, wd, ws, Nat.reduceAdd, Nat.reduceSub, Nat.reduceMul, Nat.reduceLeDiff, Nat.reduceEqDiff, Nat.reduceLT, Nat.reduceBEq, reduceIte, reduceCtorEq, Int.reduceToNat, Nat.reduceShiftRight, Nat.reduceAnd, Nat.reduceBneDiff, Nat.reduceBNe]
  unfold f_law01_alive at h; unfold c30
  refine .seq ?_
  refine Rw.walk ?_
  simp only [wz, wd, ws, Nat.reduceAdd, Nat.reduceSub, Nat.reduceMul, Nat.reduceLeDiff, Nat.reduceEqDiff, Nat.reduceLT, Nat.reduceBEq, reduceIte, reduceCtorEq, Int.reduceToNat, Nat.reduceShiftRight, Nat.reduceAnd, Nat.reduceBneDiff, Nat.reduceBNe, c30r0, semI.eq_10, semI.eq_11, semI.eq_3, semI.eq_5, semI.eq_7]
  refine .seq ?_
  refine Rw.walk ?_
  simp only [wz, wd, ws, Nat.reduceAdd, Nat.reduceSub, Nat.reduceMul, Nat.reduceLeDiff, Nat.reduceEqDiff, Nat.reduceLT, Nat.reduceBEq, reduceIte, reduceCtorEq, Int.reduceToNat, Nat.reduceShiftRight, Nat.reduceAnd, Nat.reduceBneDiff, Nat.reduceBNe, c30r1, semI.eq_10, semI.eq_11, semI.eq_3, semI.eq_5, semI.eq_7]
  obtain ⟨t, e1, h⟩ := Option.bind_eq_some_iff.1 h
  refine call_fun [] false ⟨trivial, trivial, trivial, trivial⟩ rfl ?_ (f_octet_Wide_ok _ _ _ e1) (fun _ => rfl) (fun i hi => by cases hi) ?_
  · simp only [wz, wd, ws, Nat.reduceAdd, Nat.reduceSub, Nat.reduceMul, Nat.reduceLeDiff, Nat.reduceEqDiff, Nat.reduceLT, Nat.reduceBEq, reduceIte, reduceCtorEq, Int.reduceToNat, Nat.reduceShiftRight, Nat.reduceAnd, Nat.reduceBneDiff, Nat.reduceBNe]
  simp only [wz, wd, ws, Nat.reduceAdd, Nat.reduceSub, Nat.reduceMul, Nat.reduceLeDiff, Nat.reduceEqDiff, Nat.reduceLT, Nat.reduceBEq, reduceIte, reduceCtorEq, Int.reduceToNat, Nat.reduceShiftRight, Nat.reduceAnd, Nat.reduceBneDiff, Nat.reduceBNe, c30r1, semI.eq_10, semI.eq_11, semI.eq_3, semI.eq_5, semI.eq_7]
  refine .seq ?_
  refine Rw.walk ?_
  simp only [wz, wd, ws, Nat.reduceAdd, Nat.reduceSub, Nat.reduceMul, Nat.reduceLeDiff, Nat.reduceEqDiff, Nat.reduceLT, Nat.reduceBEq, reduceIte, reduceCtorEq, Int.reduceToNat, Nat.reduceShiftRight, Nat.reduceAnd, Nat.reduceBneDiff, Nat.reduceBNe, c30r2, semI.eq_10, semI.eq_11, semI.eq_3, semI.eq_5, semI.eq_7]
  repeat (refine And.intro ?_ ?_; · first | omega | (intro q; simp only [wz, wd, ws, Nat.reduceAdd, Nat.reduceSub, Nat.reduceMul, Nat.reduceLeDiff, Nat.reduceEqDiff, Nat.reduceLT, Nat.reduceBEq, reduceIte, reduceCtorEq, Int.reduceToNat, Nat.reduceShiftRight, Nat.reduceAnd, Nat.reduceBneDiff, Nat.reduceBNe, q]; done))
  obtain ⟨t2, e2, h⟩ := Option.bind_eq_some_iff.1 h
  refine call_funG [] rfl (by simp only [wz, wd, ws, Nat.reduceAdd, Nat.reduceSub, Nat.reduceMul, Nat.reduceLeDiff, Nat.reduceEqDiff, Nat.reduceLT, Nat.reduceBEq, reduceIte, reduceCtorEq, Int.reduceToNat, Nat.reduceShiftRight, Nat.reduceAnd, Nat.reduceBneDiff, Nat.reduceBNe]) rfl ?_ (fun q => (f_octet_Hex_ok _ _ (gx_iff e2 (by simpa using q)))) rfl (fun i hi => by cases hi) ?_
  · simp only [wz, wd, ws, Nat.reduceAdd, Nat.reduceSub, Nat.reduceMul, Nat.reduceLeDiff, Nat.reduceEqDiff, Nat.reduceLT, Nat.reduceBEq, reduceIte, reduceCtorEq, Int.reduceToNat, Nat.reduceShiftRight, Nat.reduceAnd, Nat.reduceBneDiff, Nat.reduceBNe]
  simp only [wz, wd, ws, Nat.reduceAdd, Nat.reduceSub, Nat.reduceMul, Nat.reduceLeDiff, Nat.reduceEqDiff, Nat.reduceLT, Nat.reduceBEq, reduceIte, reduceCtorEq, Int.reduceToNat, Nat.reduceShiftRight, Nat.reduceAnd, Nat.reduceBneDiff, Nat.reduceBNe, c30r2, semI.eq_10, semI.eq_11, semI.eq_3, semI.eq_5, semI.eq_7]
  repeat (refine And.intro ?_ ?_; · first | omega | (intro q; simp only [wz, wd, ws, Nat.reduceAdd, Nat.reduceSub, Nat.reduceMul, Nat.reduceLeDiff, Nat.reduceEqDiff, Nat.reduceLT, Nat.reduceBEq, reduceIte, reduceCtorEq, Int.reduceToNat, Nat.reduceShiftRight, Nat.reduceAnd, Nat.reduceBneDiff, Nat.reduceBNe, q]; done))
  obtain rfl := Option.some.inj h
  refine .ret ?_
  rw [← hR]
  simp only [wz, wd, ws, Nat.reduceAdd, Nat.reduceSub, Nat.reduceMul, Nat.reduceLeDiff, Nat.reduceEqDiff, Nat.reduceLT, Nat.reduceBEq, reduceIte, reduceCtorEq, Int.reduceToNat, Nat.reduceShiftRight, Nat.reduceAnd, Nat.reduceBneDiff, Nat.reduceBNe, rv30]
-- 31 consignor/consignorref01.May
def c31r0 : List Opn := [
  ⟨(some 2), none, .mv (.c (.s (.d (.bool false))))⟩]
def c31r1 : List Opn := [
  ⟨(some 5), none, .mv (.t 0)⟩, 
  ⟨(some 6), none, .len (.sl 0) (.t 5)⟩, 
  ⟨(some 7), none, .mv (.c (.s (.d (.int .i64 0))))⟩]
def c31r2 : List Opn := [
  ⟨(some 8), none, .bin .lss (.t 7) (.t 6)⟩]
def c31r3 : List Opn := [
  ⟨(some 9), none, .iadr (.sl 1) (.t 5) (.t 7)⟩, 
  ⟨(some 10), none, .load false 1 (.t 9)⟩, 
  ⟨(some 4), none, .mv (.t 10)⟩]
def c31r4 : List Opn := [
  ⟨(some 11), none, .mv (.t 4)⟩, 
  ⟨(some 12), none, .len .str (.t 11)⟩, 
  ⟨(some 13), none, .bin .gtr (.t 12) (.c (.s (.d (.int .i64 4096))))⟩]
def c31r5 : List Opn := [
  ⟨(some 2), none, .mv (.c (.s (.d (.bool false))))⟩]
def c31r6 : List Opn := [
  ⟨(some 14), none, .bin .add (.t 7) (.c (.s (.d (.int .i64 1))))⟩, 
  ⟨(some 7), none, .mv (.t 14)⟩]
def c31l7 : C := .seq (.reg c31r2 none [0, 5, 6, 7, 8]) (.seq (.cond (.t 8) (.skip) (.exit 0)) (.seq (.blk 1 (.seq (.reg c31r3 none [0, 4, 5, 6, 7]) (.seq (.reg c31r4 none [0, 5, 6, 7, 13]) (.cond (.t 13) (.seq (.reg c31r5 none [2]) (.ret)) (.skip))))) (.reg c31r6 none [0, 5, 6, 7])))
def c31r7 : List Opn := [
  ⟨(some 15), none, .mv (.t 0)⟩, 
  ⟨(some 16), none, .len (.sl 0) (.t 15)⟩, 
  ⟨(some 17), none, .bin .leq (.t 16) (.c (.s (.d (.int .i64 64))))⟩, 
  ⟨(some 2), none, .mv (.t 17)⟩]
def c31 : C := .seq (.reg c31r0 none [0]) (.seq (.seq (.reg c31r1 none [0, 5, 6, 7]) (.blk 0 (.loop c31l7))) (.seq (.reg c31r7 none [2]) (.ret)))
def k31 : List (Nat × List Nat) := [(7, [2]), (6, [0, 5, 6, 7]), (5, [2]), (4, [0, 5, 6, 7, 13]), (3, [0, 4, 5, 6, 7]), (2, [0, 5, 6, 7, 8]), (1, [0, 5, 6, 7]), (0, [0])]
theorem cc31 : (Tryd.f31.body).bind (cC Tryd.prog 18 k31) = some c31 := by kernel_rfl
def rv31 : List RV := [.t 2]
theorem cr31 : cRVs Tryd.prog Tryd.f31.results.toList = some rv31 := by kernel_rfl
theorem f_ref01_May_l7_ok (l : (List Str)) (y_ : Bool) (R_ : St → Prop) (hR : (Ret Tryd.prog glP [] rv31 (.b (.s (.d (.bool y_))))) = R_) : ∀ (m_ : Nat) (v7 : Int) (res_ : (Int) ⊕ (Bool)) (h : f_ref01_May_l7 l m_ v7 = some res_) (k_ : List It) (hx : ∀ s_ : Int, res_ = .inl s_ → W Tryd.prog glP 18 k_ ⟨lkT [(0, .b (.s (.d (.sl (l.map eS))))), (5, .b (.s (.d (.sl (l.map eS))))), (6, .b (.s (.d (.int .i64 (l.length : Int))))), (7, .b (.s (.d (.int .i64 s_))))], lkG []⟩ R_) (hr : ∀ z_ : Bool, res_ = .inr z_ → z_ = y_), W Tryd.prog glP 18 (.c c31l7 :: .lp c31l7 :: .blk 0 :: k_) ⟨lkT [(0, .b (.s (.d (.sl (l.map eS))))), (5, .b (.s (.d (.sl (l.map eS))))), (6, .b (.s (.d (.int .i64 (l.length : Int))))), (7, .b (.s (.d (.int .i64 v7))))], lkG []⟩ R_ := by
  intro m_; induction m_ with
  | zero => intro v7 res_ h; rw [f_ref01_May_l7.eq_1] at h; cases h
  | succ m_ ih =>
    intro v7 res_ h k_ hx hr; rw [f_ref01_May_l7.eq_2] at h; refine W.cdef c31l7.eq_1 ?_
    refine .seq ?_
    refine Rw.walk ?_
    simp only [wz, wd, ws, Nat.reduceAdd, Nat.reduceSub, Nat.reduceMul, Nat.reduceLeDiff, Nat.reduceEqDiff, Nat.reduceLT, Nat.reduceBEq, reduceIte, reduceCtorEq, Int.reduceToNat, Nat.reduceShiftRight, Nat.reduceAnd, Nat.reduceBneDiff, Nat.reduceBNe, c31r2, semI.eq_10, semI.eq_11, semI.eq_3, semI.eq_5, semI.eq_7]
    refine .seq ?_
    refine .cond (p := (decide (v7 < (l.length : Int)))) (by first | rfl | simp only [wz, wd, ws, Nat.reduceAdd, Nat.reduceSub, Nat.reduceMul, Nat.reduceLeDiff, Nat.reduceEqDiff, Nat.reduceLT, Nat.reduceBEq, reduceIte, reduceCtorEq, Int.reduceToNat, Nat.reduceShiftRight, Nat.reduceAnd, Nat.reduceBneDiff, Nat.reduceBNe]) (fun h1 => ?_) (fun h1 => ?_)
    · rw [ite_t h1] at h
      refine .skip ?_
      refine .seq ?_
      refine .blk ?_
      refine .seq ?_
      refine Rw.walk ?_
      simp only [wz, wd, ws, Nat.reduceAdd, Nat.reduceSub, Nat.reduceMul, Nat.reduceLeDiff, Nat.reduceEqDiff, Nat.reduceLT, Nat.reduceBEq, reduceIte, reduceCtorEq, Int.reduceToNat, Nat.reduceShiftRight, Nat.reduceAnd, Nat.reduceBneDiff, Nat.reduceBNe, c31r3, semI.eq_10, semI.eq_11, semI.eq_3, semI.eq_5, semI.eq_7]
      obtain ⟨x, e1, h⟩ := Option.bind_eq_some_iff.1 h
      refine Go1.of (sem_iadr eS_len e1 (by rfl) (by rfl)) ?_
      simp only [wz, wd, ws, Nat.reduceAdd, Nat.reduceSub, Nat.reduceMul, Nat.reduceLeDiff, Nat.reduceEqDiff, Nat.reduceLT, Nat.reduceBEq, reduceIte, reduceCtorEq, Int.reduceToNat, Nat.reduceShiftRight, Nat.reduceAnd, Nat.reduceBneDiff, Nat.reduceBNe, c31r3, semI.eq_10, semI.eq_11, semI.eq_3, semI.eq_5, semI.eq_7]
      refine .seq ?_
      refine Rw.walk ?_
      simp only [wz, wd, ws, Nat.reduceAdd, Nat.reduceSub, Nat.reduceMul, Nat.reduceLeDiff, Nat.reduceEqDiff, Nat.reduceLT, Nat.reduceBEq, reduceIte, reduceCtorEq, Int.reduceToNat, Nat.reduceShiftRight, Nat.reduceAnd, Nat.reduceBneDiff, Nat.reduceBNe, c31r4, semI.eq_10, semI.eq_11, semI.eq_3, semI.eq_5, semI.eq_7]
      refine .cond (p := (decide ((x.length : Int) > 4096))) (by first | rfl | simp only [wz, wd, ws, Nat.reduceAdd, Nat.reduceSub, Nat.reduceMul, Nat.reduceLeDiff, Nat.reduceEqDiff, Nat.reduceLT, Nat.reduceBEq, reduceIte, reduceCtorEq, Int.reduceToNat, Nat.reduceShiftRight, Nat.reduceAnd, Nat.reduceBneDiff, Nat.reduceBNe]) (fun h1 => ?_) (fun h1 => ?_)
      · rw [ite_t h1] at h
        refine .seq ?_
        refine Rw.walk ?_
        simp only [wz, wd, ws, Nat.reduceAdd, Nat.reduceSub, Nat.reduceMul, Nat.reduceLeDiff, Nat.reduceEqDiff, Nat.reduceLT, Nat.reduceBEq, reduceIte, reduceCtorEq, Int.reduceToNat, Nat.reduceShiftRight, Nat.reduceAnd, Nat.reduceBneDiff, Nat.reduceBNe, c31r5, semI.eq_10, semI.eq_11, semI.eq_3, semI.eq_5, semI.eq_7]
        obtain rfl := Option.some.inj h; obtain rfl := hr _ rfl
        refine .ret ?_
        rw [← hR]
        simp only [wz, wd, ws, Nat.reduceAdd, Nat.reduceSub, Nat.reduceMul, Nat.reduceLeDiff, Nat.reduceEqDiff, Nat.reduceLT, Nat.reduceBEq, reduceIte, reduceCtorEq, Int.reduceToNat, Nat.reduceShiftRight, Nat.reduceAnd, Nat.reduceBneDiff, Nat.reduceBNe, rv31]
      · rw [ite_f h1] at h
        refine .skip ?_
        refine .eblk ?_
        refine Rw.walk ?_
        simp only [wz, wd, ws, Nat.reduceAdd, Nat.reduceSub, Nat.reduceMul, Nat.reduceLeDiff, Nat.reduceEqDiff, Nat.reduceLT, Nat.reduceBEq, reduceIte, reduceCtorEq, Int.reduceToNat, Nat.reduceShiftRight, Nat.reduceAnd, Nat.reduceBneDiff, Nat.reduceBNe, c31r6, semI.eq_10, semI.eq_11, semI.eq_3, semI.eq_5, semI.eq_7]
        refine .lp ?_
        refine .weak (Imp.co [] _ _ ?_ ?_ ?_ ?_ ?_) (ih (IntKind.i64.wrap (v7 + 1)) _ h k_ hx hr) <;> simp only [wz, wd, ws, Nat.reduceAdd, Nat.reduceSub, Nat.reduceMul, Nat.reduceLeDiff, Nat.reduceEqDiff, Nat.reduceLT, Nat.reduceBEq, reduceIte, reduceCtorEq, Int.reduceToNat, Nat.reduceShiftRight, Nat.reduceAnd, Nat.reduceBneDiff, Nat.reduceBNe, wi, er_nil]
    · rw [ite_f h1] at h
      refine .exit rfl ?_
      obtain rfl := Option.some.inj h
      refine .weak (Imp.co [] _ _ ?_ ?_ ?_ ?_ ?_) (hx _ rfl) <;> simp only [wz, wd, ws, Nat.reduceAdd, Nat.reduceSub, Nat.reduceMul, Nat.reduceLeDiff, Nat.reduceEqDiff, Nat.reduceLT, Nat.reduceBEq, reduceIte, reduceCtorEq, Int.reduceToNat, Nat.reduceShiftRight, Nat.reduceAnd, Nat.reduceBneDiff, Nat.reduceBNe, wi, er_nil]
theorem f_ref01_May_ok (l : (List Str)) (y_ : Bool) (h : f_ref01_May l = some y_) : Fun Tryd.prog glP 31 [.b (.s (.d (.sl (l.map eS))))] (.b (.s (.d (.bool y_)))) := by
  refine fun_walk [] Tryd.func31 Tryd.ntmps31 cc31 cr31 (by kernel_rfl) (by simp only [List.length_cons, List.length_nil]; decide) ?_
  generalize hR : Ret _ _ _ _ _ = R_
  simp only [wz, wd, ws, Nat.reduceAdd, Nat.reduceSub, Nat.reduceMul, Nat.reduceLeDiff, Nat.reduceEqDiff, Nat.reduceLT, Nat.reduceBEq, reduceIte, reduceCtorEq, Int.reduceToNat, Nat.reduceShiftRight, Nat.reduceAnd, Nat.reduceBneDiff, Nat.reduceBNe]
  unfold f_ref01_May at h; unfold c31
  refine .seq ?_
  refine Rw.walk ?_
  simp only [wz, wd, ws, Nat.reduceAdd, Nat.reduceSub, Nat.reduceMul, Nat.reduceLeDiff, Nat.reduceEqDiff, Nat.reduceLT, Nat.reduceBEq, reduceIte, reduceCtorEq, Int.reduceToNat, Nat.reduceShiftRight, Nat.reduceAnd, Nat.reduceBneDiff, Nat.reduceBNe, c31r0, semI.eq_10, semI.eq_11, semI.eq_3, semI.eq_5, semI.eq_7]
  refine .seq ?_
  refine .seq ?_
  refine Rw.walk ?_
  simp only [wz, wd, ws, Nat.reduceAdd, Nat.reduceSub, Nat.reduceMul, Nat.reduceLeDiff, Nat.reduceEqDiff, Nat.reduceLT, Nat.reduceBEq, reduceIte, reduceCtorEq, Int.reduceToNat, Nat.reduceShiftRight, Nat.reduceAnd, Nat.reduceBneDiff, Nat.reduceBNe, c31r1, semI.eq_10, semI.eq_11, semI.eq_3, semI.eq_5, semI.eq_7]
  refine .blk ?_
  obtain ⟨s, hf, h⟩ := Option.bind_eq_some_iff.1 h
  refine .loop (.weak (Imp.co [] _ _ ?c1 ?c2 ?c3 ?c4 ?c5) (f_ref01_May_l7_ok l _ _ hR _ _ _ hf _ ?_ ?_))
  case c1 | c2 | c3 | c4 | c5 => simp only [wz, wd, ws, Nat.reduceAdd, Nat.reduceSub, Nat.reduceMul, Nat.reduceLeDiff, Nat.reduceEqDiff, Nat.reduceLT, Nat.reduceBEq, reduceIte, reduceCtorEq, Int.reduceToNat, Nat.reduceShiftRight, Nat.reduceAnd, Nat.reduceBneDiff, Nat.reduceBNe, wi, er_nil]
  · intro s2 hs; subst hs; dsimp only at h
    refine .seq ?_
    refine Rw.walk ?_
    simp only [wz, wd, ws, Nat.reduceAdd, Nat.reduceSub, Nat.reduceMul, Nat.reduceLeDiff, Nat.reduceEqDiff, Nat.reduceLT, Nat.reduceBEq, reduceIte, reduceCtorEq, Int.reduceToNat, Nat.reduceShiftRight, Nat.reduceAnd, Nat.reduceBneDiff, Nat.reduceBNe, c31r7, semI.eq_10, semI.eq_11, semI.eq_3, semI.eq_5, semI.eq_7]
    obtain rfl := Option.some.inj h
    refine .ret ?_
    rw [← hR]
    simp only [wz, wd, ws, Nat.reduceAdd, Nat.reduceSub, Nat.reduceMul, Nat.reduceLeDiff, Nat.reduceEqDiff, Nat.reduceLT, Nat.reduceBEq, reduceIte, reduceCtorEq, Int.reduceToNat, Nat.reduceShiftRight, Nat.reduceAnd, Nat.reduceBneDiff, Nat.reduceBNe, rv31]
  · intro z hz; subst hz; dsimp only at h
    exact Option.some.inj h
-- 51 consignor/consignorref01.Wide
def c51r0 : List Opn := [
  ⟨(some 4), none, .mv (.c (.s (.d (.str []))))⟩]
def c51r1 : List Opn := [
  ⟨(some 7), none, .bsl 1 []⟩, 
  ⟨(some 5), none, .mv (.t 7)⟩]
def c51r2 : List Opn := [
  ⟨(some 6), none, .mv (.c (.s (.d (.int .i64 0))))⟩]
def c51r3 : List Opn := [
  ⟨(some 8), none, .mv (.t 6)⟩, 
  ⟨(some 9), none, .mv (.t 1)⟩, 
  ⟨(some 10), none, .bin .lss (.t 8) (.t 9)⟩]
def c51r5 : List Opn := [
  ⟨(some 13), none, .mv (.t 5)⟩, 
  ⟨(some 14), none, .mv (.t 0)⟩, 
  ⟨(some 15), none, .bin .rem (.t 14) (.c (.s (.d (.int .u64 256))))⟩, 
  ⟨(some 16), none, .cv (.toInt .u8) (.t 15)⟩, 
  ⟨(some 17), none, .bsl 1 [(.t 16)]⟩, 
  ⟨(some 18), none, .app 1 1 false (.t 13) (.t 17)⟩, 
  ⟨(some 5), none, .mv (.t 18)⟩]
def c51r6 : List Opn := [
  ⟨(some 19), none, .mv (.t 0)⟩, 
  ⟨(some 20), none, .bin .quo (.t 19) (.c (.s (.d (.int .u64 256))))⟩, 
  ⟨(some 0), none, .mv (.t 20)⟩]
def c51r4 : List Opn := [
  ⟨(some 11), none, .mv (.t 6)⟩, 
  ⟨(some 12), none, .bin .add (.t 11) (.c (.s (.d (.int .i64 1))))⟩, 
  ⟨(some 6), none, .mv (.t 12)⟩]
def c51l7 : C := .seq (.seq (.reg c51r3 none [0, 1, 5, 6, 10]) (.cond (.t 10) (.skip) (.exit 0))) (.seq (.blk 1 (.seq (.reg c51r5 none [0, 1, 5, 6]) (.reg c51r6 none [0, 1, 5, 6]))) (.reg c51r4 none [0, 1, 5, 6]))
def c51r7 : List Opn := [
  ⟨(some 21), none, .mv (.t 5)⟩, 
  ⟨(some 22), none, .cv .b2s (.t 21)⟩, 
  ⟨(some 4), none, .mv (.t 22)⟩]
def c51 : C := .seq (.reg c51r0 none [0, 1]) (.seq (.reg c51r1 none [0, 1, 5]) (.seq (.seq (.reg c51r2 none [0, 1, 5, 6]) (.blk 0 (.loop c51l7))) (.seq (.reg c51r7 none [4]) (.ret))))
def k51 : List (Nat × List Nat) := [(7, [4]), (4, [0, 1, 5, 6]), (6, [0, 1, 5, 6]), (5, [0, 1, 5, 6]), (3, [0, 1, 5, 6, 10]), (2, [0, 1, 5, 6]), (1, [0, 1, 5]), (0, [0, 1])]
theorem cc51 : (Tryd.f51.body).bind (cC Tryd.prog 23 k51) = some c51 := by kernel_rfl
def rv51 : List RV := [.t 4]
theorem cr51 : cRVs Tryd.prog Tryd.f51.results.toList = some rv51 := by kernel_rfl
theorem f_ref01_Wide_l7_ok (size : Int) (y_ : Str) (R_ : St → Prop) (hR : (Ret Tryd.prog glP [] rv51 (.b (.s (.d (.str y_))))) = R_) : ∀ (m_ : Nat) (n2 : Int) (i : Int) (b : (List Int)) (res_ : Int × Int × (List Int)) (h : f_ref01_Wide_l7 size m_ n2 i b = some res_) (k_ : List It) (hx : ∀ s_ : Int × Int × (List Int), res_ = s_ → W Tryd.prog glP 23 k_ ⟨lkT [(0, .b (.s (.d (.int .u64 s_.1)))), (1, .b (.s (.d (.int .i64 size)))), (5, .b (.s (.own 7 s_.2.2.length))), (6, .b (.s (.d (.int .i64 s_.2.1))))], lkG [(7, ⟨1, er (eI .u8) s_.2.2, false⟩)]⟩ R_), W Tryd.prog glP 23 (.c c51l7 :: .lp c51l7 :: .blk 0 :: k_) ⟨lkT [(0, .b (.s (.d (.int .u64 n2)))), (1, .b (.s (.d (.int .i64 size)))), (5, .b (.s (.own 7 b.length))), (6, .b (.s (.d (.int .i64 i))))], lkG [(7, ⟨1, er (eI .u8) b, false⟩)]⟩ R_ := by
  intro m_; induction m_ with
  | zero => intro n2 i b res_ h; rw [f_ref01_Wide_l7.eq_1] at h; cases h
  | succ m_ ih =>
    intro n2 i b res_ h k_ hx; rw [f_ref01_Wide_l7.eq_2] at h; refine W.cdef c51l7.eq_1 ?_
    refine .seq ?_
    refine .seq ?_
    refine Rw.walk ?_
    simp only [wz, wd, ws, Nat.reduceAdd, Nat.reduceSub, Nat.reduceMul, Nat.reduceLeDiff, Nat.reduceEqDiff, Nat.reduceLT, Nat.reduceBEq, reduceIte, reduceCtorEq, Int.reduceToNat, Nat.reduceShiftRight, Nat.reduceAnd, Nat.reduceBneDiff, Nat.reduceBNe, c51r3, semI.eq_10, semI.eq_11, semI.eq_3, semI.eq_5, semI.eq_7]
    refine .cond (p := (decide (i < size))) (by first | rfl | simp only [wz, wd, ws, Nat.reduceAdd, Nat.reduceSub, Nat.reduceMul, Nat.reduceLeDiff, Nat.reduceEqDiff, Nat.reduceLT, Nat.reduceBEq, reduceIte, reduceCtorEq, Int.reduceToNat, Nat.reduceShiftRight, Nat.reduceAnd, Nat.reduceBneDiff, Nat.reduceBNe]) (fun h1 => ?_) (fun h1 => ?_)
    · rw [ite_t h1] at h
      refine .skip ?_
      refine .seq ?_
      refine .blk ?_
      refine .seq ?_
      refine Rw.walk ?_
      simp only [wz, wd, ws, Nat.reduceAdd, Nat.reduceSub, Nat.reduceMul, Nat.reduceLeDiff, Nat.reduceEqDiff, Nat.reduceLT, Nat.reduceBEq, reduceIte, reduceCtorEq, Int.reduceToNat, Nat.reduceShiftRight, Nat.reduceAnd, Nat.reduceBneDiff, Nat.reduceBNe, c51r5, semI.eq_10, semI.eq_11, semI.eq_3, semI.eq_5, semI.eq_7]
      repeat (refine And.intro ?_ ?_; · first | omega | (intro q; simp only [wz, wd, ws, Nat.reduceAdd, Nat.reduceSub, Nat.reduceMul, Nat.reduceLeDiff, Nat.reduceEqDiff, Nat.reduceLT, Nat.reduceBEq, reduceIte, reduceCtorEq, Int.reduceToNat, Nat.reduceShiftRight, Nat.reduceAnd, Nat.reduceBneDiff, Nat.reduceBNe, q]; done))
      refine Go1.of (sem_bsl (enc := (eI .u8)) (m := ([(IntKind.u8.wrap (n2.tmod 256))] : List Int)) (eI_len _) (by rfl) (by rfl) (by rfl) ⟨trivial, trivial⟩) ?_
      simp only [wz, wd, ws, Nat.reduceAdd, Nat.reduceSub, Nat.reduceMul, Nat.reduceLeDiff, Nat.reduceEqDiff, Nat.reduceLT, Nat.reduceBEq, reduceIte, reduceCtorEq, Int.reduceToNat, Nat.reduceShiftRight, Nat.reduceAnd, Nat.reduceBneDiff, Nat.reduceBNe, c51r5, semI.eq_10, semI.eq_11, semI.eq_3, semI.eq_5, semI.eq_7]
      obtain ⟨g1, h⟩ := gd_iff.1 h
      refine Go1.of (sem_app (enc := (eI .u8)) (l := b) (m := ([(IntKind.u8.wrap (n2.tmod 256))] : List Int)) (eI_len _) (by rfl) (by rfl) (newV_own (m := ([(IntKind.u8.wrap (n2.tmod 256))] : List Int)) (by rfl) (by rfl))) ?_
      simp only [wz, wd, ws, Nat.reduceAdd, Nat.reduceSub, Nat.reduceMul, Nat.reduceLeDiff, Nat.reduceEqDiff, Nat.reduceLT, Nat.reduceBEq, reduceIte, reduceCtorEq, Int.reduceToNat, Nat.reduceShiftRight, Nat.reduceAnd, Nat.reduceBneDiff, Nat.reduceBNe, c51r5, semI.eq_10, semI.eq_11, semI.eq_3, semI.eq_5, semI.eq_7]
      repeat (refine And.intro ?_ ?_; · first | omega | (intro q; simp only [wz, wd, ws, Nat.reduceAdd, Nat.reduceSub, Nat.reduceMul, Nat.reduceLeDiff, Nat.reduceEqDiff, Nat.reduceLT, Nat.reduceBEq, reduceIte, reduceCtorEq, Int.reduceToNat, Nat.reduceShiftRight, Nat.reduceAnd, Nat.reduceBneDiff, Nat.reduceBNe, q]; done))
      refine Rw.walk ?_
      simp only [wz, wd, ws, Nat.reduceAdd, Nat.reduceSub, Nat.reduceMul, Nat.reduceLeDiff, Nat.reduceEqDiff, Nat.reduceLT, Nat.reduceBEq, reduceIte, reduceCtorEq, Int.reduceToNat, Nat.reduceShiftRight, Nat.reduceAnd, Nat.reduceBneDiff, Nat.reduceBNe, c51r6, semI.eq_10, semI.eq_11, semI.eq_3, semI.eq_5, semI.eq_7]
      repeat (refine And.intro ?_ ?_; · first | omega | (intro q; simp only [wz, wd, ws, Nat.reduceAdd, Nat.reduceSub, Nat.reduceMul, Nat.reduceLeDiff, Nat.reduceEqDiff, Nat.reduceLT, Nat.reduceBEq, reduceIte, reduceCtorEq, Int.reduceToNat, Nat.reduceShiftRight, Nat.reduceAnd, Nat.reduceBneDiff, Nat.reduceBNe, q]; done))
      refine .eblk ?_
      refine Rw.walk ?_
      simp only [wz, wd, ws, Nat.reduceAdd, Nat.reduceSub, Nat.reduceMul, Nat.reduceLeDiff, Nat.reduceEqDiff, Nat.reduceLT, Nat.reduceBEq, reduceIte, reduceCtorEq, Int.reduceToNat, Nat.reduceShiftRight, Nat.reduceAnd, Nat.reduceBneDiff, Nat.reduceBNe, c51r4, semI.eq_10, semI.eq_11, semI.eq_3, semI.eq_5, semI.eq_7]
      refine .lp ?_
      refine .weak (Imp.co [] _ _ ?_ ?_ ?_ ?_ ?_) (ih (IntKind.u64.wrap (n2.tdiv 256)) (IntKind.i64.wrap (i + 1)) (b ++ ([(IntKind.u8.wrap (n2.tmod 256))] : List Int)) _ h k_ hx) <;> simp only [wz, wd, ws, Nat.reduceAdd, Nat.reduceSub, Nat.reduceMul, Nat.reduceLeDiff, Nat.reduceEqDiff, Nat.reduceLT, Nat.reduceBEq, reduceIte, reduceCtorEq, Int.reduceToNat, Nat.reduceShiftRight, Nat.reduceAnd, Nat.reduceBneDiff, Nat.reduceBNe, wi, er_nil]
    · rw [ite_f h1] at h
      refine .exit rfl ?_
      obtain rfl := Option.some.inj h
      refine .weak (Imp.co [] _ _ ?_ ?_ ?_ ?_ ?_) (hx _ rfl) <;> simp only [wz, wd, ws, Nat.reduceAdd, Nat.reduceSub, Nat.reduceMul, Nat.reduceLeDiff, Nat.reduceEqDiff, Nat.reduceLT, Nat.reduceBEq, reduceIte, reduceCtorEq, Int.reduceToNat, Nat.reduceShiftRight, Nat.reduceAnd, Nat.reduceBneDiff, Nat.reduceBNe, wi, er_nil]
theorem f_ref01_Wide_ok (n : Int) (size : Int) (y_ : Str) (h : f_ref01_Wide n size = some y_) : Fun Tryd.prog glP 51 [.b (.s (.d (.int .u64 n))), .b (.s (.d (.int .i64 size)))] (.b (.s (.d (.str y_)))) := by
  refine fun_walk [] Tryd.func51 Tryd.ntmps51 cc51 cr51 (by kernel_rfl) (by simp only [List.length_cons, List.length_nil]; decide) ?_
  generalize hR : Ret _ _ _ _ _ = R_
  simp only [wz, wd, ws, Nat.reduceAdd, Nat.reduceSub, Nat.reduceMul, Nat.reduceLeDiff, Nat.reduceEqDiff, Nat.reduceLT, Nat.reduceBEq, reduceIte, reduceCtorEq, Int.reduceToNat, Nat.reduceShiftRight, Nat.reduceAnd, Nat.reduceBneDiff, Nat.reduceBNe]
  unfold f_ref01_Wide at h; unfold c51
  refine .seq ?_
  refine Rw.walk ?_
  simp only [wz, wd, ws, Nat.reduceAdd, Nat.reduceSub, Nat.reduceMul, Nat.reduceLeDiff, Nat.reduceEqDiff, Nat.reduceLT, Nat.reduceBEq, reduceIte, reduceCtorEq, Int.reduceToNat, Nat.reduceShiftRight, Nat.reduceAnd, Nat.reduceBneDiff, Nat.reduceBNe, c51r0, semI.eq_10, semI.eq_11, semI.eq_3, semI.eq_5, semI.eq_7]
  refine .seq ?_
  refine Rw.walk ?_
  simp only [wz, wd, ws, Nat.reduceAdd, Nat.reduceSub, Nat.reduceMul, Nat.reduceLeDiff, Nat.reduceEqDiff, Nat.reduceLT, Nat.reduceBEq, reduceIte, reduceCtorEq, Int.reduceToNat, Nat.reduceShiftRight, Nat.reduceAnd, Nat.reduceBneDiff, Nat.reduceBNe, c51r1, semI.eq_10, semI.eq_11, semI.eq_3, semI.eq_5, semI.eq_7]
  refine Go1.of (sem_bsl (enc := (eI .u8)) (m := ([] : List Int)) (eI_len _) (by rfl) (by rfl) (by rfl) trivial) ?_
  simp only [wz, wd, ws, Nat.reduceAdd, Nat.reduceSub, Nat.reduceMul, Nat.reduceLeDiff, Nat.reduceEqDiff, Nat.reduceLT, Nat.reduceBEq, reduceIte, reduceCtorEq, Int.reduceToNat, Nat.reduceShiftRight, Nat.reduceAnd, Nat.reduceBneDiff, Nat.reduceBNe, c51r1, semI.eq_10, semI.eq_11, semI.eq_3, semI.eq_5, semI.eq_7]
  refine .seq ?_
  refine .seq ?_
  refine Rw.walk ?_
  simp only [wz, wd, ws, Nat.reduceAdd, Nat.reduceSub, Nat.reduceMul, Nat.reduceLeDiff, Nat.reduceEqDiff, Nat.reduceLT, Nat.reduceBEq, reduceIte, reduceCtorEq, Int.reduceToNat, Nat.reduceShiftRight, Nat.reduceAnd, Nat.reduceBneDiff, Nat.reduceBNe, c51r2, semI.eq_10, semI.eq_11, semI.eq_3, semI.eq_5, semI.eq_7]
  refine .blk ?_
  obtain ⟨s, hf, h⟩ := Option.bind_eq_some_iff.1 h
  refine .loop (.weak (Imp.co [] _ _ ?c1 ?c2 ?c3 ?c4 ?c5) (f_ref01_Wide_l7_ok size _ _ hR _ _ _ _ _ hf _ ?_))
  case c1 | c2 | c3 | c4 | c5 => simp only [wz, wd, ws, Nat.reduceAdd, Nat.reduceSub, Nat.reduceMul, Nat.reduceLeDiff, Nat.reduceEqDiff, Nat.reduceLT, Nat.reduceBEq, reduceIte, reduceCtorEq, Int.reduceToNat, Nat.reduceShiftRight, Nat.reduceAnd, Nat.reduceBneDiff, Nat.reduceBNe, wi, er_nil]
  · intro s_ hs; subst hs
    refine .seq ?_
    refine Rw.walk ?_
    simp only [wz, wd, ws, Nat.reduceAdd, Nat.reduceSub, Nat.reduceMul, Nat.reduceLeDiff, Nat.reduceEqDiff, Nat.reduceLT, Nat.reduceBEq, reduceIte, reduceCtorEq, Int.reduceToNat, Nat.reduceShiftRight, Nat.reduceAnd, Nat.reduceBneDiff, Nat.reduceBNe, c51r7, semI.eq_10, semI.eq_11, semI.eq_3, semI.eq_5, semI.eq_7]
    refine Go1.of (sem_b2s (n := s.2.2) (rowsV_own (m := s.2.2) (by rfl) (by rfl))) ?_
    simp only [wz, wd, ws, Nat.reduceAdd, Nat.reduceSub, Nat.reduceMul, Nat.reduceLeDiff, Nat.reduceEqDiff, Nat.reduceLT, Nat.reduceBEq, reduceIte, reduceCtorEq, Int.reduceToNat, Nat.reduceShiftRight, Nat.reduceAnd, Nat.reduceBneDiff, Nat.reduceBNe, c51r7, semI.eq_10, semI.eq_11, semI.eq_3, semI.eq_5, semI.eq_7]
    obtain rfl := Option.some.inj h
    refine .ret ?_
    rw [← hR]
    simp only [wz, wd, ws, Nat.reduceAdd, Nat.reduceSub, Nat.reduceMul, Nat.reduceLeDiff, Nat.reduceEqDiff, Nat.reduceLT, Nat.reduceBEq, reduceIte, reduceCtorEq, Int.reduceToNat, Nat.reduceShiftRight, Nat.reduceAnd, Nat.reduceBneDiff, Nat.reduceBNe, rv51]
end Go.Proofs.YtjhgkcbhllomaaaDoor.V
end
