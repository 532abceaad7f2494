/- Go functions compute what Lean functions do. -/
import Derived.Test.YtdcokepmblcdmaaDoorQNameRefsB
import Derived.Lib.Bytealg
import Derived.Lib.Join
import Derived.Shelf.Strings.Builder1
import Derived.Shelf.Strings.Builder2
import Derived.Shelf.Strings.OnBuilder
import Derived.Shelf.Small.Strs
import Derived.Shelf.Small.Wraps
import Derived.Shelf.Strings.BuilderF
import Derived.Shelf.Strings.BuilderK
import Derived.Shelf.Strings.Builder2Cap
import Derived.Shelf.Strings.Search1
import Derived.Shelf.Strings.Search2
import Derived.Shelf.Strings.Search3
import Derived.Shelf.Strings.Cut
import Derived.Shelf.LaysM
import Derived.Shelf.Strings.Shaped
import Derived.Shelf.Strings.Prefix
import Derived.Shelf.Unicode.Decode
import Derived.Shelf.Unicode.DecodeSlow
import Derived.Shelf.Strings.BuilderCap
import Derived.Test.YtdcokepmblcdmaaDoorProg
import Derived.OpenShut
import Derived.Below
import Derived.Deep.Draws
import Derived.OwnWalk
import Derived.Laws.BytesArg
import Derived.Laws.MakeOwn
import Derived.Laws.OwnMore
import Derived.Deep.OwnRows
import Derived.Tactics
import Derived.Lib.ConvBytes
import Derived.Laws.Slices
import Derived.WalkKit
import Derived.KernelRfl
import Derived.RowKit3
import Derived.Deep.LoopGhost
import Derived.Deep.QuietTactic
import Derived.BigQuiet
import Derived.WideLaws
import Derived.Deep.DeepCutAuto
import Derived.Deep.CutBlock
import Derived.Deep.RegionHeld3
import Derived.Laws.Rows
import Derived.Lib.AppendStr
import Derived.ArgAppend
import Derived.Laws.BitsLemmas
import Derived.RowKit
import Derived.Orders
import Derived.FnData
import Derived.LaidMore
import Derived.MakeChecks
import Derived.RangeFuncKeeps
import Derived.RangeFuncCalls
import Derived.RangeFuncLeaves
import Derived.LoopNIn
import Derived.LoopIn
import Derived.OwnWalkIn
import Derived.TacticsInMore
section
/- What Go functions compute, as Lean functions. -/
namespace Go.Proofs.YtdcokepmblcdmaaDoor.V
open Go Go.RowKit
set_option linter.unusedVariables false
set_option linter.unusedSimpArgs false
set_option maxHeartbeats 1000000
def g_digest_keys : List Int := [1116352408, 1899447441, 3049323471, 3921009573, 961987163, 1508970993, 2453635748, 2870763221, 3624381080, 310598401, 607225278, 1426881987, 1925078388, 2162078206, 2614888103, 3248222580, 3835390401, 4022224774, 264347078, 604807628, 770255983, 1249150122, 1555081692, 1996064986, 2554220882, 2821834349, 2952996808, 3210313671, 3336571891, 3584528711, 113926993, 338241895, 666307205, 773529912, 1294757372, 1396182291, 1695183700, 1986661051, 2177026350, 2456956037, 2730485921, 2820302411, 3259730800, 3345764771, 3516065817, 3600352804, 4094571909, 275423344, 430227734, 506948616, 659060556, 883997877, 958139571, 1322822218, 1537002063, 1747873779, 1955562222, 2024104815, 2227730452, 2361852424, 2428436474, 2756734187, 3204031479, 3329325298]
def glP : Gl := fun g => if g = 0 then some ((g_digest_keys.map (eI .u32)).flatten) else none
structure api_Ref where
  Repo : Str
  Tag : Str
  Digest : Str
deriving DecidableEq, Inhabited
def e_api_Ref (x : api_Ref) : List Sc := [(.str x.Repo), (.str x.Tag), (.str x.Digest)]
theorem e_api_Ref_len (x : api_Ref) : (e_api_Ref x).length = 3 := rfl
def W_api_Ref (x : api_Ref) : Prop := x.Repo.length ≤ 9223372036854775807 ∧ x.Tag.length ≤ 9223372036854775807 ∧ x.Digest.length ≤ 9223372036854775807
def f_octet_Hex (s : Str) : Option Str := gd (s.length ≤ 35184372088832) <| some (hexl s)
def f_internal_stringslite_Index (s sub : Str) : Option Int := match sub with
  | [c] => some (Lib.indexByte s c)
  | _ => none
def f_internal_stringslite_IndexByte (s : Str) (c : Int) : Option Int := some (Lib.indexByte s c.toNat.toUInt8)
theorem flat_eS (l : List Str) : (l.map eS).flatten = l.map Sc.str := by
  induction l with
  | nil => rfl
  | cons x l ih => rw [List.map_cons, List.flatten_cons, ih]; rfl
def f_strings_Join (l : List Str) (sep : Str) : Option Str := gd (l.length ≤ 140737488355328 ∧ (Lib.join l sep).length ≤ 140737488355328) <| some (Lib.join l sep)
def f_law03_short (s : Str) : Option (Str) :=
  gd (0 ≤ (if 220 < (s.length : Int) then 220 else (s.length : Int)) ∧ (if 220 < (s.length : Int) then 220 else (s.length : Int)) ≤ (s.length : Int)) <|
  some (cut s 0 (if 220 < (s.length : Int) then 220 else (s.length : Int)))
def f_digest_begins : Option ((List Int)) :=
  gd (8 = 8) <|
  some ([1779033703, 3144134277, 1013904242, 2773480762, 1359893119, 2600822924, 528734635, 1541459225] : (List Int))
def f_digest_big (s : Str) : Option (Int) :=
  (ix s 0).bind fun c =>
  (ix s 1).bind fun c2 =>
  (ix s 2).bind fun c3 =>
  (ix s 3).bind fun c4 =>
  some (IntKind.u32.wrap ((BitVec.ofInt IntKind.u32.bits (IntKind.u32.wrap ((BitVec.ofInt IntKind.u32.bits (IntKind.u32.wrap ((BitVec.ofInt IntKind.u32.bits (IntKind.u32.wrap ((IntKind.u32.wrap (bn c)) * 2 ^ (min 24 IntKind.u32.bits))) ||| BitVec.ofInt IntKind.u32.bits (IntKind.u32.wrap ((IntKind.u32.wrap (bn c2)) * 2 ^ (min 16 IntKind.u32.bits)))).toNat)) ||| BitVec.ofInt IntKind.u32.bits (IntKind.u32.wrap ((IntKind.u32.wrap (bn c3)) * 2 ^ (min 8 IntKind.u32.bits)))).toNat)) ||| BitVec.ofInt IntKind.u32.bits (IntKind.u32.wrap (bn c4))).toNat))
def f_math_bits_RotateLeft32 (x : Int) (kv : Int) : Option (Int) :=
  (some (IntKind.u64.wrap ((BitVec.ofInt IntKind.u64.bits (IntKind.u64.wrap kv) &&& BitVec.ofInt IntKind.u64.bits 31).toNat))).bind fun s =>
  gd (0 ≤ s) <|
  gd (0 ≤ (IntKind.u64.wrap (32 - s))) <|
  some (IntKind.u32.wrap ((BitVec.ofInt IntKind.u32.bits (IntKind.u32.wrap (x * 2 ^ (min s.toNat IntKind.u32.bits))) ||| BitVec.ofInt IntKind.u32.bits (x.fdiv (2 ^ (min (IntKind.u64.wrap (32 - s)).toNat IntKind.u32.bits)))).toNat))
def f_digest_mixed (x : Int) (a : Int) (b : Int) (c : Int) (moved : Bool) : Option (Int) :=
  (f_math_bits_RotateLeft32 x (IntKind.i64.wrap (0 - c))).bind fun t =>
  Option.bind (
    if moved then
      gd (0 ≤ c) <|
      some (x.fdiv (2 ^ (min c.toNat IntKind.u32.bits)))
    else
      some t) fun s : Int =>
  (f_math_bits_RotateLeft32 x (IntKind.i64.wrap (0 - a))).bind fun t2 =>
  (f_math_bits_RotateLeft32 x (IntKind.i64.wrap (0 - b))).bind fun t3 =>
  some (IntKind.u32.wrap ((BitVec.ofInt IntKind.u32.bits (IntKind.u32.wrap ((BitVec.ofInt IntKind.u32.bits t2 ^^^ BitVec.ofInt IntKind.u32.bits t3).toNat)) ^^^ BitVec.ofInt IntKind.u32.bits s).toNat))
def f_digest_over_l9 (hv : (List Int)) (s : Str) : Nat → Int → (List Int) → Option (Int × (List Int))
  | 0, _, _ => none
  | m_ + 1, v14, w =>
    if (decide (v14 < 64)) then
      if (decide (v14 < 16)) then
        gd (0 ≤ (IntKind.i64.wrap (4 * v14)) ∧ (IntKind.i64.wrap (4 * v14)) ≤ (s.length : Int)) <|
        (f_digest_big (cut s (IntKind.i64.wrap (4 * v14)) (s.length : Int))).bind fun t =>
        gd (0 ≤ v14 ∧ v14 < 64) <|
        gd (0 ≤ v14 ∧ v14 < (w.length : Int)) <|
        f_digest_over_l9 hv s m_ (IntKind.i64.wrap (v14 + 1)) (w.set v14.toNat t)
      else
        gd (0 ≤ (IntKind.i64.wrap (v14 - 2)) ∧ (IntKind.i64.wrap (v14 - 2)) < 64) <|
        (ix w (IntKind.i64.wrap (v14 - 2))).bind fun x =>
        (f_digest_mixed x 17 19 10 true).bind fun t =>
        gd (0 ≤ (IntKind.i64.wrap (v14 - 7)) ∧ (IntKind.i64.wrap (v14 - 7)) < 64) <|
        (ix w (IntKind.i64.wrap (v14 - 7))).bind fun x2 =>
        gd (0 ≤ (IntKind.i64.wrap (v14 - 15)) ∧ (IntKind.i64.wrap (v14 - 15)) < 64) <|
        (ix w (IntKind.i64.wrap (v14 - 15))).bind fun x3 =>
        (f_digest_mixed x3 7 18 3 true).bind fun t2 =>
        gd (0 ≤ (IntKind.i64.wrap (v14 - 16)) ∧ (IntKind.i64.wrap (v14 - 16)) < 64) <|
        (ix w (IntKind.i64.wrap (v14 - 16))).bind fun x4 =>
        gd (0 ≤ v14 ∧ v14 < 64) <|
        gd (0 ≤ v14 ∧ v14 < (w.length : Int)) <|
        f_digest_over_l9 hv s m_ (IntKind.i64.wrap (v14 + 1)) (w.set v14.toNat (IntKind.u32.wrap ((IntKind.u32.wrap ((IntKind.u32.wrap (t + x2)) + t2)) + x4)))
    else
      some (v14, w)
def f_digest_over_l19 (hv : (List Int)) (s : Str) (s2 : Int × (List Int)) : Nat → Int → (List Int) → Option (Int × (List Int))
  | 0, _, _ => none
  | m_ + 1, v51, v =>
    if (decide (v51 < 64)) then
      (ix v 0).bind fun x =>
      (ix v 4).bind fun x2 =>
      (ix v 7).bind fun x3 =>
      (f_digest_mixed x2 6 11 25 false).bind fun t =>
      (ix v 5).bind fun x4 =>
      (ix v 6).bind fun x5 =>
      gd (0 ≤ v51 ∧ v51 < 64) <|
      (ix g_digest_keys v51).bind fun x6 =>
      gd (0 ≤ v51 ∧ v51 < 64) <|
      (ix s2.2 v51).bind fun x7 =>
      (some (IntKind.u32.wrap ((IntKind.u32.wrap ((IntKind.u32.wrap ((IntKind.u32.wrap (x3 + t)) + (IntKind.u32.wrap ((BitVec.ofInt IntKind.u32.bits (IntKind.u32.wrap ((BitVec.ofInt IntKind.u32.bits x2 &&& BitVec.ofInt IntKind.u32.bits x4).toNat)) ^^^ BitVec.ofInt IntKind.u32.bits (IntKind.u32.wrap ((BitVec.ofInt IntKind.u32.bits (IntKind.u32.wrap (BitVec.ofInt IntKind.u32.bits (if IntKind.u32.signed then -1 else IntKind.u32.max) ^^^ BitVec.ofInt IntKind.u32.bits x2).toNat) &&& BitVec.ofInt IntKind.u32.bits x5).toNat))).toNat)))) + x6)) + x7))).bind fun first =>
      (f_digest_mixed x 2 13 22 false).bind fun t2 =>
      (ix v 1).bind fun x8 =>
      (ix v 2).bind fun x9 =>
      (ix v 1).bind fun x10 =>
      (ix v 2).bind fun x11 =>
      (some (IntKind.u32.wrap (t2 + (IntKind.u32.wrap ((BitVec.ofInt IntKind.u32.bits (IntKind.u32.wrap ((BitVec.ofInt IntKind.u32.bits (IntKind.u32.wrap ((BitVec.ofInt IntKind.u32.bits x &&& BitVec.ofInt IntKind.u32.bits x8).toNat)) ^^^ BitVec.ofInt IntKind.u32.bits (IntKind.u32.wrap ((BitVec.ofInt IntKind.u32.bits x &&& BitVec.ofInt IntKind.u32.bits x9).toNat))).toNat)) ^^^ BitVec.ofInt IntKind.u32.bits (IntKind.u32.wrap ((BitVec.ofInt IntKind.u32.bits x10 &&& BitVec.ofInt IntKind.u32.bits x11).toNat))).toNat))))).bind fun second =>
      (ix v 1).bind fun x12 =>
      (ix v 2).bind fun x13 =>
      (ix v 3).bind fun x14 =>
      (ix v 5).bind fun x15 =>
      (ix v 6).bind fun x16 =>
      gd (v.length = 8) <|
      f_digest_over_l19 hv s s2 m_ (IntKind.i64.wrap (v51 + 1)) ([(IntKind.u32.wrap (first + second)), x, x12, x13, (IntKind.u32.wrap (x14 + first)), x2, x15, x16] : (List Int))
    else
      some (v51, v)
def f_digest_over_l25 (s : Str) (s3 : Int × (List Int)) : Nat → Int → (List Int) → Option (Int × (List Int))
  | 0, _, _ => none
  | m_ + 1, v119, hv2 =>
    if (decide (v119 < 8)) then
      gd (0 ≤ v119 ∧ v119 < 8) <|
      (ix hv2 v119).bind fun x =>
      gd (0 ≤ v119 ∧ v119 < 8) <|
      (ix s3.2 v119).bind fun x2 =>
      gd (0 ≤ v119 ∧ v119 < 8) <|
      gd (0 ≤ v119 ∧ v119 < (hv2.length : Int)) <|
      f_digest_over_l25 s s3 m_ (IntKind.i64.wrap (v119 + 1)) (hv2.set v119.toNat (IntKind.u32.wrap (x + x2)))
    else
      some (v119, hv2)
def f_digest_over (hv : (List Int)) (s : Str) : Option ((List Int)) :=
  gd (hv.length = 8) <|
  Option.bind (f_digest_over_l9 hv s (((64 : Int) - 0).toNat + 1) 0 (List.replicate 64 0)) fun s2 : Int × (List Int) =>
  gd (hv.length = 8) <|
  gd (hv.length = 8) <|
  Option.bind (f_digest_over_l19 hv s s2 (((64 : Int) - 0).toNat + 1) 0 hv) fun s3 : Int × (List Int) =>
  Option.bind (f_digest_over_l25 s s3 (((8 : Int) - 0).toNat + 1) 0 hv) fun s4 : Int × (List Int) =>
  gd (s4.2.length = 8) <|
  gd (s4.2.length = 8) <|
  gd (s4.2.length = 8) <|
  some s4.2
def f_digest_Sum_l6 (t : Str) : Nat → Str → Option (Str)
  | 0, _ => none
  | m_ + 1, s =>
    if (((s.length : Int).tmod 64) != 56) then
      gd (s.length + 1 ≤ 9223372036854775807) <|
      f_digest_Sum_l6 t m_ (s ++ ([0] : Str))
    else
      some s
def f_digest_Sum_l11 (t : Str) (s : Str) : Nat → Str → Int → Option (Str × Int)
  | 0, _, _ => none
  | m_ + 1, s2, i =>
    if (decide (i ≥ 0)) then
      gd (0 ≤ (IntKind.i64.wrap (8 * i))) <|
      gd (s2.length + 1 ≤ 9223372036854775807) <|
      (some (s2 ++ (([(IntKind.u8.wrap ((IntKind.u64.wrap ((IntKind.u64.wrap (t.length : Int)) * 8)).fdiv (2 ^ (min (IntKind.i64.wrap (8 * i)).toNat IntKind.u64.bits))))] : List Int).map nb))).bind fun s3 =>
      f_digest_Sum_l11 t s m_ s3 (IntKind.i64.wrap (i - 1))
    else
      some (s2, i)
def f_digest_Sum_l16 (s : Str) : Nat → Str → (List Int) → Option (Str × (List Int))
  | 0, _, _ => none
  | m_ + 1, s3, hv =>
    if (!(s3 == ([] : Str))) then
      gd (hv.length = 8) <|
      (f_digest_over hv s3).bind fun t3 =>
      gd (hv.length = 8) <|
      gd (t3.length = 8) <|
      gd (64 ≤ (s3.length : Int)) <|
      f_digest_Sum_l16 s m_ (cut s3 64 (s3.length : Int)) t3
    else
      some (s3, hv)
def f_digest_Sum_l23 (s : Str) (s3 : Str × (List Int)) : Nat → Int → (List Int) → Option (Int × (List Int))
  | 0, _, _ => none
  | m_ + 1, v46, out =>
    if (decide (v46 < 8)) then
      gd (s3.2.length = 8) <|
      (ix s3.2 v46).bind fun x =>
      gd ((out.length + 4) * 1 ≤ 140737488355328) <|
      f_digest_Sum_l23 s s3 m_ (IntKind.i64.wrap (v46 + 1)) (out ++ ([(IntKind.u8.wrap (x.fdiv (2 ^ (min 24 IntKind.u32.bits)))), (IntKind.u8.wrap (x.fdiv (2 ^ (min 16 IntKind.u32.bits)))), (IntKind.u8.wrap (x.fdiv (2 ^ (min 8 IntKind.u32.bits)))), (IntKind.u8.wrap x)] : List Int))
    else
      some (v46, out)
def f_digest_Sum (parts : (List Str)) : Option (Str) :=
  (f_strings_Join parts ([] : Str)).bind fun t =>
  gd (t.length + 1 ≤ 9223372036854775807) <|
  Option.bind (f_digest_Sum_l6 t 65 (t ++ ([128] : Str))) fun s : Str =>
  Option.bind (f_digest_Sum_l11 t s (((7 : Int) - 0).toNat + 2) s 7) fun s2 : Str × Int =>
  (f_digest_begins).bind fun t2 =>
  gd (t2.length = 8) <|
  Option.bind (f_digest_Sum_l16 s (s.length + 1) s2.1 t2) fun s3 : Str × (List Int) =>
  gd (s3.2.length = 8) <|
  Option.bind (f_digest_Sum_l23 s s3 (((8 : Int) - 0).toNat + 1) 0 []) fun s4 : Int × (List Int) =>
  some (s4.2.map nb)
def f_digest_Of (s : Str) : Option (Str) :=
  (f_digest_Sum ([s] : List Str)).bind fun t =>
  (f_octet_Hex t).bind fun t2 =>
  gd (7 + t2.length ≤ 9223372036854775807) <|
  some (([115, 104, 97, 50, 53, 54, 58] : Str) ++ t2)
def f_internal_stringslite_HasPrefix (s : Str) (prefixv : Str) : Option (Bool) :=
  gd ((decide ((s.length : Int) ≥ (prefixv.length : Int))) = true → 0 ≤ (prefixv.length : Int) ∧ (prefixv.length : Int) ≤ (s.length : Int)) <|
  some ((decide ((s.length : Int) ≥ (prefixv.length : Int))) && ((cut s 0 (prefixv.length : Int)) == prefixv))
def f_internal_stringslite_CutPrefix (s : Str) (prefixv : Str) : Option (Str × Bool) :=
  (f_internal_stringslite_HasPrefix s prefixv).bind fun t =>
  if (!t) then
    some (s, false)
  else
    gd (0 ≤ (prefixv.length : Int) ∧ (prefixv.length : Int) ≤ (s.length : Int)) <|
    some ((cut s (prefixv.length : Int) (s.length : Int)), true)
def f_strings_CutPrefix (s : Str) (prefixv : Str) : Option (Str × Bool) :=
  (f_internal_stringslite_CutPrefix s prefixv).bind fun t =>
  some (t.1, t.2)
def f_strings_IndexByte (s : Str) (c : Int) : Option (Int) :=
  (f_internal_stringslite_IndexByte s c).bind fun t =>
  some t
def f_octet_Bytes_l12 (s : Str) : Nat → Int → (List Int) → Option ((Int × (List Int)) ⊕ (Str × Int))
  | 0, _, _ => none
  | m_ + 1, v18, out =>
    if (decide (v18 < ((List.replicate (IntKind.i64.wrap ((s.length : Int).tdiv 2)).toNat 0).length : Int))) then
      (ix s (IntKind.i64.wrap (2 * v18))).bind fun c =>
      (f_strings_IndexByte ([48, 49, 50, 51, 52, 53, 54, 55, 56, 57, 97, 98, 99, 100, 101, 102] : Str) (bn c)).bind fun t =>
      (ix s (IntKind.i64.wrap ((IntKind.i64.wrap (2 * v18)) + 1))).bind fun c2 =>
      (f_strings_IndexByte ([48, 49, 50, 51, 52, 53, 54, 55, 56, 57, 97, 98, 99, 100, 101, 102] : Str) (bn c2)).bind fun t2 =>
      if ((decide (t < 0)) || (decide (t2 < 0))) then
        some (.inr (([] : Str), 4))
      else
        (ix out v18).bind fun x =>
        f_octet_Bytes_l12 s m_ (IntKind.i64.wrap (v18 + 1)) (out.set v18.toNat (IntKind.u8.wrap (IntKind.i64.wrap ((IntKind.i64.wrap (t * 16)) + t2))))
    else
      some (.inl (v18, out))
def f_octet_Bytes (s : Str) : Option (Str × Int) :=
  if (((s.length : Int).tmod 2) != 0) then
    some (([] : Str), 4)
  else
    gd (0 ≤ (IntKind.i64.wrap ((s.length : Int).tdiv 2)) ∧ (IntKind.i64.wrap ((s.length : Int).tdiv 2)) ≤ (IntKind.i64.wrap ((s.length : Int).tdiv 2)) ∧ (IntKind.i64.wrap ((s.length : Int).tdiv 2)) * 1 ≤ 140737488355328 ∧ (IntKind.i64.wrap ((s.length : Int).tdiv 2)) < 9223372036854775808) <|
    Option.bind (f_octet_Bytes_l12 s (((((List.replicate (IntKind.i64.wrap ((s.length : Int).tdiv 2)).toNat 0).length : Int) : Int) - 0).toNat + 1) 0 (List.replicate (IntKind.i64.wrap ((s.length : Int).tdiv 2)).toNat 0)) fun s2 : (Int × (List Int)) ⊕ (Str × Int) => match s2 with
    | .inr z => some z
    | .inl s3 =>
      some ((s3.2.map nb), 0)
def f_digest_Parse (s : Str) : Option (Str × Int) :=
  (f_strings_CutPrefix s ([115, 104, 97, 50, 53, 54, 58] : Str)).bind fun t =>
  (f_octet_Bytes t.1).bind fun t2 =>
  if (((!t.2) || (t2.2 != 0)) || ((t2.1.length : Int) != 32)) then
    some (([] : Str), 6)
  else
    some (t2.1, 0)
def f_name_small (c : Int) : Option (Bool) :=
  some (((decide (c ≥ 97)) && (decide (c ≤ 122))) || ((decide (c ≥ 48)) && (decide (c ≤ 57))))
def f_name_part_l21 (s : Str) : Nat → Int → Int → Option ((Int × Int) ⊕ (Bool))
  | 0, _, _ => none
  | m_ + 1, run, v8 =>
    if (decide (v8 < (s.length : Int))) then
      (ix s v8).bind fun c =>
      (f_name_small (bn c)).bind fun t =>
      if t then
        f_name_part_l21 s m_ 0 (IntKind.i64.wrap (v8 + 1))
      else
        if ((bn c) == 45) then
          gd ((decide (run > 0)) = true → 0 ≤ (IntKind.i64.wrap (v8 - 1)) ∧ (IntKind.i64.wrap (v8 - 1)) < (s.length : Int)) <|
          if ((decide (run > 0)) && ((bn (s.getD (IntKind.i64.wrap (v8 - 1)).toNat 0)) != 45)) then
            some (.inr false)
          else
            if (v8 == 0) then
              some (.inr false)
            else
              f_name_part_l21 s m_ (IntKind.i64.wrap (run + 1)) (IntKind.i64.wrap (v8 + 1))
        else
          gd ((((bn c) == 95) && (run == 1)) = true → 0 ≤ (IntKind.i64.wrap (v8 - 1)) ∧ (IntKind.i64.wrap (v8 - 1)) < (s.length : Int)) <|
          if ((((bn c) == 95) && (run == 1)) && ((bn (s.getD (IntKind.i64.wrap (v8 - 1)).toNat 0)) == 95)) then
            if (v8 == 0) then
              some (.inr false)
            else
              f_name_part_l21 s m_ (IntKind.i64.wrap (run + 1)) (IntKind.i64.wrap (v8 + 1))
          else
            if ((bn c) == 95) then
              if (decide (run > 0)) then
                some (.inr false)
              else
                if (v8 == 0) then
                  some (.inr false)
                else
                  f_name_part_l21 s m_ (IntKind.i64.wrap (run + 1)) (IntKind.i64.wrap (v8 + 1))
            else
              if ((bn c) == 46) then
                if (decide (run > 0)) then
                  some (.inr false)
                else
                  if (v8 == 0) then
                    some (.inr false)
                  else
                    f_name_part_l21 s m_ (IntKind.i64.wrap (run + 1)) (IntKind.i64.wrap (v8 + 1))
              else
                some (.inr false)
    else
      some (.inl (run, v8))
def f_name_part (s : Str) : Option (Bool) :=
  Option.bind (f_name_part_l21 s ((((s.length : Int) : Int) - 0).toNat + 1) 0 0) fun s2 : (Int × Int) ⊕ (Bool) => match s2 with
  | .inr z => some z
  | .inl s3 =>
    some ((!(s == ([] : Str))) && (s3.1 == 0))
def f_name_Repo (s : Str) : Option Bool := repoOf f_name_part s

def f_name_Tag_l8 (s : Str) : Nat → Int → Option ((Int) ⊕ (Bool))
  | 0, _ => none
  | m_ + 1, v7 =>
    if (decide (v7 < (s.length : Int))) then
      (ix s v7).bind fun c =>
      (f_name_small (bn c)).bind fun t =>
      if (((t || ((decide ((bn c) ≥ 65)) && (decide ((bn c) ≤ 90)))) || ((bn c) == 95)) || ((decide (v7 > 0)) && (((bn c) == 46) || ((bn c) == 45)))) then
        f_name_Tag_l8 s m_ (IntKind.i64.wrap (v7 + 1))
      else
        some (.inr false)
    else
      some (.inl v7)
def f_name_Tag (s : Str) : Option (Bool) :=
  Option.bind (f_name_Tag_l8 s ((((s.length : Int) : Int) - 0).toNat + 1) 0) fun s2 : (Int) ⊕ (Bool) => match s2 with
  | .inr z => some z
  | .inl s3 =>
    some ((!(s == ([] : Str))) && (decide ((s.length : Int) ≤ 128)))
def f_name_Print (rv : api_Ref) : Option (Str × Int) :=
  (f_digest_Parse rv.Digest).bind fun t =>
  (f_name_Repo rv.Repo).bind fun t2 =>
  if (!t2) then
    some (([] : Str), 1)
  else
    (gx (rv.Digest == ([] : Str)) (f_name_Tag rv.Tag) default).bind fun t3 =>
    if ((rv.Digest == ([] : Str)) && t3) then
      gd (rv.Repo.length + 1 ≤ 9223372036854775807) <|
      gd ((rv.Repo ++ ([58] : Str)).length + rv.Tag.length ≤ 9223372036854775807) <|
      some (((rv.Repo ++ ([58] : Str)) ++ rv.Tag), 0)
    else
      if ((rv.Tag == ([] : Str)) && (t.2 == 0)) then
        gd (rv.Repo.length + 1 ≤ 9223372036854775807) <|
        gd ((rv.Repo ++ ([64] : Str)).length + rv.Digest.length ≤ 9223372036854775807) <|
        some (((rv.Repo ++ ([64] : Str)) ++ rv.Digest), 0)
      else
        some (([] : Str), 1)
def f_internal_stringslite_Cut (s : Str) (sep : Str) : Option (Str × Str × Bool) :=
  (f_internal_stringslite_Index s sep).bind fun t =>
  if (decide (t ≥ 0)) then
    gd (0 ≤ t ∧ t ≤ (s.length : Int)) <|
    gd (0 ≤ (IntKind.i64.wrap (t + (sep.length : Int))) ∧ (IntKind.i64.wrap (t + (sep.length : Int))) ≤ (s.length : Int)) <|
    some ((cut s 0 t), (cut s (IntKind.i64.wrap (t + (sep.length : Int))) (s.length : Int)), true)
  else
    some (s, ([] : Str), false)
def f_strings_Cut (s : Str) (sep : Str) : Option (Str × Str × Bool) :=
  (f_internal_stringslite_Cut s sep).bind fun t =>
  some (t.1, t.2.1, t.2.2)
def f_name_Parse (s : Str) : Option (api_Ref × Int) :=
  Option.bind (
    (f_strings_Cut s ([64] : Str)).bind fun t =>
    if t.2.2 then
      some (t.1, ([] : Str), t.2.1)
    else
      (f_strings_Cut s ([58] : Str)).bind fun t2 =>
      some (t2.1, t2.2.1, ([] : Str))) fun s2 : Str × Str × Str =>
  (f_name_Print (api_Ref.mk s2.1 s2.2.1 s2.2.2)).bind fun t =>
  if ((t.2 != 0) || (!(t.1 == s))) then
    some ((api_Ref.mk ([] : Str) ([] : Str) ([] : Str)), 5)
  else
    some ((api_Ref.mk s2.1 s2.2.1 s2.2.2), 0)
def f_law03_alive : Option (Bool) :=
  (f_name_Parse ([108, 105, 98, 47, 103, 111, 95, 95, 120, 58, 49, 46, 48] : Str)).bind fun t =>
  (gx ((t.2 == 0) && ((t.1.Repo == ([108, 105, 98, 47, 103, 111, 95, 95, 120] : Str)) && ((t.1.Tag == ([49, 46, 48] : Str)) && (t.1.Digest == ([] : Str))))) (f_name_Repo ([97] : Str)) default).bind fun t2 =>
  some (((t.2 == 0) && ((t.1.Repo == ([108, 105, 98, 47, 103, 111, 95, 95, 120] : Str)) && ((t.1.Tag == ([49, 46, 48] : Str)) && (t.1.Digest == ([] : Str))))) && t2)
def f_law03_NameRefs (repo : Str) (tag : Str) (data : Str) : Option (Bool) :=
  (f_law03_short repo).bind fun t =>
  (f_law03_short tag).bind fun t2 =>
  (f_law03_short data).bind fun t3 =>
  (f_digest_Of t3).bind fun t4 =>
  (f_name_Print (api_Ref.mk t t2 ([] : Str))).bind fun t5 =>
  (f_name_Print (api_Ref.mk t ([] : Str) t4)).bind fun t6 =>
  (f_name_Print (api_Ref.mk t t2 t4)).bind fun t7 =>
  (f_name_Print (api_Ref.mk t ([] : Str) ([] : Str))).bind fun t8 =>
  (f_name_Repo t).bind fun t9 =>
  (gx t9 (f_name_Tag t2) default).bind fun t10 =>
  (gx (!(!((t5.2 == 0) == (t9 && t10)))) (f_name_Repo t) default).bind fun t11 =>
  (gx (!((((!((t5.2 == 0) == (t9 && t10))) || (!((t6.2 == 0) == t11))) || (t8.2 != 1)) || ((t7.2 == 0) && (!(t2 == ([] : Str)))))) (f_law03_alive) default).bind fun t12 =>
  if (((((!((t5.2 == 0) == (t9 && t10))) || (!((t6.2 == 0) == t11))) || (t8.2 != 1)) || ((t7.2 == 0) && (!(t2 == ([] : Str))))) || (!t12)) then
    some false
  else
    gd ((t5.2 == 0) = true → t.length + 1 ≤ 9223372036854775807) <|
    gd ((t5.2 == 0) = true → (t ++ ([58] : Str)).length + t2.length ≤ 9223372036854775807) <|
    gd (((!((t5.2 == 0) && (!(t5.1 == ((t ++ ([58] : Str)) ++ t2))))) && (t6.2 == 0)) = true → t.length + 1 ≤ 9223372036854775807) <|
    gd (((!((t5.2 == 0) && (!(t5.1 == ((t ++ ([58] : Str)) ++ t2))))) && (t6.2 == 0)) = true → (t ++ ([64] : Str)).length + t4.length ≤ 9223372036854775807) <|
    if (((t5.2 == 0) && (!(t5.1 == ((t ++ ([58] : Str)) ++ t2)))) || ((t6.2 == 0) && (!(t6.1 == ((t ++ ([64] : Str)) ++ t4))))) then
      some false
    else
      gd (t.length + 1 ≤ 9223372036854775807) <|
      gd ((t ++ ([58] : Str)).length + t2.length ≤ 9223372036854775807) <|
      gd (((t ++ ([58] : Str)) ++ t2).length + 1 ≤ 9223372036854775807) <|
      gd ((((t ++ ([58] : Str)) ++ t2) ++ ([64] : Str)).length + t4.length ≤ 9223372036854775807) <|
      (f_name_Parse ((((t ++ ([58] : Str)) ++ t2) ++ ([64] : Str)) ++ t4)).bind fun t13 =>
      some (t13.2 == 5)
end Go.Proofs.YtdcokepmblcdmaaDoor.V
end

section
/- The shelf contracts that this seat uses, in plain words. -/
namespace Go.Proofs
open Go.Shelf
def Tryd.lays169_ren : Go.Shelf.Ren := ⟨fun | 169 => 39 | n => n, fun | 70 => 55 | 9 => 9 | 0 => 0 | 72 => 58 | 37 => 56 | 127 => 75 | 3 => 3 | 5 => 5 | n => n, fun | n => n⟩
theorem Tryd.lays169 : Go.Proofs.Lays.n169 Tryd.prog Tryd.lays169_ren := {
  mixed := by kernel_rfl
  f169 := Tryd.func39.trans (congrArg some (by kernel_rfl))
  t0 := Tryd.underlying0
  a0 := Tryd.isAgg0
  z0 := Tryd.sizeOf0
  v0 := Tryd.zeroValue0
  t3 := Tryd.underlying3
  a3 := Tryd.isAgg3
  z3 := Tryd.sizeOf3
  v3 := Tryd.zeroValue3
  t9 := Tryd.underlying9
  a9 := Tryd.isAgg9
  z9 := Tryd.sizeOf9
  v9 := Tryd.zeroValue9
  t37 := Tryd.underlying56
  a37 := Tryd.isAgg56
  z37 := Tryd.sizeOf56
  v37 := Tryd.zeroValue56
  t70 := Tryd.underlying55
  a70 := Tryd.isAgg55
  z70 := Tryd.sizeOf55
  v70 := Tryd.zeroValue55
  t72 := Tryd.underlying58
  a72 := Tryd.isAgg58
  z72 := Tryd.sizeOf58
  v72 := Tryd.zeroValue58
  t127 := Tryd.underlying75
  a127 := Tryd.isAgg75
  z127 := Tryd.sizeOf75
  v127 := Tryd.zeroValue75 }
theorem Tryd.Builder_Extra_169 : Builder.Extra Tryd.prog Tryd.lays169_ren := {
  sizeBuilder := by kernel_rfl
  liesBuilder := by kernel_rfl
  t5 := Tryd.underlying5
  a5 := Tryd.isAgg5
  z5 := Tryd.sizeOf5
  v5 := Tryd.zeroValue5
  infoByte := by kernel_rfl
  cellsByte := by kernel_rfl
  sizeByte := by kernel_rfl
  neB5 := by decide }
open Go.RowKit in
theorem Tryd.Builder_String (B b : Nat) (l : List UInt8) (w : World) (h : Lib.IsBuilder 58 5 B b (Lib.byteCells l) w) (h0 : l ≠ []) :
    Calls Tryd.prog 39 #[.pointer (some ⟨b, 0, none⟩)] w fun e w' => e = .returned (.string ⟨l.toArray⟩) ∧ Below B w w' := Any.Builder_String Tryd.lays169 Tryd.Builder_Extra_169 B b l w h h0
open Go.RowKit in
theorem Tryd.Builder_String_empty (B b : Nat) (w : World) (h : Lib.IsBuilder 58 5 B b [] w) (hBw : B ≤ w.heap.size) :
    Calls Tryd.prog 39 #[.pointer (some ⟨b, 0, none⟩)] w fun e w' => e = .returned (.string ⟨#[]⟩) ∧ Below B w w' := Any.Builder_String_empty Tryd.lays169 Tryd.Builder_Extra_169 B b w h hBw
open Go.RowKit in
theorem Tryd.Builder_String_any (B b : Nat) (l : List UInt8) (w : World) (h : Lib.IsBuilder 58 5 B b (Lib.byteCells l) w) (hBw : B ≤ w.heap.size) :
    Calls Tryd.prog 39 #[.pointer (some ⟨b, 0, none⟩)] w fun e w' => e = .returned (.string ⟨l.toArray⟩) ∧ Below B w w' := Any.Builder_String_any Tryd.lays169 Tryd.Builder_Extra_169 B b l w h hBw
def Tryd.lays241_ren : Go.Shelf.Ren := ⟨fun | 241 => 62 | 277 => 66 | n => n, fun | 70 => 55 | 3 => 3 | 0 => 0 | 72 => 58 | 37 => 56 | 5 => 5 | n => n, fun | n => n⟩
theorem Tryd.lays241 : Go.Proofs.Lays.n241 Tryd.prog Tryd.lays241_ren := {
  mixed := by kernel_rfl
  f241 := Tryd.func62.trans (congrArg some (by kernel_rfl))
  f277 := Tryd.func66.trans (congrArg some (by kernel_rfl))
  t0 := Tryd.underlying0
  a0 := Tryd.isAgg0
  z0 := Tryd.sizeOf0
  v0 := Tryd.zeroValue0
  t3 := Tryd.underlying3
  a3 := Tryd.isAgg3
  z3 := Tryd.sizeOf3
  v3 := Tryd.zeroValue3
  t37 := Tryd.underlying56
  a37 := Tryd.isAgg56
  z37 := Tryd.sizeOf56
  v37 := Tryd.zeroValue56
  t70 := Tryd.underlying55
  a70 := Tryd.isAgg55
  z70 := Tryd.sizeOf55
  v70 := Tryd.zeroValue55
  t72 := Tryd.underlying58
  a72 := Tryd.isAgg58
  z72 := Tryd.sizeOf58
  v72 := Tryd.zeroValue58 }
theorem Tryd.Builder_Extra_241 : Builder.Extra Tryd.prog Tryd.lays241_ren := {
  sizeBuilder := by kernel_rfl
  liesBuilder := by kernel_rfl
  t5 := Tryd.underlying5
  a5 := Tryd.isAgg5
  z5 := Tryd.sizeOf5
  v5 := Tryd.zeroValue5
  infoByte := by kernel_rfl
  cellsByte := by kernel_rfl
  sizeByte := by kernel_rfl
  neB5 := by decide }
open Go.RowKit in
theorem Tryd.Builder_grow_fresh (B b n : Nat) (w : World) (hB : B ≤ b) (hbk : w.heap[b]? = some (.cells #[.pointer (some ⟨b, 0, none⟩), .slice none 0 0] 58 (0, 0))) (hBw : B ≤ w.heap.size) (hn : n ≤ 281474976710656) :
    Calls Tryd.prog 62 #[.pointer (some ⟨b, 0, none⟩), .int .i64 n] w fun e w' => e = .returned (.tuple #[]) ∧ (Lib.BuilderAt 58 5 B b (.pointer (some ⟨b, 0, none⟩)) [] w' ∧ Below B w w') := Any.Builder_grow_fresh Tryd.lays241 Tryd.Builder_Extra_241 B b n w hB hbk hBw hn
def Tryd.lays165_ren : Go.Shelf.Ren := ⟨fun | 165 => 51 | 240 => 50 | 241 => 62 | 276 => 61 | 277 => 66 | n => n, fun | 70 => 55 | 3 => 3 | 0 => 0 | 4 => 4 | 9 => 9 | 20 => 20 | 72 => 58 | 37 => 56 | 164 => 83 | 5 => 5 | n => n, fun | n => n⟩
theorem Tryd.lays165 : Go.Proofs.Lays.n165 Tryd.prog Tryd.lays165_ren := {
  mixed := by kernel_rfl
  f165 := Tryd.func51.trans (congrArg some (by kernel_rfl))
  f240 := Tryd.func50.trans (congrArg some (by kernel_rfl))
  f241 := Tryd.func62.trans (congrArg some (by kernel_rfl))
  f276 := Tryd.func61.trans (congrArg some (by kernel_rfl))
  f277 := Tryd.func66.trans (congrArg some (by kernel_rfl))
  t0 := Tryd.underlying0
  a0 := Tryd.isAgg0
  z0 := Tryd.sizeOf0
  v0 := Tryd.zeroValue0
  t3 := Tryd.underlying3
  a3 := Tryd.isAgg3
  z3 := Tryd.sizeOf3
  v3 := Tryd.zeroValue3
  t4 := Tryd.underlying4
  a4 := Tryd.isAgg4
  z4 := Tryd.sizeOf4
  v4 := Tryd.zeroValue4
  t9 := Tryd.underlying9
  a9 := Tryd.isAgg9
  z9 := Tryd.sizeOf9
  v9 := Tryd.zeroValue9
  t20 := Tryd.underlying20
  a20 := Tryd.isAgg20
  z20 := Tryd.sizeOf20
  v20 := Tryd.zeroValue20
  t37 := Tryd.underlying56
  a37 := Tryd.isAgg56
  z37 := Tryd.sizeOf56
  v37 := Tryd.zeroValue56
  t70 := Tryd.underlying55
  a70 := Tryd.isAgg55
  z70 := Tryd.sizeOf55
  v70 := Tryd.zeroValue55
  t72 := Tryd.underlying58
  a72 := Tryd.isAgg58
  z72 := Tryd.sizeOf58
  v72 := Tryd.zeroValue58
  t164 := Tryd.underlying83
  a164 := Tryd.isAgg83
  z164 := Tryd.sizeOf83
  v164 := Tryd.zeroValue83 }
theorem Tryd.Builder_Extra_165 : Builder.Extra Tryd.prog Tryd.lays165_ren := {
  sizeBuilder := by kernel_rfl
  liesBuilder := by kernel_rfl
  t5 := Tryd.underlying5
  a5 := Tryd.isAgg5
  z5 := Tryd.sizeOf5
  v5 := Tryd.zeroValue5
  infoByte := by kernel_rfl
  cellsByte := by kernel_rfl
  sizeByte := by kernel_rfl
  neB5 := by decide }
open Go.RowKit in
theorem Tryd.Builder_Grow_fresh (B b n : Nat) (w : World) (hB : B ≤ b) (hbk : w.heap[b]? = some (.cells #[.pointer none, .slice none 0 0] 58 (0, 0))) (hBw : B ≤ w.heap.size) (hn : n ≤ 281474976710656) :
    Calls Tryd.prog 51 #[.pointer (some ⟨b, 0, none⟩), .int .i64 n] w fun e w' => e = .returned (.tuple #[]) ∧ (Lib.BuilderAt 58 5 B b (.pointer (some ⟨b, 0, none⟩)) [] w' ∧ Below B w w') := Any.Builder_Grow_fresh Tryd.lays165 Tryd.Builder_Extra_165 B b n w hB hbk hBw hn
def Tryd.lays156_ren : Go.Shelf.Ren := ⟨fun | 156 => 40 | 165 => 51 | 166 => 52 | 169 => 39 | 240 => 50 | 241 => 62 | 276 => 61 | 277 => 66 | n => n, fun | 31 => 39 | 9 => 9 | 3 => 3 | 4 => 4 | 0 => 0 | 20 => 20 | 72 => 58 | 76 => 77 | 70 => 55 | 37 => 56 | 75 => 60 | 127 => 75 | 164 => 83 | 5 => 5 | 80 => 62 | n => n, fun | n => n⟩
theorem Tryd.lays156 : Go.Proofs.Lays.n156 Tryd.prog Tryd.lays156_ren := {
  mixed := by kernel_rfl
  f156 := Tryd.func40.trans (congrArg some (by kernel_rfl))
  f165 := Tryd.func51.trans (congrArg some (by kernel_rfl))
  f166 := Tryd.func52.trans (congrArg some (by kernel_rfl))
  f169 := Tryd.func39.trans (congrArg some (by kernel_rfl))
  f240 := Tryd.func50.trans (congrArg some (by kernel_rfl))
  f241 := Tryd.func62.trans (congrArg some (by kernel_rfl))
  f276 := Tryd.func61.trans (congrArg some (by kernel_rfl))
  f277 := Tryd.func66.trans (congrArg some (by kernel_rfl))
  t0 := Tryd.underlying0
  a0 := Tryd.isAgg0
  z0 := Tryd.sizeOf0
  v0 := Tryd.zeroValue0
  t3 := Tryd.underlying3
  a3 := Tryd.isAgg3
  z3 := Tryd.sizeOf3
  v3 := Tryd.zeroValue3
  t4 := Tryd.underlying4
  a4 := Tryd.isAgg4
  z4 := Tryd.sizeOf4
  v4 := Tryd.zeroValue4
  t9 := Tryd.underlying9
  a9 := Tryd.isAgg9
  z9 := Tryd.sizeOf9
  v9 := Tryd.zeroValue9
  t20 := Tryd.underlying20
  a20 := Tryd.isAgg20
  z20 := Tryd.sizeOf20
  v20 := Tryd.zeroValue20
  t31 := Tryd.underlying39
  a31 := Tryd.isAgg39
  z31 := Tryd.sizeOf39
  v31 := Tryd.zeroValue39
  t37 := Tryd.underlying56
  a37 := Tryd.isAgg56
  z37 := Tryd.sizeOf56
  v37 := Tryd.zeroValue56
  t70 := Tryd.underlying55
  a70 := Tryd.isAgg55
  z70 := Tryd.sizeOf55
  v70 := Tryd.zeroValue55
  t72 := Tryd.underlying58
  a72 := Tryd.isAgg58
  z72 := Tryd.sizeOf58
  v72 := Tryd.zeroValue58
  t75 := Tryd.underlying60
  a75 := Tryd.isAgg60
  z75 := Tryd.sizeOf60
  v75 := Tryd.zeroValue60
  t76 := Tryd.underlying77
  a76 := Tryd.isAgg77
  z76 := Tryd.sizeOf77
  v76 := Tryd.zeroValue77
  t127 := Tryd.underlying75
  a127 := Tryd.isAgg75
  z127 := Tryd.sizeOf75
  v127 := Tryd.zeroValue75
  t164 := Tryd.underlying83
  a164 := Tryd.isAgg83
  z164 := Tryd.sizeOf83
  v164 := Tryd.zeroValue83 }
theorem Tryd.Builder_Extra_156 : Builder.Extra Tryd.prog Tryd.lays156_ren := {
  sizeBuilder := by kernel_rfl
  liesBuilder := by kernel_rfl
  t5 := Tryd.underlying5
  a5 := Tryd.isAgg5
  z5 := Tryd.sizeOf5
  v5 := Tryd.zeroValue5
  infoByte := by kernel_rfl
  cellsByte := by kernel_rfl
  sizeByte := by kernel_rfl
  neB5 := by decide }
open Go.RowKit in
theorem Tryd.strings_Join_none (a : Option Addr) (c : Nat) (sep : ByteArray) (w : World) :
    Calls Tryd.prog 40 #[.slice a 0 c, .string sep] w fun e w' => e = .returned (.string ⟨#[]⟩) ∧ w' = w := Any.strings_Join_none Tryd.lays156 Tryd.Builder_Extra_156 a c sep w
open Go.RowKit in
theorem Tryd.strings_Join (bk o c : Nat) (xs : List ByteArray) (sep : ByteArray) (w : World) (hcells : ∀ (j : Nat) x, xs[j]? = some x → w.cell? ⟨bk, o + j, none⟩ = some (.string x)) (hbk : bk < w.heap.size) (hN : xs.length ≤ 140737488355328) (hcap : xs.length ≤ c) (hlen : (Lib.join (xs.map (·.data.toList)) sep.data.toList).length ≤ 140737488355328) :
    Calls Tryd.prog 40 #[.slice (some ⟨bk, o, none⟩) xs.length c, .string sep] w fun e w' => e = .returned (.string ⟨(Lib.join (xs.map (·.data.toList)) sep.data.toList).toArray⟩) ∧ Below w.heap.size w w' := Any.strings_Join Tryd.lays156 Tryd.Builder_Extra_156 bk o c xs sep w hcells hbk hN hcap hlen
def Tryd.lays137_ren : Go.Shelf.Ren := ⟨fun | 137 => 44 | 217 => 56 | 266 => 64 | n => n, fun | 9 => 9 | 5 => 5 | 3 => 3 | n => n, fun | n => n⟩
theorem Tryd.lays137 : Go.Proofs.Lays.n137 Tryd.prog Tryd.lays137_ren := {
  mixed := by kernel_rfl
  f137 := Tryd.func44.trans (congrArg some (by kernel_rfl))
  f217 := Tryd.func56.trans (congrArg some (by kernel_rfl))
  f266 := Tryd.func64.trans (congrArg some (by kernel_rfl))
  t3 := Tryd.underlying3
  a3 := Tryd.isAgg3
  z3 := Tryd.sizeOf3
  v3 := Tryd.zeroValue3
  t5 := Tryd.underlying5
  a5 := Tryd.isAgg5
  z5 := Tryd.sizeOf5
  v5 := Tryd.zeroValue5
  t9 := Tryd.underlying9
  a9 := Tryd.isAgg9
  z9 := Tryd.sizeOf9
  v9 := Tryd.zeroValue9 }
open Go.RowKit in
theorem Tryd.strings_IndexByte (s : ByteArray) (c : Int) (w : World) :
    Calls Tryd.prog 44 #[.string s, .int .u8 c] w fun e w' => e = .returned (.int .i64 (Lib.indexByte s.data.toList c.toNat.toUInt8)) ∧ w' = w := Any.strings_IndexByte Tryd.lays137 s c w
def Tryd.lays210_ren : Go.Shelf.Ren := ⟨fun | 210 => 43 | 206 => 55 | n => n, fun | 9 => 9 | 4 => 4 | 3 => 3 | n => n, fun | n => n⟩
theorem Tryd.lays210 : Go.Proofs.Lays.n210 Tryd.prog Tryd.lays210_ren := {
  mixed := by kernel_rfl
  f206 := Tryd.func55.trans (congrArg some (by kernel_rfl))
  f210 := Tryd.func43.trans (congrArg some (by kernel_rfl))
  t3 := Tryd.underlying3
  a3 := Tryd.isAgg3
  z3 := Tryd.sizeOf3
  v3 := Tryd.zeroValue3
  t4 := Tryd.underlying4
  a4 := Tryd.isAgg4
  z4 := Tryd.sizeOf4
  v4 := Tryd.zeroValue4
  t9 := Tryd.underlying9
  a9 := Tryd.isAgg9
  z9 := Tryd.sizeOf9
  v9 := Tryd.zeroValue9 }
open Go.RowKit in
theorem Tryd.stringslite_CutPrefix (s p : ByteArray) (w : World) :
    Calls Tryd.prog 43 #[.string s, .string p] w fun e w' => e = .returned (.tuple #[.string ⟨(Lib.trimPrefix s.data.toList p.data.toList).toArray⟩, .bool (Lib.hasPrefix s.data.toList p.data.toList)]) ∧ w' = w := Any.stringslite_CutPrefix Tryd.lays210 s p w
def Tryd.lays103_ren : Go.Shelf.Ren := ⟨fun | 103 => 32 | 210 => 43 | 206 => 55 | n => n, fun | 9 => 9 | 4 => 4 | 24 => 48 | 3 => 3 | n => n, fun | n => n⟩
theorem Tryd.lays103 : Go.Proofs.Lays.n103 Tryd.prog Tryd.lays103_ren := {
  mixed := by kernel_rfl
  f103 := Tryd.func32.trans (congrArg some (by kernel_rfl))
  f206 := Tryd.func55.trans (congrArg some (by kernel_rfl))
  f210 := Tryd.func43.trans (congrArg some (by kernel_rfl))
  t3 := Tryd.underlying3
  a3 := Tryd.isAgg3
  z3 := Tryd.sizeOf3
  v3 := Tryd.zeroValue3
  t4 := Tryd.underlying4
  a4 := Tryd.isAgg4
  z4 := Tryd.sizeOf4
  v4 := Tryd.zeroValue4
  t9 := Tryd.underlying9
  a9 := Tryd.isAgg9
  z9 := Tryd.sizeOf9
  v9 := Tryd.zeroValue9
  t24 := Tryd.underlying48
  a24 := Tryd.isAgg48
  z24 := Tryd.sizeOf48
  v24 := Tryd.zeroValue48 }
open Go.RowKit in
theorem Tryd.strings_CutPrefix (s p : ByteArray) (w : World) :
    Calls Tryd.prog 32 #[.string s, .string p] w fun e w' => e = .returned (.tuple #[.string ⟨(Lib.trimPrefix s.data.toList p.data.toList).toArray⟩, .bool (Lib.hasPrefix s.data.toList p.data.toList)]) ∧ w' = w := Any.strings_CutPrefix Tryd.lays103 s p w
open Go.RowKit in
theorem Tryd.Builder_String_f (B b : Nat) (l : List UInt8) (w : World) (h : Lib.IsBuilderF 58 5 B b (Lib.byteCells l) w) (h0 : l ≠ []) :
    Calls Tryd.prog 39 #[.pointer (some ⟨b, 0, none⟩)] w fun e w' => e = .returned (.string ⟨l.toArray⟩) ∧ (Lib.IsBuilderF 58 5 B b (Lib.byteCells l) w' ∧ Below B w w') := Any.Builder_String_f Tryd.lays169 Tryd.Builder_Extra_169 B b l w h h0
open Go.RowKit in
theorem Tryd.Builder_String_empty_f (B b : Nat) (w : World) (h : Lib.IsBuilderF 58 5 B b [] w) (hBw : B ≤ w.heap.size) :
    Calls Tryd.prog 39 #[.pointer (some ⟨b, 0, none⟩)] w fun e w' => e = .returned (.string ⟨#[]⟩) ∧ (Lib.IsBuilderF 58 5 B b [] w' ∧ Below B w w') := Any.Builder_String_empty_f Tryd.lays169 Tryd.Builder_Extra_169 B b w h hBw
open Go.RowKit in
theorem Tryd.Builder_String_any_f (B b : Nat) (l : List UInt8) (w : World) (h : Lib.IsBuilderF 58 5 B b (Lib.byteCells l) w) (hBw : B ≤ w.heap.size) :
    Calls Tryd.prog 39 #[.pointer (some ⟨b, 0, none⟩)] w fun e w' => e = .returned (.string ⟨l.toArray⟩) ∧ (Lib.IsBuilderF 58 5 B b (Lib.byteCells l) w' ∧ Below B w w') := Any.Builder_String_any_f Tryd.lays169 Tryd.Builder_Extra_169 B b l w h hBw
open Go.RowKit in
theorem Tryd.Builder_String_k (B b : Nat) (l : List UInt8) (w : World) (h : Lib.IsBuilderF 58 5 B b (Lib.byteCells l) w) (h0 : l ≠ []) :
    Calls Tryd.prog 39 #[.pointer (some ⟨b, 0, none⟩)] w fun e w' => e = .returned (.string ⟨l.toArray⟩) ∧ (Lib.IsBuilderF 58 5 B b (Lib.byteCells l) w' ∧ Below B w w' ∧ Lib.OthersKept 5 (some b) w w') := Any.Builder_String_k Tryd.lays169 Tryd.Builder_Extra_169 B b l w h h0
open Go.RowKit in
theorem Tryd.Builder_String_empty_k (B b : Nat) (w : World) (h : Lib.IsBuilderF 58 5 B b [] w) (hBw : B ≤ w.heap.size) :
    Calls Tryd.prog 39 #[.pointer (some ⟨b, 0, none⟩)] w fun e w' => e = .returned (.string ⟨#[]⟩) ∧ (Lib.IsBuilderF 58 5 B b [] w' ∧ Below B w w' ∧ Lib.OthersKept 5 (some b) w w') := Any.Builder_String_empty_k Tryd.lays169 Tryd.Builder_Extra_169 B b w h hBw
open Go.RowKit in
theorem Tryd.Builder_String_any_k (B b : Nat) (l : List UInt8) (w : World) (h : Lib.IsBuilderF 58 5 B b (Lib.byteCells l) w) (hBw : B ≤ w.heap.size) :
    Calls Tryd.prog 39 #[.pointer (some ⟨b, 0, none⟩)] w fun e w' => e = .returned (.string ⟨l.toArray⟩) ∧ (Lib.IsBuilderF 58 5 B b (Lib.byteCells l) w' ∧ Below B w w' ∧ Lib.OthersKept 5 (some b) w w') := Any.Builder_String_any_k Tryd.lays169 Tryd.Builder_Extra_169 B b l w h hBw
open Go.RowKit in
theorem Tryd.Builder_grow_fresh_cap (B b n : Nat) (w : World) (hB : B ≤ b) (hbk : w.heap[b]? = some (.cells #[.pointer (some ⟨b, 0, none⟩), .slice none 0 0] 58 (0, 0))) (hBw : B ≤ w.heap.size) (hn : n ≤ 281474976710656) :
    Calls Tryd.prog 62 #[.pointer (some ⟨b, 0, none⟩), .int .i64 n] w fun e w' => e = .returned (.tuple #[]) ∧ (Lib.BuilderAt 58 5 B b (.pointer (some ⟨b, 0, none⟩)) [] w' ∧ Below B w w') ∧ ∃ p cap, w'.cell? ⟨b, 1, none⟩ = some (.slice p 0 cap) ∧ n ≤ cap := Any.Builder_grow_fresh_cap Tryd.lays241 Tryd.Builder_Extra_241 B b n w hB hbk hBw hn
open Go.RowKit in
theorem Tryd.Builder_Grow_fresh_cap (B b n : Nat) (w : World) (hB : B ≤ b) (hbk : w.heap[b]? = some (.cells #[.pointer none, .slice none 0 0] 58 (0, 0))) (hBw : B ≤ w.heap.size) (hn : n ≤ 281474976710656) :
    Calls Tryd.prog 51 #[.pointer (some ⟨b, 0, none⟩), .int .i64 n] w fun e w' => e = .returned (.tuple #[]) ∧ (Lib.BuilderAt 58 5 B b (.pointer (some ⟨b, 0, none⟩)) [] w' ∧ Below B w w') ∧ ∃ p cap, w'.cell? ⟨b, 1, none⟩ = some (.slice p 0 cap) ∧ n ≤ cap := Any.Builder_Grow_fresh_cap Tryd.lays165 Tryd.Builder_Extra_165 B b n w hB hbk hBw hn
def Tryd.lays217_ren : Go.Shelf.Ren := ⟨fun | 217 => 56 | 266 => 64 | n => n, fun | 9 => 9 | 5 => 5 | 3 => 3 | n => n, fun | n => n⟩
theorem Tryd.lays217 : Go.Proofs.Lays.n217 Tryd.prog Tryd.lays217_ren := {
  mixed := by kernel_rfl
  f217 := Tryd.func56.trans (congrArg some (by kernel_rfl))
  f266 := Tryd.func64.trans (congrArg some (by kernel_rfl))
  t3 := Tryd.underlying3
  a3 := Tryd.isAgg3
  z3 := Tryd.sizeOf3
  v3 := Tryd.zeroValue3
  t5 := Tryd.underlying5
  a5 := Tryd.isAgg5
  z5 := Tryd.sizeOf5
  v5 := Tryd.zeroValue5
  t9 := Tryd.underlying9
  a9 := Tryd.isAgg9
  z9 := Tryd.sizeOf9
  v9 := Tryd.zeroValue9 }
open Go.RowKit Go.Lib in
theorem Tryd.stringslite_IndexByte (s : ByteArray) (c : Int) (w : World) :
    Calls Tryd.prog 56 #[.string s, .int .u8 c] w fun e w' => e = .returned (.int .i64 (Lib.indexByte s.data.toList c.toNat.toUInt8)) ∧ w' = w := Any.stringslite_IndexByte Tryd.lays217 s c w
def Tryd.lays224_ren : Go.Shelf.Ren := ⟨fun | 224 => 59 | n => n, fun | 3 => 3 | n => n, fun | n => n⟩
theorem Tryd.lays224 : Go.Proofs.Lays.n224 Tryd.prog Tryd.lays224_ren := {
  mixed := by kernel_rfl
  f224 := Tryd.func59.trans (congrArg some (by kernel_rfl))
  t3 := Tryd.underlying3
  a3 := Tryd.isAgg3
  z3 := Tryd.sizeOf3
  v3 := Tryd.zeroValue3 }
open Go.RowKit Go.Lib in
theorem Tryd.bytealg_Cutover (n : Int) (h0 : 0 ≤ n) (h1 : n < 4611686018427387904) (w : World) :
    Calls Tryd.prog 59 #[.int .i64 n] w fun e w' => e = .returned (.int .i64 ((n + 16) / 8)) ∧ w' = w := Any.bytealg_Cutover Tryd.lays224 n h0 h1 w
def Tryd.lays314_ren : Go.Shelf.Ren := ⟨fun | 314 => 65 | n => n, fun | 9 => 9 | 51 => 65 | 3 => 3 | 4 => 4 | 5 => 5 | 46 => 69 | n => n, fun | n => n⟩
theorem Tryd.lays314 : Go.Proofs.Lays.n314 Tryd.prog Tryd.lays314_ren := {
  mixed := by kernel_rfl
  f314 := Tryd.func65.trans (congrArg some (by kernel_rfl))
  t3 := Tryd.underlying3
  a3 := Tryd.isAgg3
  z3 := Tryd.sizeOf3
  v3 := Tryd.zeroValue3
  t4 := Tryd.underlying4
  a4 := Tryd.isAgg4
  z4 := Tryd.sizeOf4
  v4 := Tryd.zeroValue4
  t5 := Tryd.underlying5
  a5 := Tryd.isAgg5
  z5 := Tryd.sizeOf5
  v5 := Tryd.zeroValue5
  t9 := Tryd.underlying9
  a9 := Tryd.isAgg9
  z9 := Tryd.sizeOf9
  v9 := Tryd.zeroValue9
  t46 := Tryd.underlying69
  a46 := Tryd.isAgg69
  z46 := Tryd.sizeOf69
  v46 := Tryd.zeroValue69
  t51 := Tryd.underlying65
  a51 := Tryd.isAgg65
  z51 := Tryd.sizeOf65
  v51 := Tryd.zeroValue65 }
open Go.RowKit Go.Lib in
theorem Tryd.bytealg_hashStr (sep : ByteArray) (hs : sep.size < 4294967281) (w : World) :
    Calls Tryd.prog 65 #[.string sep] w fun e w' => e = .returned (.tuple #[.int .u32 (RK.H sep.data.toList % 4294967296), .int .u32 (16777619 ^ sep.size % 4294967296)]) ∧ w' = w := Any.bytealg_hashStr Tryd.lays314 sep hs w
def Tryd.lays267_ren : Go.Shelf.Ren := ⟨fun | 267 => 60 | 314 => 65 | n => n, fun | 9 => 9 | 3 => 3 | 146 => 90 | 51 => 65 | 4 => 4 | 5 => 5 | 46 => 69 | n => n, fun | n => n⟩
theorem Tryd.lays267 : Go.Proofs.Lays.n267 Tryd.prog Tryd.lays267_ren := {
  mixed := by kernel_rfl
  f267 := Tryd.func60.trans (congrArg some (by kernel_rfl))
  f314 := Tryd.func65.trans (congrArg some (by kernel_rfl))
  t3 := Tryd.underlying3
  a3 := Tryd.isAgg3
  z3 := Tryd.sizeOf3
  v3 := Tryd.zeroValue3
  t4 := Tryd.underlying4
  a4 := Tryd.isAgg4
  z4 := Tryd.sizeOf4
  v4 := Tryd.zeroValue4
  t5 := Tryd.underlying5
  a5 := Tryd.isAgg5
  z5 := Tryd.sizeOf5
  v5 := Tryd.zeroValue5
  t9 := Tryd.underlying9
  a9 := Tryd.isAgg9
  z9 := Tryd.sizeOf9
  v9 := Tryd.zeroValue9
  t46 := Tryd.underlying69
  a46 := Tryd.isAgg69
  z46 := Tryd.sizeOf69
  v46 := Tryd.zeroValue69
  t51 := Tryd.underlying65
  a51 := Tryd.isAgg65
  z51 := Tryd.sizeOf65
  v51 := Tryd.zeroValue65
  t146 := Tryd.underlying90
  a146 := Tryd.isAgg90
  z146 := Tryd.sizeOf90
  v146 := Tryd.zeroValue90 }
open Go.RowKit Go.Lib in
theorem Tryd.bytealg_IndexRabinKarp (s sep : ByteArray) (h1 : 1 ≤ sep.size) (h2 : sep.size ≤ s.size) (hs : s.size < 4294967281) (w : World) :
    Calls Tryd.prog 60 #[.string s, .string sep] w fun e w' => e = .returned (.int .i64 (Lib.index s.data.toList sep.data.toList)) ∧ w' = w := Any.bytealg_IndexRabinKarp Tryd.lays267 s sep h1 h2 hs w
def Tryd.lays219_ren : Go.Shelf.Ren := ⟨fun | 219 => 49 | 217 => 56 | 225 => 58 | 224 => 59 | 267 => 60 | 266 => 64 | 314 => 65 | n => n, fun | 9 => 9 | 3 => 3 | 4 => 4 | 5 => 5 | 46 => 69 | 146 => 90 | 51 => 65 | n => n, fun | 1 => 1 | n => n⟩
theorem Tryd.lays219 : Go.Proofs.Lays.n219 Tryd.prog Tryd.lays219_ren := {
  mixed := by kernel_rfl
  f217 := Tryd.func56.trans (congrArg some (by kernel_rfl))
  f219 := Tryd.func49.trans (congrArg some (by kernel_rfl))
  f224 := Tryd.func59.trans (congrArg some (by kernel_rfl))
  f225 := Tryd.func58.trans (congrArg some (by kernel_rfl))
  f266 := Tryd.func64.trans (congrArg some (by kernel_rfl))
  f267 := Tryd.func60.trans (congrArg some (by kernel_rfl))
  f314 := Tryd.func65.trans (congrArg some (by kernel_rfl))
  t3 := Tryd.underlying3
  a3 := Tryd.isAgg3
  z3 := Tryd.sizeOf3
  v3 := Tryd.zeroValue3
  t4 := Tryd.underlying4
  a4 := Tryd.isAgg4
  z4 := Tryd.sizeOf4
  v4 := Tryd.zeroValue4
  t5 := Tryd.underlying5
  a5 := Tryd.isAgg5
  z5 := Tryd.sizeOf5
  v5 := Tryd.zeroValue5
  t9 := Tryd.underlying9
  a9 := Tryd.isAgg9
  z9 := Tryd.sizeOf9
  v9 := Tryd.zeroValue9
  t46 := Tryd.underlying69
  a46 := Tryd.isAgg69
  z46 := Tryd.sizeOf69
  v46 := Tryd.zeroValue69
  t51 := Tryd.underlying65
  a51 := Tryd.isAgg65
  z51 := Tryd.sizeOf65
  v51 := Tryd.zeroValue65
  t146 := Tryd.underlying90
  a146 := Tryd.isAgg90
  z146 := Tryd.sizeOf90
  v146 := Tryd.zeroValue90
  g1 := by kernel_rfl }
open Go.RowKit Go.Lib in
theorem Tryd.stringslite_Index_one (s : ByteArray) (c : UInt8) (w : World) :
    Calls Tryd.prog 49 #[.string s, .string ⟨#[c]⟩] w fun e w' => e = .returned (.int .i64 (Lib.indexByte s.data.toList c)) ∧ w' = w := Any.stringslite_Index_one Tryd.lays219 s c w
open Go.RowKit Go.Lib in
theorem Tryd.stringslite_Index (s sub : ByteArray) (m : Int) (w : World) (hs : s.size < 4294967281) (hm : w.cell? ⟨1, 0, none⟩ = some (.int .i64 m)) :
    Calls Tryd.prog 49 #[.string s, .string sub] w fun e w' => e = .returned (.int .i64 (Lib.index s.data.toList sub.data.toList)) ∧ w' = w := Any.stringslite_Index Tryd.lays219 s sub m w hs hm
def Tryd.lays143_ren : Go.Shelf.Ren := ⟨fun | 143 => 47 | 219 => 49 | 217 => 56 | 225 => 58 | 224 => 59 | 267 => 60 | 266 => 64 | 314 => 65 | n => n, fun | 9 => 9 | 3 => 3 | 4 => 4 | 5 => 5 | 46 => 69 | 146 => 90 | 51 => 65 | n => n, fun | 1 => 1 | n => n⟩
theorem Tryd.lays143 : Go.Proofs.Lays.n143 Tryd.prog Tryd.lays143_ren := {
  mixed := by kernel_rfl
  f143 := Tryd.func47.trans (congrArg some (by kernel_rfl))
  f217 := Tryd.func56.trans (congrArg some (by kernel_rfl))
  f219 := Tryd.func49.trans (congrArg some (by kernel_rfl))
  f224 := Tryd.func59.trans (congrArg some (by kernel_rfl))
  f225 := Tryd.func58.trans (congrArg some (by kernel_rfl))
  f266 := Tryd.func64.trans (congrArg some (by kernel_rfl))
  f267 := Tryd.func60.trans (congrArg some (by kernel_rfl))
  f314 := Tryd.func65.trans (congrArg some (by kernel_rfl))
  t3 := Tryd.underlying3
  a3 := Tryd.isAgg3
  z3 := Tryd.sizeOf3
  v3 := Tryd.zeroValue3
  t4 := Tryd.underlying4
  a4 := Tryd.isAgg4
  z4 := Tryd.sizeOf4
  v4 := Tryd.zeroValue4
  t5 := Tryd.underlying5
  a5 := Tryd.isAgg5
  z5 := Tryd.sizeOf5
  v5 := Tryd.zeroValue5
  t9 := Tryd.underlying9
  a9 := Tryd.isAgg9
  z9 := Tryd.sizeOf9
  v9 := Tryd.zeroValue9
  t46 := Tryd.underlying69
  a46 := Tryd.isAgg69
  z46 := Tryd.sizeOf69
  v46 := Tryd.zeroValue69
  t51 := Tryd.underlying65
  a51 := Tryd.isAgg65
  z51 := Tryd.sizeOf65
  v51 := Tryd.zeroValue65
  t146 := Tryd.underlying90
  a146 := Tryd.isAgg90
  z146 := Tryd.sizeOf90
  v146 := Tryd.zeroValue90
  g1 := by kernel_rfl }
open Go.RowKit Go.Lib in
theorem Tryd.strings_Index_one (s : ByteArray) (c : UInt8) (w : World) :
    Calls Tryd.prog 47 #[.string s, .string ⟨#[c]⟩] w fun e w' => e = .returned (.int .i64 (Lib.indexByte s.data.toList c)) ∧ w' = w := Any.strings_Index_one Tryd.lays143 s c w
open Go.RowKit Go.Lib in
theorem Tryd.strings_Index (s sub : ByteArray) (m : Int) (w : World) (hs : s.size < 4294967281) (hm : w.cell? ⟨1, 0, none⟩ = some (.int .i64 m)) :
    Calls Tryd.prog 47 #[.string s, .string sub] w fun e w' => e = .returned (.int .i64 (Lib.index s.data.toList sub.data.toList)) ∧ w' = w := Any.strings_Index Tryd.lays143 s sub m w hs hm
def Tryd.lays220_ren : Go.Shelf.Ren := ⟨fun | 220 => 37 | 219 => 49 | 217 => 56 | 225 => 58 | 224 => 59 | 267 => 60 | 266 => 64 | 314 => 65 | n => n, fun | 9 => 9 | 4 => 4 | 3 => 3 | 5 => 5 | 46 => 69 | 146 => 90 | 51 => 65 | n => n, fun | 1 => 1 | n => n⟩
theorem Tryd.lays220 : Go.Proofs.Lays.n220 Tryd.prog Tryd.lays220_ren := {
  mixed := by kernel_rfl
  f217 := Tryd.func56.trans (congrArg some (by kernel_rfl))
  f219 := Tryd.func49.trans (congrArg some (by kernel_rfl))
  f220 := Tryd.func37.trans (congrArg some (by kernel_rfl))
  f224 := Tryd.func59.trans (congrArg some (by kernel_rfl))
  f225 := Tryd.func58.trans (congrArg some (by kernel_rfl))
  f266 := Tryd.func64.trans (congrArg some (by kernel_rfl))
  f267 := Tryd.func60.trans (congrArg some (by kernel_rfl))
  f314 := Tryd.func65.trans (congrArg some (by kernel_rfl))
  t3 := Tryd.underlying3
  a3 := Tryd.isAgg3
  z3 := Tryd.sizeOf3
  v3 := Tryd.zeroValue3
  t4 := Tryd.underlying4
  a4 := Tryd.isAgg4
  z4 := Tryd.sizeOf4
  v4 := Tryd.zeroValue4
  t5 := Tryd.underlying5
  a5 := Tryd.isAgg5
  z5 := Tryd.sizeOf5
  v5 := Tryd.zeroValue5
  t9 := Tryd.underlying9
  a9 := Tryd.isAgg9
  z9 := Tryd.sizeOf9
  v9 := Tryd.zeroValue9
  t46 := Tryd.underlying69
  a46 := Tryd.isAgg69
  z46 := Tryd.sizeOf69
  v46 := Tryd.zeroValue69
  t51 := Tryd.underlying65
  a51 := Tryd.isAgg65
  z51 := Tryd.sizeOf65
  v51 := Tryd.zeroValue65
  t146 := Tryd.underlying90
  a146 := Tryd.isAgg90
  z146 := Tryd.sizeOf90
  v146 := Tryd.zeroValue90
  g1 := by kernel_rfl }
open Go.RowKit Go.Lib in
theorem Tryd.stringslite_Cut (s sep : ByteArray) (m : Int) (w : World) (hs : s.size < 4294967281) (hm : w.cell? ⟨1, 0, none⟩ = some (.int .i64 m)) :
    Calls Tryd.prog 37 #[.string s, .string sep] w fun e w' => e = .returned (.tuple #[.string ⟨(Lib.cut s.data.toList sep.data.toList).1.toArray⟩, .string ⟨(Lib.cut s.data.toList sep.data.toList).2.1.toArray⟩, .bool (Lib.cut s.data.toList sep.data.toList).2.2]) ∧ ∃ n, w' = w.drewN n := Any.stringslite_Cut Tryd.lays220 s sep m w hs hm
def Tryd.lays145_ren : Go.Shelf.Ren := ⟨fun | 145 => 29 | 220 => 37 | 219 => 49 | 217 => 56 | 225 => 58 | 224 => 59 | 267 => 60 | 266 => 64 | 314 => 65 | n => n, fun | 9 => 9 | 4 => 4 | 59 => 50 | 3 => 3 | 5 => 5 | 46 => 69 | 146 => 90 | 51 => 65 | n => n, fun | 1 => 1 | n => n⟩
theorem Tryd.lays145 : Go.Proofs.Lays.n145 Tryd.prog Tryd.lays145_ren := {
  mixed := by kernel_rfl
  f145 := Tryd.func29.trans (congrArg some (by kernel_rfl))
  f217 := Tryd.func56.trans (congrArg some (by kernel_rfl))
  f219 := Tryd.func49.trans (congrArg some (by kernel_rfl))
  f220 := Tryd.func37.trans (congrArg some (by kernel_rfl))
  f224 := Tryd.func59.trans (congrArg some (by kernel_rfl))
  f225 := Tryd.func58.trans (congrArg some (by kernel_rfl))
  f266 := Tryd.func64.trans (congrArg some (by kernel_rfl))
  f267 := Tryd.func60.trans (congrArg some (by kernel_rfl))
  f314 := Tryd.func65.trans (congrArg some (by kernel_rfl))
  t3 := Tryd.underlying3
  a3 := Tryd.isAgg3
  z3 := Tryd.sizeOf3
  v3 := Tryd.zeroValue3
  t4 := Tryd.underlying4
  a4 := Tryd.isAgg4
  z4 := Tryd.sizeOf4
  v4 := Tryd.zeroValue4
  t5 := Tryd.underlying5
  a5 := Tryd.isAgg5
  z5 := Tryd.sizeOf5
  v5 := Tryd.zeroValue5
  t9 := Tryd.underlying9
  a9 := Tryd.isAgg9
  z9 := Tryd.sizeOf9
  v9 := Tryd.zeroValue9
  t46 := Tryd.underlying69
  a46 := Tryd.isAgg69
  z46 := Tryd.sizeOf69
  v46 := Tryd.zeroValue69
  t51 := Tryd.underlying65
  a51 := Tryd.isAgg65
  z51 := Tryd.sizeOf65
  v51 := Tryd.zeroValue65
  t59 := Tryd.underlying50
  a59 := Tryd.isAgg50
  z59 := Tryd.sizeOf50
  v59 := Tryd.zeroValue50
  t146 := Tryd.underlying90
  a146 := Tryd.isAgg90
  z146 := Tryd.sizeOf90
  v146 := Tryd.zeroValue90
  g1 := by kernel_rfl }
open Go.RowKit Go.Lib in
theorem Tryd.strings_Cut (s sep : ByteArray) (m : Int) (w : World) (hs : s.size < 4294967281) (hm : w.cell? ⟨1, 0, none⟩ = some (.int .i64 m)) :
    Calls Tryd.prog 29 #[.string s, .string sep] w fun e w' => e = .returned (.tuple #[.string ⟨(Lib.cut s.data.toList sep.data.toList).1.toArray⟩, .string ⟨(Lib.cut s.data.toList sep.data.toList).2.1.toArray⟩, .bool (Lib.cut s.data.toList sep.data.toList).2.2]) ∧ ∃ n, w' = w.drewN n := Any.strings_Cut Tryd.lays145 s sep m w hs hm
def Tryd.laysM219_ren : Go.Shelf.Ren := ⟨fun | 219 => 49 | 217 => 56 | 225 => 58 | 224 => 59 | 267 => 60 | 266 => 64 | 314 => 65 | n => n, fun | 9 => 9 | 3 => 3 | 4 => 4 | 5 => 5 | 46 => 69 | 146 => 90 | 51 => 65 | n => n, fun | 1 => 1 | n => n⟩
theorem Tryd.laysM219 : Go.Proofs.LaysM.n219 Tryd.prog Tryd.laysM219_ren := {
  mixed := by kernel_rfl
  f217 := Tryd.func56.trans (congrArg some (by kernel_rfl))
  f219 := Tryd.func49.trans (congrArg some (by kernel_rfl))
  f224 := Tryd.func59.trans (congrArg some (by kernel_rfl))
  f225 := Tryd.func58.trans (congrArg some (by kernel_rfl))
  f266 := Tryd.func64.trans (congrArg some (by kernel_rfl))
  f267 := Tryd.func60.trans (congrArg some (by kernel_rfl))
  f314 := Tryd.func65.trans (congrArg some (by kernel_rfl))
  t3 := Tryd.underlying3
  a3 := Tryd.isAgg3
  z3 := Tryd.sizeOf3
  v3 := Tryd.zeroValue3
  t4 := Tryd.underlying4
  a4 := Tryd.isAgg4
  z4 := Tryd.sizeOf4
  v4 := Tryd.zeroValue4
  t5 := Tryd.underlying5
  a5 := Tryd.isAgg5
  z5 := Tryd.sizeOf5
  v5 := Tryd.zeroValue5
  t9 := Tryd.underlying9
  a9 := Tryd.isAgg9
  z9 := Tryd.sizeOf9
  v9 := Tryd.zeroValue9
  t46 := Tryd.underlying69
  a46 := Tryd.isAgg69
  z46 := Tryd.sizeOf69
  v46 := Tryd.zeroValue69
  t51 := Tryd.underlying65
  a51 := Tryd.isAgg65
  z51 := Tryd.sizeOf65
  v51 := Tryd.zeroValue65
  t146 := Tryd.underlying90
  a146 := Tryd.isAgg90
  z146 := Tryd.sizeOf90
  v146 := Tryd.zeroValue90
  g1 := by kernel_rfl
  i3 := by kernel_rfl
  i4 := by kernel_rfl
  i5 := by kernel_rfl
  i9 := by kernel_rfl
  i46 := by kernel_rfl
  i51 := by kernel_rfl
  i146 := by kernel_rfl
  m1 := by kernel_rfl
  s1_3 := fun w h => Go.Proofs.cell_of_shapedOpen_int (zero := #[.int .i64 0]) (t := 3) h (of_decide_eq_true (by kernel_rfl)) (by kernel_rfl) rfl (by kernel_rfl) (by kernel_rfl) Tryd.underlying3 }
open Go.RowKit Go.Lib in
theorem Tryd.stringslite_Index_shaped (s sub : ByteArray) (w : World) (h : w.ShapedOpen Tryd.prog) (hs : s.size < 4294967281) :
    Calls Tryd.prog 49 #[.string s, .string sub] w fun e w' => e = .returned (.int .i64 (Lib.index s.data.toList sub.data.toList)) ∧ w' = w := Any.stringslite_Index_shaped Tryd.laysM219 s sub w h hs
def Tryd.laysM143_ren : Go.Shelf.Ren := ⟨fun | 143 => 47 | 219 => 49 | 217 => 56 | 225 => 58 | 224 => 59 | 267 => 60 | 266 => 64 | 314 => 65 | n => n, fun | 9 => 9 | 3 => 3 | 4 => 4 | 5 => 5 | 46 => 69 | 146 => 90 | 51 => 65 | n => n, fun | 1 => 1 | n => n⟩
theorem Tryd.laysM143 : Go.Proofs.LaysM.n143 Tryd.prog Tryd.laysM143_ren := {
  mixed := by kernel_rfl
  f143 := Tryd.func47.trans (congrArg some (by kernel_rfl))
  f217 := Tryd.func56.trans (congrArg some (by kernel_rfl))
  f219 := Tryd.func49.trans (congrArg some (by kernel_rfl))
  f224 := Tryd.func59.trans (congrArg some (by kernel_rfl))
  f225 := Tryd.func58.trans (congrArg some (by kernel_rfl))
  f266 := Tryd.func64.trans (congrArg some (by kernel_rfl))
  f267 := Tryd.func60.trans (congrArg some (by kernel_rfl))
  f314 := Tryd.func65.trans (congrArg some (by kernel_rfl))
  t3 := Tryd.underlying3
  a3 := Tryd.isAgg3
  z3 := Tryd.sizeOf3
  v3 := Tryd.zeroValue3
  t4 := Tryd.underlying4
  a4 := Tryd.isAgg4
  z4 := Tryd.sizeOf4
  v4 := Tryd.zeroValue4
  t5 := Tryd.underlying5
  a5 := Tryd.isAgg5
  z5 := Tryd.sizeOf5
  v5 := Tryd.zeroValue5
  t9 := Tryd.underlying9
  a9 := Tryd.isAgg9
  z9 := Tryd.sizeOf9
  v9 := Tryd.zeroValue9
  t46 := Tryd.underlying69
  a46 := Tryd.isAgg69
  z46 := Tryd.sizeOf69
  v46 := Tryd.zeroValue69
  t51 := Tryd.underlying65
  a51 := Tryd.isAgg65
  z51 := Tryd.sizeOf65
  v51 := Tryd.zeroValue65
  t146 := Tryd.underlying90
  a146 := Tryd.isAgg90
  z146 := Tryd.sizeOf90
  v146 := Tryd.zeroValue90
  g1 := by kernel_rfl
  i3 := by kernel_rfl
  i4 := by kernel_rfl
  i5 := by kernel_rfl
  i9 := by kernel_rfl
  i46 := by kernel_rfl
  i51 := by kernel_rfl
  i146 := by kernel_rfl
  m1 := by kernel_rfl
  s1_3 := fun w h => Go.Proofs.cell_of_shapedOpen_int (zero := #[.int .i64 0]) (t := 3) h (of_decide_eq_true (by kernel_rfl)) (by kernel_rfl) rfl (by kernel_rfl) (by kernel_rfl) Tryd.underlying3 }
open Go.RowKit Go.Lib in
theorem Tryd.strings_Index_shaped (s sub : ByteArray) (w : World) (h : w.ShapedOpen Tryd.prog) (hs : s.size < 4294967281) :
    Calls Tryd.prog 47 #[.string s, .string sub] w fun e w' => e = .returned (.int .i64 (Lib.index s.data.toList sub.data.toList)) ∧ w' = w := Any.strings_Index_shaped Tryd.laysM143 s sub w h hs
def Tryd.laysM220_ren : Go.Shelf.Ren := ⟨fun | 220 => 37 | 219 => 49 | 217 => 56 | 225 => 58 | 224 => 59 | 267 => 60 | 266 => 64 | 314 => 65 | n => n, fun | 9 => 9 | 4 => 4 | 3 => 3 | 5 => 5 | 46 => 69 | 146 => 90 | 51 => 65 | n => n, fun | 1 => 1 | n => n⟩
theorem Tryd.laysM220 : Go.Proofs.LaysM.n220 Tryd.prog Tryd.laysM220_ren := {
  mixed := by kernel_rfl
  f217 := Tryd.func56.trans (congrArg some (by kernel_rfl))
  f219 := Tryd.func49.trans (congrArg some (by kernel_rfl))
  f220 := Tryd.func37.trans (congrArg some (by kernel_rfl))
  f224 := Tryd.func59.trans (congrArg some (by kernel_rfl))
  f225 := Tryd.func58.trans (congrArg some (by kernel_rfl))
  f266 := Tryd.func64.trans (congrArg some (by kernel_rfl))
  f267 := Tryd.func60.trans (congrArg some (by kernel_rfl))
  f314 := Tryd.func65.trans (congrArg some (by kernel_rfl))
  t3 := Tryd.underlying3
  a3 := Tryd.isAgg3
  z3 := Tryd.sizeOf3
  v3 := Tryd.zeroValue3
  t4 := Tryd.underlying4
  a4 := Tryd.isAgg4
  z4 := Tryd.sizeOf4
  v4 := Tryd.zeroValue4
  t5 := Tryd.underlying5
  a5 := Tryd.isAgg5
  z5 := Tryd.sizeOf5
  v5 := Tryd.zeroValue5
  t9 := Tryd.underlying9
  a9 := Tryd.isAgg9
  z9 := Tryd.sizeOf9
  v9 := Tryd.zeroValue9
  t46 := Tryd.underlying69
  a46 := Tryd.isAgg69
  z46 := Tryd.sizeOf69
  v46 := Tryd.zeroValue69
  t51 := Tryd.underlying65
  a51 := Tryd.isAgg65
  z51 := Tryd.sizeOf65
  v51 := Tryd.zeroValue65
  t146 := Tryd.underlying90
  a146 := Tryd.isAgg90
  z146 := Tryd.sizeOf90
  v146 := Tryd.zeroValue90
  g1 := by kernel_rfl
  i3 := by kernel_rfl
  i4 := by kernel_rfl
  i5 := by kernel_rfl
  i9 := by kernel_rfl
  i46 := by kernel_rfl
  i51 := by kernel_rfl
  i146 := by kernel_rfl
  m1 := by kernel_rfl
  s1_3 := fun w h => Go.Proofs.cell_of_shapedOpen_int (zero := #[.int .i64 0]) (t := 3) h (of_decide_eq_true (by kernel_rfl)) (by kernel_rfl) rfl (by kernel_rfl) (by kernel_rfl) Tryd.underlying3 }
open Go.RowKit Go.Lib in
theorem Tryd.stringslite_Cut_shaped (s sep : ByteArray) (w : World) (h : w.ShapedOpen Tryd.prog) (hs : s.size < 4294967281) :
    Calls Tryd.prog 37 #[.string s, .string sep] w fun e w' => e = .returned (.tuple #[.string ⟨(Lib.cut s.data.toList sep.data.toList).1.toArray⟩, .string ⟨(Lib.cut s.data.toList sep.data.toList).2.1.toArray⟩, .bool (Lib.cut s.data.toList sep.data.toList).2.2]) ∧ ∃ n, w' = w.drewN n := Any.stringslite_Cut_shaped Tryd.laysM220 s sep w h hs
def Tryd.laysM145_ren : Go.Shelf.Ren := ⟨fun | 145 => 29 | 220 => 37 | 219 => 49 | 217 => 56 | 225 => 58 | 224 => 59 | 267 => 60 | 266 => 64 | 314 => 65 | n => n, fun | 9 => 9 | 4 => 4 | 59 => 50 | 3 => 3 | 5 => 5 | 46 => 69 | 146 => 90 | 51 => 65 | n => n, fun | 1 => 1 | n => n⟩
theorem Tryd.laysM145 : Go.Proofs.LaysM.n145 Tryd.prog Tryd.laysM145_ren := {
  mixed := by kernel_rfl
  f145 := Tryd.func29.trans (congrArg some (by kernel_rfl))
  f217 := Tryd.func56.trans (congrArg some (by kernel_rfl))
  f219 := Tryd.func49.trans (congrArg some (by kernel_rfl))
  f220 := Tryd.func37.trans (congrArg some (by kernel_rfl))
  f224 := Tryd.func59.trans (congrArg some (by kernel_rfl))
  f225 := Tryd.func58.trans (congrArg some (by kernel_rfl))
  f266 := Tryd.func64.trans (congrArg some (by kernel_rfl))
  f267 := Tryd.func60.trans (congrArg some (by kernel_rfl))
  f314 := Tryd.func65.trans (congrArg some (by kernel_rfl))
  t3 := Tryd.underlying3
  a3 := Tryd.isAgg3
  z3 := Tryd.sizeOf3
  v3 := Tryd.zeroValue3
  t4 := Tryd.underlying4
  a4 := Tryd.isAgg4
  z4 := Tryd.sizeOf4
  v4 := Tryd.zeroValue4
  t5 := Tryd.underlying5
  a5 := Tryd.isAgg5
  z5 := Tryd.sizeOf5
  v5 := Tryd.zeroValue5
  t9 := Tryd.underlying9
  a9 := Tryd.isAgg9
  z9 := Tryd.sizeOf9
  v9 := Tryd.zeroValue9
  t46 := Tryd.underlying69
  a46 := Tryd.isAgg69
  z46 := Tryd.sizeOf69
  v46 := Tryd.zeroValue69
  t51 := Tryd.underlying65
  a51 := Tryd.isAgg65
  z51 := Tryd.sizeOf65
  v51 := Tryd.zeroValue65
  t59 := Tryd.underlying50
  a59 := Tryd.isAgg50
  z59 := Tryd.sizeOf50
  v59 := Tryd.zeroValue50
  t146 := Tryd.underlying90
  a146 := Tryd.isAgg90
  z146 := Tryd.sizeOf90
  v146 := Tryd.zeroValue90
  g1 := by kernel_rfl
  i3 := by kernel_rfl
  i4 := by kernel_rfl
  i5 := by kernel_rfl
  i9 := by kernel_rfl
  i46 := by kernel_rfl
  i51 := by kernel_rfl
  i59 := by kernel_rfl
  i146 := by kernel_rfl
  m1 := by kernel_rfl
  s1_3 := fun w h => Go.Proofs.cell_of_shapedOpen_int (zero := #[.int .i64 0]) (t := 3) h (of_decide_eq_true (by kernel_rfl)) (by kernel_rfl) rfl (by kernel_rfl) (by kernel_rfl) Tryd.underlying3 }
open Go.RowKit Go.Lib in
theorem Tryd.strings_Cut_shaped (s sep : ByteArray) (w : World) (h : w.ShapedOpen Tryd.prog) (hs : s.size < 4294967281) :
    Calls Tryd.prog 29 #[.string s, .string sep] w fun e w' => e = .returned (.tuple #[.string ⟨(Lib.cut s.data.toList sep.data.toList).1.toArray⟩, .string ⟨(Lib.cut s.data.toList sep.data.toList).2.1.toArray⟩, .bool (Lib.cut s.data.toList sep.data.toList).2.2]) ∧ ∃ n, w' = w.drewN n := Any.strings_Cut_shaped Tryd.laysM145 s sep w h hs
def Tryd.lays206_ren : Go.Shelf.Ren := ⟨fun | 206 => 55 | n => n, fun | 9 => 9 | 4 => 4 | 3 => 3 | n => n, fun | n => n⟩
theorem Tryd.lays206 : Go.Proofs.Lays.n206 Tryd.prog Tryd.lays206_ren := {
  mixed := by kernel_rfl
  f206 := Tryd.func55.trans (congrArg some (by kernel_rfl))
  t3 := Tryd.underlying3
  a3 := Tryd.isAgg3
  z3 := Tryd.sizeOf3
  v3 := Tryd.zeroValue3
  t4 := Tryd.underlying4
  a4 := Tryd.isAgg4
  z4 := Tryd.sizeOf4
  v4 := Tryd.zeroValue4
  t9 := Tryd.underlying9
  a9 := Tryd.isAgg9
  z9 := Tryd.sizeOf9
  v9 := Tryd.zeroValue9 }
open Go.RowKit Go.Lib in
theorem Tryd.stringslite_HasPrefix (s p : ByteArray) (w : World) :
    Calls Tryd.prog 55 #[.string s, .string p] w fun e w' => e = .returned (.bool (Lib.hasPrefix s.data.toList p.data.toList)) ∧ w' = w := Any.stringslite_HasPrefix Tryd.lays206 s p w
def Tryd.lays197_ren : Go.Shelf.Ren := ⟨fun | 197 => 46 | 260 => 57 | n => n, fun | 9 => 9 | 21 => 21 | 3 => 3 | 4 => 4 | 5 => 5 | 105 => 71 | 119 => 86 | 0 => 0 | 46 => 69 | 139 => 89 | 138 => 88 | n => n, fun | 3 => 2 | 4 => 3 | n => n⟩
theorem Tryd.lays197 : Go.Proofs.Lays.n197 Tryd.prog Tryd.lays197_ren := {
  mixed := by kernel_rfl
  f197 := Tryd.func46.trans (congrArg some (by kernel_rfl))
  f260 := Tryd.func57.trans (congrArg some (by kernel_rfl))
  t0 := Tryd.underlying0
  a0 := Tryd.isAgg0
  z0 := Tryd.sizeOf0
  v0 := Tryd.zeroValue0
  t3 := Tryd.underlying3
  a3 := Tryd.isAgg3
  z3 := Tryd.sizeOf3
  v3 := Tryd.zeroValue3
  t4 := Tryd.underlying4
  a4 := Tryd.isAgg4
  z4 := Tryd.sizeOf4
  v4 := Tryd.zeroValue4
  t5 := Tryd.underlying5
  a5 := Tryd.isAgg5
  z5 := Tryd.sizeOf5
  v5 := Tryd.zeroValue5
  t9 := Tryd.underlying9
  a9 := Tryd.isAgg9
  z9 := Tryd.sizeOf9
  v9 := Tryd.zeroValue9
  t21 := Tryd.underlying21
  a21 := Tryd.isAgg21
  z21 := Tryd.sizeOf21
  v21 := Tryd.zeroValue21
  t46 := Tryd.underlying69
  a46 := Tryd.isAgg69
  z46 := Tryd.sizeOf69
  v46 := Tryd.zeroValue69
  t105 := Tryd.underlying71
  a105 := Tryd.isAgg71
  z105 := Tryd.sizeOf71
  v105 := Tryd.zeroValue71
  t119 := Tryd.underlying86
  a119 := Tryd.isAgg86
  z119 := Tryd.sizeOf86
  t138 := Tryd.underlying88
  a138 := Tryd.isAgg88
  z138 := Tryd.sizeOf88
  v138 := Tryd.zeroValue88
  t139 := Tryd.underlying89
  a139 := Tryd.isAgg89
  z139 := Tryd.sizeOf89
  v139 := Tryd.zeroValue89
  g3 := by kernel_rfl
  g4 := by kernel_rfl }
open Go.RowKit Go.Lib in
theorem Tryd.utf8_DecodeRuneInString_ascii (s : ByteArray) (x : UInt8) (w : World) (h0 : s.data.toList[0]? = some x) (hx : x.toNat < 128) :
    Calls Tryd.prog 46 #[.string s] w fun e w' => e = .returned (.tuple #[.int .i32 x.toNat, .int .i64 1]) ∧ w' = w := Any.utf8_DecodeRuneInString_ascii Tryd.lays197 s x w h0 hx
def Tryd.lays260_ren : Go.Shelf.Ren := ⟨fun | 260 => 57 | n => n, fun | 9 => 9 | 21 => 21 | 3 => 3 | 4 => 4 | 5 => 5 | 119 => 86 | 0 => 0 | 46 => 69 | 139 => 89 | 138 => 88 | n => n, fun | 3 => 2 | 4 => 3 | n => n⟩
theorem Tryd.lays260 : Go.Proofs.Lays.n260 Tryd.prog Tryd.lays260_ren := {
  mixed := by kernel_rfl
  f260 := Tryd.func57.trans (congrArg some (by kernel_rfl))
  t0 := Tryd.underlying0
  a0 := Tryd.isAgg0
  z0 := Tryd.sizeOf0
  v0 := Tryd.zeroValue0
  t3 := Tryd.underlying3
  a3 := Tryd.isAgg3
  z3 := Tryd.sizeOf3
  v3 := Tryd.zeroValue3
  t4 := Tryd.underlying4
  a4 := Tryd.isAgg4
  z4 := Tryd.sizeOf4
  v4 := Tryd.zeroValue4
  t5 := Tryd.underlying5
  a5 := Tryd.isAgg5
  z5 := Tryd.sizeOf5
  v5 := Tryd.zeroValue5
  t9 := Tryd.underlying9
  a9 := Tryd.isAgg9
  z9 := Tryd.sizeOf9
  v9 := Tryd.zeroValue9
  t21 := Tryd.underlying21
  a21 := Tryd.isAgg21
  z21 := Tryd.sizeOf21
  v21 := Tryd.zeroValue21
  t46 := Tryd.underlying69
  a46 := Tryd.isAgg69
  z46 := Tryd.sizeOf69
  v46 := Tryd.zeroValue69
  t119 := Tryd.underlying86
  a119 := Tryd.isAgg86
  z119 := Tryd.sizeOf86
  t138 := Tryd.underlying88
  a138 := Tryd.isAgg88
  z138 := Tryd.sizeOf88
  v138 := Tryd.zeroValue88
  t139 := Tryd.underlying89
  a139 := Tryd.isAgg89
  z139 := Tryd.sizeOf89
  v139 := Tryd.zeroValue89
  g3 := by kernel_rfl
  g4 := by kernel_rfl }
open Go.RowKit Go.Lib in
theorem Tryd.utf8_decodeRuneInStringSlow (s : ByteArray) (w : World) (hT : Lib.Utf8Tabs 2 3 w) :
    Calls Tryd.prog 57 #[.string s] w fun e w' => e = .returned (.tuple #[.int .i32 (Lib.decodeGo s).1, .int .i64 (Lib.decodeGo s).2]) ∧ Below w.heap.size w w' := Any.utf8_decodeRuneInStringSlow Tryd.lays260 s w hT
end Go.Proofs
end

section
/- The contracts of strings.Builder's writing methods at this program: the shelf's theorems, with their tables of numbers typed by hand (the shelf's own command does not lay them where copyCheck's panic is refused by the loader). -/
namespace Go.Proofs
open Go.Shelf
def Tryd.bld_ren : Go.Shelf.Ren := ⟨fun
  | 166 => 52
  | 167 => 38
    | 240 => 50 | 276 => 61 | n => n, fun | 70 => 55 | 9 => 9 | 0 => 0 | 72 => 58 | 37 => 56 | 3 => 3 | 4 => 4 | 5 => 5 | 20 => 20 | 75 => 60 | 80 => 62 | 164 => 83 | n => n, fun | n => n⟩
theorem Tryd.bld240 : Go.Proofs.Lays.n240 Tryd.prog Tryd.bld_ren := {
  mixed := by kernel_rfl
  f240 := Tryd.func50.trans (congrArg some (by kernel_rfl))
  f276 := Tryd.func61.trans (congrArg some (by kernel_rfl))
  t0 := Tryd.underlying0
  a0 := Tryd.isAgg0
  z0 := Tryd.sizeOf0
  v0 := Tryd.zeroValue0
  t4 := Tryd.underlying4
  a4 := Tryd.isAgg4
  z4 := Tryd.sizeOf4
  v4 := Tryd.zeroValue4
  t9 := Tryd.underlying9
  a9 := Tryd.isAgg9
  z9 := Tryd.sizeOf9
  v9 := Tryd.zeroValue9
  t20 := Tryd.underlying20
  a20 := Tryd.isAgg20
  z20 := Tryd.sizeOf20
  v20 := Tryd.zeroValue20
  t70 := Tryd.underlying55
  a70 := Tryd.isAgg55
  z70 := Tryd.sizeOf55
  v70 := Tryd.zeroValue55
  t72 := Tryd.underlying58
  a72 := Tryd.isAgg58
  z72 := Tryd.sizeOf58
  v72 := Tryd.zeroValue58
  t164 := Tryd.underlying83
  a164 := Tryd.isAgg83
  z164 := Tryd.sizeOf83
  v164 := Tryd.zeroValue83 }
theorem Tryd.bldX : Builder.Extra Tryd.prog Tryd.bld_ren := {
  sizeBuilder := by kernel_rfl
  liesBuilder := by kernel_rfl
  t5 := Tryd.underlying5
  a5 := Tryd.isAgg5
  z5 := Tryd.sizeOf5
  v5 := Tryd.zeroValue5
  infoByte := by kernel_rfl
  cellsByte := by kernel_rfl
  sizeByte := by kernel_rfl
  neB5 := by decide }
theorem Tryd.bld167 : Go.Proofs.Lays.n167 Tryd.prog Tryd.bld_ren := { Tryd.bld240 with
  f167 := Tryd.func38.trans (congrArg some (by kernel_rfl))
  t5 := Tryd.underlying5
  a5 := Tryd.isAgg5
  z5 := Tryd.sizeOf5
  v5 := Tryd.zeroValue5
  t37 := Tryd.underlying56
  a37 := Tryd.isAgg56
  z37 := Tryd.sizeOf56
  v37 := Tryd.zeroValue56
  t75 := Tryd.underlying60
  a75 := Tryd.isAgg60
  z75 := Tryd.sizeOf60
  v75 := Tryd.zeroValue60 }
open Go.RowKit in
theorem Tryd.WriteByte_k (B b : Nat) (bs : List Value) (c : Int) (w : World) (h : Lib.IsBuilderF 58 5 B b bs w) (hlen : bs.length + 1 ≤ 140737488355328) (hBw : B ≤ w.heap.size) :
    Calls Tryd.prog 38 #[.pointer (some ⟨b, 0, none⟩), .int .u8 c] w fun e w' => e = .returned .nilIface ∧ (Lib.BuilderAtF 58 5 B b (.pointer (some ⟨b, 0, none⟩)) (bs ++ [.int .u8 c]) w' ∧ Below B w w' ∧ Lib.OthersKept 5 (some b) w w') := Any.Builder_WriteByte_k Tryd.bld167 Tryd.bldX B b bs c w h hlen hBw
theorem Tryd.bld166 : Go.Proofs.Lays.n166 Tryd.prog Tryd.bld_ren := { Tryd.bld240 with
  f166 := Tryd.func52.trans (congrArg some (by kernel_rfl))
  t3 := Tryd.underlying3
  a3 := Tryd.isAgg3
  z3 := Tryd.sizeOf3
  v3 := Tryd.zeroValue3
  t37 := Tryd.underlying56
  a37 := Tryd.isAgg56
  z37 := Tryd.sizeOf56
  v37 := Tryd.zeroValue56
  t75 := Tryd.underlying60
  a75 := Tryd.isAgg60
  z75 := Tryd.sizeOf60
  v75 := Tryd.zeroValue60 }
open Go.RowKit in
theorem Tryd.WriteString_k (B b : Nat) (bs : List Value) (s : ByteArray) (w : World) (h : Lib.IsBuilderF 58 5 B b bs w) (hlen : bs.length + s.size ≤ 140737488355328) (hBw : B ≤ w.heap.size) :
    Calls Tryd.prog 52 #[.pointer (some ⟨b, 0, none⟩), .string s] w fun e w' => e = .returned (.tuple #[.int .i64 s.size, .nilIface]) ∧ (Lib.BuilderAtF 58 5 B b (.pointer (some ⟨b, 0, none⟩)) (bs ++ Lib.strCells s) w' ∧ Below B w w' ∧ Lib.OthersKept 5 (some b) w w') := Any.Builder_WriteString_k Tryd.bld166 Tryd.bldX B b bs s w h hlen hBw
end Go.Proofs
end

section
/- The contract of octet.Hex. -/
namespace Go.Proofs.YtdcokepmblcdmaaDoor
open Go.RowKit
set_option linter.unusedVariables false
set_option linter.unusedSimpArgs false
set_option maxHeartbeats 1000000 in
set_option maxRecDepth 100000 in
theorem octet_Hex.spec (a0 : ByteArray) (w : World) (hs : a0.size ≤ 35184372088832) :
    Calls Tryd.prog 30 #[.string a0] w fun e w' => e = .returned (.string (hexS a0)) ∧ Below w.heap.size w w' := by
  go_enter Tryd.func30, Tryd.ntmps30
  go_wp2
  go_loopw [7] (fun i wr => ∃ k : Nat, k ≤ a0.size ∧ i = .int .i64 k ∧ Lib.IsBuilderF 58 5 w.heap.size w.heap.size (Lib.byteCells (hexl (a0.data.toList.take k))) wr ∧ Below w.heap.size w wr ∧ w.heap.size < wr.heap.size) (fun i _ => a0.size - (intOf i).toNat)
  case atStart =>
    refine ⟨0, Nat.zero_le _, rfl, (Lib.IsBuilderF.of (Lib.fresh_isBuilder 58 5 w)), (Below.refl _ w).alloc (Nat.le_refl _) _, by simp⟩
  case round =>
    obtain ⟨k, hk, rfl, hI, hbw, hsz⟩ := hrel
    by_cases hlt : k < a0.size
    · have hl := hexl_length (a0.data.toList.take k)
      have hl2 : (a0.data.toList.take k).length ≤ k := List.length_take_le _ _
      have hc : a0[k].toNat < 256 := a0[k].toNat_lt
      go_wp2_with fail
      refine (Tryd.WriteByte_k w.heap.size w.heap.size _ _ _ hI (by rw [Lib.byteCells_length]; omega) (by omega)).mono ?_
      rintro e W1 ⟨rfl, h1, b1, k1⟩
      rw [dig_get] at h1
      have hz1 := b1.size
      go_wp2_with fail
      refine (Tryd.WriteByte_k w.heap.size w.heap.size _ _ _ (Or.inr h1) (by rw [List.length_append, Lib.byteCells_length]; simp only [List.length_cons, List.length_nil]; omega) (by omega)).mono ?_
      rintro e W2 ⟨rfl, h2, b2, k2⟩
      rw [dig_get] at h2
      have hz2 := b2.size
      go_wp2
      go_roundw
      case rel =>
        refine ⟨k + 1, by omega, by go_num, ?_, (hbw.trans b1).trans b2, by omega⟩
        rw [hexl_snoc a0 k hlt, Lib.byteCells_append, Lib.byteCells_append]
        exact Or.inr h2
      case measure => simp [intOf]; omega
    · obtain rfl : k = a0.size := by omega
      go_wp2_with fail
      rw [show a0.data.toList.take a0.size = a0.data.toList from List.take_of_length_le (by simp)] at hI
      refine (Tryd.Builder_String_any_k w.heap.size w.heap.size _ _ hI (by omega)).mono ?_
      rintro e W1 ⟨rfl, _, b1, _⟩
      go_wp2
      go_ret
      exact ⟨rfl, hbw.trans b1⟩
end Go.Proofs.YtdcokepmblcdmaaDoor
end

section
/- Package variables that hold rows of numbers, as the rows tell; a law whose function reads them. -/
namespace Go.Proofs.YtdcokepmblcdmaaDoor.V
open Go Go.RowKit
set_option linter.unusedVariables false
set_option linter.unusedSimpArgs false
theorem laid_ints {P : Program} {w : World} {nm : String} {g t e n base fuel : Nat} {k : IntKind} {l : List Int} {cs : Array Value} {H : Type} {enc : TypeId × Value → H} {spare : Nat → Bool} {held : Bool} {ps : List MemPlace} (hg : P.globalNamed nm = some g) (hu : P.underlying t = some (.array n e)) (hi : P.underlying e = some (.int k)) (hc : P.cellsOf e = 1) (hv : w.var? P nm = some cs)
    (hd : DataW.trod enc P w base spare held fuel t cs.toList = some (.agg (l.map fun x => .lit (.int k x)), ps)) : ∀ (j : Nat) x, l[j]? = some x → w.cell? ⟨g, j, none⟩ = some (.int k x) := by
  obtain ⟨xs, m, rfl, hx, hl, hn, hel⟩ := DataW.trod_array hu hd
  simp only [Prod.mk.injEq, DataW.agg.injEq] at hx
  intro j x hj
  have h1 : (xs.map (·.1))[j]? = some (.lit (.int k x)) := by rw [← hx.1, List.getElem?_map, hj]; rfl
  rw [List.getElem?_map, Option.map_eq_some_iff] at h1
  obtain ⟨y, hy, hy2⟩ := h1
  have hjn : j < n := by rw [← hn]; exact (List.getElem?_eq_some_iff.1 hy).1
  have h2 := hel j hjn
  rw [hy, hc] at h2
  obtain ⟨q, hq, hq2, _⟩ := DataW.trod_int hi h2
  rw [hq2] at hy2
  simp only [DataW.lit.injEq, Lit.int.injEq, true_and] at hy2
  subst hy2
  have h3 : cs.toList[j]? = some (.int k q) := by
    have h4 : ((cs.toList.drop (j * 1)).take 1)[0]? = some (.int k q) := by rw [hq]; rfl
    simpa using h4
  rw [World.var?_cell hg hv j]
  simpa using h3
theorem flat_eI (k : IntKind) (l : List Int) : (l.map (eI k)).flatten = l.map (Sc.int k) := by
  induction l with
  | nil => rfl
  | cons x l ih => rw [List.map_cons, List.flatten_cons, ih]; rfl
theorem glrep {w : World} {g : Nat} {k : IntKind} {l : List Int} (h : ∀ (j : Nat) (x : Int), l[j]? = some x → w.cell? ⟨g, j, none⟩ = some (.int k x)) (hne : l ≠ []) : RepD w (fun b => b < w.heap.size) (.ref ((l.map (eI k)).flatten) 0) (.pointer (some ⟨g, 0, none⟩)) := by
  have key : ∀ (j : Nat) (sc : Sc), ((l.map (eI k)).flatten)[j]? = some sc → ∃ x : Int, l[j]? = some x ∧ sc = Sc.int k x := by
    intro j sc hj
    rw [flat_eI, List.getElem?_map, Option.map_eq_some_iff] at hj
    obtain ⟨x, hx, rfl⟩ := hj
    exact ⟨x, hx, rfl⟩
  have hb : g < w.heap.size := by
    cases l with
    | nil => exact absurd rfl hne
    | cons x l => exact cell?_lt (h 0 x rfl)
  refine .ref _ 0 g 0 (fun j => (w.cell? ⟨g, j, none⟩).getD undef) hb (fun j sc hj => ?_) (fun j sc hj => ?_)
  · obtain ⟨x, hx, rfl⟩ := key j sc hj
    rw [Nat.zero_add, h j x hx]; rfl
  · obtain ⟨x, hx, rfl⟩ := key j sc hj
    simp only [h j x hx, Option.getD_some]
    exact .int k x
/-- A law whose function reads package variables, out of what is shown of its function. -/
theorem Fun.lawG {P : Program} {gl : Gl} {f : FuncId} {xs : List Vb} {b : Bool} {vs : List Value} {w : World} (h : Fun P gl f (xs.map Va.b) (.bo b)) (hg : GlOk gl w (fun k => k < w.heap.size)) (hx : AtAll w xs vs) : Calls P f vs.toArray w fun e w1 => e = .returned (.bool b) ∧ Below w.heap.size w w1 := by
  obtain ⟨hl, hg2⟩ := hx.get
  refine (h.2 w (fun k => k < w.heap.size) vs.toArray (fun _ h => h) hg ⟨by simpa using hl, fun j x hj => ?_⟩).mono fun e w1 => ?_
  · rw [List.getElem?_map, Option.map_eq_some_iff] at hj
    obtain ⟨y, hj, rfl⟩ := hj
    have := hg2 j y hj
    show At w y _
    simpa [Array.getD_eq_getD_getElem?, List.getD] using this
  · rintro ⟨u, S1, rfl, _, _, hr, hb⟩
    refine ⟨?_, hb⟩
    cases hr with
    | d _ _ h => cases h with | bool _ => rfl
end Go.Proofs.YtdcokepmblcdmaaDoor.V
end

section
/- A range over a function whose iterator turns blocks of its own: the statement, by what the iterator says and what a round keeps. -/
namespace Go.Proofs.YtdcokepmblcdmaaDoor.V
open Go Go.RowKit
set_option linter.unusedVariables false
set_option linter.unusedSimpArgs false
/-- From one world to a later one: blocks of S lie as they lay. -/
structure Kp (S : Nat → Prop) (w w1 : World) : Prop where
  os : w1.os = w.os
  tape : w1.tape = w.tape
  output : w1.output = w.output
  size : w.heap.size ≤ w1.heap.size
  block : ∀ b, S b → b < w.heap.size → w1.heap[b]? = w.heap[b]?
theorem Kp.refl (S : Nat → Prop) (w : World) : Kp S w w := ⟨rfl, rfl, rfl, Nat.le_refl _, fun _ _ _ => rfl⟩
theorem Kp.trans {S : Nat → Prop} {w w1 w2 : World} (h : Kp S w w1) (h2 : Kp S w1 w2) : Kp S w w2 :=
  ⟨h2.os.trans h.os, h2.tape.trans h.tape, h2.output.trans h.output, Nat.le_trans h.size h2.size, fun b hb hl => (h2.block b hb (Nat.lt_of_lt_of_le hl h.size)).trans (h.block b hb hl)⟩
theorem Kp.mono {S S1 : Nat → Prop} {w w1 : World} (h : Kp S w w1) (hs : ∀ b, S1 b → b < w.heap.size → S b) : Kp S1 w w1 := ⟨h.os, h.tape, h.output, h.size, fun b hb hl => h.block b (hs b hb hl) hl⟩
theorem Kp.of_below {S : Nat → Prop} {w w1 : World} (h : Below w.heap.size w w1) : Kp S w w1 := ⟨h.os, h.tape, h.output, h.size, fun b _ hl => h.block b hl⟩
theorem Kp.below {S : Nat → Prop} {B : Nat} {w w1 : World} (h : Kp S w w1) (hs : ∀ b, b < B → S b) (hB : B ≤ w.heap.size) : Below B w w1 := ⟨h.os, h.tape, h.output, h.size, fun b hb => h.block b (hs b hb) (Nat.lt_of_lt_of_le hb hB)⟩
theorem Kp.alloc (S : Nat → Prop) (w : World) (o : Obj) : Kp S w (w.alloc o) := ⟨rfl, rfl, rfl, by simp, fun b _ hl => Below.heap_alloc w o b hl⟩
theorem Kp.putObj {S : Nat → Prop} (w : World) (l : Nat) (o : Obj) (h : ¬ S l) : Kp S w (w.putObj l o) := ⟨rfl, rfl, rfl, by rw [World.putObj_size]; exact Nat.le_refl _, fun b hb _ => World.putObj_heap_other (by rintro rfl; exact h hb)⟩
theorem Kp.setCell {S : Nat → Prop} (w : World) (b o : Nat) (v : Value) (h : ¬ S b) : Kp S w (w.setCell ⟨b, o, none⟩ v) := by
  refine ⟨rfl, rfl, rfl, by show w.heap.size ≤ (w.heap.modify _ _).size; rw [Array.size_modify]; exact Nat.le_refl _, fun k hk hl => ?_⟩
  exact Below.heap_setCell w ⟨b, o, none⟩ v k (by rintro rfl; exact h hk)
/-- What an iterator says: it hands over just these, one by one; between two rounds it turns the blocks of T alone, and lays new ones. -/
def Hands (P : Program) (k : FuncId) (lb : Array Value) (T : Nat → Prop) (xs : List Str) (enc : Str → Array Value) (w : World) : Prop :=
  ∀ (l : Nat) (J Jx : List Str → World → Prop) (W : World), Kp (fun _ => True) w W →
    (∀ pre W W', J pre W → Kp (fun b => ¬ T b) W W' → J pre W') →
    (∀ pre W W', Jx pre W → Kp (fun b => ¬ T b) W W' → Jx pre W') →
    (∀ pre x W, J pre W → pre ++ [x] <+: xs → YieldAt Fence.wide 0 P l (enc x) W fun e W' =>
      (e = .returned (.bool true) ∧ J (pre ++ [x]) W' ∧ Kp T W W') ∨ (e = .returned (.bool false) ∧ Jx (pre ++ [x]) W')) →
    J [] W →
    Calls P k (#[.func (.yield l) #[] #[]] ++ lb) W fun e W' => (∃ v, e = .returned v) ∧ (J xs W' ∨ ∃ pre, pre <+: xs ∧ Jx pre W')
/-- How a round's body may be left. -/
def handsPost (B : Nat) (I : List Str → World → Prop) (Ix : Code → List Str → World → Prop) (xs : List Str) (W : World) : Exit → Act → World → Prop
  | .normal, _, W' => Kp (fun b => B ≤ b) W W' ∧ I xs W'
  | .ret, _, W' => Kp (fun b => B ≤ b) W W' ∧ Ix .ret xs W'
  | .exit id, _, W' => Kp (fun b => B ≤ b) W W' ∧ Ix (.exit id) xs W'
  | _, _, _ => False
variable {P : Program}
theorem yieldAt_any {m n : Nat} {l : Nat} {args : Array Value} {W : World} {R : Ending → World → Prop} (h : YieldAt Fence.wide m P l args W R) : YieldAt Fence.wide n P l args W R := by
  obtain ⟨fn, tmps, assign, body, h1, h2, h3⟩ := h
  exact ⟨fn, tmps, assign, body, h1, h2, fun c cs _ => h3 c cs (room_wide _)⟩
set_option maxHeartbeats 1000000 in
/-- **The statement.** B: the heap's size where the loop begins, less what is the iterator's own: its blocks T lie from B on. -/
theorem wp_range {g : Operand} {ps : Array Tmp} {assign body : Code} {Q : Exit → Act → World → Prop} {a : Act} {w : World} {n B : Nat}
    {gf : Nat} {lb : Array Value} (hg : a.eval g = .func (.func gf) #[] lb) (eg : ∀ args w, (callFunc gf args).run P w = .ok (.enter gf args) w)
    {T : Nat → Prop} {xs : List Str} {enc : Str → Array Value} (hit : Hands P gf lb T xs enc w) (hT : ∀ b, T b → B ≤ b ∧ b < w.heap.size) (hps : ∀ x, (enc x).size = ps.size)
    (I : List Str → World → Prop) (Ix : Code → List Str → World → Prop)
    (hI : ∀ pre W W', I pre W → Kp (fun b => b < B) W W' → I pre W')
    (hIx : ∀ c pre W W', Ix c pre W → Kp (fun b => b < B) W W' → Ix c pre W')
    (hBw : B ≤ w.heap.size) (h0 : I [] w) (a₁ : Str → Act)
    (hassign : ∀ (l : Nat) (x : Str) (W : World) (K : Act → World → Prop), K (a₁ x) W →
      assign.wpIn (Fence.wide.inRound l) n P (Exit.then K (fun _ _ _ => False)) { tmps := (ps.zip (enc x)).foldl (fun t (p, v) => t.setIfInBounds p v) a.tmps, defers := [] } W)
    (hbody : ∀ (l : Nat) (pre : List Str) (x : Str) (W : World), I pre W → B ≤ W.heap.size → pre ++ [x] <+: xs → body.wpIn (Fence.wide.inRound l) n P (handsPost B I Ix (pre ++ [x]) W) (a₁ x) W)
    (hdone : ∀ (D : Nat) (W : World), I xs W → B ≤ D → W.heap[D]? = some (.deferred (some [])) → Q .normal { a with defers := { target := .collected D, args := #[] } :: a.defers } W)
    (hstop : ∀ (D : Nat) (c : Code) (pre : List Str) (W : World), Ix c pre W → pre <+: xs → B ≤ D → W.heap[D]? = some (.deferred (some [])) → c.wpIn Fence.wide n P Q { a with defers := { target := .collected D, args := #[] } :: a.defers } W) :
    (Code.rangeFunc g ps assign body).wpIn Fence.wide n P Q a w := by
  refine wpIn_rangeFunc ?_
  intro fn hfn
  obtain ⟨rec, hrec⟩ : ∃ rec : LoopState → Option Code → Loop, rec = fun st pe => { state := st, pending := pe, fn, tmps := a.tmps, params := ps, assign, body, defers := w.heap.size } := ⟨_, rfl⟩
  obtain ⟨W1, hW1⟩ : ∃ W1, (w.alloc (.deferred (some []))).alloc (.loop (rec .ready none)) = W1 := ⟨_, rfl⟩
  have k1 : Kp (fun _ => True) w W1 := by rw [← hW1]; exact (Kp.alloc _ _ _).trans (Kp.alloc _ _ _)
  have s1 : W1.heap.size = w.heap.size + 2 := by rw [← hW1]; simp
  have l1 : W1.heap[w.heap.size + 1]? = some (.loop (rec .ready none)) := by
    rw [← hW1]; have := World.alloc_heap_new (w.alloc (.deferred (some []))) (.loop (rec .ready none)); rwa [World.size_alloc] at this
  have d1 : W1.heap[w.heap.size]? = some (.deferred (some [])) := by
    rw [← hW1]; exact (Below.heap_alloc _ _ _ (by simp)).trans (World.alloc_heap_new w _)
  have i1 : I [] W1 := hI _ _ _ h0 (k1.mono fun _ _ _ => trivial)
  refine ⟨w.heap.size + 1, [{ target := .collected w.heap.size, args := #[] }], W1, { target := .fn (.func gf) lb, args := #[.func (.yield (w.heap.size + 1)) #[] #[]] }, W1, gf, #[.func (.yield (w.heap.size + 1)) #[] #[]] ++ lb, W1, ?_, ?_, ?_, ?_, (fun h => absurd h (by decide)), ?_⟩
  · rw [← hW1, hrec]; exact run_enterLoop_outer _ _ _ _ _
  · simp only [resolve, hg]
    simp [go_sem]
  · intro f' hf'; trivial
  · simp [invoke, go_sem, eg]
  · rw [callsIn_wide]
    have pb : ∀ (W : World) (o : Obj), Kp (fun b => b < B) W (W.putObj (w.heap.size + 1) o) := fun W o => .putObj _ _ _ (by omega)
    have nT : ∀ b, w.heap.size ≤ b → ¬ T b := fun b hb ht => by have := (hT b ht).2; omega
    have sub : ∀ b, b < B → ¬ T b := fun b hb ht => by have := (hT b ht).1; omega
    refine (hit (w.heap.size + 1)
      (fun pre W => I pre W ∧ W.heap[w.heap.size + 1]? = some (.loop (rec .ready none)) ∧ W.heap[w.heap.size]? = some (.deferred (some [])))
      (fun pre W => ∃ c, Ix c pre W ∧ W.heap[w.heap.size + 1]? = some (.loop (rec .done (some c))) ∧ W.heap[w.heap.size]? = some (.deferred (some [])))
      W1 k1 ?_ ?_ ?_ ⟨i1, l1, d1⟩).mono ?_
    · rintro pre W W' ⟨h1, h2, h3⟩ hk
      have q2 := (Array.getElem?_eq_some_iff.1 h2).1
      exact ⟨hI _ _ _ h1 (hk.mono fun b hb _ => sub b hb), (hk.block _ (nT _ (by omega)) q2).trans h2, (hk.block _ (nT _ (Nat.le_refl _)) (by omega)).trans h3⟩
    · rintro pre W W' ⟨c, h1, h2, h3⟩ hk
      have q2 := (Array.getElem?_eq_some_iff.1 h2).1
      exact ⟨c, hIx _ _ _ _ h1 (hk.mono fun b hb _ => sub b hb), (hk.block _ (nT _ (by omega)) q2).trans h2, (hk.block _ (nT _ (Nat.le_refl _)) (by omega)).trans h3⟩
    · rintro pre x W ⟨hi, hl, hk⟩ hpre
      have hlt : w.heap.size + 1 < W.heap.size := (Array.getElem?_eq_some_iff.1 hl).1
      have hy := run_yield (P := P) (args := enc x) hl (by rw [hrec]; exact hps x)
      rw [hrec] at hy
      refine yieldAt_any (m := n) ⟨fn, _, assign, body, hy, roundIn_of_wpIn hfn (hassign _ x W _ ⟨_, run_beginRound hl (by rw [hrec]), ?_⟩)⟩
      obtain ⟨W2, hW2⟩ : ∃ W2, W.putObj (w.heap.size + 1) (.loop { rec .ready none with state := .busy }) = W2 := ⟨_, rfl⟩
      have p2 : Kp (fun b => b ≠ w.heap.size + 1) W W2 := by rw [← hW2]; exact .putObj _ _ _ (fun h => h rfl)
      have z2 : W2.heap.size = W.heap.size := by rw [← hW2]; exact World.putObj_size
      have l2 : W2.heap[w.heap.size + 1]? = some (.loop { rec .ready none with state := .busy }) := by rw [← hW2]; exact World.putObj_heap_same hlt
      have d2 : W2.heap[w.heap.size]? = some (.deferred (some [])) := (p2.block _ (by omega) (by omega)).trans hk
      have i2 : I pre W2 := hI _ _ _ hi (p2.mono fun b hb _ => by omega)
      rw [hW2]
      refine wpIn_mono (hbody _ pre x _ i2 (by omega) hpre) ?_
      have fin : ∀ (jump : Option Code) (W3 : World), Kp (fun b => B ≤ b) W2 W3 →
          (Instr.endRound (w.heap.size + 1) jump).run P W3 = .ok (.bool jump.isNone) (W3.putObj (w.heap.size + 1) (.loop (rec (if jump.isNone then .ready else .done) jump))) ∧
          (W3.putObj (w.heap.size + 1) (.loop (rec (if jump.isNone then .ready else .done) jump))).heap[w.heap.size + 1]? = some (.loop (rec (if jump.isNone then .ready else .done) jump)) ∧
          (W3.putObj (w.heap.size + 1) (.loop (rec (if jump.isNone then .ready else .done) jump))).heap[w.heap.size]? = some (.deferred (some [])) ∧
          Kp T W (W3.putObj (w.heap.size + 1) (.loop (rec (if jump.isNone then .ready else .done) jump))) := fun jump W3 hk3 => by
        have hl3 := (hk3.block _ (by omega) (by omega)).trans l2
        have hd3 := (hk3.block _ hBw (by omega)).trans d2
        have := run_endRound (P := P) jump hl3
        rw [hrec] at this ⊢
        refine ⟨this, World.putObj_heap_same (Array.getElem?_eq_some_iff.1 hl3).1, (World.putObj_heap_other (by omega)).trans hd3, ((p2.mono fun b hb _ => ?_).trans (hk3.mono fun b hb _ => (hT b hb).1)).trans (.putObj _ _ _ fun hb => ?_)⟩
        · have := (hT b hb).2; omega
        · have := (hT _ hb).2; omega
      rintro e a3 W3 hp
      cases e with
      | normal =>
        obtain ⟨hk3, hi3⟩ := hp
        obtain ⟨hr, hl4, hk4, ht4⟩ := fin none W3 hk3
        exact ⟨_, _, hr, .inl ⟨rfl, ⟨hI _ _ _ hi3 (pb _ _), hl4, hk4⟩, ht4⟩⟩
      | ret =>
        obtain ⟨hk3, hi3⟩ := hp
        obtain ⟨hr, hl4, hk4, ht4⟩ := fin (some .ret) W3 hk3
        exact ⟨_, _, hr, .inr ⟨rfl, .ret, hIx _ _ _ _ hi3 (pb _ _), hl4, hk4⟩⟩
      | exit id =>
        obtain ⟨hk3, hi3⟩ := hp
        obtain ⟨hr, hl4, hk4, ht4⟩ := fin (some (.exit id)) W3 hk3
        exact ⟨_, _, hr, .inr ⟨rfl, .exit id, hIx _ _ _ _ hi3 (pb _ _), hl4, hk4⟩⟩
      | goto t => exact hp.elim
      | panic ch => exact hp.elim
      | outgrown => exact hp.elim
    · rintro e W2 ⟨⟨v, rfl⟩, (⟨hi, hl, hk⟩ | ⟨pre, hp, c, hi, hl, hk⟩)⟩
      · have := run_endLoop (P := P) hl (by rw [hrec]; simp)
        rw [hrec] at this
        exact ⟨none, _, this, hdone _ _ (hI _ _ _ hi (pb _ _)) hBw ((World.putObj_heap_other (by omega)).trans hk)⟩
      · have := run_endLoop (P := P) hl (by rw [hrec]; simp)
        rw [hrec] at this
        exact ⟨some c, _, this, hstop _ c pre _ (hIx _ _ _ _ hi (pb _ _)) hp hBw ((World.putObj_heap_other (by omega)).trans hk)⟩
/-- A contract of one's own typing whose function calls printed ones. -/
theorem Fun.flatG {gl : Gl} {f : FuncId} {xs : List Va} {y : Va} {v : Value} (hc : callable P f = true) (hy : ∀ w S, RepV w S (fun _ => none) (fun _ => none) y v) (h : ∀ w (S : Nat → Prop) vs, (∀ k, S k → k < w.heap.size) → GlOk gl w S → RepA w S xs vs → Calls P f vs w fun e w1 => e = .returned v ∧ Below w.heap.size w w1) : Fun P gl f xs y := by
  refine ⟨hc, fun w S vs hS hgl hA => (h w S vs hS hgl hA).mono fun e w1 => ?_⟩
  rintro ⟨rfl, hb⟩
  exact ⟨v, S, rfl, fun _ h => h, fun k hk => ⟨.inl hk, Nat.lt_of_lt_of_le (hS k hk) hb.size⟩, hy _ _, hb⟩
theorem GlOk.later {gl : Gl} {w w1 : World} {S : Nat → Prop} (hS : ∀ k, S k → k < w.heap.size) (hG : GlOk gl w S) (hb : Below w.heap.size w w1) : GlOk gl w1 S := fun g cs hg => (hG g cs hg).mono (fun _ h => h) (fun k hk => hb.block k (hS k hk))
theorem Fun.boolAt {gl : Gl} {f : FuncId} {xs : List Va} {b : Bool} {w w1 : World} {S : Nat → Prop} {vs : Array Value} (h : Fun P gl f xs (.bo b)) (hS : ∀ k, S k → k < w.heap.size) (hG : GlOk gl w S) (hb : Below w.heap.size w w1) (hA : RepA w1 S xs vs) : Calls P f vs w1 fun e w' => e = .returned (.bool b) ∧ Below w1.heap.size w1 w' :=
  (h.2 w1 S vs (fun k hk => Nat.lt_of_lt_of_le (hS k hk) hb.size) (hG.later hS hb) hA).mono fun e w' => by
    rintro ⟨u, S1, rfl, _, _, hr, hb⟩
    refine ⟨?_, hb⟩
    cases hr with
    | d _ _ h => cases h with | bool _ => rfl
theorem repA_str {w : World} {S : Nat → Prop} (x : List UInt8) : RepA w S [.b (.s (.d (.str x)))] #[strV x] := by
  refine ⟨rfl, fun j y hj => ?_⟩
  cases j with
  | zero => simp only [List.getElem?_cons_zero, Option.some.injEq] at hj; subst hj; exact .d _ _ (.str _)
  | succ j => simp at hj
end Go.Proofs.YtdcokepmblcdmaaDoor.V
end

section
/- The iterator of strings.SplitSeq at a separator of one byte. -/
namespace Go.Proofs.YtdcokepmblcdmaaDoor
open Go.RowKit
set_option linter.unusedVariables false
set_option linter.unusedSimpArgs false
open V
attribute [local go_sem] Oper.semAt_some
theorem cell_of_block {w w1 : World} {b : Nat} (h : w1.heap[b]? = w.heap[b]?) (o : Nat) : w1.cell? ⟨b, o, none⟩ = w.cell? ⟨b, o, none⟩ := World.cell?_of_block (w := w) h
theorem frozen_of_block {w w1 : World} {b : Nat} (h : w1.heap[b]? = w.heap[b]?) (o : Nat) : w1.frozen? ⟨b, o, none⟩ = w.frozen? ⟨b, o, none⟩ := by simp [World.frozen?, h]
def strLen (w : World) (a : Addr) : Nat := match w.cell? a with
  | some (.string l) => l.size
  | _ => 0
theorem ext_drop (l : List UInt8) (k : Nat) : (⟨⟨l⟩⟩ : ByteArray).extract k l.length = ⟨⟨l.drop k⟩⟩ := by
  apply ByteArray.ext; simp [List.take_of_length_le]
set_option maxHeartbeats 4000000 in
theorem splitSeq_hands (c : UInt8) (s : List UInt8) (bp bs bz : Nat) (w : World) (hlen : s.length ≤ 140737488355328) (hp : w.cell? ⟨bp, 0, none⟩ = some (strV [c])) (hs : w.cell? ⟨bs, 0, none⟩ = some (strV s)) (hz : w.cell? ⟨bz, 0, none⟩ = some (.int .i64 0)) (hf : w.frozen? ⟨bs, 0, none⟩ = false) (n1 : bp ≠ bs) (n2 : bz ≠ bs) :
    Hands Tryd.prog 45 #[.pointer (some ⟨bp, 0, none⟩), .pointer (some ⟨bs, 0, none⟩), .pointer (some ⟨bz, 0, none⟩)] (fun b => b = bp ∨ b = bs ∨ b = bz) (splitOnB c s) (fun x => #[strV x]) w := by
  intro l J Jx W hW hJ hJx hY h0
  have hp0 := (cell_of_block (hW.block bp trivial (cell?_lt hp)) 0).trans hp
  have hs0 := (cell_of_block (hW.block bs trivial (cell?_lt hs)) 0).trans hs
  have hz0 := (cell_of_block (hW.block bz trivial (cell?_lt hz)) 0).trans hz
  have hf0 := (frozen_of_block (hW.block bs trivial (cell?_lt hs)) 0).trans hf
  refine (callsIn_wide (n := 3)).1 ?_
  refine callsIn_of_wp Tryd.func45 rfl trivial ?_ rfl
  simp only [Tryd.ntmps45, List.size_toArray, List.length_cons, List.length_nil, Nat.reduceAdd, Nat.reduceSub, Array.replicate_succ, Array.replicate_zero, List.push_toArray, List.append_toArray, List.nil_append, List.cons_append]
  have hidx : ∀ (x : List UInt8) (W : World), Calls Tryd.prog 47 #[.string ⟨⟨x⟩⟩, .string ⟨#[c]⟩] W fun e W' => e = .returned (.int .i64 (Lib.indexByte x c)) ∧ W' = W := by
    intro x W
    go_enter Tryd.func47, Tryd.ntmps47
    go_wp2_with (go_at_call 49; refine (Tryd.stringslite_Index_one ⟨⟨x⟩⟩ c W).mono ?_; rintro e W' ⟨rfl, rfl⟩)
    go_ret
    exact ⟨rfl, rfl⟩
  have hsv : ∀ x : List UInt8, strV x = .string ⟨⟨x⟩⟩ := fun _ => rfl
  have hsc : strV [c] = .string ⟨#[c]⟩ := rfl
  rw [hsc] at hp0
  rw [hsv] at hs0
  gi_wp2
  gi_loopw [7] (fun i wr => ∃ (pre : List (List UInt8)) (rest : List UInt8), splitOnB c s = pre ++ splitOnB c rest ∧ rest.length ≤ 140737488355328 ∧ wr.cell? ⟨bs, 0, none⟩ = some (.string ⟨⟨rest⟩⟩) ∧ wr.frozen? ⟨bs, 0, none⟩ = false ∧ wr.cell? ⟨bp, 0, none⟩ = some (.string ⟨#[c]⟩) ∧ wr.cell? ⟨bz, 0, none⟩ = some (.int .i64 0) ∧ J pre wr) (fun i wr => strLen wr ⟨bs, 0, none⟩)
  case atStart =>
    exact ⟨[], s, rfl, hlen, hs0, hf0, hp0, hz0, h0⟩
  case round =>
    obtain ⟨pre, rest, hx, hl, hc1, hc2, hc3, hc4, hJ1⟩ := hrel
    gi_wp2
    refine ⟨trivial, ?_⟩
    refine (callsIn_wide.2 (hidx rest wr)).mono ?_
    rintro e W2 ⟨rfl, rfl⟩
    dsimp only
    by_cases hneg : Lib.indexByte rest c < 0
    · have h1 := splitOnB_none hneg
      obtain ⟨fn, tmps, assign, body, hy, hR⟩ := yieldAt_any (n := 2) (hY pre rest W2 hJ1 (by rw [hx, h1]; exact List.prefix_refl _))
      rw [hsv] at hy
      gi_wp2
      refine hR.mono ?_
      rintro e W3 (⟨rfl, hJ3, hk3⟩ | ⟨rfl, hJx3⟩)
      · gi_wp2
        go_end0
        exact ⟨⟨_, rfl⟩, .inl (by rw [hx, h1]; exact hJ3)⟩
      · gi_wp2
        go_end0
        exact ⟨⟨_, rfl⟩, .inr ⟨_, by rw [hx, h1]; exact List.prefix_refl _, hJx3⟩⟩
    · obtain ⟨i, hi, hil, h1⟩ := splitOnB_some hneg
      have hex : (⟨⟨rest⟩⟩ : ByteArray).extract 0 i = ⟨⟨rest.take i⟩⟩ := by
        apply ByteArray.ext; simp
      obtain ⟨fn, tmps, assign, body, hy, hR⟩ := yieldAt_any (n := 2) (hY pre (rest.take i) W2 hJ1 (by rw [hx, h1]; exact ⟨splitOnB c (rest.drop (i + 1)), by simp⟩))
      rw [hsv] at hy
      rw [hi] at hneg ⊢
      gi_wp2
      refine hR.mono ?_
      rintro e W3 (⟨rfl, hJ3, hk3⟩ | ⟨rfl, hJx3⟩)
      · have q1 := (cell_of_block (hk3.block bs (.inr (.inl rfl)) (cell?_lt hc1)) 0).trans hc1
        have q2 := (frozen_of_block (hk3.block bs (.inr (.inl rfl)) (cell?_lt hc1)) 0).trans hc2
        have q3 := (cell_of_block (hk3.block bp (.inl rfl) (cell?_lt hc3)) 0).trans hc3
        have q4 := (cell_of_block (hk3.block bz (.inr (.inr rfl)) (cell?_lt hc4)) 0).trans hc4
        gi_wp2
        go_roundw
        case rel =>
          refine ⟨pre ++ [rest.take i], rest.drop (i + 1), by rw [hx, h1]; simp, by simp; omega, ?_, ?_, ?_, ?_, ?_⟩
          · rw [World.cell?_setCell_same' _ _ _ (by rw [q1]; rfl), ext_drop]
          · rw [World.frozen?_setCell]; exact q2
          · exact (World.cell?_setCell_other _ _ _ _ (by intro e; injection e with e; exact n1 e.symm)).trans q3
          · exact (World.cell?_setCell_other _ _ _ _ (by intro e; injection e with e; exact n2 e.symm)).trans q4
          · exact hJ _ _ _ hJ3 (.setCell _ _ _ _ (by simp))
        case measure =>
          have e1 : strLen (W3.setCell ⟨bs, 0, none⟩ (.string ((⟨⟨rest⟩⟩ : ByteArray).extract (i + 1) rest.length))) ⟨bs, 0, none⟩ = rest.length - (i + 1) := by
            rw [strLen, World.cell?_setCell_same' _ _ _ (by rw [q1]; rfl), ext_drop]
            show (rest.drop (i + 1)).length = _
            simp
          have e2 : strLen W2 ⟨bs, 0, none⟩ = rest.length := by rw [strLen, hc1]; rfl
          omega
      · gi_wp2
        refine bodyPost_ret (results_none rfl _ _ _) rfl ?_
        exact ⟨⟨_, rfl⟩, .inr ⟨_, by rw [hx, h1]; exact ⟨splitOnB c (rest.drop (i + 1)), by simp⟩, hJx3⟩⟩
end Go.Proofs.YtdcokepmblcdmaaDoor
end

section
/- The contract of name.Repo, over what is known of name.part. -/
namespace Go.Proofs.YtdcokepmblcdmaaDoor
open Go.RowKit
set_option linter.unusedVariables false
set_option linter.unusedSimpArgs false
open V
attribute [local go_sem] Oper.semAt_some
theorem splitSeq_new (s : List UInt8) (c : UInt8) (w : World) : Calls Tryd.prog 22 #[.string ⟨⟨s⟩⟩, .string ⟨#[c]⟩] w fun e w' => e = .returned (.func (.func 45) #[] #[.pointer (some ⟨w.heap.size + 1, 0, none⟩), .pointer (some ⟨w.heap.size, 0, none⟩), .pointer (some ⟨w.heap.size + 1 + 1, 0, none⟩)]) ∧
    Below w.heap.size w w' ∧ w'.heap.size = w.heap.size + 3 ∧ w'.cell? ⟨w.heap.size + 1, 0, none⟩ = some (strV [c]) ∧ w'.cell? ⟨w.heap.size, 0, none⟩ = some (strV s) ∧ w'.cell? ⟨w.heap.size + 1 + 1, 0, none⟩ = some (.int .i64 0) ∧ w'.frozen? ⟨w.heap.size, 0, none⟩ = false := by
  go_enter Tryd.func22, Tryd.ntmps22
  go_wp2
  go_ret
  have b1 := (((Below.refl w.heap.size w).alloc (Nat.le_refl _) (.cells #[.string ⟨⟨s⟩⟩] 9)).alloc (by simp) (.cells #[.string ⟨#[c]⟩] 9)).alloc (by simp; omega) (.cells #[.int .i64 0] 3)
  refine ⟨rfl, b1, by simp, ?_, ?_, ?_, ?_⟩
  · rw [World.cell?_alloc_past _ _ _ (by simp), World.cell?_alloc_at _ _ _ _ (by simp)]; rfl
  · rw [World.cell?_alloc_past _ _ _ (by simp; omega), World.cell?_alloc_past _ _ _ (by simp), World.cell?_alloc_at _ _ _ _ (by simp)]; rfl
  · rw [World.cell?_alloc_at _ _ _ _ (by simp)]; rfl
  · rw [World.frozen?_alloc_past _ _ _ (by simp; omega), World.frozen?_alloc_past _ _ _ (by simp), World.frozen?_alloc_at _ _ _ _ rfl]
theorem allO_pre {α : Type} {f : α → Option Bool} : ∀ {pre : List α} {l : List α} {y : Bool}, (∀ x ∈ pre, f x = some true) → allO f (pre ++ l) = some y → allO f l = some y
  | [], _, _, _, h => h
  | x :: pre, l, y, h, h1 => by
    rw [List.cons_append, allO, h x (List.mem_cons_self ..)] at h1
    exact allO_pre (fun z hz => h z (List.mem_cons_of_mem _ hz)) h1
def flatDesc : TypeDesc → Bool
  | .struct _ => false
  | .array _ _ => false
  | _ => true
theorem run_loadVar_flat {P : Program} {w : World} {ty : TypeId} {a : Addr} {v : Value} {d : TypeDesc} (hu : P.underlying ty = some d) (hd : flatDesc d = true) (hc : w.cell? a = some v) : (loadVar ty a).run P w = .ok v w := by
  cases d <;> first | (cases hd; done) | simp [loadVar, isAgg, underlying, hu, hc, Result.andThen, Sem.run_bind]
theorem results_cell1 {P : Program} {w : World} {fn : Func} {p : Tmp} {ty : TypeId} {a : Addr} {v : Value} {d : TypeDesc} (h : fn.results = #[.cell p ty]) (tmps : Array Value) (hp : tmps.getD p undef = .pointer (some a)) (hu : P.underlying ty = some d) (hd : flatDesc d = true) (hc : w.cell? a = some v) : (results fn tmps).run P w = .ok v w := by
  have hp' : tmps[p]?.getD undef = .pointer (some a) := by simpa using hp
  simp [results, h, hp', asAddr, run_loadVar_flat hu hd hc]
set_option maxHeartbeats 2000000 in
theorem name_Repo_spec (f : List UInt8 → Option Bool) (s : List UInt8) (y : Bool) (h : repoOf f s = some y) (w : World) (hf : ∀ x b, f x = some b → ∀ W : World, Below w.heap.size w W → Calls Tryd.prog 23 #[.string ⟨⟨x⟩⟩] W fun e w' => e = .returned (.bool b) ∧ Below W.heap.size W w') : Calls Tryd.prog 11 #[.string ⟨⟨s⟩⟩] w fun e w' => e = .returned (.bool y) ∧ Below w.heap.size w w' := by
  refine (callsIn_wide (n := 3)).1 ?_
  refine callsIn_of_wp_marks Tryd.func11 rfl trivial ?_ rfl
  simp only [Tryd.ntmps11, List.size_toArray, List.length_cons, List.length_nil, Nat.reduceAdd, Nat.reduceSub, Array.replicate_succ, Array.replicate_zero, List.push_toArray, List.append_toArray, List.nil_append, List.cons_append]
  unfold repoOf at h
  by_cases hl : 128 < s.length
  · rw [if_pos hl] at h
    obtain rfl := Option.some.inj h
    have bw := (Below.refl w.heap.size w).alloc (Nat.le_refl _) (.cells #[.bool false] 4)
    gi_wp2
    exact ⟨_, results_cell1 rfl _ rfl Tryd.underlying4 rfl (by rw [World.cell?_alloc_at _ _ _ _ rfl]; rfl), rfl, bw⟩
  · rw [if_neg hl] at h
    have bw := (Below.refl w.heap.size w).alloc (Nat.le_refl _) (.cells #[.bool false] 4)
    gi_wp2
    refine ⟨trivial, ?_⟩
    refine (callsIn_wide.2 (splitSeq_new s 47 _)).mono ?_
    rintro e W1 ⟨rfl, b1, z1, c1, c2, c3, f1⟩
    dsimp only
    simp only [World.size_alloc] at z1 c1 c2 c3 f1 b1 ⊢
    have r1 : W1.cell? ⟨w.heap.size, 0, none⟩ = some (.bool false) := by
      rw [b1.cell (p := ⟨w.heap.size, 0, none⟩) (by simp), World.cell?_alloc_at _ _ _ _ (by simp)]; rfl
    have r2 : W1.frozen? ⟨w.heap.size, 0, none⟩ = false := by
      rw [b1.frozen (p := ⟨w.heap.size, 0, none⟩) (by simp), World.frozen?_alloc_at _ _ _ _ (by simp)]
    have r3 : Below w.heap.size w W1 := bw.trans (b1.mono (by omega))
    gi_wp2
    refine wp_range (B := w.heap.size + 1) rfl (enters_of Tryd.func45 (by kernel_rfl) rfl) (splitSeq_hands 47 s _ _ _ W1 (by omega) c1 c2 c3 f1 (by omega) (by omega)) (by rintro b (rfl | rfl | rfl) <;> omega) (fun _ => rfl)
      (fun pre W => (∀ x ∈ pre, f x = some true) ∧ W.cell? ⟨w.heap.size, 0, none⟩ = some (.bool false) ∧ W.frozen? ⟨w.heap.size, 0, none⟩ = false ∧ Below w.heap.size w W)
      (fun c pre W => c = .ret ∧ (∃ p x, pre = p ++ [x] ∧ (∀ x ∈ p, f x = some true) ∧ f x = some false) ∧ W.cell? ⟨w.heap.size, 0, none⟩ = some (.bool false) ∧ Below w.heap.size w W)
      ?_ ?_ (by omega) ⟨(fun x hx => by cases hx), r1, r2, r3⟩ (fun x => { tmps := #[.string ⟨⟨s⟩⟩, undef, .pointer (some ⟨w.heap.size, 0, none⟩), .string ⟨⟨x⟩⟩, .string ⟨⟨s⟩⟩, .int .i64 s.length, .bool (decide (128 < (s.length : Int))), .string ⟨⟨s⟩⟩, .func (.func 45) #[] #[.pointer (some ⟨w.heap.size + 1 + 1, 0, none⟩), .pointer (some ⟨w.heap.size + 1, 0, none⟩), .pointer (some ⟨w.heap.size + 1 + 1 + 1, 0, none⟩)], .string ⟨⟨x⟩⟩, undef, undef, undef], defers := [] }) ?assign ?body ?done ?stop
    · rintro pre W W' ⟨h1, h2, h3, h4⟩ hk
      have q := hk.block w.heap.size (by simp) (cell?_lt h2)
      exact ⟨h1, (cell_of_block q 0).trans h2, (frozen_of_block q 0).trans h3, h4.trans (hk.below (fun b hb => Nat.lt_succ_of_lt hb) h4.size)⟩
    · rintro c pre W W' ⟨h0, h1, h2, h4⟩ hk
      have q := hk.block w.heap.size (by simp) (cell?_lt h2)
      exact ⟨h0, h1, (cell_of_block q 0).trans h2, h4.trans (hk.below (fun b hb => Nat.lt_succ_of_lt hb) h4.size)⟩
    case assign =>
      intro l x W K hK
      gi_wp2
      exact hK
    case body =>
      rintro l pre x W ⟨h1, h2, h3, h4⟩ hB ⟨t, ht⟩
      rw [← ht, List.append_assoc] at h
      have h5 := allO_pre h1 h
      rw [List.singleton_append, allO] at h5
      obtain ⟨b, hb, h6⟩ := Option.bind_eq_some_iff.1 h5
      gi_wp2
      refine ⟨trivial, ?_⟩
      refine (CallsIn.inRound l (callsIn_wide.2 (hf x b hb W h4))).mono ?_
      rintro e W2 ⟨rfl, k2⟩
      have g2 := (k2.cell (p := ⟨w.heap.size, 0, none⟩) (by simp; omega)).trans h2
      have g3 := (k2.frozen (p := ⟨w.heap.size, 0, none⟩) (by simp; omega)).trans h3
      have g4 := h4.trans (k2.mono (by omega))
      cases b with
      | true =>
        gi_wp2
        exact ⟨.of_below k2, fun z hz => by
          rcases List.mem_append.1 hz with hz | hz
          · exact h1 z hz
          · rw [List.mem_singleton.1 hz]; exact hb, g2, g3, g4⟩
      | false =>
        gi_wp2
        exact ⟨(Kp.of_below k2).trans (.setCell _ _ _ _ (by simp)), rfl, ⟨pre, x, rfl, h1, hb⟩, World.cell?_setCell_same' _ _ _ (by rw [g2]; rfl), g4.setCell (p := ⟨w.heap.size, 0, none⟩) (Nat.le_refl _) _⟩
    case done =>
      rintro D W ⟨h1, h2, h3, h4⟩ hD hK
      obtain rfl : y = true := by
        have := allO_pre (pre := splitOnB 47 s) (l := []) h1 (by rw [List.append_nil]; exact h)
        exact (Option.some.inj this).symm
      gi_wp2
      have hK' : (W.setCell ⟨w.heap.size, 0, none⟩ (.bool true)).heap[D]? = some (.deferred (some [])) := (Below.heap_setCell W ⟨w.heap.size, 0, none⟩ _ D (by simp; omega)).trans hK
      refine ⟨by simp, .inl ⟨_, _, rfl, run_takeDeferred hK', ?_⟩⟩
      refine ⟨_, results_cell1 rfl _ rfl Tryd.underlying4 rfl ((cell_of_block (World.putObj_heap_other (by omega)) 0).trans (World.cell?_setCell_same' _ _ _ (by rw [h2]; rfl))), rfl, ?_⟩
      exact (h4.setCell (p := ⟨w.heap.size, 0, none⟩) (Nat.le_refl _) _).trans ((Kp.putObj (S := fun b => b < w.heap.size) _ _ _ (by omega)).below (fun _ h => h) (by have := h4.size; simp; omega))
    case stop =>
      rintro D c pre W ⟨rfl, ⟨p, x, rfl, h1, hx⟩, h2, h4⟩ ⟨t, ht⟩ hD hK
      obtain rfl : y = false := by
        rw [← ht, List.append_assoc] at h
        have h5 := allO_pre h1 h
        rw [List.singleton_append, allO, hx] at h5
        exact (Option.some.inj h5).symm
      gi_wp2
      refine ⟨by simp, .inl ⟨_, _, rfl, run_takeDeferred hK, ?_⟩⟩
      refine ⟨_, results_cell1 rfl _ rfl Tryd.underlying4 rfl ((cell_of_block (World.putObj_heap_other (by omega)) 0).trans h2), rfl, ?_⟩
      exact h4.trans ((Kp.putObj (S := fun b => b < w.heap.size) _ _ _ (by omega)).below (fun _ h => h) h4.size)
end Go.Proofs.YtdcokepmblcdmaaDoor
end

section
/- Go functions compute what Lean functions do. -/
namespace Go.Proofs.YtdcokepmblcdmaaDoor.V
open Go Go.RowKit
set_option linter.unusedVariables false
set_option linter.unusedSimpArgs false
set_option maxHeartbeats 1000000
theorem f_octet_Hex_ok (s : Str) (y_ : Str) (h : f_octet_Hex s = some y_) : Fun Tryd.prog glP 30 [.b (.s (.d (.str s)))] (.b (.s (.d (.str y_)))) := by
  obtain ⟨hN, h⟩ := gd_iff.1 h
  obtain rfl := Option.some.inj h
  refine Fun.flat (by kernel_rfl) (of_str _) fun w S vs hA => ?_
  obtain ⟨v, rfl, h1⟩ := args1 hA
  obtain rfl := repv_str (l := s) h1
  exact octet_Hex.spec ⟨⟨s⟩⟩ w hN
theorem f_internal_stringslite_Index_ok (s sub : Str) (y_ : Int) (h : f_internal_stringslite_Index s sub = some y_) : Fun Tryd.prog glP 49 [.b (.s (.d (.str s))), .b (.s (.d (.str sub)))] (.b (.s (.d (.int .i64 y_)))) := by
  unfold f_internal_stringslite_Index at h
  split at h
  · rename_i c
    obtain rfl := Option.some.inj h
    refine Fun.flat (by kernel_rfl) (of_int _ _) fun w S vs hA => ?_
    obtain ⟨v, u, rfl, h1, h2⟩ := args2 hA
    obtain rfl := repv_str (l := s) h1
    obtain rfl := repv_str (l := [c]) h2
    refine (Tryd.stringslite_Index_one ⟨⟨s⟩⟩ c w).mono fun e w' => ?_
    rintro ⟨rfl, rfl⟩
    exact ⟨rfl, Below.refl _ _⟩
  · cases h
theorem f_internal_stringslite_IndexByte_ok (s : Str) (c : Int) (y_ : Int) (h : f_internal_stringslite_IndexByte s c = some y_) : Fun Tryd.prog glP 56 [.b (.s (.d (.str s))), .b (.s (.d (.int .u8 c)))] (.b (.s (.d (.int .i64 y_)))) := by
  obtain rfl := Option.some.inj h
  refine Fun.flat (by kernel_rfl) (of_int _ _) fun w S vs hA => ?_
  obtain ⟨v, u, rfl, h1, h2⟩ := args2 hA
  obtain rfl := repv_str (l := s) h1
  obtain rfl := repv_int (n := c) h2
  refine (Tryd.stringslite_IndexByte ⟨⟨s⟩⟩ c w).mono fun e w' => ?_
  rintro ⟨rfl, rfl⟩
  exact ⟨rfl, Below.refl _ _⟩
theorem f_strings_Join_ok (l : List Str) (sep : Str) (y_ : Str) (h : f_strings_Join l sep = some y_) : Fun Tryd.prog glP 40 [.b (.s (.d (.sl (l.map eS)))), .b (.s (.d (.str sep)))] (.b (.s (.d (.str y_)))) := by
  obtain ⟨⟨hN, hlen⟩, h⟩ := gd_iff.1 h
  obtain rfl := Option.some.inj h
  refine Fun.flat (by kernel_rfl) (of_str _) fun w S vs hA => ?_
  obtain ⟨v, u, rfl, h1, h2⟩ := args2 hA
  obtain rfl := repv_str (l := sep) h2
  cases h1 with
  | d _ _ h1 =>
    cases h1 with
    | sl _ a c st b o us hc h0 hst ha hcell hu =>
      by_cases hne : l = []
      · subst hne
        refine (Tryd.strings_Join_none a c ⟨⟨sep⟩⟩ w).mono fun e w' => ?_
        rintro ⟨rfl, rfl⟩
        exact ⟨by simp [Lib.join, strV], Below.refl _ _⟩
      · obtain ⟨rfl, hS⟩ := ha (by simpa using hne)
        have hfl := flat_eS l
        have key : ∀ (j : Nat) x, l[j]? = some x → w.cell? ⟨b, o + j, none⟩ = some (strV x) := by
          intro j x hj
          have hj2 : (l.map eS).flatten[j]? = some (.str x) := by rw [hfl, List.getElem?_map, hj]; rfl
          rw [hcell j _ hj2]
          have := hu j _ hj2
          generalize us j = q at this
          cases this; rfl
        have hb : b < w.heap.size := by
          cases l with
          | nil => exact absurd rfl hne
          | cons x l => exact cell?_lt (key 0 x rfl)
        have e1 : (l.map fun x => (⟨⟨x⟩⟩ : ByteArray)).map (·.data.toList) = l := by rw [List.map_map]; simp [Function.comp_def]
        have := Tryd.strings_Join b o c (l.map fun x => ⟨⟨x⟩⟩) ⟨⟨sep⟩⟩ w (fun j x hj => by
          rw [List.getElem?_map, Option.map_eq_some_iff] at hj
          obtain ⟨q, hq, rfl⟩ := hj
          exact key j q hq) hb (by simpa using hN) (by simpa using hc) (by rw [e1]; exact hlen)
        rw [e1] at this
        simp only [List.length_map] at this ⊢
        exact this
-- 9 consignor/consignorlaw03.short
def c9r0 : List Opn := [
  ⟨(some 2), none, .mv (.c (.s (.d (.str []))))⟩]
def c9r1 : List Opn := [
  ⟨(some 3), none, .mv (.t 0)⟩, 
  ⟨(some 4), none, .mv (.t 0)⟩, 
  ⟨(some 5), none, .len .str (.t 4)⟩, 
  ⟨(some 6), none, .mm false (.t 5) (.c (.s (.d (.int .i64 220))))⟩, 
  ⟨(some 7), none, .slc .str (.t 3) none (some (.t 6)) none⟩, 
  ⟨(some 2), none, .mv (.t 7)⟩]
def c9 : C := .seq (.reg c9r0 none [0]) (.seq (.reg c9r1 none [2]) (.ret))
def k9 : List (Nat × List Nat) := [(1, [2]), (0, [0])]
theorem cc9 : (Tryd.f9.body).bind (cC Tryd.prog 8 k9) = some c9 := by kernel_rfl
def rv9 : List RV := [.t 2]
theorem cr9 : cRVs Tryd.prog Tryd.f9.results.toList = some rv9 := by kernel_rfl
theorem f_law03_short_ok (s : Str) (y_ : Str) (h : f_law03_short s = some y_) : Fun Tryd.prog glP 9 [.b (.s (.d (.str s)))] (.b (.s (.d (.str y_)))) := by
  refine fun_walk [] Tryd.func9 Tryd.ntmps9 cc9 cr9 (by kernel_rfl) (by simp only [List.length_cons, List.length_nil]; decide) ?_
  generalize hR : Ret _ _ _ _ _ = R_
  simp only [wz, wd, ws, Nat.reduceAdd, Nat.reduceSub, Nat.reduceMul, Nat.reduceLeDiff, Nat.reduceEqDiff, Nat.reduceLT, Nat.reduceBEq, reduceIte, reduceCtorEq, Int.reduceToNat, Nat.reduceShiftRight, Nat.reduceAnd, Nat.reduceBneDiff, Nat.reduceBNe]
  unfold f_law03_short at h; unfold c9
  refine .seq ?_
  refine Rw.walk ?_
  simp only [wz, wd, ws, Nat.reduceAdd, Nat.reduceSub, Nat.reduceMul, Nat.reduceLeDiff, Nat.reduceEqDiff, Nat.reduceLT, Nat.reduceBEq, reduceIte, reduceCtorEq, Int.reduceToNat, Nat.reduceShiftRight, Nat.reduceAnd, Nat.reduceBneDiff, Nat.reduceBNe, c9r0, semI.eq_10, semI.eq_11, semI.eq_3, semI.eq_5, semI.eq_7]
  refine .seq ?_
  refine Rw.walk ?_
  obtain ⟨g1, h⟩ := gd_iff.1 h
  simp only [wz, wd, ws, Nat.reduceAdd, Nat.reduceSub, Nat.reduceMul, Nat.reduceLeDiff, Nat.reduceEqDiff, Nat.reduceLT, Nat.reduceBEq, reduceIte, reduceCtorEq, Int.reduceToNat, Nat.reduceShiftRight, Nat.reduceAnd, Nat.reduceBneDiff, Nat.reduceBNe, c9r1, semI.eq_10, semI.eq_11, semI.eq_3, semI.eq_5, semI.eq_7]
  repeat (refine And.intro ?_ ?_; · first | omega | (intro q; simp only [wz, wd, ws, Nat.reduceAdd, Nat.reduceSub, Nat.reduceMul, Nat.reduceLeDiff, Nat.reduceEqDiff, Nat.reduceLT, Nat.reduceBEq, reduceIte, reduceCtorEq, Int.reduceToNat, Nat.reduceShiftRight, Nat.reduceAnd, Nat.reduceBneDiff, Nat.reduceBNe, q]; done))
  obtain rfl := Option.some.inj h
  refine .ret ?_
  rw [← hR]
  simp only [wz, wd, ws, Nat.reduceAdd, Nat.reduceSub, Nat.reduceMul, Nat.reduceLeDiff, Nat.reduceEqDiff, Nat.reduceLT, Nat.reduceBEq, reduceIte, reduceCtorEq, Int.reduceToNat, Nat.reduceShiftRight, Nat.reduceAnd, Nat.reduceBneDiff, Nat.reduceBNe, rv9]
-- 41 consignor/digest.begins
def c41r0 : List Opn := [
  ⟨(some 0), none, .new [(.d (.int .u32 0)), (.d (.int .u32 0)), (.d (.int .u32 0)), (.d (.int .u32 0)), (.d (.int .u32 0)), (.d (.int .u32 0)), (.d (.int .u32 0)), (.d (.int .u32 0))]⟩]
def c41r1 : List Opn := [
  ⟨(some 1), none, .build [(.d (.int .u32 0)), (.d (.int .u32 0)), (.d (.int .u32 0)), (.d (.int .u32 0)), (.d (.int .u32 0)), (.d (.int .u32 0)), (.d (.int .u32 0)), (.d (.int .u32 0))] [(0, 1, (.c (.s (.d (.int .u32 1779033703))))), (1, 1, (.c (.s (.d (.int .u32 3144134277))))), (2, 1, (.c (.s (.d (.int .u32 1013904242))))), (3, 1, (.c (.s (.d (.int .u32 2773480762))))), (4, 1, (.c (.s (.d (.int .u32 1359893119))))), (5, 1, (.c (.s (.d (.int .u32 2600822924))))), (6, 1, (.c (.s (.d (.int .u32 528734635))))), (7, 1, (.c (.s (.d (.int .u32 1541459225)))))]⟩, 
  ⟨none, none, .store 8 (.t 0) (.t 1)⟩]
def c41 : C := .seq (.reg c41r0 none [0]) (.seq (.reg c41r1 none [0]) (.ret))
def k41 : List (Nat × List Nat) := [(1, [0]), (0, [0])]
theorem cc41 : (Tryd.f41.body).bind (cC Tryd.prog 2 k41) = some c41 := by kernel_rfl
def rv41 : List RV := [.c 0 true 8]
theorem cr41 : cRVs Tryd.prog Tryd.f41.results.toList = some rv41 := by kernel_rfl
theorem f_digest_begins_ok (y_ : (List Int)) (h : f_digest_begins = some y_) : Fun Tryd.prog glP 41 [] (.b (.agg (ea (eI .u32) y_))) := by
  refine fun_walk [] Tryd.func41 Tryd.ntmps41 cc41 cr41 (by kernel_rfl) (by simp only [List.length_cons, List.length_nil]; decide) ?_
  generalize hR : Ret _ _ _ _ _ = R_
  simp only [wz, wd, ws, Nat.reduceAdd, Nat.reduceSub, Nat.reduceMul, Nat.reduceLeDiff, Nat.reduceEqDiff, Nat.reduceLT, Nat.reduceBEq, reduceIte, reduceCtorEq, Int.reduceToNat, Nat.reduceShiftRight, Nat.reduceAnd, Nat.reduceBneDiff, Nat.reduceBNe]
  unfold f_digest_begins at h; unfold c41
  refine .seq ?_
  refine Rw.walk ?_
  simp only [wz, wd, ws, Nat.reduceAdd, Nat.reduceSub, Nat.reduceMul, Nat.reduceLeDiff, Nat.reduceEqDiff, Nat.reduceLT, Nat.reduceBEq, reduceIte, reduceCtorEq, Int.reduceToNat, Nat.reduceShiftRight, Nat.reduceAnd, Nat.reduceBneDiff, Nat.reduceBNe, c41r0, semI.eq_10, semI.eq_11]
  refine Go1.of (sem_newA (enc := (eI .u32)) (l := (List.replicate 8 0)) (by first | rfl | (simp only [List.length_map, List.length_replicate, List.length_set]; rfl)) (by first | rfl | (simp only [List.length_map, List.length_replicate, List.length_set]; rfl)) (by first | rfl | (simp only [List.length_map, List.length_replicate, List.length_set]; rfl))) ?_
  simp only [wz, wd, ws, Nat.reduceAdd, Nat.reduceSub, Nat.reduceMul, Nat.reduceLeDiff, Nat.reduceEqDiff, Nat.reduceLT, Nat.reduceBEq, reduceIte, reduceCtorEq, Int.reduceToNat, Nat.reduceShiftRight, Nat.reduceAnd, Nat.reduceBneDiff, Nat.reduceBNe, c41r0, semI.eq_10, semI.eq_11]
  refine .seq ?_
  refine Rw.walk ?_
  simp only [wz, wd, ws, Nat.reduceAdd, Nat.reduceSub, Nat.reduceMul, Nat.reduceLeDiff, Nat.reduceEqDiff, Nat.reduceLT, Nat.reduceBEq, reduceIte, reduceCtorEq, Int.reduceToNat, Nat.reduceShiftRight, Nat.reduceAnd, Nat.reduceBneDiff, Nat.reduceBNe, c41r1]
  refine Go1.of (sem_buildA (enc := (eI .u32)) (l := ([1779033703, 3144134277, 1013904242, 2773480762, 1359893119, 2600822924, 528734635, 1541459225] : (List Int))) (by simp only [wz, wd, ws, Nat.reduceAdd, Nat.reduceSub, Nat.reduceMul, Nat.reduceLeDiff, Nat.reduceEqDiff, Nat.reduceLT, Nat.reduceBEq, reduceIte, reduceCtorEq, Int.reduceToNat, Nat.reduceShiftRight, Nat.reduceAnd, Nat.reduceBneDiff, Nat.reduceBNe]) (by simp only [wz, wd, ws, Nat.reduceAdd, Nat.reduceSub, Nat.reduceMul, Nat.reduceLeDiff, Nat.reduceEqDiff, Nat.reduceLT, Nat.reduceBEq, reduceIte, reduceCtorEq, Int.reduceToNat, Nat.reduceShiftRight, Nat.reduceAnd, Nat.reduceBneDiff, Nat.reduceBNe]) (by simp only [wz, wd, ws, Nat.reduceAdd, Nat.reduceSub, Nat.reduceMul, Nat.reduceLeDiff, Nat.reduceEqDiff, Nat.reduceLT, Nat.reduceBEq, reduceIte, reduceCtorEq, Int.reduceToNat, Nat.reduceShiftRight, Nat.reduceAnd, Nat.reduceBneDiff, Nat.reduceBNe, ea_nil, ea_cons])) ?_
  simp only [wz, wd, ws, Nat.reduceAdd, Nat.reduceSub, Nat.reduceMul, Nat.reduceLeDiff, Nat.reduceEqDiff, Nat.reduceLT, Nat.reduceBEq, reduceIte, reduceCtorEq, Int.reduceToNat, Nat.reduceShiftRight, Nat.reduceAnd, Nat.reduceBneDiff, Nat.reduceBNe, c41r1]
  refine Go1.of (sem_storeW (l := (List.replicate 8 0)) (m := ([1779033703, 3144134277, 1013904242, 2773480762, 1359893119, 2600822924, 528734635, 1541459225] : (List Int))) (n0 := 8) (eI_len _) (by first | rfl | (simp only [List.length_map, List.length_replicate, List.length_set]; rfl)) (by first | rfl | (simp only [List.length_map, List.length_replicate, List.length_set]; rfl)) (by first | rfl | (simp only [List.length_map, List.length_replicate, List.length_set]; rfl)) (by first | exact trivial | exact Eq.refl _) (by first | rfl | (simp only [List.length_map, List.length_replicate, List.length_set]; rfl)) (by first | exact trivial | exact Eq.refl _)) ?_
  simp only [wz, wd, ws, Nat.reduceAdd, Nat.reduceSub, Nat.reduceMul, Nat.reduceLeDiff, Nat.reduceEqDiff, Nat.reduceLT, Nat.reduceBEq, reduceIte, reduceCtorEq, Int.reduceToNat, Nat.reduceShiftRight, Nat.reduceAnd, Nat.reduceBneDiff, Nat.reduceBNe, c41r1]
  obtain ⟨gr, h⟩ := gd_iff.1 h
  obtain rfl := Option.some.inj h
  refine .ret ?_
  rw [← hR]
  exact ret_cellA (n0 := 8) (eI_len _) (by rfl) (by rfl) (by rfl) (by first | exact gr | exact Eq.refl _)
-- 53 consignor/digest.big
def c53r0 : List Opn := [
  ⟨(some 2), none, .mv (.c (.s (.d (.int .u32 0))))⟩]
def c53r1 : List Opn := [
  ⟨(some 3), none, .mv (.t 0)⟩, 
  ⟨(some 4), none, .idx .str (.t 3) (.c (.s (.d (.int .i64 0))))⟩, 
  ⟨(some 5), none, .cv (.toInt .u32) (.t 4)⟩, 
  ⟨(some 6), none, .bin .shl (.t 5) (.c (.s (.d (.int .u64 24))))⟩, 
  ⟨(some 7), none, .mv (.t 0)⟩, 
  ⟨(some 8), none, .idx .str (.t 7) (.c (.s (.d (.int .i64 1))))⟩, 
  ⟨(some 9), none, .cv (.toInt .u32) (.t 8)⟩, 
  ⟨(some 10), none, .bin .shl (.t 9) (.c (.s (.d (.int .u64 16))))⟩, 
  ⟨(some 11), none, .bin .or (.t 6) (.t 10)⟩, 
  ⟨(some 12), none, .mv (.t 0)⟩, 
  ⟨(some 13), none, .idx .str (.t 12) (.c (.s (.d (.int .i64 2))))⟩, 
  ⟨(some 14), none, .cv (.toInt .u32) (.t 13)⟩, 
  ⟨(some 15), none, .bin .shl (.t 14) (.c (.s (.d (.int .u64 8))))⟩, 
  ⟨(some 16), none, .bin .or (.t 11) (.t 15)⟩, 
  ⟨(some 17), none, .mv (.t 0)⟩, 
  ⟨(some 18), none, .idx .str (.t 17) (.c (.s (.d (.int .i64 3))))⟩, 
  ⟨(some 19), none, .cv (.toInt .u32) (.t 18)⟩, 
  ⟨(some 20), none, .bin .or (.t 16) (.t 19)⟩, 
  ⟨(some 2), none, .mv (.t 20)⟩]
def c53 : C := .seq (.reg c53r0 none [0]) (.seq (.reg c53r1 (some [0, 1, 3, 7, 0, 16, 48, 112, 255, 0, 512, 1536, 3584, 8191, 0, 16384, 49152, 131071, 262143]) [2]) (.ret))
def k53 : List (Nat × List Nat) := [(1, [2]), (0, [0])]
theorem cc53 : (Tryd.f53.body).bind (cC Tryd.prog 21 k53) = some c53 := by kernel_rfl
def rv53 : List RV := [.t 2]
theorem cr53 : cRVs Tryd.prog Tryd.f53.results.toList = some rv53 := by kernel_rfl
theorem f_digest_big_ok (s : Str) (y_ : Int) (h : f_digest_big s = some y_) : Fun Tryd.prog glP 53 [.b (.s (.d (.str s)))] (.b (.s (.d (.int .u32 y_)))) := by
  refine fun_walk [] Tryd.func53 Tryd.ntmps53 cc53 cr53 (by kernel_rfl) (by simp only [List.length_cons, List.length_nil]; decide) ?_
  generalize hR : Ret _ _ _ _ _ = R_
  simp only [wz, wd, ws, Nat.reduceAdd, Nat.reduceSub, Nat.reduceMul, Nat.reduceLeDiff, Nat.reduceEqDiff, Nat.reduceLT, Nat.reduceBEq, reduceIte, reduceCtorEq, Int.reduceToNat, Nat.reduceShiftRight, Nat.reduceAnd, Nat.reduceBneDiff, Nat.reduceBNe]
  unfold f_digest_big at h; unfold c53
  refine .seq ?_
  refine Rw.walk ?_
  simp only [wz, wd, ws, Nat.reduceAdd, Nat.reduceSub, Nat.reduceMul, Nat.reduceLeDiff, Nat.reduceEqDiff, Nat.reduceLT, Nat.reduceBEq, reduceIte, reduceCtorEq, Int.reduceToNat, Nat.reduceShiftRight, Nat.reduceAnd, Nat.reduceBneDiff, Nat.reduceBNe, c53r0, semI.eq_10, semI.eq_11, semI.eq_3, semI.eq_5, semI.eq_7]
  refine .seq ?_
  refine RwD.walk ?_
  simp only [wz, wd, ws, Nat.reduceAdd, Nat.reduceSub, Nat.reduceMul, Nat.reduceLeDiff, Nat.reduceEqDiff, Nat.reduceLT, Nat.reduceBEq, reduceIte, reduceCtorEq, Int.reduceToNat, Nat.reduceShiftRight, Nat.reduceAnd, Nat.reduceBneDiff, Nat.reduceBNe, c53r1, semI.eq_10, semI.eq_11, semI.eq_3, semI.eq_5, semI.eq_7]
  obtain ⟨c, e1, h⟩ := Option.bind_eq_some_iff.1 h
  refine GoD1.of (sem_idx e1 (by rfl) (by rfl)) ?_
  simp only [wz, wd, ws, Nat.reduceAdd, Nat.reduceSub, Nat.reduceMul, Nat.reduceLeDiff, Nat.reduceEqDiff, Nat.reduceLT, Nat.reduceBEq, reduceIte, reduceCtorEq, Int.reduceToNat, Nat.reduceShiftRight, Nat.reduceAnd, Nat.reduceBneDiff, Nat.reduceBNe, c53r1, semI.eq_10, semI.eq_11, semI.eq_3, semI.eq_5, semI.eq_7]
  repeat (refine And.intro ?_ ?_; · first | omega | (intro q; simp only [wz, wd, ws, Nat.reduceAdd, Nat.reduceSub, Nat.reduceMul, Nat.reduceLeDiff, Nat.reduceEqDiff, Nat.reduceLT, Nat.reduceBEq, reduceIte, reduceCtorEq, Int.reduceToNat, Nat.reduceShiftRight, Nat.reduceAnd, Nat.reduceBneDiff, Nat.reduceBNe, q]; done))
  obtain ⟨c2, e2, h⟩ := Option.bind_eq_some_iff.1 h
  refine GoD1.of (sem_idx e2 (by rfl) (by rfl)) ?_
  simp only [wz, wd, ws, Nat.reduceAdd, Nat.reduceSub, Nat.reduceMul, Nat.reduceLeDiff, Nat.reduceEqDiff, Nat.reduceLT, Nat.reduceBEq, reduceIte, reduceCtorEq, Int.reduceToNat, Nat.reduceShiftRight, Nat.reduceAnd, Nat.reduceBneDiff, Nat.reduceBNe, c53r1, semI.eq_10, semI.eq_11, semI.eq_3, semI.eq_5, semI.eq_7]
  repeat (refine And.intro ?_ ?_; · first | omega | (intro q; simp only [wz, wd, ws, Nat.reduceAdd, Nat.reduceSub, Nat.reduceMul, Nat.reduceLeDiff, Nat.reduceEqDiff, Nat.reduceLT, Nat.reduceBEq, reduceIte, reduceCtorEq, Int.reduceToNat, Nat.reduceShiftRight, Nat.reduceAnd, Nat.reduceBneDiff, Nat.reduceBNe, q]; done))
  obtain ⟨c3, e3, h⟩ := Option.bind_eq_some_iff.1 h
  refine GoD1.of (sem_idx e3 (by rfl) (by rfl)) ?_
  simp only [wz, wd, ws, Nat.reduceAdd, Nat.reduceSub, Nat.reduceMul, Nat.reduceLeDiff, Nat.reduceEqDiff, Nat.reduceLT, Nat.reduceBEq, reduceIte, reduceCtorEq, Int.reduceToNat, Nat.reduceShiftRight, Nat.reduceAnd, Nat.reduceBneDiff, Nat.reduceBNe, c53r1, semI.eq_10, semI.eq_11, semI.eq_3, semI.eq_5, semI.eq_7]
  repeat (refine And.intro ?_ ?_; · first | omega | (intro q; simp only [wz, wd, ws, Nat.reduceAdd, Nat.reduceSub, Nat.reduceMul, Nat.reduceLeDiff, Nat.reduceEqDiff, Nat.reduceLT, Nat.reduceBEq, reduceIte, reduceCtorEq, Int.reduceToNat, Nat.reduceShiftRight, Nat.reduceAnd, Nat.reduceBneDiff, Nat.reduceBNe, q]; done))
  obtain ⟨c4, e4, h⟩ := Option.bind_eq_some_iff.1 h
  refine GoD1.of (sem_idx e4 (by rfl) (by rfl)) ?_
  simp only [wz, wd, ws, Nat.reduceAdd, Nat.reduceSub, Nat.reduceMul, Nat.reduceLeDiff, Nat.reduceEqDiff, Nat.reduceLT, Nat.reduceBEq, reduceIte, reduceCtorEq, Int.reduceToNat, Nat.reduceShiftRight, Nat.reduceAnd, Nat.reduceBneDiff, Nat.reduceBNe, c53r1, semI.eq_10, semI.eq_11, semI.eq_3, semI.eq_5, semI.eq_7]
  obtain rfl := Option.some.inj h
  refine .ret ?_
  rw [← hR]
  simp only [wz, wd, ws, Nat.reduceAdd, Nat.reduceSub, Nat.reduceMul, Nat.reduceLeDiff, Nat.reduceEqDiff, Nat.reduceLT, Nat.reduceBEq, reduceIte, reduceCtorEq, Int.reduceToNat, Nat.reduceShiftRight, Nat.reduceAnd, Nat.reduceBneDiff, Nat.reduceBNe, rv53]
-- 63 math/bits.RotateLeft32
def c63r0 : List Opn := [
  ⟨(some 4), none, .mv (.c (.s (.d (.int .u32 0))))⟩]
def c63r1 : List Opn := [
  ⟨(some 6), none, .mv (.t 1)⟩, 
  ⟨(some 7), none, .cv (.toInt .u64) (.t 6)⟩, 
  ⟨(some 8), none, .bin .and (.t 7) (.c (.s (.d (.int .u64 31))))⟩, 
  ⟨(some 5), none, .mv (.t 8)⟩]
def c63r2 : List Opn := [
  ⟨(some 9), none, .mv (.t 0)⟩, 
  ⟨(some 10), none, .mv (.t 5)⟩, 
  ⟨(some 11), none, .bin .shl (.t 9) (.t 10)⟩, 
  ⟨(some 12), none, .mv (.t 0)⟩, 
  ⟨(some 13), none, .mv (.t 5)⟩, 
  ⟨(some 14), none, .bin .sub (.c (.s (.d (.int .u64 32)))) (.t 13)⟩, 
  ⟨(some 15), none, .bin .shr (.t 12) (.t 14)⟩, 
  ⟨(some 16), none, .bin .or (.t 11) (.t 15)⟩, 
  ⟨(some 4), none, .mv (.t 16)⟩]
def c63 : C := .seq (.reg c63r0 none [0, 1]) (.seq (.reg c63r1 none [0, 5]) (.seq (.reg c63r2 none [4]) (.ret)))
def k63 : List (Nat × List Nat) := [(2, [4]), (1, [0, 5]), (0, [0, 1])]
theorem cc63 : (Tryd.f63.body).bind (cC Tryd.prog 17 k63) = some c63 := by kernel_rfl
def rv63 : List RV := [.t 4]
theorem cr63 : cRVs Tryd.prog Tryd.f63.results.toList = some rv63 := by kernel_rfl
theorem f_math_bits_RotateLeft32_ok (x : Int) (kv : Int) (y_ : Int) (h : f_math_bits_RotateLeft32 x kv = some y_) : Fun Tryd.prog glP 63 [.b (.s (.d (.int .u32 x))), .b (.s (.d (.int .i64 kv)))] (.b (.s (.d (.int .u32 y_)))) := by
  refine fun_walk [] Tryd.func63 Tryd.ntmps63 cc63 cr63 (by kernel_rfl) (by simp only [List.length_cons, List.length_nil]; decide) ?_
  generalize hR : Ret _ _ _ _ _ = R_
  simp only [wz, wd, ws, Nat.reduceAdd, Nat.reduceSub, Nat.reduceMul, Nat.reduceLeDiff, Nat.reduceEqDiff, Nat.reduceLT, Nat.reduceBEq, reduceIte, reduceCtorEq, Int.reduceToNat, Nat.reduceShiftRight, Nat.reduceAnd, Nat.reduceBneDiff, Nat.reduceBNe]
  unfold f_math_bits_RotateLeft32 at h; unfold c63
  refine .seq ?_
  refine Rw.walk ?_
  simp only [wz, wd, ws, Nat.reduceAdd, Nat.reduceSub, Nat.reduceMul, Nat.reduceLeDiff, Nat.reduceEqDiff, Nat.reduceLT, Nat.reduceBEq, reduceIte, reduceCtorEq, Int.reduceToNat, Nat.reduceShiftRight, Nat.reduceAnd, Nat.reduceBneDiff, Nat.reduceBNe, c63r0, semI.eq_10, semI.eq_11, semI.eq_3, semI.eq_5, semI.eq_7]
  refine .seq ?_
  refine Rw.walk ?_
  simp only [wz, wd, ws, Nat.reduceAdd, Nat.reduceSub, Nat.reduceMul, Nat.reduceLeDiff, Nat.reduceEqDiff, Nat.reduceLT, Nat.reduceBEq, reduceIte, reduceCtorEq, Int.reduceToNat, Nat.reduceShiftRight, Nat.reduceAnd, Nat.reduceBneDiff, Nat.reduceBNe, c63r1, semI.eq_10, semI.eq_11, semI.eq_3, semI.eq_5, semI.eq_7]
  obtain ⟨s, e1, h⟩ := Option.bind_eq_some_iff.1 h
  replace e1 := Option.some.inj e1
  first | simp only [e1] | (simp only [wz, wd, ws, Nat.reduceAdd, Nat.reduceSub, Nat.reduceMul, Nat.reduceLeDiff, Nat.reduceEqDiff, Nat.reduceLT, Nat.reduceBEq, reduceIte, reduceCtorEq, Int.reduceToNat, Nat.reduceShiftRight, Nat.reduceAnd, Nat.reduceBneDiff, Nat.reduceBNe] at e1; simp only [e1])
  refine .seq ?_
  refine Rw.walk ?_
  obtain ⟨g2, h⟩ := gd_iff.1 h
  obtain ⟨g3, h⟩ := gd_iff.1 h
  simp only [wz, wd, ws, Nat.reduceAdd, Nat.reduceSub, Nat.reduceMul, Nat.reduceLeDiff, Nat.reduceEqDiff, Nat.reduceLT, Nat.reduceBEq, reduceIte, reduceCtorEq, Int.reduceToNat, Nat.reduceShiftRight, Nat.reduceAnd, Nat.reduceBneDiff, Nat.reduceBNe, c63r2, semI.eq_10, semI.eq_11, semI.eq_3, semI.eq_5, semI.eq_7]
  repeat (refine And.intro ?_ ?_; · first | omega | (intro q; simp only [wz, wd, ws, Nat.reduceAdd, Nat.reduceSub, Nat.reduceMul, Nat.reduceLeDiff, Nat.reduceEqDiff, Nat.reduceLT, Nat.reduceBEq, reduceIte, reduceCtorEq, Int.reduceToNat, Nat.reduceShiftRight, Nat.reduceAnd, Nat.reduceBneDiff, Nat.reduceBNe, q]; done))
  obtain rfl := Option.some.inj h
  refine .ret ?_
  rw [← hR]
  simp only [wz, wd, ws, Nat.reduceAdd, Nat.reduceSub, Nat.reduceMul, Nat.reduceLeDiff, Nat.reduceEqDiff, Nat.reduceLT, Nat.reduceBEq, reduceIte, reduceCtorEq, Int.reduceToNat, Nat.reduceShiftRight, Nat.reduceAnd, Nat.reduceBneDiff, Nat.reduceBNe, rv63]
-- 54 consignor/digest.mixed
def c54r0 : List Opn := [
  ⟨(some 10), none, .mv (.c (.s (.d (.int .u32 0))))⟩]
def c54r1 : List Opn := [
  ⟨(some 12), none, .mv (.t 0)⟩, 
  ⟨(some 13), none, .mv (.t 3)⟩, 
  ⟨(some 14), none, .un .neg (.t 13)⟩, 
  ⟨(some 15), none, .call (.fn 63) [(.t 12), (.t 14)]⟩, 
  ⟨(some 11), none, .mv (.t 15)⟩]
def c54r2 : List Opn := [
  ⟨(some 16), none, .mv (.t 4)⟩]
def c54r3 : List Opn := [
  ⟨(some 17), none, .mv (.t 0)⟩, 
  ⟨(some 18), none, .mv (.t 3)⟩, 
  ⟨(some 19), none, .bin .shr (.t 17) (.t 18)⟩, 
  ⟨(some 11), none, .mv (.t 19)⟩]
def c54r4 : List Opn := [
  ⟨(some 20), none, .mv (.t 0)⟩, 
  ⟨(some 21), none, .mv (.t 1)⟩, 
  ⟨(some 22), none, .un .neg (.t 21)⟩, 
  ⟨(some 23), none, .call (.fn 63) [(.t 20), (.t 22)]⟩, 
  ⟨(some 24), none, .mv (.t 0)⟩, 
  ⟨(some 25), none, .mv (.t 2)⟩, 
  ⟨(some 26), none, .un .neg (.t 25)⟩, 
  ⟨(some 27), none, .call (.fn 63) [(.t 24), (.t 26)]⟩, 
  ⟨(some 28), none, .bin .xor (.t 23) (.t 27)⟩, 
  ⟨(some 29), none, .mv (.t 11)⟩, 
  ⟨(some 30), none, .bin .xor (.t 28) (.t 29)⟩, 
  ⟨(some 10), none, .mv (.t 30)⟩]
def c54 : C := .seq (.reg c54r0 none [0, 1, 2, 3, 4]) (.seq (.reg c54r1 none [0, 1, 2, 3, 4, 11]) (.seq (.seq (.reg c54r2 none [0, 1, 2, 3, 11, 16]) (.cond (.t 16) (.reg c54r3 none [0, 1, 2, 11]) (.skip))) (.seq (.reg c54r4 none [10]) (.ret))))
def k54 : List (Nat × List Nat) := [(4, [10]), (3, [0, 1, 2, 11]), (2, [0, 1, 2, 3, 11, 16]), (1, [0, 1, 2, 3, 4, 11]), (0, [0, 1, 2, 3, 4])]
theorem cc54 : (Tryd.f54.body).bind (cC Tryd.prog 31 k54) = some c54 := by kernel_rfl
def rv54 : List RV := [.t 10]
theorem cr54 : cRVs Tryd.prog Tryd.f54.results.toList = some rv54 := by kernel_rfl
theorem f_digest_mixed_ok (x : Int) (a : Int) (b : Int) (c : Int) (moved : Bool) (y_ : Int) (h : f_digest_mixed x a b c moved = some y_) : Fun Tryd.prog glP 54 [.b (.s (.d (.int .u32 x))), .b (.s (.d (.int .i64 a))), .b (.s (.d (.int .i64 b))), .b (.s (.d (.int .i64 c))), .b (.s (.d (.bool moved)))] (.b (.s (.d (.int .u32 y_)))) := by
  refine fun_walk [] Tryd.func54 Tryd.ntmps54 cc54 cr54 (by kernel_rfl) (by simp only [List.length_cons, List.length_nil]; decide) ?_
  generalize hR : Ret _ _ _ _ _ = R_
  simp only [wz, wd, ws, Nat.reduceAdd, Nat.reduceSub, Nat.reduceMul, Nat.reduceLeDiff, Nat.reduceEqDiff, Nat.reduceLT, Nat.reduceBEq, reduceIte, reduceCtorEq, Int.reduceToNat, Nat.reduceShiftRight, Nat.reduceAnd, Nat.reduceBneDiff, Nat.reduceBNe]
  unfold f_digest_mixed at h; unfold c54
  refine .seq ?_
  refine Rw.walk ?_
  simp only [wz, wd, ws, Nat.reduceAdd, Nat.reduceSub, Nat.reduceMul, Nat.reduceLeDiff, Nat.reduceEqDiff, Nat.reduceLT, Nat.reduceBEq, reduceIte, reduceCtorEq, Int.reduceToNat, Nat.reduceShiftRight, Nat.reduceAnd, Nat.reduceBneDiff, Nat.reduceBNe, c54r0, semI.eq_10, semI.eq_11, semI.eq_3, semI.eq_5, semI.eq_7]
  refine .seq ?_
  refine Rw.walk ?_
  simp only [wz, wd, ws, Nat.reduceAdd, Nat.reduceSub, Nat.reduceMul, Nat.reduceLeDiff, Nat.reduceEqDiff, Nat.reduceLT, Nat.reduceBEq, reduceIte, reduceCtorEq, Int.reduceToNat, Nat.reduceShiftRight, Nat.reduceAnd, Nat.reduceBneDiff, Nat.reduceBNe, c54r1, semI.eq_10, semI.eq_11, semI.eq_3, semI.eq_5, semI.eq_7]
  obtain ⟨t, e1, h⟩ := Option.bind_eq_some_iff.1 h
  refine call_fun [] false ⟨trivial, trivial, trivial, trivial⟩ rfl ?_ (f_math_bits_RotateLeft32_ok _ _ _ e1) (fun _ => rfl) (fun i hi => by cases hi) ?_
  · simp only [wz, wd, ws, Nat.reduceAdd, Nat.reduceSub, Nat.reduceMul, Nat.reduceLeDiff, Nat.reduceEqDiff, Nat.reduceLT, Nat.reduceBEq, reduceIte, reduceCtorEq, Int.reduceToNat, Nat.reduceShiftRight, Nat.reduceAnd, Nat.reduceBneDiff, Nat.reduceBNe]
  simp only [wz, wd, ws, Nat.reduceAdd, Nat.reduceSub, Nat.reduceMul, Nat.reduceLeDiff, Nat.reduceEqDiff, Nat.reduceLT, Nat.reduceBEq, reduceIte, reduceCtorEq, Int.reduceToNat, Nat.reduceShiftRight, Nat.reduceAnd, Nat.reduceBneDiff, Nat.reduceBNe, c54r1, semI.eq_10, semI.eq_11, semI.eq_3, semI.eq_5, semI.eq_7]
  refine .seq ?_
  obtain ⟨s, hf, h⟩ := Option.bind_eq_some_iff.1 h
  refine W.cut1 ⟨lkT [(0, .b (.s (.d (.int .u32 x)))), (1, .b (.s (.d (.int .i64 a)))), (2, .b (.s (.d (.int .i64 b)))), (11, .b (.s (.d (.int .u32 s))))], lkG []⟩ ?_ (fun tail => ?_)
  · skip
    refine .seq ?_
    refine Rw.walk ?_
    simp only [wz, wd, ws, Nat.reduceAdd, Nat.reduceSub, Nat.reduceMul, Nat.reduceLeDiff, Nat.reduceEqDiff, Nat.reduceLT, Nat.reduceBEq, reduceIte, reduceCtorEq, Int.reduceToNat, Nat.reduceShiftRight, Nat.reduceAnd, Nat.reduceBneDiff, Nat.reduceBNe, c54r4, semI.eq_10, semI.eq_11, semI.eq_3, semI.eq_5, semI.eq_7]
    obtain ⟨t2, e2, h⟩ := Option.bind_eq_some_iff.1 h
    refine call_fun [] false ⟨trivial, trivial, trivial, trivial⟩ rfl ?_ (f_math_bits_RotateLeft32_ok _ _ _ e2) (fun _ => rfl) (fun i hi => by cases hi) ?_
    · simp only [wz, wd, ws, Nat.reduceAdd, Nat.reduceSub, Nat.reduceMul, Nat.reduceLeDiff, Nat.reduceEqDiff, Nat.reduceLT, Nat.reduceBEq, reduceIte, reduceCtorEq, Int.reduceToNat, Nat.reduceShiftRight, Nat.reduceAnd, Nat.reduceBneDiff, Nat.reduceBNe]
    simp only [wz, wd, ws, Nat.reduceAdd, Nat.reduceSub, Nat.reduceMul, Nat.reduceLeDiff, Nat.reduceEqDiff, Nat.reduceLT, Nat.reduceBEq, reduceIte, reduceCtorEq, Int.reduceToNat, Nat.reduceShiftRight, Nat.reduceAnd, Nat.reduceBneDiff, Nat.reduceBNe, c54r4, semI.eq_10, semI.eq_11, semI.eq_3, semI.eq_5, semI.eq_7]
    obtain ⟨t3, e3, h⟩ := Option.bind_eq_some_iff.1 h
    refine call_fun [] false ⟨trivial, trivial, trivial, trivial⟩ rfl ?_ (f_math_bits_RotateLeft32_ok _ _ _ e3) (fun _ => rfl) (fun i hi => by cases hi) ?_
    · simp only [wz, wd, ws, Nat.reduceAdd, Nat.reduceSub, Nat.reduceMul, Nat.reduceLeDiff, Nat.reduceEqDiff, Nat.reduceLT, Nat.reduceBEq, reduceIte, reduceCtorEq, Int.reduceToNat, Nat.reduceShiftRight, Nat.reduceAnd, Nat.reduceBneDiff, Nat.reduceBNe]
    simp only [wz, wd, ws, Nat.reduceAdd, Nat.reduceSub, Nat.reduceMul, Nat.reduceLeDiff, Nat.reduceEqDiff, Nat.reduceLT, Nat.reduceBEq, reduceIte, reduceCtorEq, Int.reduceToNat, Nat.reduceShiftRight, Nat.reduceAnd, Nat.reduceBneDiff, Nat.reduceBNe, c54r4, semI.eq_10, semI.eq_11, semI.eq_3, semI.eq_5, semI.eq_7]
    obtain rfl := Option.some.inj h
    refine .ret ?_
    rw [← hR]
    simp only [wz, wd, ws, Nat.reduceAdd, Nat.reduceSub, Nat.reduceMul, Nat.reduceLeDiff, Nat.reduceEqDiff, Nat.reduceLT, Nat.reduceBEq, reduceIte, reduceCtorEq, Int.reduceToNat, Nat.reduceShiftRight, Nat.reduceAnd, Nat.reduceBneDiff, Nat.reduceBNe, rv54]
  replace h := hf
  refine .seq ?_
  refine Rw.walk ?_
  simp only [wz, wd, ws, Nat.reduceAdd, Nat.reduceSub, Nat.reduceMul, Nat.reduceLeDiff, Nat.reduceEqDiff, Nat.reduceLT, Nat.reduceBEq, reduceIte, reduceCtorEq, Int.reduceToNat, Nat.reduceShiftRight, Nat.reduceAnd, Nat.reduceBneDiff, Nat.reduceBNe, c54r2, semI.eq_10, semI.eq_11, semI.eq_3, semI.eq_5, semI.eq_7]
  refine .cond (p := moved) (by first | rfl | simp only [wz, wd, ws, Nat.reduceAdd, Nat.reduceSub, Nat.reduceMul, Nat.reduceLeDiff, Nat.reduceEqDiff, Nat.reduceLT, Nat.reduceBEq, reduceIte, reduceCtorEq, Int.reduceToNat, Nat.reduceShiftRight, Nat.reduceAnd, Nat.reduceBneDiff, Nat.reduceBNe]) (fun h1 => ?_) (fun h1 => ?_)
  · rw [ite_t h1] at h
    refine Rw.walk ?_
    obtain ⟨g4, h⟩ := gd_iff.1 h
    simp only [wz, wd, ws, Nat.reduceAdd, Nat.reduceSub, Nat.reduceMul, Nat.reduceLeDiff, Nat.reduceEqDiff, Nat.reduceLT, Nat.reduceBEq, reduceIte, reduceCtorEq, Int.reduceToNat, Nat.reduceShiftRight, Nat.reduceAnd, Nat.reduceBneDiff, Nat.reduceBNe, c54r3, semI.eq_10, semI.eq_11, semI.eq_3, semI.eq_5, semI.eq_7]
    repeat (refine And.intro ?_ ?_; · first | omega | (intro q; simp only [wz, wd, ws, Nat.reduceAdd, Nat.reduceSub, Nat.reduceMul, Nat.reduceLeDiff, Nat.reduceEqDiff, Nat.reduceLT, Nat.reduceBEq, reduceIte, reduceCtorEq, Int.reduceToNat, Nat.reduceShiftRight, Nat.reduceAnd, Nat.reduceBneDiff, Nat.reduceBNe, q]; done))
    obtain rfl := Option.some.inj h
    refine .weak (Imp.co [] _ _ ?_ ?_ ?_ ?_ ?_) (tail) <;> simp only [wz, wd, ws, Nat.reduceAdd, Nat.reduceSub, Nat.reduceMul, Nat.reduceLeDiff, Nat.reduceEqDiff, Nat.reduceLT, Nat.reduceBEq, reduceIte, reduceCtorEq, Int.reduceToNat, Nat.reduceShiftRight, Nat.reduceAnd, Nat.reduceBneDiff, Nat.reduceBNe, wi, er_nil]
  · rw [ite_f h1] at h
    refine .skip ?_
    obtain rfl := Option.some.inj h
    refine .weak (Imp.co [] _ _ ?_ ?_ ?_ ?_ ?_) (tail) <;> simp only [wz, wd, ws, Nat.reduceAdd, Nat.reduceSub, Nat.reduceMul, Nat.reduceLeDiff, Nat.reduceEqDiff, Nat.reduceLT, Nat.reduceBEq, reduceIte, reduceCtorEq, Int.reduceToNat, Nat.reduceShiftRight, Nat.reduceAnd, Nat.reduceBneDiff, Nat.reduceBNe, wi, er_nil]
-- 42 consignor/digest.over
def c42r0 : List Opn := [
  ⟨(some 2), none, .box 8 (.t 0)⟩, 
  ⟨(some 4), none, .new [(.d (.int .u32 0)), (.d (.int .u32 0)), (.d (.int .u32 0)), (.d (.int .u32 0)), (.d (.int .u32 0)), (.d (.int .u32 0)), (.d (.int .u32 0)), (.d (.int .u32 0))]⟩]
def c42r1 : List Opn := [
  ⟨(some 5), none, .new [(.d (.int .u32 0)), (.d (.int .u32 0)), (.d (.int .u32 0)), (.d (.int .u32 0)), (.d (.int .u32 0)), (.d (.int .u32 0)), (.d (.int .u32 0)), (.d (.int .u32 0)), (.d (.int .u32 0)), (.d (.int .u32 0)), (.d (.int .u32 0)), (.d (.int .u32 0)), (.d (.int .u32 0)), (.d (.int .u32 0)), (.d (.int .u32 0)), (.d (.int .u32 0)), (.d (.int .u32 0)), (.d (.int .u32 0)), (.d (.int .u32 0)), (.d (.int .u32 0)), (.d (.int .u32 0)), (.d (.int .u32 0)), (.d (.int .u32 0)), (.d (.int .u32 0)), (.d (.int .u32 0)), (.d (.int .u32 0)), (.d (.int .u32 0)), (.d (.int .u32 0)), (.d (.int .u32 0)), (.d (.int .u32 0)), (.d (.int .u32 0)), (.d (.int .u32 0)), (.d (.int .u32 0)), (.d (.int .u32 0)), (.d (.int .u32 0)), (.d (.int .u32 0)), (.d (.int .u32 0)), (.d (.int .u32 0)), (.d (.int .u32 0)), (.d (.int .u32 0)), (.d (.int .u32 0)), (.d (.int .u32 0)), (.d (.int .u32 0)), (.d (.int .u32 0)), (.d (.int .u32 0)), (.d (.int .u32 0)), (.d (.int .u32 0)), (.d (.int .u32 0)), (.d (.int .u32 0)), (.d (.int .u32 0)), (.d (.int .u32 0)), (.d (.int .u32 0)), (.d (.int .u32 0)), (.d (.int .u32 0)), (.d (.int .u32 0)), (.d (.int .u32 0)), (.d (.int .u32 0)), (.d (.int .u32 0)), (.d (.int .u32 0)), (.d (.int .u32 0)), (.d (.int .u32 0)), (.d (.int .u32 0)), (.d (.int .u32 0)), (.d (.int .u32 0))]⟩]
def c42r2 : List Opn := [
  ⟨(some 14), none, .mv (.c (.s (.d (.int .i64 0))))⟩]
def c42r3 : List Opn := [
  ⟨(some 15), none, .bin .lss (.t 14) (.c (.s (.d (.int .i64 64))))⟩]
def c42r4 : List Opn := [
  ⟨(some 16), none, .mv (.t 14)⟩, 
  ⟨(some 6), none, .mv (.t 16)⟩]
def c42r5 : List Opn := [
  ⟨(some 17), none, .mv (.t 6)⟩, 
  ⟨(some 18), none, .bin .lss (.t 17) (.c (.s (.d (.int .i64 16))))⟩]
def c42r6 : List Opn := [
  ⟨(some 19), none, .mv (.t 6)⟩, 
  ⟨(some 20), none, .mv (.t 1)⟩, 
  ⟨(some 21), none, .mv (.t 6)⟩, 
  ⟨(some 22), none, .bin .mul (.c (.s (.d (.int .i64 4)))) (.t 21)⟩, 
  ⟨(some 23), none, .slc .str (.t 20) (some (.t 22)) none none⟩, 
  ⟨(some 24), none, .call (.fn 53) [(.t 23)]⟩, 
  ⟨(some 25), none, .iadr (.ptr 64 1) (.t 5) (.t 19)⟩, 
  ⟨none, none, .store 1 (.t 25) (.t 24)⟩]
def c42r7 : List Opn := [
  ⟨(some 26), none, .mv (.t 6)⟩, 
  ⟨(some 27), none, .mv (.t 6)⟩, 
  ⟨(some 28), none, .bin .sub (.t 27) (.c (.s (.d (.int .i64 2))))⟩, 
  ⟨(some 29), none, .iadr (.ptr 64 1) (.t 5) (.t 28)⟩, 
  ⟨(some 30), none, .load false 1 (.t 29)⟩, 
  ⟨(some 31), none, .call (.fn 54) [(.t 30), (.c (.s (.d (.int .i64 17)))), (.c (.s (.d (.int .i64 19)))), (.c (.s (.d (.int .i64 10)))), (.c (.s (.d (.bool true))))]⟩, 
  ⟨(some 32), none, .mv (.t 6)⟩, 
  ⟨(some 33), none, .bin .sub (.t 32) (.c (.s (.d (.int .i64 7))))⟩, 
  ⟨(some 34), none, .iadr (.ptr 64 1) (.t 5) (.t 33)⟩, 
  ⟨(some 35), none, .load false 1 (.t 34)⟩, 
  ⟨(some 36), none, .bin .add (.t 31) (.t 35)⟩, 
  ⟨(some 37), none, .mv (.t 6)⟩, 
  ⟨(some 38), none, .bin .sub (.t 37) (.c (.s (.d (.int .i64 15))))⟩, 
  ⟨(some 39), none, .iadr (.ptr 64 1) (.t 5) (.t 38)⟩, 
  ⟨(some 40), none, .load false 1 (.t 39)⟩, 
  ⟨(some 41), none, .call (.fn 54) [(.t 40), (.c (.s (.d (.int .i64 7)))), (.c (.s (.d (.int .i64 18)))), (.c (.s (.d (.int .i64 3)))), (.c (.s (.d (.bool true))))]⟩, 
  ⟨(some 42), none, .bin .add (.t 36) (.t 41)⟩, 
  ⟨(some 43), none, .mv (.t 6)⟩, 
  ⟨(some 44), none, .bin .sub (.t 43) (.c (.s (.d (.int .i64 16))))⟩, 
  ⟨(some 45), none, .iadr (.ptr 64 1) (.t 5) (.t 44)⟩, 
  ⟨(some 46), none, .load false 1 (.t 45)⟩, 
  ⟨(some 47), none, .bin .add (.t 42) (.t 46)⟩, 
  ⟨(some 48), none, .iadr (.ptr 64 1) (.t 5) (.t 26)⟩, 
  ⟨none, none, .store 1 (.t 48) (.t 47)⟩]
def c42r8 : List Opn := [
  ⟨(some 49), none, .bin .add (.t 14) (.c (.s (.d (.int .i64 1))))⟩, 
  ⟨(some 14), none, .mv (.t 49)⟩]
def c42l9 : C := .seq (.reg c42r3 none [1, 2, 4, 5, 14, 15]) (.seq (.cond (.t 15) (.skip) (.exit 0)) (.seq (.blk 1 (.seq (.reg c42r4 none [1, 2, 4, 5, 6, 14]) (.seq (.seq (.reg c42r5 none [1, 2, 4, 5, 6, 14, 18]) (.cond (.t 18) (.seq (.reg c42r6 none [1, 2, 4, 5, 14]) (.exit 1)) (.skip))) (.reg c42r7 (some [0, 0, 2, 6, 14, 30, 0, 64, 192, 448, 1022, 0, 2048, 6144, 14336, 30782, 65534, 0, 131072, 393216, 917504, 2097150, 4194303, 8388607]) [1, 2, 4, 5, 14])))) (.reg c42r8 none [1, 2, 4, 5, 14])))
def c42r9 : List Opn := [
  ⟨(some 50), none, .load true 8 (.t 2)⟩, 
  ⟨(some 7), none, .new [(.d (.int .u32 0)), (.d (.int .u32 0)), (.d (.int .u32 0)), (.d (.int .u32 0)), (.d (.int .u32 0)), (.d (.int .u32 0)), (.d (.int .u32 0)), (.d (.int .u32 0))]⟩, 
  ⟨none, none, .store 8 (.t 7) (.t 50)⟩]
def c42r10 : List Opn := [
  ⟨(some 51), none, .mv (.c (.s (.d (.int .i64 0))))⟩]
def c42r11 : List Opn := [
  ⟨(some 52), none, .bin .lss (.t 51) (.c (.s (.d (.int .i64 64))))⟩]
def c42r12 : List Opn := [
  ⟨(some 53), none, .mv (.t 51)⟩, 
  ⟨(some 8), none, .mv (.t 53)⟩]
def c42r13 : List Opn := [
  ⟨(some 54), none, .iadr (.ptr 8 1) (.t 7) (.c (.s (.d (.int .i64 0))))⟩, 
  ⟨(some 55), none, .load false 1 (.t 54)⟩, 
  ⟨(some 56), none, .iadr (.ptr 8 1) (.t 7) (.c (.s (.d (.int .i64 4))))⟩, 
  ⟨(some 57), none, .load false 1 (.t 56)⟩, 
  ⟨(some 9), none, .mv (.t 55)⟩, 
  ⟨(some 10), none, .mv (.t 57)⟩]
def c42r14 : List Opn := [
  ⟨(some 58), none, .iadr (.ptr 8 1) (.t 7) (.c (.s (.d (.int .i64 7))))⟩, 
  ⟨(some 59), none, .load false 1 (.t 58)⟩, 
  ⟨(some 60), none, .mv (.t 10)⟩, 
  ⟨(some 61), none, .call (.fn 54) [(.t 60), (.c (.s (.d (.int .i64 6)))), (.c (.s (.d (.int .i64 11)))), (.c (.s (.d (.int .i64 25)))), (.c (.s (.d (.bool false))))]⟩, 
  ⟨(some 62), none, .bin .add (.t 59) (.t 61)⟩, 
  ⟨(some 63), none, .mv (.t 10)⟩, 
  ⟨(some 64), none, .iadr (.ptr 8 1) (.t 7) (.c (.s (.d (.int .i64 5))))⟩, 
  ⟨(some 65), none, .load false 1 (.t 64)⟩, 
  ⟨(some 66), none, .bin .and (.t 63) (.t 65)⟩, 
  ⟨(some 67), none, .mv (.t 10)⟩, 
  ⟨(some 68), none, .un .xor (.t 67)⟩, 
  ⟨(some 69), none, .iadr (.ptr 8 1) (.t 7) (.c (.s (.d (.int .i64 6))))⟩, 
  ⟨(some 70), none, .load false 1 (.t 69)⟩, 
  ⟨(some 71), none, .bin .and (.t 68) (.t 70)⟩, 
  ⟨(some 72), none, .bin .xor (.t 66) (.t 71)⟩, 
  ⟨(some 73), none, .bin .add (.t 62) (.t 72)⟩, 
  ⟨(some 74), none, .mv (.t 8)⟩, 
  ⟨(some 75), none, .iadr (.ptr 64 1) (.g 0) (.t 74)⟩, 
  ⟨(some 76), none, .load false 1 (.t 75)⟩, 
  ⟨(some 77), none, .bin .add (.t 73) (.t 76)⟩, 
  ⟨(some 78), none, .mv (.t 8)⟩, 
  ⟨(some 79), none, .iadr (.ptr 64 1) (.t 5) (.t 78)⟩, 
  ⟨(some 80), none, .load false 1 (.t 79)⟩, 
  ⟨(some 81), none, .bin .add (.t 77) (.t 80)⟩, 
  ⟨(some 11), none, .mv (.t 81)⟩]
def c42r15 : List Opn := [
  ⟨(some 82), none, .mv (.t 9)⟩, 
  ⟨(some 83), none, .call (.fn 54) [(.t 82), (.c (.s (.d (.int .i64 2)))), (.c (.s (.d (.int .i64 13)))), (.c (.s (.d (.int .i64 22)))), (.c (.s (.d (.bool false))))]⟩, 
  ⟨(some 84), none, .mv (.t 9)⟩, 
  ⟨(some 85), none, .iadr (.ptr 8 1) (.t 7) (.c (.s (.d (.int .i64 1))))⟩, 
  ⟨(some 86), none, .load false 1 (.t 85)⟩, 
  ⟨(some 87), none, .bin .and (.t 84) (.t 86)⟩, 
  ⟨(some 88), none, .mv (.t 9)⟩, 
  ⟨(some 89), none, .iadr (.ptr 8 1) (.t 7) (.c (.s (.d (.int .i64 2))))⟩, 
  ⟨(some 90), none, .load false 1 (.t 89)⟩, 
  ⟨(some 91), none, .bin .and (.t 88) (.t 90)⟩, 
  ⟨(some 92), none, .bin .xor (.t 87) (.t 91)⟩, 
  ⟨(some 93), none, .iadr (.ptr 8 1) (.t 7) (.c (.s (.d (.int .i64 1))))⟩, 
  ⟨(some 94), none, .load false 1 (.t 93)⟩, 
  ⟨(some 95), none, .iadr (.ptr 8 1) (.t 7) (.c (.s (.d (.int .i64 2))))⟩, 
  ⟨(some 96), none, .load false 1 (.t 95)⟩, 
  ⟨(some 97), none, .bin .and (.t 94) (.t 96)⟩, 
  ⟨(some 98), none, .bin .xor (.t 92) (.t 97)⟩, 
  ⟨(some 99), none, .bin .add (.t 83) (.t 98)⟩, 
  ⟨(some 12), none, .mv (.t 99)⟩]
def c42r16 : List Opn := [
  ⟨(some 100), none, .mv (.t 11)⟩, 
  ⟨(some 101), none, .mv (.t 12)⟩, 
  ⟨(some 102), none, .bin .add (.t 100) (.t 101)⟩, 
  ⟨(some 103), none, .mv (.t 9)⟩, 
  ⟨(some 104), none, .iadr (.ptr 8 1) (.t 7) (.c (.s (.d (.int .i64 1))))⟩, 
  ⟨(some 105), none, .load false 1 (.t 104)⟩, 
  ⟨(some 106), none, .iadr (.ptr 8 1) (.t 7) (.c (.s (.d (.int .i64 2))))⟩, 
  ⟨(some 107), none, .load false 1 (.t 106)⟩, 
  ⟨(some 108), none, .iadr (.ptr 8 1) (.t 7) (.c (.s (.d (.int .i64 3))))⟩, 
  ⟨(some 109), none, .load false 1 (.t 108)⟩, 
  ⟨(some 110), none, .mv (.t 11)⟩, 
  ⟨(some 111), none, .bin .add (.t 109) (.t 110)⟩, 
  ⟨(some 112), none, .mv (.t 10)⟩, 
  ⟨(some 113), none, .iadr (.ptr 8 1) (.t 7) (.c (.s (.d (.int .i64 5))))⟩, 
  ⟨(some 114), none, .load false 1 (.t 113)⟩, 
  ⟨(some 115), none, .iadr (.ptr 8 1) (.t 7) (.c (.s (.d (.int .i64 6))))⟩, 
  ⟨(some 116), none, .load false 1 (.t 115)⟩, 
  ⟨(some 117), none, .build [(.d (.int .u32 0)), (.d (.int .u32 0)), (.d (.int .u32 0)), (.d (.int .u32 0)), (.d (.int .u32 0)), (.d (.int .u32 0)), (.d (.int .u32 0)), (.d (.int .u32 0))] [(0, 1, (.t 102)), (1, 1, (.t 103)), (2, 1, (.t 105)), (3, 1, (.t 107)), (4, 1, (.t 111)), (5, 1, (.t 112)), (6, 1, (.t 114)), (7, 1, (.t 116))]⟩, 
  ⟨none, none, .store 8 (.t 7) (.t 117)⟩]
def c42r17 : List Opn := [
  ⟨(some 118), none, .bin .add (.t 51) (.c (.s (.d (.int .i64 1))))⟩, 
  ⟨(some 51), none, .mv (.t 118)⟩]
def c42l19 : C := .seq (.reg c42r11 none [2, 4, 5, 7, 51, 52]) (.seq (.cond (.t 52) (.skip) (.exit 2)) (.seq (.blk 3 (.seq (.reg c42r12 none [2, 4, 5, 7, 8, 51]) (.seq (.reg c42r13 (some [0, 1, 0, 4, 3, 31]) [2, 4, 5, 7, 8, 9, 10, 51]) (.seq (.reg c42r14 (some [0, 1, 0, 4, 15, 0, 0, 64, 224, 0, 512, 0, 2048, 7680, 16352, 32767, 0, 65536, 196608, 524287, 0, 1048576, 3145728, 8388607, 16777215]) [2, 4, 5, 7, 9, 10, 11, 51]) (.seq (.reg c42r15 (some [0, 1, 0, 0, 8, 28, 0, 0, 128, 448, 1020, 0, 2048, 0, 8192, 30720, 65532, 131071, 262143]) [2, 4, 5, 7, 9, 10, 11, 12, 51]) (.reg c42r16 none [2, 4, 5, 7, 51])))))) (.reg c42r17 none [2, 4, 5, 7, 51])))
def c42r18 : List Opn := [
  ⟨(some 119), none, .mv (.c (.s (.d (.int .i64 0))))⟩]
def c42r19 : List Opn := [
  ⟨(some 120), none, .bin .lss (.t 119) (.c (.s (.d (.int .i64 8))))⟩]
def c42r20 : List Opn := [
  ⟨(some 121), none, .mv (.t 119)⟩, 
  ⟨(some 13), none, .mv (.t 121)⟩]
def c42r21 : List Opn := [
  ⟨(some 122), none, .mv (.t 13)⟩, 
  ⟨(some 123), none, .iadr (.ptr 8 1) (.t 2) (.t 122)⟩, 
  ⟨(some 124), none, .load false 1 (.t 123)⟩, 
  ⟨(some 125), none, .mv (.t 13)⟩, 
  ⟨(some 126), none, .iadr (.ptr 8 1) (.t 7) (.t 125)⟩, 
  ⟨(some 127), none, .load false 1 (.t 126)⟩, 
  ⟨(some 128), none, .bin .add (.t 124) (.t 127)⟩, 
  ⟨(some 129), none, .iadr (.ptr 8 1) (.t 2) (.t 122)⟩, 
  ⟨none, none, .store 1 (.t 129) (.t 128)⟩]
def c42r22 : List Opn := [
  ⟨(some 130), none, .bin .add (.t 119) (.c (.s (.d (.int .i64 1))))⟩, 
  ⟨(some 119), none, .mv (.t 130)⟩]
def c42l25 : C := .seq (.reg c42r19 none [2, 4, 7, 119, 120]) (.seq (.cond (.t 120) (.skip) (.exit 4)) (.seq (.blk 5 (.seq (.reg c42r20 none [2, 4, 7, 13, 119]) (.reg c42r21 (some [0, 1, 3, 0, 8, 24, 63, 127, 255]) [2, 4, 7, 119]))) (.reg c42r22 none [2, 4, 7, 119])))
def c42r23 : List Opn := [
  ⟨(some 131), none, .load true 8 (.t 2)⟩, 
  ⟨none, none, .store 8 (.t 4) (.t 131)⟩]
def c42 : C := .seq (.reg c42r0 none [1, 2, 4]) (.seq (.reg c42r1 none [1, 2, 4, 5]) (.seq (.seq (.reg c42r2 none [1, 2, 4, 5, 14]) (.blk 0 (.loop c42l9))) (.seq (.reg c42r9 none [2, 4, 5, 7]) (.seq (.seq (.reg c42r10 none [2, 4, 5, 7, 51]) (.blk 2 (.loop c42l19))) (.seq (.seq (.reg c42r18 none [2, 4, 7, 119]) (.blk 4 (.loop c42l25))) (.seq (.reg c42r23 none [4]) (.ret)))))))
def k42 : List (Nat × List Nat) := [(23, [4]), (22, [2, 4, 7, 119]), (21, [2, 4, 7, 119]), (20, [2, 4, 7, 13, 119]), (19, [2, 4, 7, 119, 120]), (18, [2, 4, 7, 119]), (17, [2, 4, 5, 7, 51]), (16, [2, 4, 5, 7, 51]), (15, [2, 4, 5, 7, 9, 10, 11, 12, 51]), (14, [2, 4, 5, 7, 9, 10, 11, 51]), (13, [2, 4, 5, 7, 8, 9, 10, 51]), (12, [2, 4, 5, 7, 8, 51]), (11, [2, 4, 5, 7, 51, 52]), (10, [2, 4, 5, 7, 51]), (9, [2, 4, 5, 7]), (8, [1, 2, 4, 5, 14]), (7, [1, 2, 4, 5, 14]), (6, [1, 2, 4, 5, 14]), (5, [1, 2, 4, 5, 6, 14, 18]), (4, [1, 2, 4, 5, 6, 14]), (3, [1, 2, 4, 5, 14, 15]), (2, [1, 2, 4, 5, 14]), (1, [1, 2, 4, 5]), (0, [1, 2, 4])]
theorem cc42 : (Tryd.f42.body).bind (cC Tryd.prog 132 k42) = some c42 := by kernel_rfl
def rv42 : List RV := [.c 4 true 8]
theorem cr42 : cRVs Tryd.prog Tryd.f42.results.toList = some rv42 := by kernel_rfl
theorem f_digest_over_l9_ok (hv : (List Int)) (s : Str) (y_ : (List Int)) (R_ : St → Prop) (hR : (Ret Tryd.prog glP [] rv42 (.b (.agg (ea (eI .u32) y_)))) = R_) : ∀ (m_ : Nat) (v14 : Int) (w : (List Int)) (res_ : Int × (List Int)) (h : f_digest_over_l9 hv s m_ v14 w = some res_) (k_ : List It) (hx : ∀ s_ : Int × (List Int), res_ = s_ → W Tryd.prog glP 132 k_ ⟨lkT [(1, .b (.s (.d (.str s)))), (2, .b (.s (.ptr 2 1 0 0))), (4, .b (.s (.ptr 4 1 0 0))), (5, .b (.s (.ptr 5 1 0 0))), (14, .b (.s (.d (.int .i64 s_.1))))], lkG [(2, ⟨8, [ea (eI .u32) hv], false⟩), (4, ⟨8, [ea (eI .u32) (List.replicate 8 0)], false⟩), (5, ⟨64, [ea (eI .u32) s_.2], false⟩)]⟩ R_), W Tryd.prog glP 132 (.c c42l9 :: .lp c42l9 :: .blk 0 :: k_) ⟨lkT [(1, .b (.s (.d (.str s)))), (2, .b (.s (.ptr 2 1 0 0))), (4, .b (.s (.ptr 4 1 0 0))), (5, .b (.s (.ptr 5 1 0 0))), (14, .b (.s (.d (.int .i64 v14))))], lkG [(2, ⟨8, [ea (eI .u32) hv], false⟩), (4, ⟨8, [ea (eI .u32) (List.replicate 8 0)], false⟩), (5, ⟨64, [ea (eI .u32) w], false⟩)]⟩ R_ := by
  intro m_; induction m_ with
  | zero => intro v14 w res_ h; rw [f_digest_over_l9.eq_1] at h; cases h
  | succ m_ ih =>
    intro v14 w res_ h k_ hx; rw [f_digest_over_l9.eq_2] at h; refine W.cdef c42l9.eq_1 ?_
    refine .seq ?_
    refine Rw.walk ?_
    simp only [wz, wd, ws, Nat.reduceAdd, Nat.reduceSub, Nat.reduceMul, Nat.reduceLeDiff, Nat.reduceEqDiff, Nat.reduceLT, Nat.reduceBEq, reduceIte, reduceCtorEq, Int.reduceToNat, Nat.reduceShiftRight, Nat.reduceAnd, Nat.reduceBneDiff, Nat.reduceBNe, c42r3, semI.eq_10, semI.eq_11, semI.eq_3, semI.eq_5, semI.eq_7]
    refine .seq ?_
    refine .cond (p := (decide (v14 < 64))) (by first | rfl | simp only [wz, wd, ws, Nat.reduceAdd, Nat.reduceSub, Nat.reduceMul, Nat.reduceLeDiff, Nat.reduceEqDiff, Nat.reduceLT, Nat.reduceBEq, reduceIte, reduceCtorEq, Int.reduceToNat, Nat.reduceShiftRight, Nat.reduceAnd, Nat.reduceBneDiff, Nat.reduceBNe]) (fun h1 => ?_) (fun h1 => ?_)
    · rw [ite_t h1] at h
      refine .skip ?_
      refine .seq ?_
      refine .blk ?_
      refine .seq ?_
      refine Rw.walk ?_
      simp only [wz, wd, ws, Nat.reduceAdd, Nat.reduceSub, Nat.reduceMul, Nat.reduceLeDiff, Nat.reduceEqDiff, Nat.reduceLT, Nat.reduceBEq, reduceIte, reduceCtorEq, Int.reduceToNat, Nat.reduceShiftRight, Nat.reduceAnd, Nat.reduceBneDiff, Nat.reduceBNe, c42r4, semI.eq_10, semI.eq_11, semI.eq_3, semI.eq_5, semI.eq_7]
      refine .seq ?_
      refine .seq ?_
      refine Rw.walk ?_
      simp only [wz, wd, ws, Nat.reduceAdd, Nat.reduceSub, Nat.reduceMul, Nat.reduceLeDiff, Nat.reduceEqDiff, Nat.reduceLT, Nat.reduceBEq, reduceIte, reduceCtorEq, Int.reduceToNat, Nat.reduceShiftRight, Nat.reduceAnd, Nat.reduceBneDiff, Nat.reduceBNe, c42r5, semI.eq_10, semI.eq_11, semI.eq_3, semI.eq_5, semI.eq_7]
      refine .cond (p := (decide (v14 < 16))) (by first | rfl | simp only [wz, wd, ws, Nat.reduceAdd, Nat.reduceSub, Nat.reduceMul, Nat.reduceLeDiff, Nat.reduceEqDiff, Nat.reduceLT, Nat.reduceBEq, reduceIte, reduceCtorEq, Int.reduceToNat, Nat.reduceShiftRight, Nat.reduceAnd, Nat.reduceBneDiff, Nat.reduceBNe]) (fun h1 => ?_) (fun h1 => ?_)
      · rw [ite_t h1] at h
        refine .seq ?_
        refine Rw.walk ?_
        obtain ⟨g2, h⟩ := gd_iff.1 h
        simp only [wz, wd, ws, Nat.reduceAdd, Nat.reduceSub, Nat.reduceMul, Nat.reduceLeDiff, Nat.reduceEqDiff, Nat.reduceLT, Nat.reduceBEq, reduceIte, reduceCtorEq, Int.reduceToNat, Nat.reduceShiftRight, Nat.reduceAnd, Nat.reduceBneDiff, Nat.reduceBNe, c42r6, semI.eq_3, semI.eq_5, semI.eq_7]
        repeat (refine And.intro ?_ ?_; · first | omega | (intro q; simp only [wz, wd, ws, Nat.reduceAdd, Nat.reduceSub, Nat.reduceMul, Nat.reduceLeDiff, Nat.reduceEqDiff, Nat.reduceLT, Nat.reduceBEq, reduceIte, reduceCtorEq, Int.reduceToNat, Nat.reduceShiftRight, Nat.reduceAnd, Nat.reduceBneDiff, Nat.reduceBNe, q]; done))
        obtain ⟨t, e3, h⟩ := Option.bind_eq_some_iff.1 h
        refine call_fun [] false ⟨trivial, trivial, trivial⟩ rfl ?_ (f_digest_big_ok _ _ e3) (fun _ => rfl) (fun i hi => by cases hi) ?_
        · simp only [wz, wd, ws, Nat.reduceAdd, Nat.reduceSub, Nat.reduceMul, Nat.reduceLeDiff, Nat.reduceEqDiff, Nat.reduceLT, Nat.reduceBEq, reduceIte, reduceCtorEq, Int.reduceToNat, Nat.reduceShiftRight, Nat.reduceAnd, Nat.reduceBneDiff, Nat.reduceBNe]
        simp only [wz, wd, ws, Nat.reduceAdd, Nat.reduceSub, Nat.reduceMul, Nat.reduceLeDiff, Nat.reduceEqDiff, Nat.reduceLT, Nat.reduceBEq, reduceIte, reduceCtorEq, Int.reduceToNat, Nat.reduceShiftRight, Nat.reduceAnd, Nat.reduceBneDiff, Nat.reduceBNe, c42r6, semI.eq_3, semI.eq_5, semI.eq_7]
        obtain ⟨g4, h⟩ := gd_iff.1 h
        refine Go1.of (sem_iadrA (by rfl) (by rfl) (by rfl)) ?_
        simp only [wz, wd, ws, Nat.reduceAdd, Nat.reduceSub, Nat.reduceMul, Nat.reduceLeDiff, Nat.reduceEqDiff, Nat.reduceLT, Nat.reduceBEq, reduceIte, reduceCtorEq, Int.reduceToNat, Nat.reduceShiftRight, Nat.reduceAnd, Nat.reduceBneDiff, Nat.reduceBNe, c42r6, semI.eq_3, semI.eq_5, semI.eq_7]
        repeat (refine And.intro ?_ ?_; · first | omega | (intro q; simp only [wz, wd, ws, Nat.reduceAdd, Nat.reduceSub, Nat.reduceMul, Nat.reduceLeDiff, Nat.reduceEqDiff, Nat.reduceLT, Nat.reduceBEq, reduceIte, reduceCtorEq, Int.reduceToNat, Nat.reduceShiftRight, Nat.reduceAnd, Nat.reduceBneDiff, Nat.reduceBNe, q]; done))
        obtain ⟨g5, h⟩ := gd_iff.1 h
        refine Go1.of (sem_storeA (enc := (eI .u32)) (a' := t) (i := v14) (eI_len _) (by rfl) (by rfl) (by omega) (by omega) (by rfl) (by trivial) (by rfl)) ?_
        simp only [wz, wd, ws, Nat.reduceAdd, Nat.reduceSub, Nat.reduceMul, Nat.reduceLeDiff, Nat.reduceEqDiff, Nat.reduceLT, Nat.reduceBEq, reduceIte, reduceCtorEq, Int.reduceToNat, Nat.reduceShiftRight, Nat.reduceAnd, Nat.reduceBneDiff, Nat.reduceBNe, c42r6, semI.eq_3, semI.eq_5, semI.eq_7]
        refine .exit rfl ?_
        refine Rw.walk ?_
        simp only [wz, wd, ws, Nat.reduceAdd, Nat.reduceSub, Nat.reduceMul, Nat.reduceLeDiff, Nat.reduceEqDiff, Nat.reduceLT, Nat.reduceBEq, reduceIte, reduceCtorEq, Int.reduceToNat, Nat.reduceShiftRight, Nat.reduceAnd, Nat.reduceBneDiff, Nat.reduceBNe, c42r8, semI.eq_10, semI.eq_11, semI.eq_3, semI.eq_5, semI.eq_7]
        refine .lp ?_
        refine .weak (Imp.co [] _ _ ?_ ?_ ?_ ?_ ?_) (ih (IntKind.i64.wrap (v14 + 1)) (w.set v14.toNat t) _ h k_ hx) <;> simp only [wz, wd, ws, Nat.reduceAdd, Nat.reduceSub, Nat.reduceMul, Nat.reduceLeDiff, Nat.reduceEqDiff, Nat.reduceLT, Nat.reduceBEq, reduceIte, reduceCtorEq, Int.reduceToNat, Nat.reduceShiftRight, Nat.reduceAnd, Nat.reduceBneDiff, Nat.reduceBNe, wi, er_nil]
      · rw [ite_f h1] at h
        refine .skip ?_
        refine RwD.walk ?_
        simp only [wz, wd, ws, Nat.reduceAdd, Nat.reduceSub, Nat.reduceMul, Nat.reduceLeDiff, Nat.reduceEqDiff, Nat.reduceLT, Nat.reduceBEq, reduceIte, reduceCtorEq, Int.reduceToNat, Nat.reduceShiftRight, Nat.reduceAnd, Nat.reduceBneDiff, Nat.reduceBNe, c42r7, semI.eq_3, semI.eq_5, semI.eq_7]
        obtain ⟨g6, h⟩ := gd_iff.1 h
        refine GoD1.of (sem_iadrA (by rfl) (by rfl) (by rfl)) ?_
        simp only [wz, wd, ws, Nat.reduceAdd, Nat.reduceSub, Nat.reduceMul, Nat.reduceLeDiff, Nat.reduceEqDiff, Nat.reduceLT, Nat.reduceBEq, reduceIte, reduceCtorEq, Int.reduceToNat, Nat.reduceShiftRight, Nat.reduceAnd, Nat.reduceBneDiff, Nat.reduceBNe, c42r7, semI.eq_3, semI.eq_5, semI.eq_7]
        repeat (refine And.intro ?_ ?_; · first | omega | (intro q; simp only [wz, wd, ws, Nat.reduceAdd, Nat.reduceSub, Nat.reduceMul, Nat.reduceLeDiff, Nat.reduceEqDiff, Nat.reduceLT, Nat.reduceBEq, reduceIte, reduceCtorEq, Int.reduceToNat, Nat.reduceShiftRight, Nat.reduceAnd, Nat.reduceBneDiff, Nat.reduceBNe, q]; done))
        obtain ⟨x, e7, h⟩ := Option.bind_eq_some_iff.1 h
        refine GoD1.of (sem_loadA1 (eI_len _) e7 (by rfl) (by rfl) (by rfl)) ?_
        simp only [wz, wd, ws, Nat.reduceAdd, Nat.reduceSub, Nat.reduceMul, Nat.reduceLeDiff, Nat.reduceEqDiff, Nat.reduceLT, Nat.reduceBEq, reduceIte, reduceCtorEq, Int.reduceToNat, Nat.reduceShiftRight, Nat.reduceAnd, Nat.reduceBneDiff, Nat.reduceBNe, c42r7, semI.eq_3, semI.eq_5, semI.eq_7]
        obtain ⟨t, e8, h⟩ := Option.bind_eq_some_iff.1 h
        refine call_fun [] false ⟨trivial, trivial, trivial, trivial, trivial, trivial, trivial⟩ rfl ?_ (f_digest_mixed_ok _ _ _ _ _ _ e8) (fun _ => rfl) (fun i hi => by cases hi) ?_
        · simp only [wz, wd, ws, Nat.reduceAdd, Nat.reduceSub, Nat.reduceMul, Nat.reduceLeDiff, Nat.reduceEqDiff, Nat.reduceLT, Nat.reduceBEq, reduceIte, reduceCtorEq, Int.reduceToNat, Nat.reduceShiftRight, Nat.reduceAnd, Nat.reduceBneDiff, Nat.reduceBNe]
        simp only [wz, wd, ws, Nat.reduceAdd, Nat.reduceSub, Nat.reduceMul, Nat.reduceLeDiff, Nat.reduceEqDiff, Nat.reduceLT, Nat.reduceBEq, reduceIte, reduceCtorEq, Int.reduceToNat, Nat.reduceShiftRight, Nat.reduceAnd, Nat.reduceBneDiff, Nat.reduceBNe, c42r7, semI.eq_3, semI.eq_5, semI.eq_7]
        obtain ⟨g9, h⟩ := gd_iff.1 h
        refine GoD1.of (sem_iadrA (by rfl) (by rfl) (by rfl)) ?_
        simp only [wz, wd, ws, Nat.reduceAdd, Nat.reduceSub, Nat.reduceMul, Nat.reduceLeDiff, Nat.reduceEqDiff, Nat.reduceLT, Nat.reduceBEq, reduceIte, reduceCtorEq, Int.reduceToNat, Nat.reduceShiftRight, Nat.reduceAnd, Nat.reduceBneDiff, Nat.reduceBNe, c42r7, semI.eq_3, semI.eq_5, semI.eq_7]
        repeat (refine And.intro ?_ ?_; · first | omega | (intro q; simp only [wz, wd, ws, Nat.reduceAdd, Nat.reduceSub, Nat.reduceMul, Nat.reduceLeDiff, Nat.reduceEqDiff, Nat.reduceLT, Nat.reduceBEq, reduceIte, reduceCtorEq, Int.reduceToNat, Nat.reduceShiftRight, Nat.reduceAnd, Nat.reduceBneDiff, Nat.reduceBNe, q]; done))
        obtain ⟨x2, e10, h⟩ := Option.bind_eq_some_iff.1 h
        refine GoD1.of (sem_loadA1 (eI_len _) e10 (by rfl) (by rfl) (by rfl)) ?_
        simp only [wz, wd, ws, Nat.reduceAdd, Nat.reduceSub, Nat.reduceMul, Nat.reduceLeDiff, Nat.reduceEqDiff, Nat.reduceLT, Nat.reduceBEq, reduceIte, reduceCtorEq, Int.reduceToNat, Nat.reduceShiftRight, Nat.reduceAnd, Nat.reduceBneDiff, Nat.reduceBNe, c42r7, semI.eq_3, semI.eq_5, semI.eq_7]
        obtain ⟨g11, h⟩ := gd_iff.1 h
        refine GoD1.of (sem_iadrA (by rfl) (by rfl) (by rfl)) ?_
        simp only [wz, wd, ws, Nat.reduceAdd, Nat.reduceSub, Nat.reduceMul, Nat.reduceLeDiff, Nat.reduceEqDiff, Nat.reduceLT, Nat.reduceBEq, reduceIte, reduceCtorEq, Int.reduceToNat, Nat.reduceShiftRight, Nat.reduceAnd, Nat.reduceBneDiff, Nat.reduceBNe, c42r7, semI.eq_3, semI.eq_5, semI.eq_7]
        repeat (refine And.intro ?_ ?_; · first | omega | (intro q; simp only [wz, wd, ws, Nat.reduceAdd, Nat.reduceSub, Nat.reduceMul, Nat.reduceLeDiff, Nat.reduceEqDiff, Nat.reduceLT, Nat.reduceBEq, reduceIte, reduceCtorEq, Int.reduceToNat, Nat.reduceShiftRight, Nat.reduceAnd, Nat.reduceBneDiff, Nat.reduceBNe, q]; done))
        obtain ⟨x3, e12, h⟩ := Option.bind_eq_some_iff.1 h
        refine GoD1.of (sem_loadA1 (eI_len _) e12 (by rfl) (by rfl) (by rfl)) ?_
        simp only [wz, wd, ws, Nat.reduceAdd, Nat.reduceSub, Nat.reduceMul, Nat.reduceLeDiff, Nat.reduceEqDiff, Nat.reduceLT, Nat.reduceBEq, reduceIte, reduceCtorEq, Int.reduceToNat, Nat.reduceShiftRight, Nat.reduceAnd, Nat.reduceBneDiff, Nat.reduceBNe, c42r7, semI.eq_3, semI.eq_5, semI.eq_7]
        obtain ⟨t2, e13, h⟩ := Option.bind_eq_some_iff.1 h
        refine call_fun [] false ⟨trivial, trivial, trivial, trivial, trivial, trivial, trivial⟩ rfl ?_ (f_digest_mixed_ok _ _ _ _ _ _ e13) (fun _ => rfl) (fun i hi => by cases hi) ?_
        · simp only [wz, wd, ws, Nat.reduceAdd, Nat.reduceSub, Nat.reduceMul, Nat.reduceLeDiff, Nat.reduceEqDiff, Nat.reduceLT, Nat.reduceBEq, reduceIte, reduceCtorEq, Int.reduceToNat, Nat.reduceShiftRight, Nat.reduceAnd, Nat.reduceBneDiff, Nat.reduceBNe]
        simp only [wz, wd, ws, Nat.reduceAdd, Nat.reduceSub, Nat.reduceMul, Nat.reduceLeDiff, Nat.reduceEqDiff, Nat.reduceLT, Nat.reduceBEq, reduceIte, reduceCtorEq, Int.reduceToNat, Nat.reduceShiftRight, Nat.reduceAnd, Nat.reduceBneDiff, Nat.reduceBNe, c42r7, semI.eq_3, semI.eq_5, semI.eq_7]
        obtain ⟨g14, h⟩ := gd_iff.1 h
        refine GoD1.of (sem_iadrA (by rfl) (by rfl) (by rfl)) ?_
        simp only [wz, wd, ws, Nat.reduceAdd, Nat.reduceSub, Nat.reduceMul, Nat.reduceLeDiff, Nat.reduceEqDiff, Nat.reduceLT, Nat.reduceBEq, reduceIte, reduceCtorEq, Int.reduceToNat, Nat.reduceShiftRight, Nat.reduceAnd, Nat.reduceBneDiff, Nat.reduceBNe, c42r7, semI.eq_3, semI.eq_5, semI.eq_7]
        repeat (refine And.intro ?_ ?_; · first | omega | (intro q; simp only [wz, wd, ws, Nat.reduceAdd, Nat.reduceSub, Nat.reduceMul, Nat.reduceLeDiff, Nat.reduceEqDiff, Nat.reduceLT, Nat.reduceBEq, reduceIte, reduceCtorEq, Int.reduceToNat, Nat.reduceShiftRight, Nat.reduceAnd, Nat.reduceBneDiff, Nat.reduceBNe, q]; done))
        obtain ⟨x4, e15, h⟩ := Option.bind_eq_some_iff.1 h
        refine GoD1.of (sem_loadA1 (eI_len _) e15 (by rfl) (by rfl) (by rfl)) ?_
        simp only [wz, wd, ws, Nat.reduceAdd, Nat.reduceSub, Nat.reduceMul, Nat.reduceLeDiff, Nat.reduceEqDiff, Nat.reduceLT, Nat.reduceBEq, reduceIte, reduceCtorEq, Int.reduceToNat, Nat.reduceShiftRight, Nat.reduceAnd, Nat.reduceBneDiff, Nat.reduceBNe, c42r7, semI.eq_3, semI.eq_5, semI.eq_7]
        obtain ⟨g16, h⟩ := gd_iff.1 h
        refine GoD1.of (sem_iadrA (by rfl) (by rfl) (by rfl)) ?_
        simp only [wz, wd, ws, Nat.reduceAdd, Nat.reduceSub, Nat.reduceMul, Nat.reduceLeDiff, Nat.reduceEqDiff, Nat.reduceLT, Nat.reduceBEq, reduceIte, reduceCtorEq, Int.reduceToNat, Nat.reduceShiftRight, Nat.reduceAnd, Nat.reduceBneDiff, Nat.reduceBNe, c42r7, semI.eq_3, semI.eq_5, semI.eq_7]
        repeat (refine And.intro ?_ ?_; · first | omega | (intro q; simp only [wz, wd, ws, Nat.reduceAdd, Nat.reduceSub, Nat.reduceMul, Nat.reduceLeDiff, Nat.reduceEqDiff, Nat.reduceLT, Nat.reduceBEq, reduceIte, reduceCtorEq, Int.reduceToNat, Nat.reduceShiftRight, Nat.reduceAnd, Nat.reduceBneDiff, Nat.reduceBNe, q]; done))
        obtain ⟨g17, h⟩ := gd_iff.1 h
        refine GoD1.of (sem_storeA (enc := (eI .u32)) (a' := (IntKind.u32.wrap ((IntKind.u32.wrap ((IntKind.u32.wrap (t + x2)) + t2)) + x4))) (i := v14) (eI_len _) (by rfl) (by rfl) (by omega) (by omega) (by rfl) (by trivial) (by rfl)) ?_
        simp only [wz, wd, ws, Nat.reduceAdd, Nat.reduceSub, Nat.reduceMul, Nat.reduceLeDiff, Nat.reduceEqDiff, Nat.reduceLT, Nat.reduceBEq, reduceIte, reduceCtorEq, Int.reduceToNat, Nat.reduceShiftRight, Nat.reduceAnd, Nat.reduceBneDiff, Nat.reduceBNe, c42r7, semI.eq_3, semI.eq_5, semI.eq_7]
        refine .eblk ?_
        refine Rw.walk ?_
        simp only [wz, wd, ws, Nat.reduceAdd, Nat.reduceSub, Nat.reduceMul, Nat.reduceLeDiff, Nat.reduceEqDiff, Nat.reduceLT, Nat.reduceBEq, reduceIte, reduceCtorEq, Int.reduceToNat, Nat.reduceShiftRight, Nat.reduceAnd, Nat.reduceBneDiff, Nat.reduceBNe, c42r8, semI.eq_10, semI.eq_11, semI.eq_3, semI.eq_5, semI.eq_7]
        refine .lp ?_
        refine .weak (Imp.co [] _ _ ?_ ?_ ?_ ?_ ?_) (ih (IntKind.i64.wrap (v14 + 1)) (w.set v14.toNat (IntKind.u32.wrap ((IntKind.u32.wrap ((IntKind.u32.wrap (t + x2)) + t2)) + x4))) _ h k_ hx) <;> simp only [wz, wd, ws, Nat.reduceAdd, Nat.reduceSub, Nat.reduceMul, Nat.reduceLeDiff, Nat.reduceEqDiff, Nat.reduceLT, Nat.reduceBEq, reduceIte, reduceCtorEq, Int.reduceToNat, Nat.reduceShiftRight, Nat.reduceAnd, Nat.reduceBneDiff, Nat.reduceBNe, wi, er_nil]
    · rw [ite_f h1] at h
      refine .exit rfl ?_
      obtain rfl := Option.some.inj h
      refine .weak (Imp.co [] _ _ ?_ ?_ ?_ ?_ ?_) (hx _ rfl) <;> simp only [wz, wd, ws, Nat.reduceAdd, Nat.reduceSub, Nat.reduceMul, Nat.reduceLeDiff, Nat.reduceEqDiff, Nat.reduceLT, Nat.reduceBEq, reduceIte, reduceCtorEq, Int.reduceToNat, Nat.reduceShiftRight, Nat.reduceAnd, Nat.reduceBneDiff, Nat.reduceBNe, wi, er_nil]
theorem f_digest_over_l19_ok (hv : (List Int)) (s : Str) (s2 : Int × (List Int)) (y_ : (List Int)) (R_ : St → Prop) (hR : (Ret Tryd.prog glP [] rv42 (.b (.agg (ea (eI .u32) y_)))) = R_) : ∀ (m_ : Nat) (v51 : Int) (v : (List Int)) (res_ : Int × (List Int)) (h : f_digest_over_l19 hv s s2 m_ v51 v = some res_) (k_ : List It) (hx : ∀ s_ : Int × (List Int), res_ = s_ → W Tryd.prog glP 132 k_ ⟨lkT [(2, .b (.s (.ptr 2 1 0 0))), (4, .b (.s (.ptr 4 1 0 0))), (5, .b (.s (.ptr 5 1 0 0))), (7, .b (.s (.ptr 7 1 0 0))), (51, .b (.s (.d (.int .i64 s_.1))))], lkG [(2, ⟨8, [ea (eI .u32) hv], false⟩), (4, ⟨8, [ea (eI .u32) (List.replicate 8 0)], false⟩), (5, ⟨64, [ea (eI .u32) s2.2], false⟩), (7, ⟨8, [ea (eI .u32) s_.2], false⟩)]⟩ R_), W Tryd.prog glP 132 (.c c42l19 :: .lp c42l19 :: .blk 2 :: k_) ⟨lkT [(2, .b (.s (.ptr 2 1 0 0))), (4, .b (.s (.ptr 4 1 0 0))), (5, .b (.s (.ptr 5 1 0 0))), (7, .b (.s (.ptr 7 1 0 0))), (51, .b (.s (.d (.int .i64 v51))))], lkG [(2, ⟨8, [ea (eI .u32) hv], false⟩), (4, ⟨8, [ea (eI .u32) (List.replicate 8 0)], false⟩), (5, ⟨64, [ea (eI .u32) s2.2], false⟩), (7, ⟨8, [ea (eI .u32) v], false⟩)]⟩ R_ := by
  intro m_; induction m_ with
  | zero => intro v51 v res_ h; rw [f_digest_over_l19.eq_1] at h; cases h
  | succ m_ ih =>
    intro v51 v res_ h k_ hx; rw [f_digest_over_l19.eq_2] at h; refine W.cdef c42l19.eq_1 ?_
    refine .seq ?_
    refine Rw.walk ?_
    simp only [wz, wd, ws, Nat.reduceAdd, Nat.reduceSub, Nat.reduceMul, Nat.reduceLeDiff, Nat.reduceEqDiff, Nat.reduceLT, Nat.reduceBEq, reduceIte, reduceCtorEq, Int.reduceToNat, Nat.reduceShiftRight, Nat.reduceAnd, Nat.reduceBneDiff, Nat.reduceBNe, c42r11, semI.eq_10, semI.eq_11, semI.eq_3, semI.eq_5, semI.eq_7]
    refine .seq ?_
    refine .cond (p := (decide (v51 < 64))) (by first | rfl | simp only [wz, wd, ws, Nat.reduceAdd, Nat.reduceSub, Nat.reduceMul, Nat.reduceLeDiff, Nat.reduceEqDiff, Nat.reduceLT, Nat.reduceBEq, reduceIte, reduceCtorEq, Int.reduceToNat, Nat.reduceShiftRight, Nat.reduceAnd, Nat.reduceBneDiff, Nat.reduceBNe]) (fun h1 => ?_) (fun h1 => ?_)
    · rw [ite_t h1] at h
      refine .skip ?_
      refine .seq ?_
      refine .blk ?_
      refine .seq ?_
      refine Rw.walk ?_
      simp only [wz, wd, ws, Nat.reduceAdd, Nat.reduceSub, Nat.reduceMul, Nat.reduceLeDiff, Nat.reduceEqDiff, Nat.reduceLT, Nat.reduceBEq, reduceIte, reduceCtorEq, Int.reduceToNat, Nat.reduceShiftRight, Nat.reduceAnd, Nat.reduceBneDiff, Nat.reduceBNe, c42r12, semI.eq_10, semI.eq_11, semI.eq_3, semI.eq_5, semI.eq_7]
      refine .seq ?_
      refine RwD.walk ?_
      simp only [wz, wd, ws, Nat.reduceAdd, Nat.reduceSub, Nat.reduceMul, Nat.reduceLeDiff, Nat.reduceEqDiff, Nat.reduceLT, Nat.reduceBEq, reduceIte, reduceCtorEq, Int.reduceToNat, Nat.reduceShiftRight, Nat.reduceAnd, Nat.reduceBneDiff, Nat.reduceBNe, c42r13, semI.eq_3, semI.eq_5, semI.eq_7]
      refine GoD1.of (sem_iadrA (by rfl) (by rfl) (by rfl)) ?_
      simp only [wz, wd, ws, Nat.reduceAdd, Nat.reduceSub, Nat.reduceMul, Nat.reduceLeDiff, Nat.reduceEqDiff, Nat.reduceLT, Nat.reduceBEq, reduceIte, reduceCtorEq, Int.reduceToNat, Nat.reduceShiftRight, Nat.reduceAnd, Nat.reduceBneDiff, Nat.reduceBNe, c42r13, semI.eq_3, semI.eq_5, semI.eq_7]
      repeat (refine And.intro ?_ ?_; · first | omega | (intro q; simp only [wz, wd, ws, Nat.reduceAdd, Nat.reduceSub, Nat.reduceMul, Nat.reduceLeDiff, Nat.reduceEqDiff, Nat.reduceLT, Nat.reduceBEq, reduceIte, reduceCtorEq, Int.reduceToNat, Nat.reduceShiftRight, Nat.reduceAnd, Nat.reduceBneDiff, Nat.reduceBNe, q]; done))
      obtain ⟨x, e20, h⟩ := Option.bind_eq_some_iff.1 h
      refine GoD1.of (sem_loadA1 (eI_len _) e20 (by rfl) (by rfl) (by rfl)) ?_
      simp only [wz, wd, ws, Nat.reduceAdd, Nat.reduceSub, Nat.reduceMul, Nat.reduceLeDiff, Nat.reduceEqDiff, Nat.reduceLT, Nat.reduceBEq, reduceIte, reduceCtorEq, Int.reduceToNat, Nat.reduceShiftRight, Nat.reduceAnd, Nat.reduceBneDiff, Nat.reduceBNe, c42r13, semI.eq_3, semI.eq_5, semI.eq_7]
      refine GoD1.of (sem_iadrA (by rfl) (by rfl) (by rfl)) ?_
      simp only [wz, wd, ws, Nat.reduceAdd, Nat.reduceSub, Nat.reduceMul, Nat.reduceLeDiff, Nat.reduceEqDiff, Nat.reduceLT, Nat.reduceBEq, reduceIte, reduceCtorEq, Int.reduceToNat, Nat.reduceShiftRight, Nat.reduceAnd, Nat.reduceBneDiff, Nat.reduceBNe, c42r13, semI.eq_3, semI.eq_5, semI.eq_7]
      repeat (refine And.intro ?_ ?_; · first | omega | (intro q; simp only [wz, wd, ws, Nat.reduceAdd, Nat.reduceSub, Nat.reduceMul, Nat.reduceLeDiff, Nat.reduceEqDiff, Nat.reduceLT, Nat.reduceBEq, reduceIte, reduceCtorEq, Int.reduceToNat, Nat.reduceShiftRight, Nat.reduceAnd, Nat.reduceBneDiff, Nat.reduceBNe, q]; done))
      obtain ⟨x2, e21, h⟩ := Option.bind_eq_some_iff.1 h
      refine GoD1.of (sem_loadA1 (eI_len _) e21 (by rfl) (by rfl) (by rfl)) ?_
      simp only [wz, wd, ws, Nat.reduceAdd, Nat.reduceSub, Nat.reduceMul, Nat.reduceLeDiff, Nat.reduceEqDiff, Nat.reduceLT, Nat.reduceBEq, reduceIte, reduceCtorEq, Int.reduceToNat, Nat.reduceShiftRight, Nat.reduceAnd, Nat.reduceBneDiff, Nat.reduceBNe, c42r13, semI.eq_3, semI.eq_5, semI.eq_7]
      refine .seq ?_
      refine RwD.walk ?_
      simp only [wz, wd, ws, Nat.reduceAdd, Nat.reduceSub, Nat.reduceMul, Nat.reduceLeDiff, Nat.reduceEqDiff, Nat.reduceLT, Nat.reduceBEq, reduceIte, reduceCtorEq, Int.reduceToNat, Nat.reduceShiftRight, Nat.reduceAnd, Nat.reduceBneDiff, Nat.reduceBNe, c42r14, semI.eq_3, semI.eq_5, semI.eq_7, glP.eq_1]
      refine GoD1.of (sem_iadrA (by rfl) (by rfl) (by rfl)) ?_
      simp only [wz, wd, ws, Nat.reduceAdd, Nat.reduceSub, Nat.reduceMul, Nat.reduceLeDiff, Nat.reduceEqDiff, Nat.reduceLT, Nat.reduceBEq, reduceIte, reduceCtorEq, Int.reduceToNat, Nat.reduceShiftRight, Nat.reduceAnd, Nat.reduceBneDiff, Nat.reduceBNe, c42r14, semI.eq_3, semI.eq_5, semI.eq_7, glP.eq_1]
      repeat (refine And.intro ?_ ?_; · first | omega | (intro q; simp only [wz, wd, ws, Nat.reduceAdd, Nat.reduceSub, Nat.reduceMul, Nat.reduceLeDiff, Nat.reduceEqDiff, Nat.reduceLT, Nat.reduceBEq, reduceIte, reduceCtorEq, Int.reduceToNat, Nat.reduceShiftRight, Nat.reduceAnd, Nat.reduceBneDiff, Nat.reduceBNe, q]; done))
      obtain ⟨x3, e22, h⟩ := Option.bind_eq_some_iff.1 h
      refine GoD1.of (sem_loadA1 (eI_len _) e22 (by rfl) (by rfl) (by rfl)) ?_
      simp only [wz, wd, ws, Nat.reduceAdd, Nat.reduceSub, Nat.reduceMul, Nat.reduceLeDiff, Nat.reduceEqDiff, Nat.reduceLT, Nat.reduceBEq, reduceIte, reduceCtorEq, Int.reduceToNat, Nat.reduceShiftRight, Nat.reduceAnd, Nat.reduceBneDiff, Nat.reduceBNe, c42r14, semI.eq_3, semI.eq_5, semI.eq_7, glP.eq_1]
      obtain ⟨t, e23, h⟩ := Option.bind_eq_some_iff.1 h
      refine call_fun [] false ⟨trivial, trivial, trivial, trivial, trivial, trivial, trivial⟩ rfl ?_ (f_digest_mixed_ok _ _ _ _ _ _ e23) (fun _ => rfl) (fun i hi => by cases hi) ?_
      · simp only [wz, wd, ws, Nat.reduceAdd, Nat.reduceSub, Nat.reduceMul, Nat.reduceLeDiff, Nat.reduceEqDiff, Nat.reduceLT, Nat.reduceBEq, reduceIte, reduceCtorEq, Int.reduceToNat, Nat.reduceShiftRight, Nat.reduceAnd, Nat.reduceBneDiff, Nat.reduceBNe]
      simp only [wz, wd, ws, Nat.reduceAdd, Nat.reduceSub, Nat.reduceMul, Nat.reduceLeDiff, Nat.reduceEqDiff, Nat.reduceLT, Nat.reduceBEq, reduceIte, reduceCtorEq, Int.reduceToNat, Nat.reduceShiftRight, Nat.reduceAnd, Nat.reduceBneDiff, Nat.reduceBNe, c42r14, semI.eq_3, semI.eq_5, semI.eq_7, glP.eq_1]
      refine GoD1.of (sem_iadrA (by rfl) (by rfl) (by rfl)) ?_
      simp only [wz, wd, ws, Nat.reduceAdd, Nat.reduceSub, Nat.reduceMul, Nat.reduceLeDiff, Nat.reduceEqDiff, Nat.reduceLT, Nat.reduceBEq, reduceIte, reduceCtorEq, Int.reduceToNat, Nat.reduceShiftRight, Nat.reduceAnd, Nat.reduceBneDiff, Nat.reduceBNe, c42r14, semI.eq_3, semI.eq_5, semI.eq_7, glP.eq_1]
      repeat (refine And.intro ?_ ?_; · first | omega | (intro q; simp only [wz, wd, ws, Nat.reduceAdd, Nat.reduceSub, Nat.reduceMul, Nat.reduceLeDiff, Nat.reduceEqDiff, Nat.reduceLT, Nat.reduceBEq, reduceIte, reduceCtorEq, Int.reduceToNat, Nat.reduceShiftRight, Nat.reduceAnd, Nat.reduceBneDiff, Nat.reduceBNe, q]; done))
      obtain ⟨x4, e24, h⟩ := Option.bind_eq_some_iff.1 h
      refine GoD1.of (sem_loadA1 (eI_len _) e24 (by rfl) (by rfl) (by rfl)) ?_
      simp only [wz, wd, ws, Nat.reduceAdd, Nat.reduceSub, Nat.reduceMul, Nat.reduceLeDiff, Nat.reduceEqDiff, Nat.reduceLT, Nat.reduceBEq, reduceIte, reduceCtorEq, Int.reduceToNat, Nat.reduceShiftRight, Nat.reduceAnd, Nat.reduceBneDiff, Nat.reduceBNe, c42r14, semI.eq_3, semI.eq_5, semI.eq_7, glP.eq_1]
      refine GoD1.of (sem_iadrA (by rfl) (by rfl) (by rfl)) ?_
      simp only [wz, wd, ws, Nat.reduceAdd, Nat.reduceSub, Nat.reduceMul, Nat.reduceLeDiff, Nat.reduceEqDiff, Nat.reduceLT, Nat.reduceBEq, reduceIte, reduceCtorEq, Int.reduceToNat, Nat.reduceShiftRight, Nat.reduceAnd, Nat.reduceBneDiff, Nat.reduceBNe, c42r14, semI.eq_3, semI.eq_5, semI.eq_7, glP.eq_1]
      repeat (refine And.intro ?_ ?_; · first | omega | (intro q; simp only [wz, wd, ws, Nat.reduceAdd, Nat.reduceSub, Nat.reduceMul, Nat.reduceLeDiff, Nat.reduceEqDiff, Nat.reduceLT, Nat.reduceBEq, reduceIte, reduceCtorEq, Int.reduceToNat, Nat.reduceShiftRight, Nat.reduceAnd, Nat.reduceBneDiff, Nat.reduceBNe, q]; done))
      obtain ⟨x5, e25, h⟩ := Option.bind_eq_some_iff.1 h
      refine GoD1.of (sem_loadA1 (eI_len _) e25 (by rfl) (by rfl) (by rfl)) ?_
      simp only [wz, wd, ws, Nat.reduceAdd, Nat.reduceSub, Nat.reduceMul, Nat.reduceLeDiff, Nat.reduceEqDiff, Nat.reduceLT, Nat.reduceBEq, reduceIte, reduceCtorEq, Int.reduceToNat, Nat.reduceShiftRight, Nat.reduceAnd, Nat.reduceBneDiff, Nat.reduceBNe, c42r14, semI.eq_3, semI.eq_5, semI.eq_7, glP.eq_1]
      obtain ⟨g26, h⟩ := gd_iff.1 h
      refine GoD1.of (sem_iadrR (cs := (g_digest_keys.map (eI .u32)).flatten) (by rfl) (by rfl)) ?_
      simp only [wz, wd, ws, Nat.reduceAdd, Nat.reduceSub, Nat.reduceMul, Nat.reduceLeDiff, Nat.reduceEqDiff, Nat.reduceLT, Nat.reduceBEq, reduceIte, reduceCtorEq, Int.reduceToNat, Nat.reduceShiftRight, Nat.reduceAnd, Nat.reduceBneDiff, Nat.reduceBNe, c42r14, semI.eq_3, semI.eq_5, semI.eq_7, glP.eq_1]
      repeat (refine And.intro ?_ ?_; · first | omega | (intro q; simp only [wz, wd, ws, Nat.reduceAdd, Nat.reduceSub, Nat.reduceMul, Nat.reduceLeDiff, Nat.reduceEqDiff, Nat.reduceLT, Nat.reduceBEq, reduceIte, reduceCtorEq, Int.reduceToNat, Nat.reduceShiftRight, Nat.reduceAnd, Nat.reduceBneDiff, Nat.reduceBNe, q]; done))
      obtain ⟨x6, e27, h⟩ := Option.bind_eq_some_iff.1 h
      refine GoD1.of (sem_loadR1 (eI_len _) e27 (by rfl) (by rfl)) ?_
      simp only [wz, wd, ws, Nat.reduceAdd, Nat.reduceSub, Nat.reduceMul, Nat.reduceLeDiff, Nat.reduceEqDiff, Nat.reduceLT, Nat.reduceBEq, reduceIte, reduceCtorEq, Int.reduceToNat, Nat.reduceShiftRight, Nat.reduceAnd, Nat.reduceBneDiff, Nat.reduceBNe, c42r14, semI.eq_3, semI.eq_5, semI.eq_7, glP.eq_1]
      obtain ⟨g28, h⟩ := gd_iff.1 h
      refine GoD1.of (sem_iadrA (by rfl) (by rfl) (by rfl)) ?_
      simp only [wz, wd, ws, Nat.reduceAdd, Nat.reduceSub, Nat.reduceMul, Nat.reduceLeDiff, Nat.reduceEqDiff, Nat.reduceLT, Nat.reduceBEq, reduceIte, reduceCtorEq, Int.reduceToNat, Nat.reduceShiftRight, Nat.reduceAnd, Nat.reduceBneDiff, Nat.reduceBNe, c42r14, semI.eq_3, semI.eq_5, semI.eq_7, glP.eq_1]
      repeat (refine And.intro ?_ ?_; · first | omega | (intro q; simp only [wz, wd, ws, Nat.reduceAdd, Nat.reduceSub, Nat.reduceMul, Nat.reduceLeDiff, Nat.reduceEqDiff, Nat.reduceLT, Nat.reduceBEq, reduceIte, reduceCtorEq, Int.reduceToNat, Nat.reduceShiftRight, Nat.reduceAnd, Nat.reduceBneDiff, Nat.reduceBNe, q]; done))
      obtain ⟨x7, e29, h⟩ := Option.bind_eq_some_iff.1 h
      refine GoD1.of (sem_loadA1 (eI_len _) e29 (by rfl) (by rfl) (by rfl)) ?_
      simp only [wz, wd, ws, Nat.reduceAdd, Nat.reduceSub, Nat.reduceMul, Nat.reduceLeDiff, Nat.reduceEqDiff, Nat.reduceLT, Nat.reduceBEq, reduceIte, reduceCtorEq, Int.reduceToNat, Nat.reduceShiftRight, Nat.reduceAnd, Nat.reduceBneDiff, Nat.reduceBNe, c42r14, semI.eq_3, semI.eq_5, semI.eq_7, glP.eq_1]
      obtain ⟨first, e30, h⟩ := Option.bind_eq_some_iff.1 h
      replace e30 := Option.some.inj e30
      first | simp only [e30] | (simp only [wz, wd, ws, Nat.reduceAdd, Nat.reduceSub, Nat.reduceMul, Nat.reduceLeDiff, Nat.reduceEqDiff, Nat.reduceLT, Nat.reduceBEq, reduceIte, reduceCtorEq, Int.reduceToNat, Nat.reduceShiftRight, Nat.reduceAnd, Nat.reduceBneDiff, Nat.reduceBNe] at e30; simp only [e30])
      refine .seq ?_
      refine RwD.walk ?_
      simp only [wz, wd, ws, Nat.reduceAdd, Nat.reduceSub, Nat.reduceMul, Nat.reduceLeDiff, Nat.reduceEqDiff, Nat.reduceLT, Nat.reduceBEq, reduceIte, reduceCtorEq, Int.reduceToNat, Nat.reduceShiftRight, Nat.reduceAnd, Nat.reduceBneDiff, Nat.reduceBNe, c42r15, semI.eq_3, semI.eq_5, semI.eq_7]
      obtain ⟨t2, e31, h⟩ := Option.bind_eq_some_iff.1 h
      refine call_fun [] false ⟨trivial, trivial, trivial, trivial, trivial, trivial, trivial⟩ rfl ?_ (f_digest_mixed_ok _ _ _ _ _ _ e31) (fun _ => rfl) (fun i hi => by cases hi) ?_
      · simp only [wz, wd, ws, Nat.reduceAdd, Nat.reduceSub, Nat.reduceMul, Nat.reduceLeDiff, Nat.reduceEqDiff, Nat.reduceLT, Nat.reduceBEq, reduceIte, reduceCtorEq, Int.reduceToNat, Nat.reduceShiftRight, Nat.reduceAnd, Nat.reduceBneDiff, Nat.reduceBNe]
      simp only [wz, wd, ws, Nat.reduceAdd, Nat.reduceSub, Nat.reduceMul, Nat.reduceLeDiff, Nat.reduceEqDiff, Nat.reduceLT, Nat.reduceBEq, reduceIte, reduceCtorEq, Int.reduceToNat, Nat.reduceShiftRight, Nat.reduceAnd, Nat.reduceBneDiff, Nat.reduceBNe, c42r15, semI.eq_3, semI.eq_5, semI.eq_7]
      refine GoD1.of (sem_iadrA (by rfl) (by rfl) (by rfl)) ?_
      simp only [wz, wd, ws, Nat.reduceAdd, Nat.reduceSub, Nat.reduceMul, Nat.reduceLeDiff, Nat.reduceEqDiff, Nat.reduceLT, Nat.reduceBEq, reduceIte, reduceCtorEq, Int.reduceToNat, Nat.reduceShiftRight, Nat.reduceAnd, Nat.reduceBneDiff, Nat.reduceBNe, c42r15, semI.eq_3, semI.eq_5, semI.eq_7]
      repeat (refine And.intro ?_ ?_; · first | omega | (intro q; simp only [wz, wd, ws, Nat.reduceAdd, Nat.reduceSub, Nat.reduceMul, Nat.reduceLeDiff, Nat.reduceEqDiff, Nat.reduceLT, Nat.reduceBEq, reduceIte, reduceCtorEq, Int.reduceToNat, Nat.reduceShiftRight, Nat.reduceAnd, Nat.reduceBneDiff, Nat.reduceBNe, q]; done))
      obtain ⟨x8, e32, h⟩ := Option.bind_eq_some_iff.1 h
      refine GoD1.of (sem_loadA1 (eI_len _) e32 (by rfl) (by rfl) (by rfl)) ?_
      simp only [wz, wd, ws, Nat.reduceAdd, Nat.reduceSub, Nat.reduceMul, Nat.reduceLeDiff, Nat.reduceEqDiff, Nat.reduceLT, Nat.reduceBEq, reduceIte, reduceCtorEq, Int.reduceToNat, Nat.reduceShiftRight, Nat.reduceAnd, Nat.reduceBneDiff, Nat.reduceBNe, c42r15, semI.eq_3, semI.eq_5, semI.eq_7]
      refine GoD1.of (sem_iadrA (by rfl) (by rfl) (by rfl)) ?_
      simp only [wz, wd, ws, Nat.reduceAdd, Nat.reduceSub, Nat.reduceMul, Nat.reduceLeDiff, Nat.reduceEqDiff, Nat.reduceLT, Nat.reduceBEq, reduceIte, reduceCtorEq, Int.reduceToNat, Nat.reduceShiftRight, Nat.reduceAnd, Nat.reduceBneDiff, Nat.reduceBNe, c42r15, semI.eq_3, semI.eq_5, semI.eq_7]
      repeat (refine And.intro ?_ ?_; · first | omega | (intro q; simp only [wz, wd, ws, Nat.reduceAdd, Nat.reduceSub, Nat.reduceMul, Nat.reduceLeDiff, Nat.reduceEqDiff, Nat.reduceLT, Nat.reduceBEq, reduceIte, reduceCtorEq, Int.reduceToNat, Nat.reduceShiftRight, Nat.reduceAnd, Nat.reduceBneDiff, Nat.reduceBNe, q]; done))
      obtain ⟨x9, e33, h⟩ := Option.bind_eq_some_iff.1 h
      refine GoD1.of (sem_loadA1 (eI_len _) e33 (by rfl) (by rfl) (by rfl)) ?_
      simp only [wz, wd, ws, Nat.reduceAdd, Nat.reduceSub, Nat.reduceMul, Nat.reduceLeDiff, Nat.reduceEqDiff, Nat.reduceLT, Nat.reduceBEq, reduceIte, reduceCtorEq, Int.reduceToNat, Nat.reduceShiftRight, Nat.reduceAnd, Nat.reduceBneDiff, Nat.reduceBNe, c42r15, semI.eq_3, semI.eq_5, semI.eq_7]
      refine GoD1.of (sem_iadrA (by rfl) (by rfl) (by rfl)) ?_
      simp only [wz, wd, ws, Nat.reduceAdd, Nat.reduceSub, Nat.reduceMul, Nat.reduceLeDiff, Nat.reduceEqDiff, Nat.reduceLT, Nat.reduceBEq, reduceIte, reduceCtorEq, Int.reduceToNat, Nat.reduceShiftRight, Nat.reduceAnd, Nat.reduceBneDiff, Nat.reduceBNe, c42r15, semI.eq_3, semI.eq_5, semI.eq_7]
      repeat (refine And.intro ?_ ?_; · first | omega | (intro q; simp only [wz, wd, ws, Nat.reduceAdd, Nat.reduceSub, Nat.reduceMul, Nat.reduceLeDiff, Nat.reduceEqDiff, Nat.reduceLT, Nat.reduceBEq, reduceIte, reduceCtorEq, Int.reduceToNat, Nat.reduceShiftRight, Nat.reduceAnd, Nat.reduceBneDiff, Nat.reduceBNe, q]; done))
      obtain ⟨x10, e34, h⟩ := Option.bind_eq_some_iff.1 h
      refine GoD1.of (sem_loadA1 (eI_len _) e34 (by rfl) (by rfl) (by rfl)) ?_
      simp only [wz, wd, ws, Nat.reduceAdd, Nat.reduceSub, Nat.reduceMul, Nat.reduceLeDiff, Nat.reduceEqDiff, Nat.reduceLT, Nat.reduceBEq, reduceIte, reduceCtorEq, Int.reduceToNat, Nat.reduceShiftRight, Nat.reduceAnd, Nat.reduceBneDiff, Nat.reduceBNe, c42r15, semI.eq_3, semI.eq_5, semI.eq_7]
      refine GoD1.of (sem_iadrA (by rfl) (by rfl) (by rfl)) ?_
      simp only [wz, wd, ws, Nat.reduceAdd, Nat.reduceSub, Nat.reduceMul, Nat.reduceLeDiff, Nat.reduceEqDiff, Nat.reduceLT, Nat.reduceBEq, reduceIte, reduceCtorEq, Int.reduceToNat, Nat.reduceShiftRight, Nat.reduceAnd, Nat.reduceBneDiff, Nat.reduceBNe, c42r15, semI.eq_3, semI.eq_5, semI.eq_7]
      repeat (refine And.intro ?_ ?_; · first | omega | (intro q; simp only [wz, wd, ws, Nat.reduceAdd, Nat.reduceSub, Nat.reduceMul, Nat.reduceLeDiff, Nat.reduceEqDiff, Nat.reduceLT, Nat.reduceBEq, reduceIte, reduceCtorEq, Int.reduceToNat, Nat.reduceShiftRight, Nat.reduceAnd, Nat.reduceBneDiff, Nat.reduceBNe, q]; done))
      obtain ⟨x11, e35, h⟩ := Option.bind_eq_some_iff.1 h
      refine GoD1.of (sem_loadA1 (eI_len _) e35 (by rfl) (by rfl) (by rfl)) ?_
      simp only [wz, wd, ws, Nat.reduceAdd, Nat.reduceSub, Nat.reduceMul, Nat.reduceLeDiff, Nat.reduceEqDiff, Nat.reduceLT, Nat.reduceBEq, reduceIte, reduceCtorEq, Int.reduceToNat, Nat.reduceShiftRight, Nat.reduceAnd, Nat.reduceBneDiff, Nat.reduceBNe, c42r15, semI.eq_3, semI.eq_5, semI.eq_7]
      obtain ⟨second, e36, h⟩ := Option.bind_eq_some_iff.1 h
      replace e36 := Option.some.inj e36
      first | simp only [e36] | (simp only [wz, wd, ws, Nat.reduceAdd, Nat.reduceSub, Nat.reduceMul, Nat.reduceLeDiff, Nat.reduceEqDiff, Nat.reduceLT, Nat.reduceBEq, reduceIte, reduceCtorEq, Int.reduceToNat, Nat.reduceShiftRight, Nat.reduceAnd, Nat.reduceBneDiff, Nat.reduceBNe] at e36; simp only [e36])
      refine Rw.walk ?_
      simp only [wz, wd, ws, Nat.reduceAdd, Nat.reduceSub, Nat.reduceMul, Nat.reduceLeDiff, Nat.reduceEqDiff, Nat.reduceLT, Nat.reduceBEq, reduceIte, reduceCtorEq, Int.reduceToNat, Nat.reduceShiftRight, Nat.reduceAnd, Nat.reduceBneDiff, Nat.reduceBNe, c42r16]
      refine Go1.of (sem_iadrA (by rfl) (by rfl) (by rfl)) ?_
      simp only [wz, wd, ws, Nat.reduceAdd, Nat.reduceSub, Nat.reduceMul, Nat.reduceLeDiff, Nat.reduceEqDiff, Nat.reduceLT, Nat.reduceBEq, reduceIte, reduceCtorEq, Int.reduceToNat, Nat.reduceShiftRight, Nat.reduceAnd, Nat.reduceBneDiff, Nat.reduceBNe, c42r16]
      repeat (refine And.intro ?_ ?_; · first | omega | (intro q; simp only [wz, wd, ws, Nat.reduceAdd, Nat.reduceSub, Nat.reduceMul, Nat.reduceLeDiff, Nat.reduceEqDiff, Nat.reduceLT, Nat.reduceBEq, reduceIte, reduceCtorEq, Int.reduceToNat, Nat.reduceShiftRight, Nat.reduceAnd, Nat.reduceBneDiff, Nat.reduceBNe, q]; done))
      obtain ⟨x12, e37, h⟩ := Option.bind_eq_some_iff.1 h
      refine Go1.of (sem_loadA1 (eI_len _) e37 (by rfl) (by rfl) (by rfl)) ?_
      simp only [wz, wd, ws, Nat.reduceAdd, Nat.reduceSub, Nat.reduceMul, Nat.reduceLeDiff, Nat.reduceEqDiff, Nat.reduceLT, Nat.reduceBEq, reduceIte, reduceCtorEq, Int.reduceToNat, Nat.reduceShiftRight, Nat.reduceAnd, Nat.reduceBneDiff, Nat.reduceBNe, c42r16]
      refine Go1.of (sem_iadrA (by rfl) (by rfl) (by rfl)) ?_
      simp only [wz, wd, ws, Nat.reduceAdd, Nat.reduceSub, Nat.reduceMul, Nat.reduceLeDiff, Nat.reduceEqDiff, Nat.reduceLT, Nat.reduceBEq, reduceIte, reduceCtorEq, Int.reduceToNat, Nat.reduceShiftRight, Nat.reduceAnd, Nat.reduceBneDiff, Nat.reduceBNe, c42r16]
      repeat (refine And.intro ?_ ?_; · first | omega | (intro q; simp only [wz, wd, ws, Nat.reduceAdd, Nat.reduceSub, Nat.reduceMul, Nat.reduceLeDiff, Nat.reduceEqDiff, Nat.reduceLT, Nat.reduceBEq, reduceIte, reduceCtorEq, Int.reduceToNat, Nat.reduceShiftRight, Nat.reduceAnd, Nat.reduceBneDiff, Nat.reduceBNe, q]; done))
      obtain ⟨x13, e38, h⟩ := Option.bind_eq_some_iff.1 h
      refine Go1.of (sem_loadA1 (eI_len _) e38 (by rfl) (by rfl) (by rfl)) ?_
      simp only [wz, wd, ws, Nat.reduceAdd, Nat.reduceSub, Nat.reduceMul, Nat.reduceLeDiff, Nat.reduceEqDiff, Nat.reduceLT, Nat.reduceBEq, reduceIte, reduceCtorEq, Int.reduceToNat, Nat.reduceShiftRight, Nat.reduceAnd, Nat.reduceBneDiff, Nat.reduceBNe, c42r16]
      refine Go1.of (sem_iadrA (by rfl) (by rfl) (by rfl)) ?_
      simp only [wz, wd, ws, Nat.reduceAdd, Nat.reduceSub, Nat.reduceMul, Nat.reduceLeDiff, Nat.reduceEqDiff, Nat.reduceLT, Nat.reduceBEq, reduceIte, reduceCtorEq, Int.reduceToNat, Nat.reduceShiftRight, Nat.reduceAnd, Nat.reduceBneDiff, Nat.reduceBNe, c42r16]
      repeat (refine And.intro ?_ ?_; · first | omega | (intro q; simp only [wz, wd, ws, Nat.reduceAdd, Nat.reduceSub, Nat.reduceMul, Nat.reduceLeDiff, Nat.reduceEqDiff, Nat.reduceLT, Nat.reduceBEq, reduceIte, reduceCtorEq, Int.reduceToNat, Nat.reduceShiftRight, Nat.reduceAnd, Nat.reduceBneDiff, Nat.reduceBNe, q]; done))
      obtain ⟨x14, e39, h⟩ := Option.bind_eq_some_iff.1 h
      refine Go1.of (sem_loadA1 (eI_len _) e39 (by rfl) (by rfl) (by rfl)) ?_
      simp only [wz, wd, ws, Nat.reduceAdd, Nat.reduceSub, Nat.reduceMul, Nat.reduceLeDiff, Nat.reduceEqDiff, Nat.reduceLT, Nat.reduceBEq, reduceIte, reduceCtorEq, Int.reduceToNat, Nat.reduceShiftRight, Nat.reduceAnd, Nat.reduceBneDiff, Nat.reduceBNe, c42r16]
      refine Go1.of (sem_iadrA (by rfl) (by rfl) (by rfl)) ?_
      simp only [wz, wd, ws, Nat.reduceAdd, Nat.reduceSub, Nat.reduceMul, Nat.reduceLeDiff, Nat.reduceEqDiff, Nat.reduceLT, Nat.reduceBEq, reduceIte, reduceCtorEq, Int.reduceToNat, Nat.reduceShiftRight, Nat.reduceAnd, Nat.reduceBneDiff, Nat.reduceBNe, c42r16]
      repeat (refine And.intro ?_ ?_; · first | omega | (intro q; simp only [wz, wd, ws, Nat.reduceAdd, Nat.reduceSub, Nat.reduceMul, Nat.reduceLeDiff, Nat.reduceEqDiff, Nat.reduceLT, Nat.reduceBEq, reduceIte, reduceCtorEq, Int.reduceToNat, Nat.reduceShiftRight, Nat.reduceAnd, Nat.reduceBneDiff, Nat.reduceBNe, q]; done))
      obtain ⟨x15, e40, h⟩ := Option.bind_eq_some_iff.1 h
      refine Go1.of (sem_loadA1 (eI_len _) e40 (by rfl) (by rfl) (by rfl)) ?_
      simp only [wz, wd, ws, Nat.reduceAdd, Nat.reduceSub, Nat.reduceMul, Nat.reduceLeDiff, Nat.reduceEqDiff, Nat.reduceLT, Nat.reduceBEq, reduceIte, reduceCtorEq, Int.reduceToNat, Nat.reduceShiftRight, Nat.reduceAnd, Nat.reduceBneDiff, Nat.reduceBNe, c42r16]
      refine Go1.of (sem_iadrA (by rfl) (by rfl) (by rfl)) ?_
      simp only [wz, wd, ws, Nat.reduceAdd, Nat.reduceSub, Nat.reduceMul, Nat.reduceLeDiff, Nat.reduceEqDiff, Nat.reduceLT, Nat.reduceBEq, reduceIte, reduceCtorEq, Int.reduceToNat, Nat.reduceShiftRight, Nat.reduceAnd, Nat.reduceBneDiff, Nat.reduceBNe, c42r16]
      repeat (refine And.intro ?_ ?_; · first | omega | (intro q; simp only [wz, wd, ws, Nat.reduceAdd, Nat.reduceSub, Nat.reduceMul, Nat.reduceLeDiff, Nat.reduceEqDiff, Nat.reduceLT, Nat.reduceBEq, reduceIte, reduceCtorEq, Int.reduceToNat, Nat.reduceShiftRight, Nat.reduceAnd, Nat.reduceBneDiff, Nat.reduceBNe, q]; done))
      obtain ⟨x16, e41, h⟩ := Option.bind_eq_some_iff.1 h
      refine Go1.of (sem_loadA1 (eI_len _) e41 (by rfl) (by rfl) (by rfl)) ?_
      simp only [wz, wd, ws, Nat.reduceAdd, Nat.reduceSub, Nat.reduceMul, Nat.reduceLeDiff, Nat.reduceEqDiff, Nat.reduceLT, Nat.reduceBEq, reduceIte, reduceCtorEq, Int.reduceToNat, Nat.reduceShiftRight, Nat.reduceAnd, Nat.reduceBneDiff, Nat.reduceBNe, c42r16]
      refine Go1.of (sem_buildA (enc := (eI .u32)) (l := ([(IntKind.u32.wrap (first + second)), x, x12, x13, (IntKind.u32.wrap (x14 + first)), x2, x15, x16] : (List Int))) (by simp only [wz, wd, ws, Nat.reduceAdd, Nat.reduceSub, Nat.reduceMul, Nat.reduceLeDiff, Nat.reduceEqDiff, Nat.reduceLT, Nat.reduceBEq, reduceIte, reduceCtorEq, Int.reduceToNat, Nat.reduceShiftRight, Nat.reduceAnd, Nat.reduceBneDiff, Nat.reduceBNe]) (by simp only [wz, wd, ws, Nat.reduceAdd, Nat.reduceSub, Nat.reduceMul, Nat.reduceLeDiff, Nat.reduceEqDiff, Nat.reduceLT, Nat.reduceBEq, reduceIte, reduceCtorEq, Int.reduceToNat, Nat.reduceShiftRight, Nat.reduceAnd, Nat.reduceBneDiff, Nat.reduceBNe]) (by simp only [wz, wd, ws, Nat.reduceAdd, Nat.reduceSub, Nat.reduceMul, Nat.reduceLeDiff, Nat.reduceEqDiff, Nat.reduceLT, Nat.reduceBEq, reduceIte, reduceCtorEq, Int.reduceToNat, Nat.reduceShiftRight, Nat.reduceAnd, Nat.reduceBneDiff, Nat.reduceBNe, ea_nil, ea_cons])) ?_
      simp only [wz, wd, ws, Nat.reduceAdd, Nat.reduceSub, Nat.reduceMul, Nat.reduceLeDiff, Nat.reduceEqDiff, Nat.reduceLT, Nat.reduceBEq, reduceIte, reduceCtorEq, Int.reduceToNat, Nat.reduceShiftRight, Nat.reduceAnd, Nat.reduceBneDiff, Nat.reduceBNe, c42r16]
      obtain ⟨g42, h⟩ := gd_iff.1 h
      refine Go1.of (sem_storeW (l := v) (m := ([(IntKind.u32.wrap (first + second)), x, x12, x13, (IntKind.u32.wrap (x14 + first)), x2, x15, x16] : (List Int))) (n0 := 8) (eI_len _) (by rfl) (by rfl) (by rfl) (by first | exact g42 | exact Eq.refl _) (by rfl) (by first | exact trivial | exact Eq.refl _)) ?_
      simp only [wz, wd, ws, Nat.reduceAdd, Nat.reduceSub, Nat.reduceMul, Nat.reduceLeDiff, Nat.reduceEqDiff, Nat.reduceLT, Nat.reduceBEq, reduceIte, reduceCtorEq, Int.reduceToNat, Nat.reduceShiftRight, Nat.reduceAnd, Nat.reduceBneDiff, Nat.reduceBNe, c42r16]
      refine .eblk ?_
      refine Rw.walk ?_
      simp only [wz, wd, ws, Nat.reduceAdd, Nat.reduceSub, Nat.reduceMul, Nat.reduceLeDiff, Nat.reduceEqDiff, Nat.reduceLT, Nat.reduceBEq, reduceIte, reduceCtorEq, Int.reduceToNat, Nat.reduceShiftRight, Nat.reduceAnd, Nat.reduceBneDiff, Nat.reduceBNe, c42r17, semI.eq_10, semI.eq_11, semI.eq_3, semI.eq_5, semI.eq_7]
      refine .lp ?_
      refine .weak (Imp.co [] _ _ ?_ ?_ ?_ ?_ ?_) (ih (IntKind.i64.wrap (v51 + 1)) ([(IntKind.u32.wrap (first + second)), x, x12, x13, (IntKind.u32.wrap (x14 + first)), x2, x15, x16] : (List Int)) _ h k_ hx) <;> simp only [wz, wd, ws, Nat.reduceAdd, Nat.reduceSub, Nat.reduceMul, Nat.reduceLeDiff, Nat.reduceEqDiff, Nat.reduceLT, Nat.reduceBEq, reduceIte, reduceCtorEq, Int.reduceToNat, Nat.reduceShiftRight, Nat.reduceAnd, Nat.reduceBneDiff, Nat.reduceBNe, wi, er_nil]
    · rw [ite_f h1] at h
      refine .exit rfl ?_
      obtain rfl := Option.some.inj h
      refine .weak (Imp.co [] _ _ ?_ ?_ ?_ ?_ ?_) (hx _ rfl) <;> simp only [wz, wd, ws, Nat.reduceAdd, Nat.reduceSub, Nat.reduceMul, Nat.reduceLeDiff, Nat.reduceEqDiff, Nat.reduceLT, Nat.reduceBEq, reduceIte, reduceCtorEq, Int.reduceToNat, Nat.reduceShiftRight, Nat.reduceAnd, Nat.reduceBneDiff, Nat.reduceBNe, wi, er_nil]
theorem f_digest_over_l25_ok (s : Str) (s3 : Int × (List Int)) (y_ : (List Int)) (R_ : St → Prop) (hR : (Ret Tryd.prog glP [] rv42 (.b (.agg (ea (eI .u32) y_)))) = R_) : ∀ (m_ : Nat) (v119 : Int) (hv2 : (List Int)) (res_ : Int × (List Int)) (h : f_digest_over_l25 s s3 m_ v119 hv2 = some res_) (k_ : List It) (hx : ∀ s_ : Int × (List Int), res_ = s_ → W Tryd.prog glP 132 k_ ⟨lkT [(2, .b (.s (.ptr 2 1 0 0))), (4, .b (.s (.ptr 4 1 0 0))), (7, .b (.s (.ptr 7 1 0 0))), (119, .b (.s (.d (.int .i64 s_.1))))], lkG [(2, ⟨8, [ea (eI .u32) s_.2], false⟩), (4, ⟨8, [ea (eI .u32) (List.replicate 8 0)], false⟩), (7, ⟨8, [ea (eI .u32) s3.2], false⟩)]⟩ R_), W Tryd.prog glP 132 (.c c42l25 :: .lp c42l25 :: .blk 4 :: k_) ⟨lkT [(2, .b (.s (.ptr 2 1 0 0))), (4, .b (.s (.ptr 4 1 0 0))), (7, .b (.s (.ptr 7 1 0 0))), (119, .b (.s (.d (.int .i64 v119))))], lkG [(2, ⟨8, [ea (eI .u32) hv2], false⟩), (4, ⟨8, [ea (eI .u32) (List.replicate 8 0)], false⟩), (7, ⟨8, [ea (eI .u32) s3.2], false⟩)]⟩ R_ := by
  intro m_; induction m_ with
  | zero => intro v119 hv2 res_ h; rw [f_digest_over_l25.eq_1] at h; cases h
  | succ m_ ih =>
    intro v119 hv2 res_ h k_ hx; rw [f_digest_over_l25.eq_2] at h; refine W.cdef c42l25.eq_1 ?_
    refine .seq ?_
    refine Rw.walk ?_
    simp only [wz, wd, ws, Nat.reduceAdd, Nat.reduceSub, Nat.reduceMul, Nat.reduceLeDiff, Nat.reduceEqDiff, Nat.reduceLT, Nat.reduceBEq, reduceIte, reduceCtorEq, Int.reduceToNat, Nat.reduceShiftRight, Nat.reduceAnd, Nat.reduceBneDiff, Nat.reduceBNe, c42r19, semI.eq_10, semI.eq_11, semI.eq_3, semI.eq_5, semI.eq_7]
    refine .seq ?_
    refine .cond (p := (decide (v119 < 8))) (by first | rfl | simp only [wz, wd, ws, Nat.reduceAdd, Nat.reduceSub, Nat.reduceMul, Nat.reduceLeDiff, Nat.reduceEqDiff, Nat.reduceLT, Nat.reduceBEq, reduceIte, reduceCtorEq, Int.reduceToNat, Nat.reduceShiftRight, Nat.reduceAnd, Nat.reduceBneDiff, Nat.reduceBNe]) (fun h1 => ?_) (fun h1 => ?_)
    · rw [ite_t h1] at h
      refine .skip ?_
      refine .seq ?_
      refine .blk ?_
      refine .seq ?_
      refine Rw.walk ?_
      simp only [wz, wd, ws, Nat.reduceAdd, Nat.reduceSub, Nat.reduceMul, Nat.reduceLeDiff, Nat.reduceEqDiff, Nat.reduceLT, Nat.reduceBEq, reduceIte, reduceCtorEq, Int.reduceToNat, Nat.reduceShiftRight, Nat.reduceAnd, Nat.reduceBneDiff, Nat.reduceBNe, c42r20, semI.eq_10, semI.eq_11, semI.eq_3, semI.eq_5, semI.eq_7]
      refine RwD.walk ?_
      simp only [wz, wd, ws, Nat.reduceAdd, Nat.reduceSub, Nat.reduceMul, Nat.reduceLeDiff, Nat.reduceEqDiff, Nat.reduceLT, Nat.reduceBEq, reduceIte, reduceCtorEq, Int.reduceToNat, Nat.reduceShiftRight, Nat.reduceAnd, Nat.reduceBneDiff, Nat.reduceBNe, c42r21, semI.eq_3, semI.eq_5, semI.eq_7]
      obtain ⟨g43, h⟩ := gd_iff.1 h
      refine GoD1.of (sem_iadrA (by rfl) (by rfl) (by rfl)) ?_
      simp only [wz, wd, ws, Nat.reduceAdd, Nat.reduceSub, Nat.reduceMul, Nat.reduceLeDiff, Nat.reduceEqDiff, Nat.reduceLT, Nat.reduceBEq, reduceIte, reduceCtorEq, Int.reduceToNat, Nat.reduceShiftRight, Nat.reduceAnd, Nat.reduceBneDiff, Nat.reduceBNe, c42r21, semI.eq_3, semI.eq_5, semI.eq_7]
      repeat (refine And.intro ?_ ?_; · first | omega | (intro q; simp only [wz, wd, ws, Nat.reduceAdd, Nat.reduceSub, Nat.reduceMul, Nat.reduceLeDiff, Nat.reduceEqDiff, Nat.reduceLT, Nat.reduceBEq, reduceIte, reduceCtorEq, Int.reduceToNat, Nat.reduceShiftRight, Nat.reduceAnd, Nat.reduceBneDiff, Nat.reduceBNe, q]; done))
      obtain ⟨x, e44, h⟩ := Option.bind_eq_some_iff.1 h
      refine GoD1.of (sem_loadA1 (eI_len _) e44 (by rfl) (by rfl) (by rfl)) ?_
      simp only [wz, wd, ws, Nat.reduceAdd, Nat.reduceSub, Nat.reduceMul, Nat.reduceLeDiff, Nat.reduceEqDiff, Nat.reduceLT, Nat.reduceBEq, reduceIte, reduceCtorEq, Int.reduceToNat, Nat.reduceShiftRight, Nat.reduceAnd, Nat.reduceBneDiff, Nat.reduceBNe, c42r21, semI.eq_3, semI.eq_5, semI.eq_7]
      obtain ⟨g45, h⟩ := gd_iff.1 h
      refine GoD1.of (sem_iadrA (by rfl) (by rfl) (by rfl)) ?_
      simp only [wz, wd, ws, Nat.reduceAdd, Nat.reduceSub, Nat.reduceMul, Nat.reduceLeDiff, Nat.reduceEqDiff, Nat.reduceLT, Nat.reduceBEq, reduceIte, reduceCtorEq, Int.reduceToNat, Nat.reduceShiftRight, Nat.reduceAnd, Nat.reduceBneDiff, Nat.reduceBNe, c42r21, semI.eq_3, semI.eq_5, semI.eq_7]
      repeat (refine And.intro ?_ ?_; · first | omega | (intro q; simp only [wz, wd, ws, Nat.reduceAdd, Nat.reduceSub, Nat.reduceMul, Nat.reduceLeDiff, Nat.reduceEqDiff, Nat.reduceLT, Nat.reduceBEq, reduceIte, reduceCtorEq, Int.reduceToNat, Nat.reduceShiftRight, Nat.reduceAnd, Nat.reduceBneDiff, Nat.reduceBNe, q]; done))
      obtain ⟨x2, e46, h⟩ := Option.bind_eq_some_iff.1 h
      refine GoD1.of (sem_loadA1 (eI_len _) e46 (by rfl) (by rfl) (by rfl)) ?_
      simp only [wz, wd, ws, Nat.reduceAdd, Nat.reduceSub, Nat.reduceMul, Nat.reduceLeDiff, Nat.reduceEqDiff, Nat.reduceLT, Nat.reduceBEq, reduceIte, reduceCtorEq, Int.reduceToNat, Nat.reduceShiftRight, Nat.reduceAnd, Nat.reduceBneDiff, Nat.reduceBNe, c42r21, semI.eq_3, semI.eq_5, semI.eq_7]
      obtain ⟨g47, h⟩ := gd_iff.1 h
      refine GoD1.of (sem_iadrA (by rfl) (by rfl) (by rfl)) ?_
      simp only [wz, wd, ws, Nat.reduceAdd, Nat.reduceSub, Nat.reduceMul, Nat.reduceLeDiff, Nat.reduceEqDiff, Nat.reduceLT, Nat.reduceBEq, reduceIte, reduceCtorEq, Int.reduceToNat, Nat.reduceShiftRight, Nat.reduceAnd, Nat.reduceBneDiff, Nat.reduceBNe, c42r21, semI.eq_3, semI.eq_5, semI.eq_7]
      repeat (refine And.intro ?_ ?_; · first | omega | (intro q; simp only [wz, wd, ws, Nat.reduceAdd, Nat.reduceSub, Nat.reduceMul, Nat.reduceLeDiff, Nat.reduceEqDiff, Nat.reduceLT, Nat.reduceBEq, reduceIte, reduceCtorEq, Int.reduceToNat, Nat.reduceShiftRight, Nat.reduceAnd, Nat.reduceBneDiff, Nat.reduceBNe, q]; done))
      obtain ⟨g48, h⟩ := gd_iff.1 h
      refine GoD1.of (sem_storeA (enc := (eI .u32)) (a' := (IntKind.u32.wrap (x + x2))) (i := v119) (eI_len _) (by rfl) (by rfl) (by omega) (by omega) (by rfl) (by trivial) (by rfl)) ?_
      simp only [wz, wd, ws, Nat.reduceAdd, Nat.reduceSub, Nat.reduceMul, Nat.reduceLeDiff, Nat.reduceEqDiff, Nat.reduceLT, Nat.reduceBEq, reduceIte, reduceCtorEq, Int.reduceToNat, Nat.reduceShiftRight, Nat.reduceAnd, Nat.reduceBneDiff, Nat.reduceBNe, c42r21, semI.eq_3, semI.eq_5, semI.eq_7]
      refine .eblk ?_
      refine Rw.walk ?_
      simp only [wz, wd, ws, Nat.reduceAdd, Nat.reduceSub, Nat.reduceMul, Nat.reduceLeDiff, Nat.reduceEqDiff, Nat.reduceLT, Nat.reduceBEq, reduceIte, reduceCtorEq, Int.reduceToNat, Nat.reduceShiftRight, Nat.reduceAnd, Nat.reduceBneDiff, Nat.reduceBNe, c42r22, semI.eq_10, semI.eq_11, semI.eq_3, semI.eq_5, semI.eq_7]
      refine .lp ?_
      refine .weak (Imp.co [] _ _ ?_ ?_ ?_ ?_ ?_) (ih (IntKind.i64.wrap (v119 + 1)) (hv2.set v119.toNat (IntKind.u32.wrap (x + x2))) _ h k_ hx) <;> simp only [wz, wd, ws, Nat.reduceAdd, Nat.reduceSub, Nat.reduceMul, Nat.reduceLeDiff, Nat.reduceEqDiff, Nat.reduceLT, Nat.reduceBEq, reduceIte, reduceCtorEq, Int.reduceToNat, Nat.reduceShiftRight, Nat.reduceAnd, Nat.reduceBneDiff, Nat.reduceBNe, wi, er_nil]
    · rw [ite_f h1] at h
      refine .exit rfl ?_
      obtain rfl := Option.some.inj h
      refine .weak (Imp.co [] _ _ ?_ ?_ ?_ ?_ ?_) (hx _ rfl) <;> simp only [wz, wd, ws, Nat.reduceAdd, Nat.reduceSub, Nat.reduceMul, Nat.reduceLeDiff, Nat.reduceEqDiff, Nat.reduceLT, Nat.reduceBEq, reduceIte, reduceCtorEq, Int.reduceToNat, Nat.reduceShiftRight, Nat.reduceAnd, Nat.reduceBneDiff, Nat.reduceBNe, wi, er_nil]
theorem f_digest_over_ok (hv : (List Int)) (s : Str) (y_ : (List Int)) (h : f_digest_over hv s = some y_) : Fun Tryd.prog glP 42 [.b (.agg (ea (eI .u32) hv)), .b (.s (.d (.str s)))] (.b (.agg (ea (eI .u32) y_))) := by
  refine fun_walk [] Tryd.func42 Tryd.ntmps42 cc42 cr42 (by kernel_rfl) (by simp only [List.length_cons, List.length_nil]; decide) ?_
  generalize hR : Ret _ _ _ _ _ = R_
  simp only [wz, wd, ws, Nat.reduceAdd, Nat.reduceSub, Nat.reduceMul, Nat.reduceLeDiff, Nat.reduceEqDiff, Nat.reduceLT, Nat.reduceBEq, reduceIte, reduceCtorEq, Int.reduceToNat, Nat.reduceShiftRight, Nat.reduceAnd, Nat.reduceBneDiff, Nat.reduceBNe]
  unfold f_digest_over at h; unfold c42
  refine .seq ?_
  refine Rw.walk ?_
  simp only [wz, wd, ws, Nat.reduceAdd, Nat.reduceSub, Nat.reduceMul, Nat.reduceLeDiff, Nat.reduceEqDiff, Nat.reduceLT, Nat.reduceBEq, reduceIte, reduceCtorEq, Int.reduceToNat, Nat.reduceShiftRight, Nat.reduceAnd, Nat.reduceBneDiff, Nat.reduceBNe, c42r0, semI.eq_10, semI.eq_11]
  obtain ⟨g1, h⟩ := gd_iff.1 h
  refine Go1.of (sem_boxA (by rfl) (eI_len _) (by first | omega | exact Eq.refl _) (by rfl)) ?_
  simp only [wz, wd, ws, Nat.reduceAdd, Nat.reduceSub, Nat.reduceMul, Nat.reduceLeDiff, Nat.reduceEqDiff, Nat.reduceLT, Nat.reduceBEq, reduceIte, reduceCtorEq, Int.reduceToNat, Nat.reduceShiftRight, Nat.reduceAnd, Nat.reduceBneDiff, Nat.reduceBNe, c42r0, semI.eq_10, semI.eq_11]
  refine Go1.of (sem_newA (enc := (eI .u32)) (l := (List.replicate 8 0)) (by first | rfl | (simp only [List.length_map, List.length_replicate, List.length_set]; rfl)) (by first | rfl | (simp only [List.length_map, List.length_replicate, List.length_set]; rfl)) (by first | rfl | (simp only [List.length_map, List.length_replicate, List.length_set]; rfl))) ?_
  simp only [wz, wd, ws, Nat.reduceAdd, Nat.reduceSub, Nat.reduceMul, Nat.reduceLeDiff, Nat.reduceEqDiff, Nat.reduceLT, Nat.reduceBEq, reduceIte, reduceCtorEq, Int.reduceToNat, Nat.reduceShiftRight, Nat.reduceAnd, Nat.reduceBneDiff, Nat.reduceBNe, c42r0, semI.eq_10, semI.eq_11]
  refine .seq ?_
  refine Rw.walk ?_
  simp only [wz, wd, ws, Nat.reduceAdd, Nat.reduceSub, Nat.reduceMul, Nat.reduceLeDiff, Nat.reduceEqDiff, Nat.reduceLT, Nat.reduceBEq, reduceIte, reduceCtorEq, Int.reduceToNat, Nat.reduceShiftRight, Nat.reduceAnd, Nat.reduceBneDiff, Nat.reduceBNe, c42r1, semI.eq_10, semI.eq_11]
  refine Go1.of (sem_newA (enc := (eI .u32)) (l := (List.replicate 64 0)) (by first | rfl | (simp only [List.length_map, List.length_replicate, List.length_set]; rfl)) (by first | rfl | (simp only [List.length_map, List.length_replicate, List.length_set]; rfl)) (by first | rfl | (simp only [List.length_map, List.length_replicate, List.length_set]; rfl))) ?_
  simp only [wz, wd, ws, Nat.reduceAdd, Nat.reduceSub, Nat.reduceMul, Nat.reduceLeDiff, Nat.reduceEqDiff, Nat.reduceLT, Nat.reduceBEq, reduceIte, reduceCtorEq, Int.reduceToNat, Nat.reduceShiftRight, Nat.reduceAnd, Nat.reduceBneDiff, Nat.reduceBNe, c42r1, semI.eq_10, semI.eq_11]
  refine .seq ?_
  refine .seq ?_
  refine Rw.walk ?_
  simp only [wz, wd, ws, Nat.reduceAdd, Nat.reduceSub, Nat.reduceMul, Nat.reduceLeDiff, Nat.reduceEqDiff, Nat.reduceLT, Nat.reduceBEq, reduceIte, reduceCtorEq, Int.reduceToNat, Nat.reduceShiftRight, Nat.reduceAnd, Nat.reduceBneDiff, Nat.reduceBNe, c42r2, semI.eq_10, semI.eq_11, semI.eq_3, semI.eq_5, semI.eq_7]
  refine .blk ?_
  obtain ⟨s2, hf, h⟩ := Option.bind_eq_some_iff.1 h
  refine .loop (.weak (Imp.co [] _ _ ?c1 ?c2 ?c3 ?c4 ?c5) (f_digest_over_l9_ok hv s _ _ hR _ _ _ _ hf _ ?_))
  case c1 | c2 | c3 | c4 | c5 => simp only [wz, wd, ws, Nat.reduceAdd, Nat.reduceSub, Nat.reduceMul, Nat.reduceLeDiff, Nat.reduceEqDiff, Nat.reduceLT, Nat.reduceBEq, reduceIte, reduceCtorEq, Int.reduceToNat, Nat.reduceShiftRight, Nat.reduceAnd, Nat.reduceBneDiff, Nat.reduceBNe, wi, er_nil]
  · intro s2_ hs; subst hs
    refine .seq ?_
    refine Rw.walk ?_
    simp only [wz, wd, ws, Nat.reduceAdd, Nat.reduceSub, Nat.reduceMul, Nat.reduceLeDiff, Nat.reduceEqDiff, Nat.reduceLT, Nat.reduceBEq, reduceIte, reduceCtorEq, Int.reduceToNat, Nat.reduceShiftRight, Nat.reduceAnd, Nat.reduceBneDiff, Nat.reduceBNe, c42r9]
    obtain ⟨g18, h⟩ := gd_iff.1 h
    refine Go1.of (sem_loadW (n0 := 8) (by rfl) (eI_len _) (by rfl) (by rfl) (by rfl) (by first | exact g18 | exact Eq.refl _)) ?_
    simp only [wz, wd, ws, Nat.reduceAdd, Nat.reduceSub, Nat.reduceMul, Nat.reduceLeDiff, Nat.reduceEqDiff, Nat.reduceLT, Nat.reduceBEq, reduceIte, reduceCtorEq, Int.reduceToNat, Nat.reduceShiftRight, Nat.reduceAnd, Nat.reduceBneDiff, Nat.reduceBNe, c42r9]
    refine Go1.of (sem_newA (enc := (eI .u32)) (l := (List.replicate 8 0)) (by first | rfl | (simp only [List.length_map, List.length_replicate, List.length_set]; rfl)) (by first | rfl | (simp only [List.length_map, List.length_replicate, List.length_set]; rfl)) (by first | rfl | (simp only [List.length_map, List.length_replicate, List.length_set]; rfl))) ?_
    simp only [wz, wd, ws, Nat.reduceAdd, Nat.reduceSub, Nat.reduceMul, Nat.reduceLeDiff, Nat.reduceEqDiff, Nat.reduceLT, Nat.reduceBEq, reduceIte, reduceCtorEq, Int.reduceToNat, Nat.reduceShiftRight, Nat.reduceAnd, Nat.reduceBneDiff, Nat.reduceBNe, c42r9]
    obtain ⟨g19, h⟩ := gd_iff.1 h
    refine Go1.of (sem_storeW (l := (List.replicate 8 0)) (m := hv) (n0 := 8) (eI_len _) (by first | rfl | (simp only [List.length_map, List.length_replicate, List.length_set]; rfl)) (by first | rfl | (simp only [List.length_map, List.length_replicate, List.length_set]; rfl)) (by first | rfl | (simp only [List.length_map, List.length_replicate, List.length_set]; rfl)) (by first | exact trivial | exact Eq.refl _) (by first | rfl | (simp only [List.length_map, List.length_replicate, List.length_set]; rfl)) (by first | exact g19 | exact Eq.refl _)) ?_
    simp only [wz, wd, ws, Nat.reduceAdd, Nat.reduceSub, Nat.reduceMul, Nat.reduceLeDiff, Nat.reduceEqDiff, Nat.reduceLT, Nat.reduceBEq, reduceIte, reduceCtorEq, Int.reduceToNat, Nat.reduceShiftRight, Nat.reduceAnd, Nat.reduceBneDiff, Nat.reduceBNe, c42r9]
    refine .seq ?_
    refine .seq ?_
    refine Rw.walk ?_
    simp only [wz, wd, ws, Nat.reduceAdd, Nat.reduceSub, Nat.reduceMul, Nat.reduceLeDiff, Nat.reduceEqDiff, Nat.reduceLT, Nat.reduceBEq, reduceIte, reduceCtorEq, Int.reduceToNat, Nat.reduceShiftRight, Nat.reduceAnd, Nat.reduceBneDiff, Nat.reduceBNe, c42r10, semI.eq_10, semI.eq_11, semI.eq_3, semI.eq_5, semI.eq_7]
    refine .blk ?_
    obtain ⟨s3, hf, h⟩ := Option.bind_eq_some_iff.1 h
    refine .loop (.weak (Imp.co [] _ _ ?c1 ?c2 ?c3 ?c4 ?c5) (f_digest_over_l19_ok hv s s2 _ _ hR _ _ _ _ hf _ ?_))
    case c1 | c2 | c3 | c4 | c5 => simp only [wz, wd, ws, Nat.reduceAdd, Nat.reduceSub, Nat.reduceMul, Nat.reduceLeDiff, Nat.reduceEqDiff, Nat.reduceLT, Nat.reduceBEq, reduceIte, reduceCtorEq, Int.reduceToNat, Nat.reduceShiftRight, Nat.reduceAnd, Nat.reduceBneDiff, Nat.reduceBNe, wi, er_nil]
    · intro s3_ hs; subst hs
      refine .seq ?_
      refine .seq ?_
      refine Rw.walk ?_
      simp only [wz, wd, ws, Nat.reduceAdd, Nat.reduceSub, Nat.reduceMul, Nat.reduceLeDiff, Nat.reduceEqDiff, Nat.reduceLT, Nat.reduceBEq, reduceIte, reduceCtorEq, Int.reduceToNat, Nat.reduceShiftRight, Nat.reduceAnd, Nat.reduceBneDiff, Nat.reduceBNe, c42r18, semI.eq_10, semI.eq_11, semI.eq_3, semI.eq_5, semI.eq_7]
      refine .blk ?_
      obtain ⟨s4, hf, h⟩ := Option.bind_eq_some_iff.1 h
      refine .loop (.weak (Imp.co [] _ _ ?c1 ?c2 ?c3 ?c4 ?c5) (f_digest_over_l25_ok s s3 _ _ hR _ _ _ _ hf _ ?_))
      case c1 | c2 | c3 | c4 | c5 => simp only [wz, wd, ws, Nat.reduceAdd, Nat.reduceSub, Nat.reduceMul, Nat.reduceLeDiff, Nat.reduceEqDiff, Nat.reduceLT, Nat.reduceBEq, reduceIte, reduceCtorEq, Int.reduceToNat, Nat.reduceShiftRight, Nat.reduceAnd, Nat.reduceBneDiff, Nat.reduceBNe, wi, er_nil]
      · intro s4_ hs; subst hs
        refine .seq ?_
        refine Rw.walk ?_
        simp only [wz, wd, ws, Nat.reduceAdd, Nat.reduceSub, Nat.reduceMul, Nat.reduceLeDiff, Nat.reduceEqDiff, Nat.reduceLT, Nat.reduceBEq, reduceIte, reduceCtorEq, Int.reduceToNat, Nat.reduceShiftRight, Nat.reduceAnd, Nat.reduceBneDiff, Nat.reduceBNe, c42r23, semI.eq_3, semI.eq_5, semI.eq_7]
        obtain ⟨g49, h⟩ := gd_iff.1 h
        refine Go1.of (sem_loadW (n0 := 8) (by rfl) (eI_len _) (by rfl) (by rfl) (by rfl) (by first | exact g49 | exact Eq.refl _)) ?_
        simp only [wz, wd, ws, Nat.reduceAdd, Nat.reduceSub, Nat.reduceMul, Nat.reduceLeDiff, Nat.reduceEqDiff, Nat.reduceLT, Nat.reduceBEq, reduceIte, reduceCtorEq, Int.reduceToNat, Nat.reduceShiftRight, Nat.reduceAnd, Nat.reduceBneDiff, Nat.reduceBNe, c42r23, semI.eq_3, semI.eq_5, semI.eq_7]
        obtain ⟨g50, h⟩ := gd_iff.1 h
        refine Go1.of (sem_storeW (l := (List.replicate 8 0)) (m := s4.2) (n0 := 8) (eI_len _) (by first | rfl | (simp only [List.length_map, List.length_replicate, List.length_set]; rfl)) (by first | rfl | (simp only [List.length_map, List.length_replicate, List.length_set]; rfl)) (by first | rfl | (simp only [List.length_map, List.length_replicate, List.length_set]; rfl)) (by first | exact trivial | exact Eq.refl _) (by first | rfl | (simp only [List.length_map, List.length_replicate, List.length_set]; rfl)) (by first | exact g50 | exact Eq.refl _)) ?_
        simp only [wz, wd, ws, Nat.reduceAdd, Nat.reduceSub, Nat.reduceMul, Nat.reduceLeDiff, Nat.reduceEqDiff, Nat.reduceLT, Nat.reduceBEq, reduceIte, reduceCtorEq, Int.reduceToNat, Nat.reduceShiftRight, Nat.reduceAnd, Nat.reduceBneDiff, Nat.reduceBNe, c42r23, semI.eq_3, semI.eq_5, semI.eq_7]
        obtain ⟨gr, h⟩ := gd_iff.1 h
        obtain rfl := Option.some.inj h
        refine .ret ?_
        rw [← hR]
        exact ret_cellA (n0 := 8) (eI_len _) (by rfl) (by rfl) (by rfl) (by first | exact gr | exact Eq.refl _)
-- 31 consignor/digest.Sum
def c31r0 : List Opn := [
  ⟨(some 2), none, .mv (.c (.s (.d (.str []))))⟩]
def c31r1 : List Opn := [
  ⟨(some 10), none, .mv (.t 0)⟩, 
  ⟨(some 11), none, .call (.fn 40) [(.t 10), (.c (.s (.d (.str []))))]⟩, 
  ⟨(some 3), none, .mv (.t 11)⟩]
def c31r2 : List Opn := [
  ⟨(some 12), none, .mv (.t 3)⟩, 
  ⟨(some 13), none, .len .str (.t 12)⟩, 
  ⟨(some 14), none, .cv (.toInt .u64) (.t 13)⟩, 
  ⟨(some 15), none, .bin .mul (.t 14) (.c (.s (.d (.int .u64 8))))⟩, 
  ⟨(some 4), none, .mv (.t 15)⟩]
def c31r3 : List Opn := [
  ⟨(some 16), none, .mv (.t 3)⟩, 
  ⟨(some 17), none, .bin .add (.t 16) (.c (.s (.d (.str [128]))))⟩, 
  ⟨(some 3), none, .mv (.t 17)⟩]
def c31r4 : List Opn := [
  ⟨(some 18), none, .mv (.t 3)⟩, 
  ⟨(some 19), none, .len .str (.t 18)⟩, 
  ⟨(some 20), none, .bin .rem (.t 19) (.c (.s (.d (.int .i64 64))))⟩, 
  ⟨(some 21), none, .bin .neq (.t 20) (.c (.s (.d (.int .i64 56))))⟩]
def c31r5 : List Opn := [
  ⟨(some 22), none, .mv (.t 3)⟩, 
  ⟨(some 23), none, .bin .add (.t 22) (.c (.s (.d (.str [0]))))⟩, 
  ⟨(some 3), none, .mv (.t 23)⟩]
def c31l6 : C := .seq (.seq (.reg c31r4 none [3, 4, 21]) (.cond (.t 21) (.skip) (.exit 0))) (.blk 1 (.reg c31r5 none [3, 4]))
def c31r6 : List Opn := [
  ⟨(some 5), none, .mv (.c (.s (.d (.int .i64 7))))⟩]
def c31r7 : List Opn := [
  ⟨(some 24), none, .mv (.t 5)⟩, 
  ⟨(some 25), none, .bin .geq (.t 24) (.c (.s (.d (.int .i64 0))))⟩]
def c31r9 : List Opn := [
  ⟨(some 28), none, .mv (.t 3)⟩, 
  ⟨(some 29), none, .mv (.t 4)⟩, 
  ⟨(some 30), none, .mv (.t 5)⟩, 
  ⟨(some 31), none, .bin .mul (.c (.s (.d (.int .i64 8)))) (.t 30)⟩, 
  ⟨(some 32), none, .bin .shr (.t 29) (.t 31)⟩, 
  ⟨(some 33), none, .cv (.toInt .u8) (.t 32)⟩, 
  ⟨(some 34), none, .bsl 1 [(.t 33)]⟩, 
  ⟨(some 35), none, .cv .b2s (.t 34)⟩, 
  ⟨(some 36), none, .bin .add (.t 28) (.t 35)⟩, 
  ⟨(some 3), none, .mv (.t 36)⟩]
def c31r8 : List Opn := [
  ⟨(some 26), none, .mv (.t 5)⟩, 
  ⟨(some 27), none, .bin .sub (.t 26) (.c (.s (.d (.int .i64 1))))⟩, 
  ⟨(some 5), none, .mv (.t 27)⟩]
def c31l11 : C := .seq (.seq (.reg c31r7 none [3, 4, 5, 25]) (.cond (.t 25) (.skip) (.exit 2))) (.seq (.blk 3 (.reg c31r9 none [3, 4, 5])) (.reg c31r8 none [3, 4, 5]))
def c31r10 : List Opn := [
  ⟨(some 37), none, .call (.fn 41) []⟩, 
  ⟨(some 6), none, .new [(.d (.int .u32 0)), (.d (.int .u32 0)), (.d (.int .u32 0)), (.d (.int .u32 0)), (.d (.int .u32 0)), (.d (.int .u32 0)), (.d (.int .u32 0)), (.d (.int .u32 0))]⟩, 
  ⟨none, none, .store 8 (.t 6) (.t 37)⟩]
def c31r11 : List Opn := [
  ⟨(some 38), none, .mv (.t 3)⟩, 
  ⟨(some 39), none, .bin .neq (.t 38) (.c (.s (.d (.str []))))⟩]
def c31r13 : List Opn := [
  ⟨(some 42), none, .load true 8 (.t 6)⟩, 
  ⟨(some 43), none, .mv (.t 3)⟩, 
  ⟨(some 44), none, .call (.fn 42) [(.t 42), (.t 43)]⟩, 
  ⟨none, none, .store 8 (.t 6) (.t 44)⟩]
def c31r12 : List Opn := [
  ⟨(some 40), none, .mv (.t 3)⟩, 
  ⟨(some 41), none, .slc .str (.t 40) (some (.c (.s (.d (.int .i64 64))))) none none⟩, 
  ⟨(some 3), none, .mv (.t 41)⟩]
def c31l16 : C := .seq (.seq (.reg c31r11 none [3, 6, 39]) (.cond (.t 39) (.skip) (.exit 4))) (.seq (.blk 5 (.reg c31r13 none [3, 6])) (.reg c31r12 none [3, 6]))
def c31r14 : List Opn := [
  ⟨(some 7), none, .mv (.c (.s .nils))⟩]
def c31r15 : List Opn := [
  ⟨(some 45), none, .load true 8 (.t 6)⟩, 
  ⟨(some 46), none, .mv (.c (.s (.d (.int .i64 0))))⟩]
def c31r16 : List Opn := [
  ⟨(some 47), none, .bin .lss (.t 46) (.c (.s (.d (.int .i64 8))))⟩]
def c31r17 : List Opn := [
  ⟨(some 48), none, .idx (.arr 8 1 false) (.t 45) (.t 46)⟩, 
  ⟨(some 9), none, .mv (.t 48)⟩]
def c31r18 : List Opn := [
  ⟨(some 49), none, .mv (.t 7)⟩, 
  ⟨(some 50), none, .mv (.t 9)⟩, 
  ⟨(some 51), none, .bin .shr (.t 50) (.c (.s (.d (.int .u64 24))))⟩, 
  ⟨(some 52), none, .cv (.toInt .u8) (.t 51)⟩, 
  ⟨(some 53), none, .mv (.t 9)⟩, 
  ⟨(some 54), none, .bin .shr (.t 53) (.c (.s (.d (.int .u64 16))))⟩, 
  ⟨(some 55), none, .cv (.toInt .u8) (.t 54)⟩, 
  ⟨(some 56), none, .mv (.t 9)⟩, 
  ⟨(some 57), none, .bin .shr (.t 56) (.c (.s (.d (.int .u64 8))))⟩, 
  ⟨(some 58), none, .cv (.toInt .u8) (.t 57)⟩, 
  ⟨(some 59), none, .mv (.t 9)⟩, 
  ⟨(some 60), none, .cv (.toInt .u8) (.t 59)⟩, 
  ⟨(some 61), none, .bsl 1 [(.t 52), (.t 55), (.t 58), (.t 60)]⟩, 
  ⟨(some 62), none, .app 1 1 false (.t 49) (.t 61)⟩, 
  ⟨(some 7), none, .mv (.t 62)⟩]
def c31r19 : List Opn := [
  ⟨(some 63), none, .bin .add (.t 46) (.c (.s (.d (.int .i64 1))))⟩, 
  ⟨(some 46), none, .mv (.t 63)⟩]
def c31l23 : C := .seq (.reg c31r16 none [7, 45, 46, 47]) (.seq (.cond (.t 47) (.skip) (.exit 6)) (.seq (.blk 7 (.seq (.reg c31r17 none [7, 9, 45, 46]) (.reg c31r18 none [7, 45, 46]))) (.reg c31r19 none [7, 45, 46])))
def c31r20 : List Opn := [
  ⟨(some 64), none, .mv (.t 7)⟩, 
  ⟨(some 65), none, .cv .b2s (.t 64)⟩, 
  ⟨(some 2), none, .mv (.t 65)⟩]
def c31 : C := .seq (.reg c31r0 none [0]) (.seq (.reg c31r1 none [3]) (.seq (.reg c31r2 none [3, 4]) (.seq (.reg c31r3 none [3, 4]) (.seq (.blk 0 (.loop c31l6)) (.seq (.seq (.reg c31r6 none [3, 4, 5]) (.blk 2 (.loop c31l11))) (.seq (.reg c31r10 none [3, 6]) (.seq (.blk 4 (.loop c31l16)) (.seq (.reg c31r14 none [6, 7]) (.seq (.seq (.reg c31r15 none [7, 45, 46]) (.blk 6 (.loop c31l23))) (.seq (.reg c31r20 none [2]) (.ret)))))))))))
def k31 : List (Nat × List Nat) := [(20, [2]), (19, [7, 45, 46]), (18, [7, 45, 46]), (17, [7, 9, 45, 46]), (16, [7, 45, 46, 47]), (15, [7, 45, 46]), (14, [6, 7]), (12, [3, 6]), (13, [3, 6]), (11, [3, 6, 39]), (10, [3, 6]), (8, [3, 4, 5]), (9, [3, 4, 5]), (7, [3, 4, 5, 25]), (6, [3, 4, 5]), (5, [3, 4]), (4, [3, 4, 21]), (3, [3, 4]), (2, [3, 4]), (1, [3]), (0, [0])]
theorem cc31 : (Tryd.f31.body).bind (cC Tryd.prog 66 k31) = some c31 := by kernel_rfl
def rv31 : List RV := [.t 2]
theorem cr31 : cRVs Tryd.prog Tryd.f31.results.toList = some rv31 := by kernel_rfl
theorem f_digest_Sum_l6_ok (t : Str) (y_ : Str) (R_ : St → Prop) (hR : (Ret Tryd.prog glP [] rv31 (.b (.s (.d (.str y_))))) = R_) : ∀ (m_ : Nat) (s : Str) (res_ : Str) (h : f_digest_Sum_l6 t m_ s = some res_) (k_ : List It) (hx : ∀ s_ : Str, res_ = s_ → W Tryd.prog glP 66 k_ ⟨lkT [(3, .b (.s (.d (.str s_)))), (4, .b (.s (.d (.int .u64 (IntKind.u64.wrap ((IntKind.u64.wrap (t.length : Int)) * 8))))))], lkG []⟩ R_), W Tryd.prog glP 66 (.c c31l6 :: .lp c31l6 :: .blk 0 :: k_) ⟨lkT [(3, .b (.s (.d (.str s)))), (4, .b (.s (.d (.int .u64 (IntKind.u64.wrap ((IntKind.u64.wrap (t.length : Int)) * 8))))))], lkG []⟩ R_ := by
  intro m_; induction m_ with
  | zero => intro s res_ h; rw [f_digest_Sum_l6.eq_1] at h; cases h
  | succ m_ ih =>
    intro s res_ h k_ hx; rw [f_digest_Sum_l6.eq_2] at h; refine W.cdef c31l6.eq_1 ?_
    refine .seq ?_
    refine .seq ?_
    refine Rw.walk ?_
    simp only [wz, wd, ws, Nat.reduceAdd, Nat.reduceSub, Nat.reduceMul, Nat.reduceLeDiff, Nat.reduceEqDiff, Nat.reduceLT, Nat.reduceBEq, reduceIte, reduceCtorEq, Int.reduceToNat, Nat.reduceShiftRight, Nat.reduceAnd, Nat.reduceBneDiff, Nat.reduceBNe, c31r4, semI.eq_10, semI.eq_11, semI.eq_3, semI.eq_5, semI.eq_7]
    repeat (refine And.intro ?_ ?_; · first | omega | (intro q; simp only [wz, wd, ws, Nat.reduceAdd, Nat.reduceSub, Nat.reduceMul, Nat.reduceLeDiff, Nat.reduceEqDiff, Nat.reduceLT, Nat.reduceBEq, reduceIte, reduceCtorEq, Int.reduceToNat, Nat.reduceShiftRight, Nat.reduceAnd, Nat.reduceBneDiff, Nat.reduceBNe, q]; done))
    refine .cond (p := (((s.length : Int).tmod 64) != 56)) (by first | rfl | simp only [wz, wd, ws, Nat.reduceAdd, Nat.reduceSub, Nat.reduceMul, Nat.reduceLeDiff, Nat.reduceEqDiff, Nat.reduceLT, Nat.reduceBEq, reduceIte, reduceCtorEq, Int.reduceToNat, Nat.reduceShiftRight, Nat.reduceAnd, Nat.reduceBneDiff, Nat.reduceBNe]) (fun h1 => ?_) (fun h1 => ?_)
    · rw [ite_t h1] at h
      refine .skip ?_
      refine .blk ?_
      refine Rw.walk ?_
      obtain ⟨g3, h⟩ := gd_iff.1 h
      simp only [wz, wd, ws, Nat.reduceAdd, Nat.reduceSub, Nat.reduceMul, Nat.reduceLeDiff, Nat.reduceEqDiff, Nat.reduceLT, Nat.reduceBEq, reduceIte, reduceCtorEq, Int.reduceToNat, Nat.reduceShiftRight, Nat.reduceAnd, Nat.reduceBneDiff, Nat.reduceBNe, c31r5, semI.eq_10, semI.eq_11, semI.eq_3, semI.eq_5, semI.eq_7]
      repeat (refine And.intro ?_ ?_; · first | omega | (intro q; simp only [wz, wd, ws, Nat.reduceAdd, Nat.reduceSub, Nat.reduceMul, Nat.reduceLeDiff, Nat.reduceEqDiff, Nat.reduceLT, Nat.reduceBEq, reduceIte, reduceCtorEq, Int.reduceToNat, Nat.reduceShiftRight, Nat.reduceAnd, Nat.reduceBneDiff, Nat.reduceBNe, q]; done))
      refine .eblk ?_
      refine .lp ?_
      refine .weak (Imp.co [] _ _ ?_ ?_ ?_ ?_ ?_) (ih (s ++ ([0] : Str)) _ h k_ hx) <;> simp only [wz, wd, ws, Nat.reduceAdd, Nat.reduceSub, Nat.reduceMul, Nat.reduceLeDiff, Nat.reduceEqDiff, Nat.reduceLT, Nat.reduceBEq, reduceIte, reduceCtorEq, Int.reduceToNat, Nat.reduceShiftRight, Nat.reduceAnd, Nat.reduceBneDiff, Nat.reduceBNe, wi, er_nil]
    · rw [ite_f h1] at h
      refine .exit rfl ?_
      obtain rfl := Option.some.inj h
      refine .weak (Imp.co [] _ _ ?_ ?_ ?_ ?_ ?_) (hx _ rfl) <;> simp only [wz, wd, ws, Nat.reduceAdd, Nat.reduceSub, Nat.reduceMul, Nat.reduceLeDiff, Nat.reduceEqDiff, Nat.reduceLT, Nat.reduceBEq, reduceIte, reduceCtorEq, Int.reduceToNat, Nat.reduceShiftRight, Nat.reduceAnd, Nat.reduceBneDiff, Nat.reduceBNe, wi, er_nil]
theorem f_digest_Sum_l11_ok (t : Str) (s : Str) (y_ : Str) (R_ : St → Prop) (hR : (Ret Tryd.prog glP [] rv31 (.b (.s (.d (.str y_))))) = R_) : ∀ (m_ : Nat) (s2 : Str) (i : Int) (res_ : Str × Int) (h : f_digest_Sum_l11 t s m_ s2 i = some res_) (k_ : List It) (hx : ∀ s_ : Str × Int, res_ = s_ → W Tryd.prog glP 66 k_ ⟨lkT [(3, .b (.s (.d (.str s_.1)))), (4, .b (.s (.d (.int .u64 (IntKind.u64.wrap ((IntKind.u64.wrap (t.length : Int)) * 8)))))), (5, .b (.s (.d (.int .i64 s_.2))))], lkG []⟩ R_), W Tryd.prog glP 66 (.c c31l11 :: .lp c31l11 :: .blk 2 :: k_) ⟨lkT [(3, .b (.s (.d (.str s2)))), (4, .b (.s (.d (.int .u64 (IntKind.u64.wrap ((IntKind.u64.wrap (t.length : Int)) * 8)))))), (5, .b (.s (.d (.int .i64 i))))], lkG []⟩ R_ := by
  intro m_; induction m_ with
  | zero => intro s2 i res_ h; rw [f_digest_Sum_l11.eq_1] at h; cases h
  | succ m_ ih =>
    intro s2 i res_ h k_ hx; rw [f_digest_Sum_l11.eq_2] at h; refine W.cdef c31l11.eq_1 ?_
    refine .seq ?_
    refine .seq ?_
    refine Rw.walk ?_
    simp only [wz, wd, ws, Nat.reduceAdd, Nat.reduceSub, Nat.reduceMul, Nat.reduceLeDiff, Nat.reduceEqDiff, Nat.reduceLT, Nat.reduceBEq, reduceIte, reduceCtorEq, Int.reduceToNat, Nat.reduceShiftRight, Nat.reduceAnd, Nat.reduceBneDiff, Nat.reduceBNe, c31r7, semI.eq_10, semI.eq_11, semI.eq_3, semI.eq_5, semI.eq_7]
    refine .cond (p := (decide (i ≥ 0))) (by first | rfl | simp only [wz, wd, ws, Nat.reduceAdd, Nat.reduceSub, Nat.reduceMul, Nat.reduceLeDiff, Nat.reduceEqDiff, Nat.reduceLT, Nat.reduceBEq, reduceIte, reduceCtorEq, Int.reduceToNat, Nat.reduceShiftRight, Nat.reduceAnd, Nat.reduceBneDiff, Nat.reduceBNe]) (fun h1 => ?_) (fun h1 => ?_)
    · rw [ite_t h1] at h
      refine .skip ?_
      refine .seq ?_
      refine .blk ?_
      refine Rw.walk ?_
      obtain ⟨g4, h⟩ := gd_iff.1 h
      simp only [wz, wd, ws, Nat.reduceAdd, Nat.reduceSub, Nat.reduceMul, Nat.reduceLeDiff, Nat.reduceEqDiff, Nat.reduceLT, Nat.reduceBEq, reduceIte, reduceCtorEq, Int.reduceToNat, Nat.reduceShiftRight, Nat.reduceAnd, Nat.reduceBneDiff, Nat.reduceBNe, c31r9, semI.eq_10, semI.eq_11, semI.eq_3, semI.eq_5, semI.eq_7]
      repeat (refine And.intro ?_ ?_; · first | omega | (intro q; simp only [wz, wd, ws, Nat.reduceAdd, Nat.reduceSub, Nat.reduceMul, Nat.reduceLeDiff, Nat.reduceEqDiff, Nat.reduceLT, Nat.reduceBEq, reduceIte, reduceCtorEq, Int.reduceToNat, Nat.reduceShiftRight, Nat.reduceAnd, Nat.reduceBneDiff, Nat.reduceBNe, q]; done))
      refine Go1.of (sem_bsl (enc := (eI .u8)) (m := ([(IntKind.u8.wrap ((IntKind.u64.wrap ((IntKind.u64.wrap (t.length : Int)) * 8)).fdiv (2 ^ (min (IntKind.i64.wrap (8 * i)).toNat IntKind.u64.bits))))] : List Int)) (eI_len _) (by rfl) (by rfl) (by rfl) ⟨trivial, trivial⟩) ?_
      simp only [wz, wd, ws, Nat.reduceAdd, Nat.reduceSub, Nat.reduceMul, Nat.reduceLeDiff, Nat.reduceEqDiff, Nat.reduceLT, Nat.reduceBEq, reduceIte, reduceCtorEq, Int.reduceToNat, Nat.reduceShiftRight, Nat.reduceAnd, Nat.reduceBneDiff, Nat.reduceBNe, c31r9, semI.eq_10, semI.eq_11, semI.eq_3, semI.eq_5, semI.eq_7]
      refine Go1.of (sem_b2s (n := ([(IntKind.u8.wrap ((IntKind.u64.wrap ((IntKind.u64.wrap (t.length : Int)) * 8)).fdiv (2 ^ (min (IntKind.i64.wrap (8 * i)).toNat IntKind.u64.bits))))] : List Int)) (rowsV_own (m := ([(IntKind.u8.wrap ((IntKind.u64.wrap ((IntKind.u64.wrap (t.length : Int)) * 8)).fdiv (2 ^ (min (IntKind.i64.wrap (8 * i)).toNat IntKind.u64.bits))))] : List Int)) (by rfl) (by rfl))) ?_
      simp only [wz, wd, ws, Nat.reduceAdd, Nat.reduceSub, Nat.reduceMul, Nat.reduceLeDiff, Nat.reduceEqDiff, Nat.reduceLT, Nat.reduceBEq, reduceIte, reduceCtorEq, Int.reduceToNat, Nat.reduceShiftRight, Nat.reduceAnd, Nat.reduceBneDiff, Nat.reduceBNe, c31r9, semI.eq_10, semI.eq_11, semI.eq_3, semI.eq_5, semI.eq_7]
      obtain ⟨g5, h⟩ := gd_iff.1 h
      repeat (refine And.intro ?_ ?_; · first | omega | (intro q; simp only [wz, wd, ws, Nat.reduceAdd, Nat.reduceSub, Nat.reduceMul, Nat.reduceLeDiff, Nat.reduceEqDiff, Nat.reduceLT, Nat.reduceBEq, reduceIte, reduceCtorEq, Int.reduceToNat, Nat.reduceShiftRight, Nat.reduceAnd, Nat.reduceBneDiff, Nat.reduceBNe, q]; done))
      obtain ⟨s3, e6, h⟩ := Option.bind_eq_some_iff.1 h
      replace e6 := Option.some.inj e6
      first | simp only [e6] | (simp only [wz, wd, ws, Nat.reduceAdd, Nat.reduceSub, Nat.reduceMul, Nat.reduceLeDiff, Nat.reduceEqDiff, Nat.reduceLT, Nat.reduceBEq, reduceIte, reduceCtorEq, Int.reduceToNat, Nat.reduceShiftRight, Nat.reduceAnd, Nat.reduceBneDiff, Nat.reduceBNe] at e6; simp only [e6])
      refine .eblk ?_
      refine Rw.walk ?_
      simp only [wz, wd, ws, Nat.reduceAdd, Nat.reduceSub, Nat.reduceMul, Nat.reduceLeDiff, Nat.reduceEqDiff, Nat.reduceLT, Nat.reduceBEq, reduceIte, reduceCtorEq, Int.reduceToNat, Nat.reduceShiftRight, Nat.reduceAnd, Nat.reduceBneDiff, Nat.reduceBNe, c31r8, semI.eq_10, semI.eq_11, semI.eq_3, semI.eq_5, semI.eq_7]
      refine .lp ?_
      refine .weak (Imp.co [] _ _ ?_ ?_ ?_ ?_ ?_) (ih s3 (IntKind.i64.wrap (i - 1)) _ h k_ hx) <;> simp only [wz, wd, ws, Nat.reduceAdd, Nat.reduceSub, Nat.reduceMul, Nat.reduceLeDiff, Nat.reduceEqDiff, Nat.reduceLT, Nat.reduceBEq, reduceIte, reduceCtorEq, Int.reduceToNat, Nat.reduceShiftRight, Nat.reduceAnd, Nat.reduceBneDiff, Nat.reduceBNe, wi, er_nil]
    · rw [ite_f h1] at h
      refine .exit rfl ?_
      obtain rfl := Option.some.inj h
      refine .weak (Imp.co [] _ _ ?_ ?_ ?_ ?_ ?_) (hx _ rfl) <;> simp only [wz, wd, ws, Nat.reduceAdd, Nat.reduceSub, Nat.reduceMul, Nat.reduceLeDiff, Nat.reduceEqDiff, Nat.reduceLT, Nat.reduceBEq, reduceIte, reduceCtorEq, Int.reduceToNat, Nat.reduceShiftRight, Nat.reduceAnd, Nat.reduceBneDiff, Nat.reduceBNe, wi, er_nil]
theorem f_digest_Sum_l16_ok (s : Str) (y_ : Str) (R_ : St → Prop) (hR : (Ret Tryd.prog glP [] rv31 (.b (.s (.d (.str y_))))) = R_) : ∀ (m_ : Nat) (s3 : Str) (hv : (List Int)) (res_ : Str × (List Int)) (h : f_digest_Sum_l16 s m_ s3 hv = some res_) (k_ : List It) (hx : ∀ s_ : Str × (List Int), res_ = s_ → W Tryd.prog glP 66 k_ ⟨lkT [(3, .b (.s (.d (.str s_.1)))), (6, .b (.s (.ptr 6 1 0 0)))], lkG [(6, ⟨8, [ea (eI .u32) s_.2], false⟩)]⟩ R_), W Tryd.prog glP 66 (.c c31l16 :: .lp c31l16 :: .blk 4 :: k_) ⟨lkT [(3, .b (.s (.d (.str s3)))), (6, .b (.s (.ptr 6 1 0 0)))], lkG [(6, ⟨8, [ea (eI .u32) hv], false⟩)]⟩ R_ := by
  intro m_; induction m_ with
  | zero => intro s3 hv res_ h; rw [f_digest_Sum_l16.eq_1] at h; cases h
  | succ m_ ih =>
    intro s3 hv res_ h k_ hx; rw [f_digest_Sum_l16.eq_2] at h; refine W.cdef c31l16.eq_1 ?_
    refine .seq ?_
    refine .seq ?_
    refine Rw.walk ?_
    simp only [wz, wd, ws, Nat.reduceAdd, Nat.reduceSub, Nat.reduceMul, Nat.reduceLeDiff, Nat.reduceEqDiff, Nat.reduceLT, Nat.reduceBEq, reduceIte, reduceCtorEq, Int.reduceToNat, Nat.reduceShiftRight, Nat.reduceAnd, Nat.reduceBneDiff, Nat.reduceBNe, c31r11, semI.eq_10, semI.eq_11, semI.eq_3, semI.eq_5, semI.eq_7]
    refine .cond (p := (!(s3 == ([] : Str)))) (by first | rfl | simp only [wz, wd, ws, Nat.reduceAdd, Nat.reduceSub, Nat.reduceMul, Nat.reduceLeDiff, Nat.reduceEqDiff, Nat.reduceLT, Nat.reduceBEq, reduceIte, reduceCtorEq, Int.reduceToNat, Nat.reduceShiftRight, Nat.reduceAnd, Nat.reduceBneDiff, Nat.reduceBNe]) (fun h1 => ?_) (fun h1 => ?_)
    · rw [ite_t h1] at h
      refine .skip ?_
      refine .seq ?_
      refine .blk ?_
      refine Rw.walk ?_
      simp only [wz, wd, ws, Nat.reduceAdd, Nat.reduceSub, Nat.reduceMul, Nat.reduceLeDiff, Nat.reduceEqDiff, Nat.reduceLT, Nat.reduceBEq, reduceIte, reduceCtorEq, Int.reduceToNat, Nat.reduceShiftRight, Nat.reduceAnd, Nat.reduceBneDiff, Nat.reduceBNe, c31r13, semI.eq_3, semI.eq_5, semI.eq_7]
      obtain ⟨g9, h⟩ := gd_iff.1 h
      refine Go1.of (sem_loadW (n0 := 8) (by rfl) (eI_len _) (by rfl) (by rfl) (by rfl) (by first | exact g9 | exact Eq.refl _)) ?_
      simp only [wz, wd, ws, Nat.reduceAdd, Nat.reduceSub, Nat.reduceMul, Nat.reduceLeDiff, Nat.reduceEqDiff, Nat.reduceLT, Nat.reduceBEq, reduceIte, reduceCtorEq, Int.reduceToNat, Nat.reduceShiftRight, Nat.reduceAnd, Nat.reduceBneDiff, Nat.reduceBNe, c31r13, semI.eq_3, semI.eq_5, semI.eq_7]
      obtain ⟨t3, e10, h⟩ := Option.bind_eq_some_iff.1 h
      refine call_fun [] true ⟨trivial, trivial, trivial, trivial⟩ rfl ?_ (f_digest_over_ok _ _ _ e10) (fun h => by cases h) (fun i hi => by cases hi) ?_
      · simp only [wz, wd, ws, Nat.reduceAdd, Nat.reduceSub, Nat.reduceMul, Nat.reduceLeDiff, Nat.reduceEqDiff, Nat.reduceLT, Nat.reduceBEq, reduceIte, reduceCtorEq, Int.reduceToNat, Nat.reduceShiftRight, Nat.reduceAnd, Nat.reduceBneDiff, Nat.reduceBNe]
      simp only [wz, wd, ws, Nat.reduceAdd, Nat.reduceSub, Nat.reduceMul, Nat.reduceLeDiff, Nat.reduceEqDiff, Nat.reduceLT, Nat.reduceBEq, reduceIte, reduceCtorEq, Int.reduceToNat, Nat.reduceShiftRight, Nat.reduceAnd, Nat.reduceBneDiff, Nat.reduceBNe, c31r13, semI.eq_3, semI.eq_5, semI.eq_7]
      obtain ⟨g11, h⟩ := gd_iff.1 h
      obtain ⟨g12, h⟩ := gd_iff.1 h
      refine Go1.of (sem_storeW (l := hv) (m := t3) (n0 := 8) (eI_len _) (by rfl) (by rfl) (by rfl) (by first | exact g11 | exact Eq.refl _) (by rfl) (by first | exact g12 | exact Eq.refl _)) ?_
      simp only [wz, wd, ws, Nat.reduceAdd, Nat.reduceSub, Nat.reduceMul, Nat.reduceLeDiff, Nat.reduceEqDiff, Nat.reduceLT, Nat.reduceBEq, reduceIte, reduceCtorEq, Int.reduceToNat, Nat.reduceShiftRight, Nat.reduceAnd, Nat.reduceBneDiff, Nat.reduceBNe, c31r13, semI.eq_3, semI.eq_5, semI.eq_7]
      refine .eblk ?_
      refine Rw.walk ?_
      obtain ⟨g13, h⟩ := gd_iff.1 h
      simp only [wz, wd, ws, Nat.reduceAdd, Nat.reduceSub, Nat.reduceMul, Nat.reduceLeDiff, Nat.reduceEqDiff, Nat.reduceLT, Nat.reduceBEq, reduceIte, reduceCtorEq, Int.reduceToNat, Nat.reduceShiftRight, Nat.reduceAnd, Nat.reduceBneDiff, Nat.reduceBNe, c31r12, semI.eq_10, semI.eq_11, semI.eq_3, semI.eq_5, semI.eq_7]
      repeat (refine And.intro ?_ ?_; · first | omega | (intro q; simp only [wz, wd, ws, Nat.reduceAdd, Nat.reduceSub, Nat.reduceMul, Nat.reduceLeDiff, Nat.reduceEqDiff, Nat.reduceLT, Nat.reduceBEq, reduceIte, reduceCtorEq, Int.reduceToNat, Nat.reduceShiftRight, Nat.reduceAnd, Nat.reduceBneDiff, Nat.reduceBNe, q]; done))
      refine .lp ?_
      refine .weak (Imp.co [] _ _ ?_ ?_ ?_ ?_ ?_) (ih (cut s3 64 (s3.length : Int)) t3 _ h k_ hx) <;> simp only [wz, wd, ws, Nat.reduceAdd, Nat.reduceSub, Nat.reduceMul, Nat.reduceLeDiff, Nat.reduceEqDiff, Nat.reduceLT, Nat.reduceBEq, reduceIte, reduceCtorEq, Int.reduceToNat, Nat.reduceShiftRight, Nat.reduceAnd, Nat.reduceBneDiff, Nat.reduceBNe, wi, er_nil]
    · rw [ite_f h1] at h
      refine .exit rfl ?_
      obtain rfl := Option.some.inj h
      refine .weak (Imp.co [] _ _ ?_ ?_ ?_ ?_ ?_) (hx _ rfl) <;> simp only [wz, wd, ws, Nat.reduceAdd, Nat.reduceSub, Nat.reduceMul, Nat.reduceLeDiff, Nat.reduceEqDiff, Nat.reduceLT, Nat.reduceBEq, reduceIte, reduceCtorEq, Int.reduceToNat, Nat.reduceShiftRight, Nat.reduceAnd, Nat.reduceBneDiff, Nat.reduceBNe, wi, er_nil]
theorem f_digest_Sum_l23_ok (s : Str) (s3 : Str × (List Int)) (y_ : Str) (R_ : St → Prop) (hR : (Ret Tryd.prog glP [] rv31 (.b (.s (.d (.str y_))))) = R_) : ∀ (m_ : Nat) (v46 : Int) (out : (List Int)) (res_ : Int × (List Int)) (h : f_digest_Sum_l23 s s3 m_ v46 out = some res_) (k_ : List It) (hx : ∀ s_ : Int × (List Int), res_ = s_ → W Tryd.prog glP 66 k_ ⟨lkT [(7, .b (.s (.own 62 s_.2.length))), (45, .b (.agg (ea (eI .u32) s3.2))), (46, .b (.s (.d (.int .i64 s_.1))))], lkG [(62, ⟨1, er (eI .u8) s_.2, false⟩)]⟩ R_), W Tryd.prog glP 66 (.c c31l23 :: .lp c31l23 :: .blk 6 :: k_) ⟨lkT [(7, .b (.s (.own 62 out.length))), (45, .b (.agg (ea (eI .u32) s3.2))), (46, .b (.s (.d (.int .i64 v46))))], lkG [(62, ⟨1, er (eI .u8) out, false⟩)]⟩ R_ := by
  intro m_; induction m_ with
  | zero => intro v46 out res_ h; rw [f_digest_Sum_l23.eq_1] at h; cases h
  | succ m_ ih =>
    intro v46 out res_ h k_ hx; rw [f_digest_Sum_l23.eq_2] at h; refine W.cdef c31l23.eq_1 ?_
    refine .seq ?_
    refine Rw.walk ?_
    simp only [wz, wd, ws, Nat.reduceAdd, Nat.reduceSub, Nat.reduceMul, Nat.reduceLeDiff, Nat.reduceEqDiff, Nat.reduceLT, Nat.reduceBEq, reduceIte, reduceCtorEq, Int.reduceToNat, Nat.reduceShiftRight, Nat.reduceAnd, Nat.reduceBneDiff, Nat.reduceBNe, c31r16, semI.eq_10, semI.eq_11, semI.eq_3, semI.eq_5, semI.eq_7]
    refine .seq ?_
    refine .cond (p := (decide (v46 < 8))) (by first | rfl | simp only [wz, wd, ws, Nat.reduceAdd, Nat.reduceSub, Nat.reduceMul, Nat.reduceLeDiff, Nat.reduceEqDiff, Nat.reduceLT, Nat.reduceBEq, reduceIte, reduceCtorEq, Int.reduceToNat, Nat.reduceShiftRight, Nat.reduceAnd, Nat.reduceBneDiff, Nat.reduceBNe]) (fun h1 => ?_) (fun h1 => ?_)
    · rw [ite_t h1] at h
      refine .skip ?_
      refine .seq ?_
      refine .blk ?_
      refine .seq ?_
      refine Rw.walk ?_
      simp only [wz, wd, ws, Nat.reduceAdd, Nat.reduceSub, Nat.reduceMul, Nat.reduceLeDiff, Nat.reduceEqDiff, Nat.reduceLT, Nat.reduceBEq, reduceIte, reduceCtorEq, Int.reduceToNat, Nat.reduceShiftRight, Nat.reduceAnd, Nat.reduceBneDiff, Nat.reduceBNe, c31r17, semI.eq_10, semI.eq_11, semI.eq_3, semI.eq_5, semI.eq_7]
      obtain ⟨g15, h⟩ := gd_iff.1 h
      obtain ⟨x, e16, h⟩ := Option.bind_eq_some_iff.1 h
      refine Go1.of (sem_idxA1 (eI_len _) e16 (by rfl) (by rfl) (by rfl)) ?_
      simp only [wz, wd, ws, Nat.reduceAdd, Nat.reduceSub, Nat.reduceMul, Nat.reduceLeDiff, Nat.reduceEqDiff, Nat.reduceLT, Nat.reduceBEq, reduceIte, reduceCtorEq, Int.reduceToNat, Nat.reduceShiftRight, Nat.reduceAnd, Nat.reduceBneDiff, Nat.reduceBNe, c31r17, semI.eq_10, semI.eq_11, semI.eq_3, semI.eq_5, semI.eq_7]
      repeat (refine And.intro ?_ ?_; · first | omega | (intro q; simp only [wz, wd, ws, Nat.reduceAdd, Nat.reduceSub, Nat.reduceMul, Nat.reduceLeDiff, Nat.reduceEqDiff, Nat.reduceLT, Nat.reduceBEq, reduceIte, reduceCtorEq, Int.reduceToNat, Nat.reduceShiftRight, Nat.reduceAnd, Nat.reduceBneDiff, Nat.reduceBNe, q]; done))
      refine Rw.walk ?_
      simp only [wz, wd, ws, Nat.reduceAdd, Nat.reduceSub, Nat.reduceMul, Nat.reduceLeDiff, Nat.reduceEqDiff, Nat.reduceLT, Nat.reduceBEq, reduceIte, reduceCtorEq, Int.reduceToNat, Nat.reduceShiftRight, Nat.reduceAnd, Nat.reduceBneDiff, Nat.reduceBNe, c31r18, semI.eq_10, semI.eq_11, semI.eq_3, semI.eq_5, semI.eq_7]
      repeat (refine And.intro ?_ ?_; · first | omega | (intro q; simp only [wz, wd, ws, Nat.reduceAdd, Nat.reduceSub, Nat.reduceMul, Nat.reduceLeDiff, Nat.reduceEqDiff, Nat.reduceLT, Nat.reduceBEq, reduceIte, reduceCtorEq, Int.reduceToNat, Nat.reduceShiftRight, Nat.reduceAnd, Nat.reduceBneDiff, Nat.reduceBNe, q]; done))
      refine Go1.of (sem_bsl (enc := (eI .u8)) (m := ([(IntKind.u8.wrap (x.fdiv (2 ^ (min 24 IntKind.u32.bits)))), (IntKind.u8.wrap (x.fdiv (2 ^ (min 16 IntKind.u32.bits)))), (IntKind.u8.wrap (x.fdiv (2 ^ (min 8 IntKind.u32.bits)))), (IntKind.u8.wrap x)] : List Int)) (eI_len _) (by rfl) (by rfl) (by rfl) ⟨trivial, trivial, trivial, trivial, trivial⟩) ?_
      simp only [wz, wd, ws, Nat.reduceAdd, Nat.reduceSub, Nat.reduceMul, Nat.reduceLeDiff, Nat.reduceEqDiff, Nat.reduceLT, Nat.reduceBEq, reduceIte, reduceCtorEq, Int.reduceToNat, Nat.reduceShiftRight, Nat.reduceAnd, Nat.reduceBneDiff, Nat.reduceBNe, c31r18, semI.eq_10, semI.eq_11, semI.eq_3, semI.eq_5, semI.eq_7]
      obtain ⟨g17, h⟩ := gd_iff.1 h
      refine Go1.of (sem_app (enc := (eI .u8)) (l := out) (m := ([(IntKind.u8.wrap (x.fdiv (2 ^ (min 24 IntKind.u32.bits)))), (IntKind.u8.wrap (x.fdiv (2 ^ (min 16 IntKind.u32.bits)))), (IntKind.u8.wrap (x.fdiv (2 ^ (min 8 IntKind.u32.bits)))), (IntKind.u8.wrap x)] : List Int)) (eI_len _) (by rfl) (by rfl) (newV_own (m := ([(IntKind.u8.wrap (x.fdiv (2 ^ (min 24 IntKind.u32.bits)))), (IntKind.u8.wrap (x.fdiv (2 ^ (min 16 IntKind.u32.bits)))), (IntKind.u8.wrap (x.fdiv (2 ^ (min 8 IntKind.u32.bits)))), (IntKind.u8.wrap x)] : List Int)) (by rfl) (by rfl))) ?_
      simp only [wz, wd, ws, Nat.reduceAdd, Nat.reduceSub, Nat.reduceMul, Nat.reduceLeDiff, Nat.reduceEqDiff, Nat.reduceLT, Nat.reduceBEq, reduceIte, reduceCtorEq, Int.reduceToNat, Nat.reduceShiftRight, Nat.reduceAnd, Nat.reduceBneDiff, Nat.reduceBNe, c31r18, semI.eq_10, semI.eq_11, semI.eq_3, semI.eq_5, semI.eq_7]
      repeat (refine And.intro ?_ ?_; · first | omega | (intro q; simp only [wz, wd, ws, Nat.reduceAdd, Nat.reduceSub, Nat.reduceMul, Nat.reduceLeDiff, Nat.reduceEqDiff, Nat.reduceLT, Nat.reduceBEq, reduceIte, reduceCtorEq, Int.reduceToNat, Nat.reduceShiftRight, Nat.reduceAnd, Nat.reduceBneDiff, Nat.reduceBNe, q]; done))
      refine .eblk ?_
      refine Rw.walk ?_
      simp only [wz, wd, ws, Nat.reduceAdd, Nat.reduceSub, Nat.reduceMul, Nat.reduceLeDiff, Nat.reduceEqDiff, Nat.reduceLT, Nat.reduceBEq, reduceIte, reduceCtorEq, Int.reduceToNat, Nat.reduceShiftRight, Nat.reduceAnd, Nat.reduceBneDiff, Nat.reduceBNe, c31r19, semI.eq_10, semI.eq_11, semI.eq_3, semI.eq_5, semI.eq_7]
      refine .lp ?_
      refine .weak (Imp.co [] _ _ ?_ ?_ ?_ ?_ ?_) (ih (IntKind.i64.wrap (v46 + 1)) (out ++ ([(IntKind.u8.wrap (x.fdiv (2 ^ (min 24 IntKind.u32.bits)))), (IntKind.u8.wrap (x.fdiv (2 ^ (min 16 IntKind.u32.bits)))), (IntKind.u8.wrap (x.fdiv (2 ^ (min 8 IntKind.u32.bits)))), (IntKind.u8.wrap x)] : List Int)) _ h k_ hx) <;> simp only [wz, wd, ws, Nat.reduceAdd, Nat.reduceSub, Nat.reduceMul, Nat.reduceLeDiff, Nat.reduceEqDiff, Nat.reduceLT, Nat.reduceBEq, reduceIte, reduceCtorEq, Int.reduceToNat, Nat.reduceShiftRight, Nat.reduceAnd, Nat.reduceBneDiff, Nat.reduceBNe, wi, er_nil]
    · rw [ite_f h1] at h
      refine .exit rfl ?_
      obtain rfl := Option.some.inj h
      refine .weak (Imp.co [] _ _ ?_ ?_ ?_ ?_ ?_) (hx _ rfl) <;> simp only [wz, wd, ws, Nat.reduceAdd, Nat.reduceSub, Nat.reduceMul, Nat.reduceLeDiff, Nat.reduceEqDiff, Nat.reduceLT, Nat.reduceBEq, reduceIte, reduceCtorEq, Int.reduceToNat, Nat.reduceShiftRight, Nat.reduceAnd, Nat.reduceBneDiff, Nat.reduceBNe, wi, er_nil]
theorem f_digest_Sum_ok (parts : (List Str)) (y_ : Str) (h : f_digest_Sum parts = some y_) : Fun Tryd.prog glP 31 [.b (.s (.d (.sl (parts.map eS))))] (.b (.s (.d (.str y_)))) := by
  refine fun_walk [] Tryd.func31 Tryd.ntmps31 cc31 cr31 (by kernel_rfl) (by simp only [List.length_cons, List.length_nil]; decide) ?_
  generalize hR : Ret _ _ _ _ _ = R_
  simp only [wz, wd, ws, Nat.reduceAdd, Nat.reduceSub, Nat.reduceMul, Nat.reduceLeDiff, Nat.reduceEqDiff, Nat.reduceLT, Nat.reduceBEq, reduceIte, reduceCtorEq, Int.reduceToNat, Nat.reduceShiftRight, Nat.reduceAnd, Nat.reduceBneDiff, Nat.reduceBNe]
  unfold f_digest_Sum at h; unfold c31
  refine .seq ?_
  refine Rw.walk ?_
  simp only [wz, wd, ws, Nat.reduceAdd, Nat.reduceSub, Nat.reduceMul, Nat.reduceLeDiff, Nat.reduceEqDiff, Nat.reduceLT, Nat.reduceBEq, reduceIte, reduceCtorEq, Int.reduceToNat, Nat.reduceShiftRight, Nat.reduceAnd, Nat.reduceBneDiff, Nat.reduceBNe, c31r0, semI.eq_10, semI.eq_11, semI.eq_3, semI.eq_5, semI.eq_7]
  refine .seq ?_
  refine Rw.walk ?_
  simp only [wz, wd, ws, Nat.reduceAdd, Nat.reduceSub, Nat.reduceMul, Nat.reduceLeDiff, Nat.reduceEqDiff, Nat.reduceLT, Nat.reduceBEq, reduceIte, reduceCtorEq, Int.reduceToNat, Nat.reduceShiftRight, Nat.reduceAnd, Nat.reduceBneDiff, Nat.reduceBNe, c31r1, semI.eq_10, semI.eq_11, semI.eq_3, semI.eq_5, semI.eq_7]
  obtain ⟨t, e1, h⟩ := Option.bind_eq_some_iff.1 h
  refine call_fun [] false ⟨trivial, trivial, trivial, trivial⟩ rfl ?_ (f_strings_Join_ok _ _ _ e1) (fun _ => rfl) (fun i hi => by cases hi) ?_
  · simp only [wz, wd, ws, Nat.reduceAdd, Nat.reduceSub, Nat.reduceMul, Nat.reduceLeDiff, Nat.reduceEqDiff, Nat.reduceLT, Nat.reduceBEq, reduceIte, reduceCtorEq, Int.reduceToNat, Nat.reduceShiftRight, Nat.reduceAnd, Nat.reduceBneDiff, Nat.reduceBNe]
  simp only [wz, wd, ws, Nat.reduceAdd, Nat.reduceSub, Nat.reduceMul, Nat.reduceLeDiff, Nat.reduceEqDiff, Nat.reduceLT, Nat.reduceBEq, reduceIte, reduceCtorEq, Int.reduceToNat, Nat.reduceShiftRight, Nat.reduceAnd, Nat.reduceBneDiff, Nat.reduceBNe, c31r1, semI.eq_10, semI.eq_11, semI.eq_3, semI.eq_5, semI.eq_7]
  refine .seq ?_
  refine Rw.walk ?_
  simp only [wz, wd, ws, Nat.reduceAdd, Nat.reduceSub, Nat.reduceMul, Nat.reduceLeDiff, Nat.reduceEqDiff, Nat.reduceLT, Nat.reduceBEq, reduceIte, reduceCtorEq, Int.reduceToNat, Nat.reduceShiftRight, Nat.reduceAnd, Nat.reduceBneDiff, Nat.reduceBNe, c31r2, semI.eq_10, semI.eq_11, semI.eq_3, semI.eq_5, semI.eq_7]
  refine .seq ?_
  refine Rw.walk ?_
  obtain ⟨g2, h⟩ := gd_iff.1 h
  simp only [wz, wd, ws, Nat.reduceAdd, Nat.reduceSub, Nat.reduceMul, Nat.reduceLeDiff, Nat.reduceEqDiff, Nat.reduceLT, Nat.reduceBEq, reduceIte, reduceCtorEq, Int.reduceToNat, Nat.reduceShiftRight, Nat.reduceAnd, Nat.reduceBneDiff, Nat.reduceBNe, c31r3, semI.eq_10, semI.eq_11, semI.eq_3, semI.eq_5, semI.eq_7]
  repeat (refine And.intro ?_ ?_; · first | omega | (intro q; simp only [wz, wd, ws, Nat.reduceAdd, Nat.reduceSub, Nat.reduceMul, Nat.reduceLeDiff, Nat.reduceEqDiff, Nat.reduceLT, Nat.reduceBEq, reduceIte, reduceCtorEq, Int.reduceToNat, Nat.reduceShiftRight, Nat.reduceAnd, Nat.reduceBneDiff, Nat.reduceBNe, q]; done))
  refine .seq ?_
  refine .blk ?_
  obtain ⟨s, hf, h⟩ := Option.bind_eq_some_iff.1 h
  refine .loop (.weak (Imp.co [] _ _ ?c1 ?c2 ?c3 ?c4 ?c5) (f_digest_Sum_l6_ok t _ _ hR _ _ _ hf _ ?_))
  case c1 | c2 | c3 | c4 | c5 => simp only [wz, wd, ws, Nat.reduceAdd, Nat.reduceSub, Nat.reduceMul, Nat.reduceLeDiff, Nat.reduceEqDiff, Nat.reduceLT, Nat.reduceBEq, reduceIte, reduceCtorEq, Int.reduceToNat, Nat.reduceShiftRight, Nat.reduceAnd, Nat.reduceBneDiff, Nat.reduceBNe, wi, er_nil]
  · intro s_ hs; subst hs
    refine .seq ?_
    refine .seq ?_
    refine Rw.walk ?_
    simp only [wz, wd, ws, Nat.reduceAdd, Nat.reduceSub, Nat.reduceMul, Nat.reduceLeDiff, Nat.reduceEqDiff, Nat.reduceLT, Nat.reduceBEq, reduceIte, reduceCtorEq, Int.reduceToNat, Nat.reduceShiftRight, Nat.reduceAnd, Nat.reduceBneDiff, Nat.reduceBNe, c31r6, semI.eq_10, semI.eq_11, semI.eq_3, semI.eq_5, semI.eq_7]
    refine .blk ?_
    obtain ⟨s2, hf, h⟩ := Option.bind_eq_some_iff.1 h
    refine .loop (.weak (Imp.co [] _ _ ?c1 ?c2 ?c3 ?c4 ?c5) (f_digest_Sum_l11_ok t s _ _ hR _ _ _ _ hf _ ?_))
    case c1 | c2 | c3 | c4 | c5 => simp only [wz, wd, ws, Nat.reduceAdd, Nat.reduceSub, Nat.reduceMul, Nat.reduceLeDiff, Nat.reduceEqDiff, Nat.reduceLT, Nat.reduceBEq, reduceIte, reduceCtorEq, Int.reduceToNat, Nat.reduceShiftRight, Nat.reduceAnd, Nat.reduceBneDiff, Nat.reduceBNe, wi, er_nil]
    · intro s2_ hs; subst hs
      refine .seq ?_
      refine Rw.walk ?_
      simp only [wz, wd, ws, Nat.reduceAdd, Nat.reduceSub, Nat.reduceMul, Nat.reduceLeDiff, Nat.reduceEqDiff, Nat.reduceLT, Nat.reduceBEq, reduceIte, reduceCtorEq, Int.reduceToNat, Nat.reduceShiftRight, Nat.reduceAnd, Nat.reduceBneDiff, Nat.reduceBNe, c31r10]
      obtain ⟨t2, e7, h⟩ := Option.bind_eq_some_iff.1 h
      refine call_fun [] true ⟨trivial, trivial⟩ rfl ?_ (f_digest_begins_ok _ e7) (fun h => by cases h) (fun i hi => by cases hi) ?_
      · simp only [wz, wd, ws, Nat.reduceAdd, Nat.reduceSub, Nat.reduceMul, Nat.reduceLeDiff, Nat.reduceEqDiff, Nat.reduceLT, Nat.reduceBEq, reduceIte, reduceCtorEq, Int.reduceToNat, Nat.reduceShiftRight, Nat.reduceAnd, Nat.reduceBneDiff, Nat.reduceBNe]
      simp only [wz, wd, ws, Nat.reduceAdd, Nat.reduceSub, Nat.reduceMul, Nat.reduceLeDiff, Nat.reduceEqDiff, Nat.reduceLT, Nat.reduceBEq, reduceIte, reduceCtorEq, Int.reduceToNat, Nat.reduceShiftRight, Nat.reduceAnd, Nat.reduceBneDiff, Nat.reduceBNe, c31r10]
      refine Go1.of (sem_newA (enc := (eI .u32)) (l := (List.replicate 8 0)) (by first | rfl | (simp only [List.length_map, List.length_replicate, List.length_set]; rfl)) (by first | rfl | (simp only [List.length_map, List.length_replicate, List.length_set]; rfl)) (by first | rfl | (simp only [List.length_map, List.length_replicate, List.length_set]; rfl))) ?_
      simp only [wz, wd, ws, Nat.reduceAdd, Nat.reduceSub, Nat.reduceMul, Nat.reduceLeDiff, Nat.reduceEqDiff, Nat.reduceLT, Nat.reduceBEq, reduceIte, reduceCtorEq, Int.reduceToNat, Nat.reduceShiftRight, Nat.reduceAnd, Nat.reduceBneDiff, Nat.reduceBNe, c31r10]
      obtain ⟨g8, h⟩ := gd_iff.1 h
      refine Go1.of (sem_storeW (l := (List.replicate 8 0)) (m := t2) (n0 := 8) (eI_len _) (by first | rfl | (simp only [List.length_map, List.length_replicate, List.length_set]; rfl)) (by first | rfl | (simp only [List.length_map, List.length_replicate, List.length_set]; rfl)) (by first | rfl | (simp only [List.length_map, List.length_replicate, List.length_set]; rfl)) (by first | exact trivial | exact Eq.refl _) (by first | rfl | (simp only [List.length_map, List.length_replicate, List.length_set]; rfl)) (by first | exact g8 | exact Eq.refl _)) ?_
      simp only [wz, wd, ws, Nat.reduceAdd, Nat.reduceSub, Nat.reduceMul, Nat.reduceLeDiff, Nat.reduceEqDiff, Nat.reduceLT, Nat.reduceBEq, reduceIte, reduceCtorEq, Int.reduceToNat, Nat.reduceShiftRight, Nat.reduceAnd, Nat.reduceBneDiff, Nat.reduceBNe, c31r10]
      refine .seq ?_
      refine .blk ?_
      obtain ⟨s3, hf, h⟩ := Option.bind_eq_some_iff.1 h
      refine .loop (.weak (Imp.co [] _ _ ?c1 ?c2 ?c3 ?c4 ?c5) (f_digest_Sum_l16_ok s _ _ hR _ _ _ _ hf _ ?_))
      case c1 | c2 | c3 | c4 | c5 => simp only [wz, wd, ws, Nat.reduceAdd, Nat.reduceSub, Nat.reduceMul, Nat.reduceLeDiff, Nat.reduceEqDiff, Nat.reduceLT, Nat.reduceBEq, reduceIte, reduceCtorEq, Int.reduceToNat, Nat.reduceShiftRight, Nat.reduceAnd, Nat.reduceBneDiff, Nat.reduceBNe, wi, er_nil]
      · intro s3_ hs; subst hs
        refine .seq ?_
        refine Rw.walk ?_
        simp only [wz, wd, ws, Nat.reduceAdd, Nat.reduceSub, Nat.reduceMul, Nat.reduceLeDiff, Nat.reduceEqDiff, Nat.reduceLT, Nat.reduceBEq, reduceIte, reduceCtorEq, Int.reduceToNat, Nat.reduceShiftRight, Nat.reduceAnd, Nat.reduceBneDiff, Nat.reduceBNe, c31r14, semI.eq_10, semI.eq_11, semI.eq_3, semI.eq_5, semI.eq_7]
        refine .seq ?_
        refine .seq ?_
        refine Rw.walk ?_
        simp only [wz, wd, ws, Nat.reduceAdd, Nat.reduceSub, Nat.reduceMul, Nat.reduceLeDiff, Nat.reduceEqDiff, Nat.reduceLT, Nat.reduceBEq, reduceIte, reduceCtorEq, Int.reduceToNat, Nat.reduceShiftRight, Nat.reduceAnd, Nat.reduceBneDiff, Nat.reduceBNe, c31r15, semI.eq_3, semI.eq_5, semI.eq_7]
        obtain ⟨g14, h⟩ := gd_iff.1 h
        refine Go1.of (sem_loadW (n0 := 8) (by rfl) (eI_len _) (by rfl) (by rfl) (by rfl) (by first | exact g14 | exact Eq.refl _)) ?_
        simp only [wz, wd, ws, Nat.reduceAdd, Nat.reduceSub, Nat.reduceMul, Nat.reduceLeDiff, Nat.reduceEqDiff, Nat.reduceLT, Nat.reduceBEq, reduceIte, reduceCtorEq, Int.reduceToNat, Nat.reduceShiftRight, Nat.reduceAnd, Nat.reduceBneDiff, Nat.reduceBNe, c31r15, semI.eq_3, semI.eq_5, semI.eq_7]
        refine .blk ?_
        obtain ⟨s4, hf, h⟩ := Option.bind_eq_some_iff.1 h
        refine .weak (Imp.adoptN 7 62 1 rfl rfl) ?_
        simp only [wz, wd, ws, Nat.reduceAdd, Nat.reduceSub, Nat.reduceMul, Nat.reduceLeDiff, Nat.reduceEqDiff, Nat.reduceLT, Nat.reduceBEq, reduceIte, reduceCtorEq, Int.reduceToNat, Nat.reduceShiftRight, Nat.reduceAnd, Nat.reduceBneDiff, Nat.reduceBNe]
        refine .loop (.weak (Imp.co [] _ _ ?c1 ?c2 ?c3 ?c4 ?c5) (f_digest_Sum_l23_ok s s3 _ _ hR _ _ _ _ hf _ ?_))
        case c1 | c2 | c3 | c4 | c5 => simp only [wz, wd, ws, Nat.reduceAdd, Nat.reduceSub, Nat.reduceMul, Nat.reduceLeDiff, Nat.reduceEqDiff, Nat.reduceLT, Nat.reduceBEq, reduceIte, reduceCtorEq, Int.reduceToNat, Nat.reduceShiftRight, Nat.reduceAnd, Nat.reduceBneDiff, Nat.reduceBNe, wi, er_nil]
        · intro s4_ hs; subst hs
          refine .seq ?_
          refine Rw.walk ?_
          simp only [wz, wd, ws, Nat.reduceAdd, Nat.reduceSub, Nat.reduceMul, Nat.reduceLeDiff, Nat.reduceEqDiff, Nat.reduceLT, Nat.reduceBEq, reduceIte, reduceCtorEq, Int.reduceToNat, Nat.reduceShiftRight, Nat.reduceAnd, Nat.reduceBneDiff, Nat.reduceBNe, c31r20, semI.eq_10, semI.eq_11, semI.eq_3, semI.eq_5, semI.eq_7]
          refine Go1.of (sem_b2s (n := s4.2) (rowsV_own (m := s4.2) (by rfl) (by rfl))) ?_
          simp only [wz, wd, ws, Nat.reduceAdd, Nat.reduceSub, Nat.reduceMul, Nat.reduceLeDiff, Nat.reduceEqDiff, Nat.reduceLT, Nat.reduceBEq, reduceIte, reduceCtorEq, Int.reduceToNat, Nat.reduceShiftRight, Nat.reduceAnd, Nat.reduceBneDiff, Nat.reduceBNe, c31r20, semI.eq_10, semI.eq_11, semI.eq_3, semI.eq_5, semI.eq_7]
          obtain rfl := Option.some.inj h
          refine .ret ?_
          rw [← hR]
          simp only [wz, wd, ws, Nat.reduceAdd, Nat.reduceSub, Nat.reduceMul, Nat.reduceLeDiff, Nat.reduceEqDiff, Nat.reduceLT, Nat.reduceBEq, reduceIte, reduceCtorEq, Int.reduceToNat, Nat.reduceShiftRight, Nat.reduceAnd, Nat.reduceBneDiff, Nat.reduceBNe, rv31]
-- 20 consignor/digest.Of
def c20r0 : List Opn := [
  ⟨(some 2), none, .mv (.c (.s (.d (.str []))))⟩]
def c20r1 : List Opn := [
  ⟨(some 3), none, .mv (.t 0)⟩, 
  ⟨(some 4), none, .bsl 1 [(.t 3)]⟩, 
  ⟨(some 5), none, .call (.fn 31) [(.t 4)]⟩, 
  ⟨(some 6), none, .call (.fn 30) [(.t 5)]⟩, 
  ⟨(some 7), none, .bin .add (.c (.s (.d (.str [115, 104, 97, 50, 53, 54, 58])))) (.t 6)⟩, 
  ⟨(some 2), none, .mv (.t 7)⟩]
def c20 : C := .seq (.reg c20r0 none [0]) (.seq (.reg c20r1 none [2]) (.ret))
def k20 : List (Nat × List Nat) := [(1, [2]), (0, [0])]
theorem cc20 : (Tryd.f20.body).bind (cC Tryd.prog 8 k20) = some c20 := by kernel_rfl
def rv20 : List RV := [.t 2]
theorem cr20 : cRVs Tryd.prog Tryd.f20.results.toList = some rv20 := by kernel_rfl
theorem f_digest_Of_ok (s : Str) (y_ : Str) (h : f_digest_Of s = some y_) : Fun Tryd.prog glP 20 [.b (.s (.d (.str s)))] (.b (.s (.d (.str y_)))) := by
  refine fun_walk [] Tryd.func20 Tryd.ntmps20 cc20 cr20 (by kernel_rfl) (by simp only [List.length_cons, List.length_nil]; decide) ?_
  generalize hR : Ret _ _ _ _ _ = R_
  simp only [wz, wd, ws, Nat.reduceAdd, Nat.reduceSub, Nat.reduceMul, Nat.reduceLeDiff, Nat.reduceEqDiff, Nat.reduceLT, Nat.reduceBEq, reduceIte, reduceCtorEq, Int.reduceToNat, Nat.reduceShiftRight, Nat.reduceAnd, Nat.reduceBneDiff, Nat.reduceBNe]
  unfold f_digest_Of at h; unfold c20
  refine .seq ?_
  refine Rw.walk ?_
  simp only [wz, wd, ws, Nat.reduceAdd, Nat.reduceSub, Nat.reduceMul, Nat.reduceLeDiff, Nat.reduceEqDiff, Nat.reduceLT, Nat.reduceBEq, reduceIte, reduceCtorEq, Int.reduceToNat, Nat.reduceShiftRight, Nat.reduceAnd, Nat.reduceBneDiff, Nat.reduceBNe, c20r0, semI.eq_10, semI.eq_11, semI.eq_3, semI.eq_5, semI.eq_7]
  refine .seq ?_
  refine Rw.walk ?_
  simp only [wz, wd, ws, Nat.reduceAdd, Nat.reduceSub, Nat.reduceMul, Nat.reduceLeDiff, Nat.reduceEqDiff, Nat.reduceLT, Nat.reduceBEq, reduceIte, reduceCtorEq, Int.reduceToNat, Nat.reduceShiftRight, Nat.reduceAnd, Nat.reduceBneDiff, Nat.reduceBNe, c20r1, semI.eq_10, semI.eq_11, semI.eq_3, semI.eq_5, semI.eq_7]
  refine Go1.of (sem_bsl (enc := eS) (m := ([s] : List Str)) eS_len (by rfl) (by rfl) (by rfl) ⟨trivial, trivial⟩) ?_
  simp only [wz, wd, ws, Nat.reduceAdd, Nat.reduceSub, Nat.reduceMul, Nat.reduceLeDiff, Nat.reduceEqDiff, Nat.reduceLT, Nat.reduceBEq, reduceIte, reduceCtorEq, Int.reduceToNat, Nat.reduceShiftRight, Nat.reduceAnd, Nat.reduceBneDiff, Nat.reduceBNe, c20r1, semI.eq_10, semI.eq_11, semI.eq_3, semI.eq_5, semI.eq_7]
  obtain ⟨t, e1, h⟩ := Option.bind_eq_some_iff.1 h
  refine call_fun [4] false ⟨trivial, trivial, trivial⟩ rfl ?_ (f_digest_Sum_ok _ _ e1) (fun _ => rfl) (fun i hi e he => coF_get (l := [4]) (by simp only [wz, wd, ws, Nat.reduceAdd, Nat.reduceSub, Nat.reduceMul, Nat.reduceLeDiff, Nat.reduceEqDiff, Nat.reduceLT, Nat.reduceBEq, reduceIte, reduceCtorEq, Int.reduceToNat, Nat.reduceShiftRight, Nat.reduceAnd, Nat.reduceBneDiff, Nat.reduceBNe, wi]) i e hi he) ?_
  · simp only [wz, wd, ws, Nat.reduceAdd, Nat.reduceSub, Nat.reduceMul, Nat.reduceLeDiff, Nat.reduceEqDiff, Nat.reduceLT, Nat.reduceBEq, reduceIte, reduceCtorEq, Int.reduceToNat, Nat.reduceShiftRight, Nat.reduceAnd, Nat.reduceBneDiff, Nat.reduceBNe]
  simp only [wz, wd, ws, Nat.reduceAdd, Nat.reduceSub, Nat.reduceMul, Nat.reduceLeDiff, Nat.reduceEqDiff, Nat.reduceLT, Nat.reduceBEq, reduceIte, reduceCtorEq, Int.reduceToNat, Nat.reduceShiftRight, Nat.reduceAnd, Nat.reduceBneDiff, Nat.reduceBNe, c20r1, semI.eq_10, semI.eq_11, semI.eq_3, semI.eq_5, semI.eq_7]
  obtain ⟨t2, e2, h⟩ := Option.bind_eq_some_iff.1 h
  refine call_fun [] false ⟨trivial, trivial, trivial⟩ rfl ?_ (f_octet_Hex_ok _ _ e2) (fun _ => rfl) (fun i hi => by cases hi) ?_
  · simp only [wz, wd, ws, Nat.reduceAdd, Nat.reduceSub, Nat.reduceMul, Nat.reduceLeDiff, Nat.reduceEqDiff, Nat.reduceLT, Nat.reduceBEq, reduceIte, reduceCtorEq, Int.reduceToNat, Nat.reduceShiftRight, Nat.reduceAnd, Nat.reduceBneDiff, Nat.reduceBNe]
  simp only [wz, wd, ws, Nat.reduceAdd, Nat.reduceSub, Nat.reduceMul, Nat.reduceLeDiff, Nat.reduceEqDiff, Nat.reduceLT, Nat.reduceBEq, reduceIte, reduceCtorEq, Int.reduceToNat, Nat.reduceShiftRight, Nat.reduceAnd, Nat.reduceBneDiff, Nat.reduceBNe, c20r1, semI.eq_10, semI.eq_11, semI.eq_3, semI.eq_5, semI.eq_7]
  obtain ⟨g3, h⟩ := gd_iff.1 h
  repeat (refine And.intro ?_ ?_; · first | omega | (intro q; simp only [wz, wd, ws, Nat.reduceAdd, Nat.reduceSub, Nat.reduceMul, Nat.reduceLeDiff, Nat.reduceEqDiff, Nat.reduceLT, Nat.reduceBEq, reduceIte, reduceCtorEq, Int.reduceToNat, Nat.reduceShiftRight, Nat.reduceAnd, Nat.reduceBneDiff, Nat.reduceBNe, q]; done))
  obtain rfl := Option.some.inj h
  refine .ret ?_
  rw [← hR]
  simp only [wz, wd, ws, Nat.reduceAdd, Nat.reduceSub, Nat.reduceMul, Nat.reduceLeDiff, Nat.reduceEqDiff, Nat.reduceLT, Nat.reduceBEq, reduceIte, reduceCtorEq, Int.reduceToNat, Nat.reduceShiftRight, Nat.reduceAnd, Nat.reduceBneDiff, Nat.reduceBNe, rv20]
-- 55 internal/stringslite.HasPrefix
def c55r0 : List Opn := [
  ⟨(some 4), none, .mv (.c (.s (.d (.bool false))))⟩]
def c55r1 : List Opn := [
  ⟨(some 5), none, .mv (.t 0)⟩, 
  ⟨(some 6), none, .len .str (.t 5)⟩, 
  ⟨(some 7), none, .mv (.t 1)⟩, 
  ⟨(some 8), none, .len .str (.t 7)⟩, 
  ⟨(some 9), none, .bin .geq (.t 6) (.t 8)⟩, 
  ⟨(some 10), none, .mv (.t 9)⟩, 
  ⟨(some 11), some (10, true), .mv (.t 0)⟩, 
  ⟨(some 12), some (10, true), .mv (.t 1)⟩, 
  ⟨(some 13), some (10, true), .len .str (.t 12)⟩, 
  ⟨(some 14), some (10, true), .slc .str (.t 11) none (some (.t 13)) none⟩, 
  ⟨(some 15), some (10, true), .mv (.t 1)⟩, 
  ⟨(some 16), some (10, true), .bin .eql (.t 14) (.t 15)⟩, 
  ⟨(some 17), none, .pick (.t 10) (.t 16) (.c (.s (.d (.bool false))))⟩, 
  ⟨(some 4), none, .mv (.t 17)⟩]
def c55 : C := .seq (.reg c55r0 none [0, 1]) (.seq (.reg c55r1 none [4]) (.ret))
def k55 : List (Nat × List Nat) := [(1, [4]), (0, [0, 1])]
theorem cc55 : (Tryd.f55.body).bind (cC Tryd.prog 18 k55) = some c55 := by kernel_rfl
def rv55 : List RV := [.t 4]
theorem cr55 : cRVs Tryd.prog Tryd.f55.results.toList = some rv55 := by kernel_rfl
theorem f_internal_stringslite_HasPrefix_ok (s : Str) (prefixv : Str) (y_ : Bool) (h : f_internal_stringslite_HasPrefix s prefixv = some y_) : Fun Tryd.prog glP 55 [.b (.s (.d (.str s))), .b (.s (.d (.str prefixv)))] (.b (.s (.d (.bool y_)))) := by
  refine fun_walk [] Tryd.func55 Tryd.ntmps55 cc55 cr55 (by kernel_rfl) (by simp only [List.length_cons, List.length_nil]; decide) ?_
  generalize hR : Ret _ _ _ _ _ = R_
  simp only [wz, wd, ws, Nat.reduceAdd, Nat.reduceSub, Nat.reduceMul, Nat.reduceLeDiff, Nat.reduceEqDiff, Nat.reduceLT, Nat.reduceBEq, reduceIte, reduceCtorEq, Int.reduceToNat, Nat.reduceShiftRight, Nat.reduceAnd, Nat.reduceBneDiff, Nat.reduceBNe]
  unfold f_internal_stringslite_HasPrefix at h; unfold c55
  refine .seq ?_
  refine Rw.walk ?_
  simp only [wz, wd, ws, Nat.reduceAdd, Nat.reduceSub, Nat.reduceMul, Nat.reduceLeDiff, Nat.reduceEqDiff, Nat.reduceLT, Nat.reduceBEq, reduceIte, reduceCtorEq, Int.reduceToNat, Nat.reduceShiftRight, Nat.reduceAnd, Nat.reduceBneDiff, Nat.reduceBNe, c55r0, semI.eq_10, semI.eq_11, semI.eq_3, semI.eq_5, semI.eq_7]
  refine .seq ?_
  refine Rw.walk ?_
  obtain ⟨g1, h⟩ := gd_iff.1 h
  simp only [wz, wd, ws, Nat.reduceAdd, Nat.reduceSub, Nat.reduceMul, Nat.reduceLeDiff, Nat.reduceEqDiff, Nat.reduceLT, Nat.reduceBEq, reduceIte, reduceCtorEq, Int.reduceToNat, Nat.reduceShiftRight, Nat.reduceAnd, Nat.reduceBneDiff, Nat.reduceBNe, c55r1, semI.eq_10, semI.eq_11, semI.eq_3, semI.eq_5, semI.eq_7]
  repeat (refine And.intro ?_ ?_; · first | omega | exact g1 | (intro q; first | omega | (have q2 := g1 (by simpa using q); omega) | (have q2 := g1 q; omega) | (have q2 := g1 (by simpa using q); simp only [List.length_append, List.length_cons, List.length_nil] at q2 ⊢; omega)) | (intro q; simp only [wz, wd, ws, Nat.reduceAdd, Nat.reduceSub, Nat.reduceMul, Nat.reduceLeDiff, Nat.reduceEqDiff, Nat.reduceLT, Nat.reduceBEq, reduceIte, reduceCtorEq, Int.reduceToNat, Nat.reduceShiftRight, Nat.reduceAnd, Nat.reduceBneDiff, Nat.reduceBNe, q]; done))
  obtain rfl := Option.some.inj h
  refine .ret ?_
  rw [← hR]
  simp only [wz, wd, ws, Nat.reduceAdd, Nat.reduceSub, Nat.reduceMul, Nat.reduceLeDiff, Nat.reduceEqDiff, Nat.reduceLT, Nat.reduceBEq, reduceIte, reduceCtorEq, Int.reduceToNat, Nat.reduceShiftRight, Nat.reduceAnd, Nat.reduceBneDiff, Nat.reduceBNe, rv55]
end Go.Proofs.YtdcokepmblcdmaaDoor.V
end
