/- Go functions compute what Lean functions do. -/
import Derived.Test.YtjhgkcbhllomaaaDoorQDigestApartB
import Derived.Lib.Bytealg
import Derived.Lib.Join
import Derived.Shelf.Strings.Builder1
import Derived.Shelf.Strings.Builder2
import Derived.Shelf.Strings.OnBuilder
import Derived.Shelf.Small.Strs
import Derived.Shelf.Small.Wraps
import Derived.Shelf.Strings.BuilderF
import Derived.Shelf.Strings.BuilderK
import Derived.Shelf.Strings.Builder2Cap
import Derived.Shelf.Strings.Search1
import Derived.Shelf.Strings.Prefix
import Derived.Shelf.Strings.BuilderCap
import Derived.Test.YtjhgkcbhllomaaaDoorProg
import Derived.OpenShut
import Derived.Below
import Derived.Deep.Draws
import Derived.OwnWalk
import Derived.Laws.BytesArg
import Derived.Laws.MakeOwn
import Derived.Laws.OwnMore
import Derived.Deep.OwnRows
import Derived.Tactics
import Derived.Lib.ConvBytes
import Derived.Laws.Slices
import Derived.WalkKit
import Derived.KernelRfl
import Derived.RowKit3
import Derived.Deep.LoopGhost
import Derived.Deep.QuietTactic
import Derived.BigQuiet
import Derived.WideLaws
import Derived.Deep.DeepCutAuto
import Derived.Deep.CutBlock
import Derived.Deep.RegionHeld3
import Derived.Laws.Rows
import Derived.Lib.AppendStr
import Derived.ArgAppend
import Derived.Laws.BitsLemmas
import Derived.RowKit
section
/- What Go functions compute, as Lean functions. -/
namespace Go.Proofs.YtjhgkcbhllomaaaDoor.V
open Go Go.RowKit
set_option linter.unusedVariables false
set_option linter.unusedSimpArgs false
set_option maxHeartbeats 1000000
def g_digest_keys : List Int := [1116352408, 1899447441, 3049323471, 3921009573, 961987163, 1508970993, 2453635748, 2870763221, 3624381080, 310598401, 607225278, 1426881987, 1925078388, 2162078206, 2614888103, 3248222580, 3835390401, 4022224774, 264347078, 604807628, 770255983, 1249150122, 1555081692, 1996064986, 2554220882, 2821834349, 2952996808, 3210313671, 3336571891, 3584528711, 113926993, 338241895, 666307205, 773529912, 1294757372, 1396182291, 1695183700, 1986661051, 2177026350, 2456956037, 2730485921, 2820302411, 3259730800, 3345764771, 3516065817, 3600352804, 4094571909, 275423344, 430227734, 506948616, 659060556, 883997877, 958139571, 1322822218, 1537002063, 1747873779, 1955562222, 2024104815, 2227730452, 2361852424, 2428436474, 2756734187, 3204031479, 3329325298]
def glP : Gl := fun g => if g = 0 then some ((g_digest_keys.map (eI .u32)).flatten) else none

def f_octet_Hex (s : Str) : Option Str := gd (s.length ≤ 35184372088832) <| some (hexl s)
def f_internal_stringslite_IndexByte (s : Str) (c : Int) : Option Int := some (Lib.indexByte s c.toNat.toUInt8)
theorem flat_eS (l : List Str) : (l.map eS).flatten = l.map Sc.str := by
  induction l with
  | nil => rfl
  | cons x l ih => rw [List.map_cons, List.flatten_cons, ih]; rfl
def f_strings_Join (l : List Str) (sep : Str) : Option Str := gd (l.length ≤ 140737488355328 ∧ (Lib.join l sep).length ≤ 140737488355328) <| some (Lib.join l sep)
def f_law02_short (s : Str) : Option (Str) :=
  gd (0 ≤ (if 300 < (s.length : Int) then 300 else (s.length : Int)) ∧ (if 300 < (s.length : Int) then 300 else (s.length : Int)) ≤ (s.length : Int)) <|
  some (cut s 0 (if 300 < (s.length : Int) then 300 else (s.length : Int)))
def f_digest_begins : Option ((List Int)) :=
  gd (8 = 8) <|
  some ([1779033703, 3144134277, 1013904242, 2773480762, 1359893119, 2600822924, 528734635, 1541459225] : (List Int))
def f_digest_big (s : Str) : Option (Int) :=
  (ix s 0).bind fun c =>
  (ix s 1).bind fun c2 =>
  (ix s 2).bind fun c3 =>
  (ix s 3).bind fun c4 =>
  some (IntKind.u32.wrap ((BitVec.ofInt IntKind.u32.bits (IntKind.u32.wrap ((BitVec.ofInt IntKind.u32.bits (IntKind.u32.wrap ((BitVec.ofInt IntKind.u32.bits (IntKind.u32.wrap ((IntKind.u32.wrap (bn c)) * 2 ^ (min 24 IntKind.u32.bits))) ||| BitVec.ofInt IntKind.u32.bits (IntKind.u32.wrap ((IntKind.u32.wrap (bn c2)) * 2 ^ (min 16 IntKind.u32.bits)))).toNat)) ||| BitVec.ofInt IntKind.u32.bits (IntKind.u32.wrap ((IntKind.u32.wrap (bn c3)) * 2 ^ (min 8 IntKind.u32.bits)))).toNat)) ||| BitVec.ofInt IntKind.u32.bits (IntKind.u32.wrap (bn c4))).toNat))
def f_math_bits_RotateLeft32 (x : Int) (kv : Int) : Option (Int) :=
  (some (IntKind.u64.wrap ((BitVec.ofInt IntKind.u64.bits (IntKind.u64.wrap kv) &&& BitVec.ofInt IntKind.u64.bits 31).toNat))).bind fun s =>
  gd (0 ≤ s) <|
  gd (0 ≤ (IntKind.u64.wrap (32 - s))) <|
  some (IntKind.u32.wrap ((BitVec.ofInt IntKind.u32.bits (IntKind.u32.wrap (x * 2 ^ (min s.toNat IntKind.u32.bits))) ||| BitVec.ofInt IntKind.u32.bits (x.fdiv (2 ^ (min (IntKind.u64.wrap (32 - s)).toNat IntKind.u32.bits)))).toNat))
def f_digest_mixed (x : Int) (a : Int) (b : Int) (c : Int) (moved : Bool) : Option (Int) :=
  (f_math_bits_RotateLeft32 x (IntKind.i64.wrap (0 - c))).bind fun t =>
  Option.bind (
    if moved then
      gd (0 ≤ c) <|
      some (x.fdiv (2 ^ (min c.toNat IntKind.u32.bits)))
    else
      some t) fun s : Int =>
  (f_math_bits_RotateLeft32 x (IntKind.i64.wrap (0 - a))).bind fun t2 =>
  (f_math_bits_RotateLeft32 x (IntKind.i64.wrap (0 - b))).bind fun t3 =>
  some (IntKind.u32.wrap ((BitVec.ofInt IntKind.u32.bits (IntKind.u32.wrap ((BitVec.ofInt IntKind.u32.bits t2 ^^^ BitVec.ofInt IntKind.u32.bits t3).toNat)) ^^^ BitVec.ofInt IntKind.u32.bits s).toNat))
def f_digest_over_l9 (hv : (List Int)) (s : Str) : Nat → Int → (List Int) → Option (Int × (List Int))
  | 0, _, _ => none
  | m_ + 1, v14, w =>
    if (decide (v14 < 64)) then
      if (decide (v14 < 16)) then
        gd (0 ≤ (IntKind.i64.wrap (4 * v14)) ∧ (IntKind.i64.wrap (4 * v14)) ≤ (s.length : Int)) <|
        (f_digest_big (cut s (IntKind.i64.wrap (4 * v14)) (s.length : Int))).bind fun t =>
        gd (0 ≤ v14 ∧ v14 < 64) <|
        gd (0 ≤ v14 ∧ v14 < (w.length : Int)) <|
        f_digest_over_l9 hv s m_ (IntKind.i64.wrap (v14 + 1)) (w.set v14.toNat t)
      else
        gd (0 ≤ (IntKind.i64.wrap (v14 - 2)) ∧ (IntKind.i64.wrap (v14 - 2)) < 64) <|
        (ix w (IntKind.i64.wrap (v14 - 2))).bind fun x =>
        (f_digest_mixed x 17 19 10 true).bind fun t =>
        gd (0 ≤ (IntKind.i64.wrap (v14 - 7)) ∧ (IntKind.i64.wrap (v14 - 7)) < 64) <|
        (ix w (IntKind.i64.wrap (v14 - 7))).bind fun x2 =>
        gd (0 ≤ (IntKind.i64.wrap (v14 - 15)) ∧ (IntKind.i64.wrap (v14 - 15)) < 64) <|
        (ix w (IntKind.i64.wrap (v14 - 15))).bind fun x3 =>
        (f_digest_mixed x3 7 18 3 true).bind fun t2 =>
        gd (0 ≤ (IntKind.i64.wrap (v14 - 16)) ∧ (IntKind.i64.wrap (v14 - 16)) < 64) <|
        (ix w (IntKind.i64.wrap (v14 - 16))).bind fun x4 =>
        gd (0 ≤ v14 ∧ v14 < 64) <|
        gd (0 ≤ v14 ∧ v14 < (w.length : Int)) <|
        f_digest_over_l9 hv s m_ (IntKind.i64.wrap (v14 + 1)) (w.set v14.toNat (IntKind.u32.wrap ((IntKind.u32.wrap ((IntKind.u32.wrap (t + x2)) + t2)) + x4)))
    else
      some (v14, w)
def f_digest_over_l19 (hv : (List Int)) (s : Str) (s2 : Int × (List Int)) : Nat → Int → (List Int) → Option (Int × (List Int))
  | 0, _, _ => none
  | m_ + 1, v51, v =>
    if (decide (v51 < 64)) then
      (ix v 0).bind fun x =>
      (ix v 4).bind fun x2 =>
      (ix v 7).bind fun x3 =>
      (f_digest_mixed x2 6 11 25 false).bind fun t =>
      (ix v 5).bind fun x4 =>
      (ix v 6).bind fun x5 =>
      gd (0 ≤ v51 ∧ v51 < 64) <|
      (ix g_digest_keys v51).bind fun x6 =>
      gd (0 ≤ v51 ∧ v51 < 64) <|
      (ix s2.2 v51).bind fun x7 =>
      (some (IntKind.u32.wrap ((IntKind.u32.wrap ((IntKind.u32.wrap ((IntKind.u32.wrap (x3 + t)) + (IntKind.u32.wrap ((BitVec.ofInt IntKind.u32.bits (IntKind.u32.wrap ((BitVec.ofInt IntKind.u32.bits x2 &&& BitVec.ofInt IntKind.u32.bits x4).toNat)) ^^^ BitVec.ofInt IntKind.u32.bits (IntKind.u32.wrap ((BitVec.ofInt IntKind.u32.bits (IntKind.u32.wrap (BitVec.ofInt IntKind.u32.bits (if IntKind.u32.signed then -1 else IntKind.u32.max) ^^^ BitVec.ofInt IntKind.u32.bits x2).toNat) &&& BitVec.ofInt IntKind.u32.bits x5).toNat))).toNat)))) + x6)) + x7))).bind fun first =>
      (f_digest_mixed x 2 13 22 false).bind fun t2 =>
      (ix v 1).bind fun x8 =>
      (ix v 2).bind fun x9 =>
      (ix v 1).bind fun x10 =>
      (ix v 2).bind fun x11 =>
      (some (IntKind.u32.wrap (t2 + (IntKind.u32.wrap ((BitVec.ofInt IntKind.u32.bits (IntKind.u32.wrap ((BitVec.ofInt IntKind.u32.bits (IntKind.u32.wrap ((BitVec.ofInt IntKind.u32.bits x &&& BitVec.ofInt IntKind.u32.bits x8).toNat)) ^^^ BitVec.ofInt IntKind.u32.bits (IntKind.u32.wrap ((BitVec.ofInt IntKind.u32.bits x &&& BitVec.ofInt IntKind.u32.bits x9).toNat))).toNat)) ^^^ BitVec.ofInt IntKind.u32.bits (IntKind.u32.wrap ((BitVec.ofInt IntKind.u32.bits x10 &&& BitVec.ofInt IntKind.u32.bits x11).toNat))).toNat))))).bind fun second =>
      (ix v 1).bind fun x12 =>
      (ix v 2).bind fun x13 =>
      (ix v 3).bind fun x14 =>
      (ix v 5).bind fun x15 =>
      (ix v 6).bind fun x16 =>
      gd (v.length = 8) <|
      f_digest_over_l19 hv s s2 m_ (IntKind.i64.wrap (v51 + 1)) ([(IntKind.u32.wrap (first + second)), x, x12, x13, (IntKind.u32.wrap (x14 + first)), x2, x15, x16] : (List Int))
    else
      some (v51, v)
def f_digest_over_l25 (s : Str) (s3 : Int × (List Int)) : Nat → Int → (List Int) → Option (Int × (List Int))
  | 0, _, _ => none
  | m_ + 1, v119, hv2 =>
    if (decide (v119 < 8)) then
      gd (0 ≤ v119 ∧ v119 < 8) <|
      (ix hv2 v119).bind fun x =>
      gd (0 ≤ v119 ∧ v119 < 8) <|
      (ix s3.2 v119).bind fun x2 =>
      gd (0 ≤ v119 ∧ v119 < 8) <|
      gd (0 ≤ v119 ∧ v119 < (hv2.length : Int)) <|
      f_digest_over_l25 s s3 m_ (IntKind.i64.wrap (v119 + 1)) (hv2.set v119.toNat (IntKind.u32.wrap (x + x2)))
    else
      some (v119, hv2)
def f_digest_over (hv : (List Int)) (s : Str) : Option ((List Int)) :=
  gd (hv.length = 8) <|
  Option.bind (f_digest_over_l9 hv s (((64 : Int) - 0).toNat + 1) 0 (List.replicate 64 0)) fun s2 : Int × (List Int) =>
  gd (hv.length = 8) <|
  gd (hv.length = 8) <|
  Option.bind (f_digest_over_l19 hv s s2 (((64 : Int) - 0).toNat + 1) 0 hv) fun s3 : Int × (List Int) =>
  Option.bind (f_digest_over_l25 s s3 (((8 : Int) - 0).toNat + 1) 0 hv) fun s4 : Int × (List Int) =>
  gd (s4.2.length = 8) <|
  gd (s4.2.length = 8) <|
  gd (s4.2.length = 8) <|
  some s4.2
def f_digest_Sum_l6 (t : Str) : Nat → Str → Option (Str)
  | 0, _ => none
  | m_ + 1, s =>
    if (((s.length : Int).tmod 64) != 56) then
      gd (s.length + 1 ≤ 9223372036854775807) <|
      f_digest_Sum_l6 t m_ (s ++ ([0] : Str))
    else
      some s
def f_digest_Sum_l11 (t : Str) (s : Str) : Nat → Str → Int → Option (Str × Int)
  | 0, _, _ => none
  | m_ + 1, s2, i =>
    if (decide (i ≥ 0)) then
      gd (0 ≤ (IntKind.i64.wrap (8 * i))) <|
      gd (s2.length + 1 ≤ 9223372036854775807) <|
      (some (s2 ++ (([(IntKind.u8.wrap ((IntKind.u64.wrap ((IntKind.u64.wrap (t.length : Int)) * 8)).fdiv (2 ^ (min (IntKind.i64.wrap (8 * i)).toNat IntKind.u64.bits))))] : List Int).map nb))).bind fun s3 =>
      f_digest_Sum_l11 t s m_ s3 (IntKind.i64.wrap (i - 1))
    else
      some (s2, i)
def f_digest_Sum_l16 (s : Str) : Nat → Str → (List Int) → Option (Str × (List Int))
  | 0, _, _ => none
  | m_ + 1, s3, hv =>
    if (!(s3 == ([] : Str))) then
      gd (hv.length = 8) <|
      (f_digest_over hv s3).bind fun t3 =>
      gd (hv.length = 8) <|
      gd (t3.length = 8) <|
      gd (64 ≤ (s3.length : Int)) <|
      f_digest_Sum_l16 s m_ (cut s3 64 (s3.length : Int)) t3
    else
      some (s3, hv)
def f_digest_Sum_l23 (s : Str) (s3 : Str × (List Int)) : Nat → Int → (List Int) → Option (Int × (List Int))
  | 0, _, _ => none
  | m_ + 1, v46, out =>
    if (decide (v46 < 8)) then
      gd (s3.2.length = 8) <|
      (ix s3.2 v46).bind fun x =>
      gd ((out.length + 4) * 1 ≤ 140737488355328) <|
      f_digest_Sum_l23 s s3 m_ (IntKind.i64.wrap (v46 + 1)) (out ++ ([(IntKind.u8.wrap (x.fdiv (2 ^ (min 24 IntKind.u32.bits)))), (IntKind.u8.wrap (x.fdiv (2 ^ (min 16 IntKind.u32.bits)))), (IntKind.u8.wrap (x.fdiv (2 ^ (min 8 IntKind.u32.bits)))), (IntKind.u8.wrap x)] : List Int))
    else
      some (v46, out)
def f_digest_Sum (parts : (List Str)) : Option (Str) :=
  (f_strings_Join parts ([] : Str)).bind fun t =>
  gd (t.length + 1 ≤ 9223372036854775807) <|
  Option.bind (f_digest_Sum_l6 t 65 (t ++ ([128] : Str))) fun s : Str =>
  Option.bind (f_digest_Sum_l11 t s (((7 : Int) - 0).toNat + 2) s 7) fun s2 : Str × Int =>
  (f_digest_begins).bind fun t2 =>
  gd (t2.length = 8) <|
  Option.bind (f_digest_Sum_l16 s (s.length + 1) s2.1 t2) fun s3 : Str × (List Int) =>
  gd (s3.2.length = 8) <|
  Option.bind (f_digest_Sum_l23 s s3 (((8 : Int) - 0).toNat + 1) 0 []) fun s4 : Int × (List Int) =>
  some (s4.2.map nb)
def f_digest_Of (s : Str) : Option (Str) :=
  (f_digest_Sum ([s] : List Str)).bind fun t =>
  (f_octet_Hex t).bind fun t2 =>
  gd (7 + t2.length ≤ 9223372036854775807) <|
  some (([115, 104, 97, 50, 53, 54, 58] : Str) ++ t2)
def f_internal_stringslite_HasPrefix (s : Str) (prefixv : Str) : Option (Bool) :=
  gd ((decide ((s.length : Int) ≥ (prefixv.length : Int))) = true → 0 ≤ (prefixv.length : Int) ∧ (prefixv.length : Int) ≤ (s.length : Int)) <|
  some ((decide ((s.length : Int) ≥ (prefixv.length : Int))) && ((cut s 0 (prefixv.length : Int)) == prefixv))
def f_internal_stringslite_CutPrefix (s : Str) (prefixv : Str) : Option (Str × Bool) :=
  (f_internal_stringslite_HasPrefix s prefixv).bind fun t =>
  if (!t) then
    some (s, false)
  else
    gd (0 ≤ (prefixv.length : Int) ∧ (prefixv.length : Int) ≤ (s.length : Int)) <|
    some ((cut s (prefixv.length : Int) (s.length : Int)), true)
def f_strings_CutPrefix (s : Str) (prefixv : Str) : Option (Str × Bool) :=
  (f_internal_stringslite_CutPrefix s prefixv).bind fun t =>
  some (t.1, t.2)
def f_strings_IndexByte (s : Str) (c : Int) : Option (Int) :=
  (f_internal_stringslite_IndexByte s c).bind fun t =>
  some t
def f_octet_Bytes_l12 (s : Str) : Nat → Int → (List Int) → Option ((Int × (List Int)) ⊕ (Str × Int))
  | 0, _, _ => none
  | m_ + 1, v18, out =>
    if (decide (v18 < ((List.replicate (IntKind.i64.wrap ((s.length : Int).tdiv 2)).toNat 0).length : Int))) then
      (ix s (IntKind.i64.wrap (2 * v18))).bind fun c =>
      (f_strings_IndexByte ([48, 49, 50, 51, 52, 53, 54, 55, 56, 57, 97, 98, 99, 100, 101, 102] : Str) (bn c)).bind fun t =>
      (ix s (IntKind.i64.wrap ((IntKind.i64.wrap (2 * v18)) + 1))).bind fun c2 =>
      (f_strings_IndexByte ([48, 49, 50, 51, 52, 53, 54, 55, 56, 57, 97, 98, 99, 100, 101, 102] : Str) (bn c2)).bind fun t2 =>
      if ((decide (t < 0)) || (decide (t2 < 0))) then
        some (.inr (([] : Str), 4))
      else
        (ix out v18).bind fun x =>
        f_octet_Bytes_l12 s m_ (IntKind.i64.wrap (v18 + 1)) (out.set v18.toNat (IntKind.u8.wrap (IntKind.i64.wrap ((IntKind.i64.wrap (t * 16)) + t2))))
    else
      some (.inl (v18, out))
def f_octet_Bytes (s : Str) : Option (Str × Int) :=
  if (((s.length : Int).tmod 2) != 0) then
    some (([] : Str), 4)
  else
    gd (0 ≤ (IntKind.i64.wrap ((s.length : Int).tdiv 2)) ∧ (IntKind.i64.wrap ((s.length : Int).tdiv 2)) ≤ (IntKind.i64.wrap ((s.length : Int).tdiv 2)) ∧ (IntKind.i64.wrap ((s.length : Int).tdiv 2)) * 1 ≤ 140737488355328 ∧ (IntKind.i64.wrap ((s.length : Int).tdiv 2)) < 9223372036854775808) <|
    Option.bind (f_octet_Bytes_l12 s (((((List.replicate (IntKind.i64.wrap ((s.length : Int).tdiv 2)).toNat 0).length : Int) : Int) - 0).toNat + 1) 0 (List.replicate (IntKind.i64.wrap ((s.length : Int).tdiv 2)).toNat 0)) fun s2 : (Int × (List Int)) ⊕ (Str × Int) => match s2 with
    | .inr z => some z
    | .inl s3 =>
      some ((s3.2.map nb), 0)
def f_digest_Parse (s : Str) : Option (Str × Int) :=
  (f_strings_CutPrefix s ([115, 104, 97, 50, 53, 54, 58] : Str)).bind fun t =>
  (f_octet_Bytes t.1).bind fun t2 =>
  if (((!t.2) || (t2.2 != 0)) || ((t2.1.length : Int) != 32)) then
    some (([] : Str), 6)
  else
    some (t2.1, 0)
def f_law02_alive : Option (Bool) :=
  (f_digest_Of ([97, 98, 99] : Str)).bind fun t =>
  some (t == ([115, 104, 97, 50, 53, 54, 58, 98, 97, 55, 56, 49, 54, 98, 102, 56, 102, 48, 49, 99, 102, 101, 97, 52, 49, 52, 49, 52, 48, 100, 101, 53, 100, 97, 101, 50, 50, 50, 51, 98, 48, 48, 51, 54, 49, 97, 51, 57, 54, 49, 55, 55, 97, 57, 99, 98, 52, 49, 48, 102, 102, 54, 49, 102, 50, 48, 48, 49, 53, 97, 100] : Str))
def f_digest_Fits (digest : Str) (data : Str) : Option (Int) :=
  (f_digest_Parse digest).bind fun t =>
  if (t.2 != 0) then
    some t.2
  else
    (f_digest_Sum ([data] : List Str)).bind fun t2 =>
    if (!(t2 == t.1)) then
      some 10
    else
      some 0
def f_law02_DigestApart (data : Str) (other : Str) (atv : Int) (c : Int) : Option (Bool) :=
  (f_law02_short data).bind fun t =>
  (f_law02_short other).bind fun t2 =>
  (f_digest_Of t).bind fun t3 =>
  (f_digest_Parse t3).bind fun t4 =>
  (gx (!(((t4.2 != 0) || ((t3.length : Int) != 71)) || ((t4.1.length : Int) != 32))) (f_law02_alive) default).bind fun t5 =>
  if ((((t4.2 != 0) || ((t3.length : Int) != 71)) || ((t4.1.length : Int) != 32)) || (!t5)) then
    some false
  else
    (f_digest_Fits t3 t2).bind fun t6 =>
    (f_digest_Sum ([t2] : List Str)).bind fun t7 =>
    if (!((t6 == 0) == (t7 == t4.1))) then
      some false
    else
      (ix (t3.map bn) ((IntKind.i64.wrap ((atv.tmod 71) + 71)).tmod 71)).bind fun x =>
      if (x == c) then
        some true
      else
        (ix (t3.map bn) ((IntKind.i64.wrap ((atv.tmod 71) + 71)).tmod 71)).bind fun x2 =>
        (f_digest_Parse (((t3.map bn).set ((IntKind.i64.wrap ((atv.tmod 71) + 71)).tmod 71).toNat c).map nb)).bind fun t8 =>
        some (((t8.2 == 6) && (t8.1 == ([] : Str))) || (((t8.2 == 0) && (!(t8.1 == t4.1))) && (decide (((IntKind.i64.wrap ((atv.tmod 71) + 71)).tmod 71) ≥ 7))))
end Go.Proofs.YtjhgkcbhllomaaaDoor.V
end

section
/- The shelf contracts that this seat uses, in plain words. -/
namespace Go.Proofs
open Go.Shelf
def Tryd.lays169_ren : Go.Shelf.Ren := ⟨fun | 169 => 47 | n => n, fun | 70 => 64 | 9 => 9 | 0 => 0 | 72 => 66 | 37 => 39 | 127 => 88 | 3 => 3 | 5 => 5 | n => n, fun | n => n⟩
theorem Tryd.lays169 : Go.Proofs.Lays.n169 Tryd.prog Tryd.lays169_ren := {
  mixed := by kernel_rfl
  f169 := Tryd.func47.trans (congrArg some (by kernel_rfl))
  t0 := Tryd.underlying0
  a0 := Tryd.isAgg0
  z0 := Tryd.sizeOf0
  v0 := Tryd.zeroValue0
  t3 := Tryd.underlying3
  a3 := Tryd.isAgg3
  z3 := Tryd.sizeOf3
  v3 := Tryd.zeroValue3
  t9 := Tryd.underlying9
  a9 := Tryd.isAgg9
  z9 := Tryd.sizeOf9
  v9 := Tryd.zeroValue9
  t37 := Tryd.underlying39
  a37 := Tryd.isAgg39
  z37 := Tryd.sizeOf39
  v37 := Tryd.zeroValue39
  t70 := Tryd.underlying64
  a70 := Tryd.isAgg64
  z70 := Tryd.sizeOf64
  v70 := Tryd.zeroValue64
  t72 := Tryd.underlying66
  a72 := Tryd.isAgg66
  z72 := Tryd.sizeOf66
  v72 := Tryd.zeroValue66
  t127 := Tryd.underlying88
  a127 := Tryd.isAgg88
  z127 := Tryd.sizeOf88
  v127 := Tryd.zeroValue88 }
theorem Tryd.Builder_Extra_169 : Builder.Extra Tryd.prog Tryd.lays169_ren := {
  sizeBuilder := by kernel_rfl
  liesBuilder := by kernel_rfl
  t5 := Tryd.underlying5
  a5 := Tryd.isAgg5
  z5 := Tryd.sizeOf5
  v5 := Tryd.zeroValue5
  infoByte := by kernel_rfl
  cellsByte := by kernel_rfl
  sizeByte := by kernel_rfl
  neB5 := by decide }
open Go.RowKit in
theorem Tryd.Builder_String (B b : Nat) (l : List UInt8) (w : World) (h : Lib.IsBuilder 66 5 B b (Lib.byteCells l) w) (h0 : l ≠ []) :
    Calls Tryd.prog 47 #[.pointer (some ⟨b, 0, none⟩)] w fun e w' => e = .returned (.string ⟨l.toArray⟩) ∧ Below B w w' := Any.Builder_String Tryd.lays169 Tryd.Builder_Extra_169 B b l w h h0
open Go.RowKit in
theorem Tryd.Builder_String_empty (B b : Nat) (w : World) (h : Lib.IsBuilder 66 5 B b [] w) (hBw : B ≤ w.heap.size) :
    Calls Tryd.prog 47 #[.pointer (some ⟨b, 0, none⟩)] w fun e w' => e = .returned (.string ⟨#[]⟩) ∧ Below B w w' := Any.Builder_String_empty Tryd.lays169 Tryd.Builder_Extra_169 B b w h hBw
open Go.RowKit in
theorem Tryd.Builder_String_any (B b : Nat) (l : List UInt8) (w : World) (h : Lib.IsBuilder 66 5 B b (Lib.byteCells l) w) (hBw : B ≤ w.heap.size) :
    Calls Tryd.prog 47 #[.pointer (some ⟨b, 0, none⟩)] w fun e w' => e = .returned (.string ⟨l.toArray⟩) ∧ Below B w w' := Any.Builder_String_any Tryd.lays169 Tryd.Builder_Extra_169 B b l w h hBw
def Tryd.lays241_ren : Go.Shelf.Ren := ⟨fun | 241 => 63 | 277 => 71 | n => n, fun | 70 => 64 | 3 => 3 | 0 => 0 | 72 => 66 | 37 => 39 | 5 => 5 | n => n, fun | n => n⟩
theorem Tryd.lays241 : Go.Proofs.Lays.n241 Tryd.prog Tryd.lays241_ren := {
  mixed := by kernel_rfl
  f241 := Tryd.func63.trans (congrArg some (by kernel_rfl))
  f277 := Tryd.func71.trans (congrArg some (by kernel_rfl))
  t0 := Tryd.underlying0
  a0 := Tryd.isAgg0
  z0 := Tryd.sizeOf0
  v0 := Tryd.zeroValue0
  t3 := Tryd.underlying3
  a3 := Tryd.isAgg3
  z3 := Tryd.sizeOf3
  v3 := Tryd.zeroValue3
  t37 := Tryd.underlying39
  a37 := Tryd.isAgg39
  z37 := Tryd.sizeOf39
  v37 := Tryd.zeroValue39
  t70 := Tryd.underlying64
  a70 := Tryd.isAgg64
  z70 := Tryd.sizeOf64
  v70 := Tryd.zeroValue64
  t72 := Tryd.underlying66
  a72 := Tryd.isAgg66
  z72 := Tryd.sizeOf66
  v72 := Tryd.zeroValue66 }
theorem Tryd.Builder_Extra_241 : Builder.Extra Tryd.prog Tryd.lays241_ren := {
  sizeBuilder := by kernel_rfl
  liesBuilder := by kernel_rfl
  t5 := Tryd.underlying5
  a5 := Tryd.isAgg5
  z5 := Tryd.sizeOf5
  v5 := Tryd.zeroValue5
  infoByte := by kernel_rfl
  cellsByte := by kernel_rfl
  sizeByte := by kernel_rfl
  neB5 := by decide }
open Go.RowKit in
theorem Tryd.Builder_grow_fresh (B b n : Nat) (w : World) (hB : B ≤ b) (hbk : w.heap[b]? = some (.cells #[.pointer (some ⟨b, 0, none⟩), .slice none 0 0] 66 (0, 0))) (hBw : B ≤ w.heap.size) (hn : n ≤ 281474976710656) :
    Calls Tryd.prog 63 #[.pointer (some ⟨b, 0, none⟩), .int .i64 n] w fun e w' => e = .returned (.tuple #[]) ∧ (Lib.BuilderAt 66 5 B b (.pointer (some ⟨b, 0, none⟩)) [] w' ∧ Below B w w') := Any.Builder_grow_fresh Tryd.lays241 Tryd.Builder_Extra_241 B b n w hB hbk hBw hn
def Tryd.lays165_ren : Go.Shelf.Ren := ⟨fun | 165 => 45 | 240 => 62 | 241 => 63 | 276 => 70 | 277 => 71 | n => n, fun | 70 => 64 | 3 => 3 | 0 => 0 | 4 => 4 | 9 => 9 | 20 => 20 | 72 => 66 | 37 => 39 | 164 => 97 | 5 => 5 | n => n, fun | n => n⟩
theorem Tryd.lays165 : Go.Proofs.Lays.n165 Tryd.prog Tryd.lays165_ren := {
  mixed := by kernel_rfl
  f165 := Tryd.func45.trans (congrArg some (by kernel_rfl))
  f240 := Tryd.func62.trans (congrArg some (by kernel_rfl))
  f241 := Tryd.func63.trans (congrArg some (by kernel_rfl))
  f276 := Tryd.func70.trans (congrArg some (by kernel_rfl))
  f277 := Tryd.func71.trans (congrArg some (by kernel_rfl))
  t0 := Tryd.underlying0
  a0 := Tryd.isAgg0
  z0 := Tryd.sizeOf0
  v0 := Tryd.zeroValue0
  t3 := Tryd.underlying3
  a3 := Tryd.isAgg3
  z3 := Tryd.sizeOf3
  v3 := Tryd.zeroValue3
  t4 := Tryd.underlying4
  a4 := Tryd.isAgg4
  z4 := Tryd.sizeOf4
  v4 := Tryd.zeroValue4
  t9 := Tryd.underlying9
  a9 := Tryd.isAgg9
  z9 := Tryd.sizeOf9
  v9 := Tryd.zeroValue9
  t20 := Tryd.underlying20
  a20 := Tryd.isAgg20
  z20 := Tryd.sizeOf20
  v20 := Tryd.zeroValue20
  t37 := Tryd.underlying39
  a37 := Tryd.isAgg39
  z37 := Tryd.sizeOf39
  v37 := Tryd.zeroValue39
  t70 := Tryd.underlying64
  a70 := Tryd.isAgg64
  z70 := Tryd.sizeOf64
  v70 := Tryd.zeroValue64
  t72 := Tryd.underlying66
  a72 := Tryd.isAgg66
  z72 := Tryd.sizeOf66
  v72 := Tryd.zeroValue66
  t164 := Tryd.underlying97
  a164 := Tryd.isAgg97
  z164 := Tryd.sizeOf97
  v164 := Tryd.zeroValue97 }
theorem Tryd.Builder_Extra_165 : Builder.Extra Tryd.prog Tryd.lays165_ren := {
  sizeBuilder := by kernel_rfl
  liesBuilder := by kernel_rfl
  t5 := Tryd.underlying5
  a5 := Tryd.isAgg5
  z5 := Tryd.sizeOf5
  v5 := Tryd.zeroValue5
  infoByte := by kernel_rfl
  cellsByte := by kernel_rfl
  sizeByte := by kernel_rfl
  neB5 := by decide }
open Go.RowKit in
theorem Tryd.Builder_Grow_fresh (B b n : Nat) (w : World) (hB : B ≤ b) (hbk : w.heap[b]? = some (.cells #[.pointer none, .slice none 0 0] 66 (0, 0))) (hBw : B ≤ w.heap.size) (hn : n ≤ 281474976710656) :
    Calls Tryd.prog 45 #[.pointer (some ⟨b, 0, none⟩), .int .i64 n] w fun e w' => e = .returned (.tuple #[]) ∧ (Lib.BuilderAt 66 5 B b (.pointer (some ⟨b, 0, none⟩)) [] w' ∧ Below B w w') := Any.Builder_Grow_fresh Tryd.lays165 Tryd.Builder_Extra_165 B b n w hB hbk hBw hn
def Tryd.lays156_ren : Go.Shelf.Ren := ⟨fun | 156 => 24 | 165 => 45 | 166 => 46 | 169 => 47 | 240 => 62 | 241 => 63 | 276 => 70 | 277 => 71 | n => n, fun | 31 => 36 | 9 => 9 | 3 => 3 | 4 => 4 | 0 => 0 | 20 => 20 | 72 => 66 | 76 => 70 | 70 => 64 | 37 => 39 | 75 => 69 | 127 => 88 | 164 => 97 | 5 => 5 | 80 => 72 | n => n, fun | n => n⟩
theorem Tryd.lays156 : Go.Proofs.Lays.n156 Tryd.prog Tryd.lays156_ren := {
  mixed := by kernel_rfl
  f156 := Tryd.func24.trans (congrArg some (by kernel_rfl))
  f165 := Tryd.func45.trans (congrArg some (by kernel_rfl))
  f166 := Tryd.func46.trans (congrArg some (by kernel_rfl))
  f169 := Tryd.func47.trans (congrArg some (by kernel_rfl))
  f240 := Tryd.func62.trans (congrArg some (by kernel_rfl))
  f241 := Tryd.func63.trans (congrArg some (by kernel_rfl))
  f276 := Tryd.func70.trans (congrArg some (by kernel_rfl))
  f277 := Tryd.func71.trans (congrArg some (by kernel_rfl))
  t0 := Tryd.underlying0
  a0 := Tryd.isAgg0
  z0 := Tryd.sizeOf0
  v0 := Tryd.zeroValue0
  t3 := Tryd.underlying3
  a3 := Tryd.isAgg3
  z3 := Tryd.sizeOf3
  v3 := Tryd.zeroValue3
  t4 := Tryd.underlying4
  a4 := Tryd.isAgg4
  z4 := Tryd.sizeOf4
  v4 := Tryd.zeroValue4
  t9 := Tryd.underlying9
  a9 := Tryd.isAgg9
  z9 := Tryd.sizeOf9
  v9 := Tryd.zeroValue9
  t20 := Tryd.underlying20
  a20 := Tryd.isAgg20
  z20 := Tryd.sizeOf20
  v20 := Tryd.zeroValue20
  t31 := Tryd.underlying36
  a31 := Tryd.isAgg36
  z31 := Tryd.sizeOf36
  v31 := Tryd.zeroValue36
  t37 := Tryd.underlying39
  a37 := Tryd.isAgg39
  z37 := Tryd.sizeOf39
  v37 := Tryd.zeroValue39
  t70 := Tryd.underlying64
  a70 := Tryd.isAgg64
  z70 := Tryd.sizeOf64
  v70 := Tryd.zeroValue64
  t72 := Tryd.underlying66
  a72 := Tryd.isAgg66
  z72 := Tryd.sizeOf66
  v72 := Tryd.zeroValue66
  t75 := Tryd.underlying69
  a75 := Tryd.isAgg69
  z75 := Tryd.sizeOf69
  v75 := Tryd.zeroValue69
  t76 := Tryd.underlying70
  a76 := Tryd.isAgg70
  z76 := Tryd.sizeOf70
  v76 := Tryd.zeroValue70
  t127 := Tryd.underlying88
  a127 := Tryd.isAgg88
  z127 := Tryd.sizeOf88
  v127 := Tryd.zeroValue88
  t164 := Tryd.underlying97
  a164 := Tryd.isAgg97
  z164 := Tryd.sizeOf97
  v164 := Tryd.zeroValue97 }
theorem Tryd.Builder_Extra_156 : Builder.Extra Tryd.prog Tryd.lays156_ren := {
  sizeBuilder := by kernel_rfl
  liesBuilder := by kernel_rfl
  t5 := Tryd.underlying5
  a5 := Tryd.isAgg5
  z5 := Tryd.sizeOf5
  v5 := Tryd.zeroValue5
  infoByte := by kernel_rfl
  cellsByte := by kernel_rfl
  sizeByte := by kernel_rfl
  neB5 := by decide }
open Go.RowKit in
theorem Tryd.strings_Join_none (a : Option Addr) (c : Nat) (sep : ByteArray) (w : World) :
    Calls Tryd.prog 24 #[.slice a 0 c, .string sep] w fun e w' => e = .returned (.string ⟨#[]⟩) ∧ w' = w := Any.strings_Join_none Tryd.lays156 Tryd.Builder_Extra_156 a c sep w
open Go.RowKit in
theorem Tryd.strings_Join (bk o c : Nat) (xs : List ByteArray) (sep : ByteArray) (w : World) (hcells : ∀ (j : Nat) x, xs[j]? = some x → w.cell? ⟨bk, o + j, none⟩ = some (.string x)) (hbk : bk < w.heap.size) (hN : xs.length ≤ 140737488355328) (hcap : xs.length ≤ c) (hlen : (Lib.join (xs.map (·.data.toList)) sep.data.toList).length ≤ 140737488355328) :
    Calls Tryd.prog 24 #[.slice (some ⟨bk, o, none⟩) xs.length c, .string sep] w fun e w' => e = .returned (.string ⟨(Lib.join (xs.map (·.data.toList)) sep.data.toList).toArray⟩) ∧ Below w.heap.size w w' := Any.strings_Join Tryd.lays156 Tryd.Builder_Extra_156 bk o c xs sep w hcells hbk hN hcap hlen
def Tryd.lays137_ren : Go.Shelf.Ren := ⟨fun | 137 => 52 | 217 => 67 | 266 => 78 | n => n, fun | 9 => 9 | 5 => 5 | 3 => 3 | n => n, fun | n => n⟩
theorem Tryd.lays137 : Go.Proofs.Lays.n137 Tryd.prog Tryd.lays137_ren := {
  mixed := by kernel_rfl
  f137 := Tryd.func52.trans (congrArg some (by kernel_rfl))
  f217 := Tryd.func67.trans (congrArg some (by kernel_rfl))
  f266 := Tryd.func78.trans (congrArg some (by kernel_rfl))
  t3 := Tryd.underlying3
  a3 := Tryd.isAgg3
  z3 := Tryd.sizeOf3
  v3 := Tryd.zeroValue3
  t5 := Tryd.underlying5
  a5 := Tryd.isAgg5
  z5 := Tryd.sizeOf5
  v5 := Tryd.zeroValue5
  t9 := Tryd.underlying9
  a9 := Tryd.isAgg9
  z9 := Tryd.sizeOf9
  v9 := Tryd.zeroValue9 }
open Go.RowKit in
theorem Tryd.strings_IndexByte (s : ByteArray) (c : Int) (w : World) :
    Calls Tryd.prog 52 #[.string s, .int .u8 c] w fun e w' => e = .returned (.int .i64 (Lib.indexByte s.data.toList c.toNat.toUInt8)) ∧ w' = w := Any.strings_IndexByte Tryd.lays137 s c w
def Tryd.lays210_ren : Go.Shelf.Ren := ⟨fun | 210 => 60 | 206 => 69 | n => n, fun | 9 => 9 | 4 => 4 | 3 => 3 | n => n, fun | n => n⟩
theorem Tryd.lays210 : Go.Proofs.Lays.n210 Tryd.prog Tryd.lays210_ren := {
  mixed := by kernel_rfl
  f206 := Tryd.func69.trans (congrArg some (by kernel_rfl))
  f210 := Tryd.func60.trans (congrArg some (by kernel_rfl))
  t3 := Tryd.underlying3
  a3 := Tryd.isAgg3
  z3 := Tryd.sizeOf3
  v3 := Tryd.zeroValue3
  t4 := Tryd.underlying4
  a4 := Tryd.isAgg4
  z4 := Tryd.sizeOf4
  v4 := Tryd.zeroValue4
  t9 := Tryd.underlying9
  a9 := Tryd.isAgg9
  z9 := Tryd.sizeOf9
  v9 := Tryd.zeroValue9 }
open Go.RowKit in
theorem Tryd.stringslite_CutPrefix (s p : ByteArray) (w : World) :
    Calls Tryd.prog 60 #[.string s, .string p] w fun e w' => e = .returned (.tuple #[.string ⟨(Lib.trimPrefix s.data.toList p.data.toList).toArray⟩, .bool (Lib.hasPrefix s.data.toList p.data.toList)]) ∧ w' = w := Any.stringslite_CutPrefix Tryd.lays210 s p w
def Tryd.lays103_ren : Go.Shelf.Ren := ⟨fun | 103 => 43 | 210 => 60 | 206 => 69 | n => n, fun | 9 => 9 | 4 => 4 | 24 => 33 | 3 => 3 | n => n, fun | n => n⟩
theorem Tryd.lays103 : Go.Proofs.Lays.n103 Tryd.prog Tryd.lays103_ren := {
  mixed := by kernel_rfl
  f103 := Tryd.func43.trans (congrArg some (by kernel_rfl))
  f206 := Tryd.func69.trans (congrArg some (by kernel_rfl))
  f210 := Tryd.func60.trans (congrArg some (by kernel_rfl))
  t3 := Tryd.underlying3
  a3 := Tryd.isAgg3
  z3 := Tryd.sizeOf3
  v3 := Tryd.zeroValue3
  t4 := Tryd.underlying4
  a4 := Tryd.isAgg4
  z4 := Tryd.sizeOf4
  v4 := Tryd.zeroValue4
  t9 := Tryd.underlying9
  a9 := Tryd.isAgg9
  z9 := Tryd.sizeOf9
  v9 := Tryd.zeroValue9
  t24 := Tryd.underlying33
  a24 := Tryd.isAgg33
  z24 := Tryd.sizeOf33
  v24 := Tryd.zeroValue33 }
open Go.RowKit in
theorem Tryd.strings_CutPrefix (s p : ByteArray) (w : World) :
    Calls Tryd.prog 43 #[.string s, .string p] w fun e w' => e = .returned (.tuple #[.string ⟨(Lib.trimPrefix s.data.toList p.data.toList).toArray⟩, .bool (Lib.hasPrefix s.data.toList p.data.toList)]) ∧ w' = w := Any.strings_CutPrefix Tryd.lays103 s p w
open Go.RowKit in
theorem Tryd.Builder_String_f (B b : Nat) (l : List UInt8) (w : World) (h : Lib.IsBuilderF 66 5 B b (Lib.byteCells l) w) (h0 : l ≠ []) :
    Calls Tryd.prog 47 #[.pointer (some ⟨b, 0, none⟩)] w fun e w' => e = .returned (.string ⟨l.toArray⟩) ∧ (Lib.IsBuilderF 66 5 B b (Lib.byteCells l) w' ∧ Below B w w') := Any.Builder_String_f Tryd.lays169 Tryd.Builder_Extra_169 B b l w h h0
open Go.RowKit in
theorem Tryd.Builder_String_empty_f (B b : Nat) (w : World) (h : Lib.IsBuilderF 66 5 B b [] w) (hBw : B ≤ w.heap.size) :
    Calls Tryd.prog 47 #[.pointer (some ⟨b, 0, none⟩)] w fun e w' => e = .returned (.string ⟨#[]⟩) ∧ (Lib.IsBuilderF 66 5 B b [] w' ∧ Below B w w') := Any.Builder_String_empty_f Tryd.lays169 Tryd.Builder_Extra_169 B b w h hBw
open Go.RowKit in
theorem Tryd.Builder_String_any_f (B b : Nat) (l : List UInt8) (w : World) (h : Lib.IsBuilderF 66 5 B b (Lib.byteCells l) w) (hBw : B ≤ w.heap.size) :
    Calls Tryd.prog 47 #[.pointer (some ⟨b, 0, none⟩)] w fun e w' => e = .returned (.string ⟨l.toArray⟩) ∧ (Lib.IsBuilderF 66 5 B b (Lib.byteCells l) w' ∧ Below B w w') := Any.Builder_String_any_f Tryd.lays169 Tryd.Builder_Extra_169 B b l w h hBw
open Go.RowKit in
theorem Tryd.Builder_String_k (B b : Nat) (l : List UInt8) (w : World) (h : Lib.IsBuilderF 66 5 B b (Lib.byteCells l) w) (h0 : l ≠ []) :
    Calls Tryd.prog 47 #[.pointer (some ⟨b, 0, none⟩)] w fun e w' => e = .returned (.string ⟨l.toArray⟩) ∧ (Lib.IsBuilderF 66 5 B b (Lib.byteCells l) w' ∧ Below B w w' ∧ Lib.OthersKept 5 (some b) w w') := Any.Builder_String_k Tryd.lays169 Tryd.Builder_Extra_169 B b l w h h0
open Go.RowKit in
theorem Tryd.Builder_String_empty_k (B b : Nat) (w : World) (h : Lib.IsBuilderF 66 5 B b [] w) (hBw : B ≤ w.heap.size) :
    Calls Tryd.prog 47 #[.pointer (some ⟨b, 0, none⟩)] w fun e w' => e = .returned (.string ⟨#[]⟩) ∧ (Lib.IsBuilderF 66 5 B b [] w' ∧ Below B w w' ∧ Lib.OthersKept 5 (some b) w w') := Any.Builder_String_empty_k Tryd.lays169 Tryd.Builder_Extra_169 B b w h hBw
open Go.RowKit in
theorem Tryd.Builder_String_any_k (B b : Nat) (l : List UInt8) (w : World) (h : Lib.IsBuilderF 66 5 B b (Lib.byteCells l) w) (hBw : B ≤ w.heap.size) :
    Calls Tryd.prog 47 #[.pointer (some ⟨b, 0, none⟩)] w fun e w' => e = .returned (.string ⟨l.toArray⟩) ∧ (Lib.IsBuilderF 66 5 B b (Lib.byteCells l) w' ∧ Below B w w' ∧ Lib.OthersKept 5 (some b) w w') := Any.Builder_String_any_k Tryd.lays169 Tryd.Builder_Extra_169 B b l w h hBw
open Go.RowKit in
theorem Tryd.Builder_grow_fresh_cap (B b n : Nat) (w : World) (hB : B ≤ b) (hbk : w.heap[b]? = some (.cells #[.pointer (some ⟨b, 0, none⟩), .slice none 0 0] 66 (0, 0))) (hBw : B ≤ w.heap.size) (hn : n ≤ 281474976710656) :
    Calls Tryd.prog 63 #[.pointer (some ⟨b, 0, none⟩), .int .i64 n] w fun e w' => e = .returned (.tuple #[]) ∧ (Lib.BuilderAt 66 5 B b (.pointer (some ⟨b, 0, none⟩)) [] w' ∧ Below B w w') ∧ ∃ p cap, w'.cell? ⟨b, 1, none⟩ = some (.slice p 0 cap) ∧ n ≤ cap := Any.Builder_grow_fresh_cap Tryd.lays241 Tryd.Builder_Extra_241 B b n w hB hbk hBw hn
open Go.RowKit in
theorem Tryd.Builder_Grow_fresh_cap (B b n : Nat) (w : World) (hB : B ≤ b) (hbk : w.heap[b]? = some (.cells #[.pointer none, .slice none 0 0] 66 (0, 0))) (hBw : B ≤ w.heap.size) (hn : n ≤ 281474976710656) :
    Calls Tryd.prog 45 #[.pointer (some ⟨b, 0, none⟩), .int .i64 n] w fun e w' => e = .returned (.tuple #[]) ∧ (Lib.BuilderAt 66 5 B b (.pointer (some ⟨b, 0, none⟩)) [] w' ∧ Below B w w') ∧ ∃ p cap, w'.cell? ⟨b, 1, none⟩ = some (.slice p 0 cap) ∧ n ≤ cap := Any.Builder_Grow_fresh_cap Tryd.lays165 Tryd.Builder_Extra_165 B b n w hB hbk hBw hn
def Tryd.lays217_ren : Go.Shelf.Ren := ⟨fun | 217 => 67 | 266 => 78 | n => n, fun | 9 => 9 | 5 => 5 | 3 => 3 | n => n, fun | n => n⟩
theorem Tryd.lays217 : Go.Proofs.Lays.n217 Tryd.prog Tryd.lays217_ren := {
  mixed := by kernel_rfl
  f217 := Tryd.func67.trans (congrArg some (by kernel_rfl))
  f266 := Tryd.func78.trans (congrArg some (by kernel_rfl))
  t3 := Tryd.underlying3
  a3 := Tryd.isAgg3
  z3 := Tryd.sizeOf3
  v3 := Tryd.zeroValue3
  t5 := Tryd.underlying5
  a5 := Tryd.isAgg5
  z5 := Tryd.sizeOf5
  v5 := Tryd.zeroValue5
  t9 := Tryd.underlying9
  a9 := Tryd.isAgg9
  z9 := Tryd.sizeOf9
  v9 := Tryd.zeroValue9 }
open Go.RowKit Go.Lib in
theorem Tryd.stringslite_IndexByte (s : ByteArray) (c : Int) (w : World) :
    Calls Tryd.prog 67 #[.string s, .int .u8 c] w fun e w' => e = .returned (.int .i64 (Lib.indexByte s.data.toList c.toNat.toUInt8)) ∧ w' = w := Any.stringslite_IndexByte Tryd.lays217 s c w
def Tryd.lays206_ren : Go.Shelf.Ren := ⟨fun | 206 => 69 | n => n, fun | 9 => 9 | 4 => 4 | 3 => 3 | n => n, fun | n => n⟩
theorem Tryd.lays206 : Go.Proofs.Lays.n206 Tryd.prog Tryd.lays206_ren := {
  mixed := by kernel_rfl
  f206 := Tryd.func69.trans (congrArg some (by kernel_rfl))
  t3 := Tryd.underlying3
  a3 := Tryd.isAgg3
  z3 := Tryd.sizeOf3
  v3 := Tryd.zeroValue3
  t4 := Tryd.underlying4
  a4 := Tryd.isAgg4
  z4 := Tryd.sizeOf4
  v4 := Tryd.zeroValue4
  t9 := Tryd.underlying9
  a9 := Tryd.isAgg9
  z9 := Tryd.sizeOf9
  v9 := Tryd.zeroValue9 }
open Go.RowKit Go.Lib in
theorem Tryd.stringslite_HasPrefix (s p : ByteArray) (w : World) :
    Calls Tryd.prog 69 #[.string s, .string p] w fun e w' => e = .returned (.bool (Lib.hasPrefix s.data.toList p.data.toList)) ∧ w' = w := Any.stringslite_HasPrefix Tryd.lays206 s p w
end Go.Proofs
end

section
/- The contracts of strings.Builder's writing methods at this program: the shelf's theorems, with their tables of numbers typed by hand (the shelf's own command does not lay them where copyCheck's panic is refused by the loader). -/
namespace Go.Proofs
open Go.Shelf
def Tryd.bld_ren : Go.Shelf.Ren := ⟨fun
  | 166 => 46
  | 167 => 53
    | 240 => 62 | 276 => 70 | n => n, fun | 70 => 64 | 9 => 9 | 0 => 0 | 72 => 66 | 37 => 39 | 3 => 3 | 4 => 4 | 5 => 5 | 20 => 20 | 75 => 69 | 80 => 72 | 164 => 97 | n => n, fun | n => n⟩
theorem Tryd.bld240 : Go.Proofs.Lays.n240 Tryd.prog Tryd.bld_ren := {
  mixed := by kernel_rfl
  f240 := Tryd.func62.trans (congrArg some (by kernel_rfl))
  f276 := Tryd.func70.trans (congrArg some (by kernel_rfl))
  t0 := Tryd.underlying0
  a0 := Tryd.isAgg0
  z0 := Tryd.sizeOf0
  v0 := Tryd.zeroValue0
  t4 := Tryd.underlying4
  a4 := Tryd.isAgg4
  z4 := Tryd.sizeOf4
  v4 := Tryd.zeroValue4
  t9 := Tryd.underlying9
  a9 := Tryd.isAgg9
  z9 := Tryd.sizeOf9
  v9 := Tryd.zeroValue9
  t20 := Tryd.underlying20
  a20 := Tryd.isAgg20
  z20 := Tryd.sizeOf20
  v20 := Tryd.zeroValue20
  t70 := Tryd.underlying64
  a70 := Tryd.isAgg64
  z70 := Tryd.sizeOf64
  v70 := Tryd.zeroValue64
  t72 := Tryd.underlying66
  a72 := Tryd.isAgg66
  z72 := Tryd.sizeOf66
  v72 := Tryd.zeroValue66
  t164 := Tryd.underlying97
  a164 := Tryd.isAgg97
  z164 := Tryd.sizeOf97
  v164 := Tryd.zeroValue97 }
theorem Tryd.bldX : Builder.Extra Tryd.prog Tryd.bld_ren := {
  sizeBuilder := by kernel_rfl
  liesBuilder := by kernel_rfl
  t5 := Tryd.underlying5
  a5 := Tryd.isAgg5
  z5 := Tryd.sizeOf5
  v5 := Tryd.zeroValue5
  infoByte := by kernel_rfl
  cellsByte := by kernel_rfl
  sizeByte := by kernel_rfl
  neB5 := by decide }
theorem Tryd.bld167 : Go.Proofs.Lays.n167 Tryd.prog Tryd.bld_ren := { Tryd.bld240 with
  f167 := Tryd.func53.trans (congrArg some (by kernel_rfl))
  t5 := Tryd.underlying5
  a5 := Tryd.isAgg5
  z5 := Tryd.sizeOf5
  v5 := Tryd.zeroValue5
  t37 := Tryd.underlying39
  a37 := Tryd.isAgg39
  z37 := Tryd.sizeOf39
  v37 := Tryd.zeroValue39
  t75 := Tryd.underlying69
  a75 := Tryd.isAgg69
  z75 := Tryd.sizeOf69
  v75 := Tryd.zeroValue69 }
open Go.RowKit in
theorem Tryd.WriteByte_k (B b : Nat) (bs : List Value) (c : Int) (w : World) (h : Lib.IsBuilderF 66 5 B b bs w) (hlen : bs.length + 1 ≤ 140737488355328) (hBw : B ≤ w.heap.size) :
    Calls Tryd.prog 53 #[.pointer (some ⟨b, 0, none⟩), .int .u8 c] w fun e w' => e = .returned .nilIface ∧ (Lib.BuilderAtF 66 5 B b (.pointer (some ⟨b, 0, none⟩)) (bs ++ [.int .u8 c]) w' ∧ Below B w w' ∧ Lib.OthersKept 5 (some b) w w') := Any.Builder_WriteByte_k Tryd.bld167 Tryd.bldX B b bs c w h hlen hBw
theorem Tryd.bld166 : Go.Proofs.Lays.n166 Tryd.prog Tryd.bld_ren := { Tryd.bld240 with
  f166 := Tryd.func46.trans (congrArg some (by kernel_rfl))
  t3 := Tryd.underlying3
  a3 := Tryd.isAgg3
  z3 := Tryd.sizeOf3
  v3 := Tryd.zeroValue3
  t37 := Tryd.underlying39
  a37 := Tryd.isAgg39
  z37 := Tryd.sizeOf39
  v37 := Tryd.zeroValue39
  t75 := Tryd.underlying69
  a75 := Tryd.isAgg69
  z75 := Tryd.sizeOf69
  v75 := Tryd.zeroValue69 }
open Go.RowKit in
theorem Tryd.WriteString_k (B b : Nat) (bs : List Value) (s : ByteArray) (w : World) (h : Lib.IsBuilderF 66 5 B b bs w) (hlen : bs.length + s.size ≤ 140737488355328) (hBw : B ≤ w.heap.size) :
    Calls Tryd.prog 46 #[.pointer (some ⟨b, 0, none⟩), .string s] w fun e w' => e = .returned (.tuple #[.int .i64 s.size, .nilIface]) ∧ (Lib.BuilderAtF 66 5 B b (.pointer (some ⟨b, 0, none⟩)) (bs ++ Lib.strCells s) w' ∧ Below B w w' ∧ Lib.OthersKept 5 (some b) w w') := Any.Builder_WriteString_k Tryd.bld166 Tryd.bldX B b bs s w h hlen hBw
end Go.Proofs
end

section
/- The contract of octet.Hex. -/
namespace Go.Proofs.YtjhgkcbhllomaaaDoor
open Go.RowKit
set_option linter.unusedVariables false
set_option linter.unusedSimpArgs false
set_option maxHeartbeats 1000000 in
set_option maxRecDepth 100000 in
theorem octet_Hex.spec (a0 : ByteArray) (w : World) (hs : a0.size ≤ 35184372088832) :
    Calls Tryd.prog 34 #[.string a0] w fun e w' => e = .returned (.string (hexS a0)) ∧ Below w.heap.size w w' := by
  go_enter Tryd.func34, Tryd.ntmps34
  go_wp2
  go_loopw [7] (fun i wr => ∃ k : Nat, k ≤ a0.size ∧ i = .int .i64 k ∧ Lib.IsBuilderF 66 5 w.heap.size w.heap.size (Lib.byteCells (hexl (a0.data.toList.take k))) wr ∧ Below w.heap.size w wr ∧ w.heap.size < wr.heap.size) (fun i _ => a0.size - (intOf i).toNat)
  case atStart =>
    refine ⟨0, Nat.zero_le _, rfl, (Lib.IsBuilderF.of (Lib.fresh_isBuilder 66 5 w)), (Below.refl _ w).alloc (Nat.le_refl _) _, by simp⟩
  case round =>
    obtain ⟨k, hk, rfl, hI, hbw, hsz⟩ := hrel
    by_cases hlt : k < a0.size
    · have hl := hexl_length (a0.data.toList.take k)
      have hl2 : (a0.data.toList.take k).length ≤ k := List.length_take_le _ _
      have hc : a0[k].toNat < 256 := a0[k].toNat_lt
      go_wp2_with fail
      refine (Tryd.WriteByte_k w.heap.size w.heap.size _ _ _ hI (by rw [Lib.byteCells_length]; omega) (by omega)).mono ?_
      rintro e W1 ⟨rfl, h1, b1, k1⟩
      rw [dig_get] at h1
      have hz1 := b1.size
      go_wp2_with fail
      refine (Tryd.WriteByte_k w.heap.size w.heap.size _ _ _ (Or.inr h1) (by rw [List.length_append, Lib.byteCells_length]; simp only [List.length_cons, List.length_nil]; omega) (by omega)).mono ?_
      rintro e W2 ⟨rfl, h2, b2, k2⟩
      rw [dig_get] at h2
      have hz2 := b2.size
      go_wp2
      go_roundw
      case rel =>
        refine ⟨k + 1, by omega, by go_num, ?_, (hbw.trans b1).trans b2, by omega⟩
        rw [hexl_snoc a0 k hlt, Lib.byteCells_append, Lib.byteCells_append]
        exact Or.inr h2
      case measure => simp [intOf]; omega
    · obtain rfl : k = a0.size := by omega
      go_wp2_with fail
      rw [show a0.data.toList.take a0.size = a0.data.toList from List.take_of_length_le (by simp)] at hI
      refine (Tryd.Builder_String_any_k w.heap.size w.heap.size _ _ hI (by omega)).mono ?_
      rintro e W1 ⟨rfl, _, b1, _⟩
      go_wp2
      go_ret
      exact ⟨rfl, hbw.trans b1⟩
end Go.Proofs.YtjhgkcbhllomaaaDoor
end

section
/- Go functions compute what Lean functions do. -/
namespace Go.Proofs.YtjhgkcbhllomaaaDoor.V
open Go Go.RowKit
set_option linter.unusedVariables false
set_option linter.unusedSimpArgs false
set_option maxHeartbeats 1000000
theorem f_octet_Hex_ok (s : Str) (y_ : Str) (h : f_octet_Hex s = some y_) : Fun Tryd.prog glP 34 [.b (.s (.d (.str s)))] (.b (.s (.d (.str y_)))) := by
  obtain ⟨hN, h⟩ := gd_iff.1 h
  obtain rfl := Option.some.inj h
  refine Fun.flat (by kernel_rfl) (of_str _) fun w S vs hA => ?_
  obtain ⟨v, rfl, h1⟩ := args1 hA
  obtain rfl := repv_str (l := s) h1
  exact octet_Hex.spec ⟨⟨s⟩⟩ w hN
theorem f_internal_stringslite_IndexByte_ok (s : Str) (c : Int) (y_ : Int) (h : f_internal_stringslite_IndexByte s c = some y_) : Fun Tryd.prog glP 67 [.b (.s (.d (.str s))), .b (.s (.d (.int .u8 c)))] (.b (.s (.d (.int .i64 y_)))) := by
  obtain rfl := Option.some.inj h
  refine Fun.flat (by kernel_rfl) (of_int _ _) fun w S vs hA => ?_
  obtain ⟨v, u, rfl, h1, h2⟩ := args2 hA
  obtain rfl := repv_str (l := s) h1
  obtain rfl := repv_int (n := c) h2
  refine (Tryd.stringslite_IndexByte ⟨⟨s⟩⟩ c w).mono fun e w' => ?_
  rintro ⟨rfl, rfl⟩
  exact ⟨rfl, Below.refl _ _⟩
theorem f_strings_Join_ok (l : List Str) (sep : Str) (y_ : Str) (h : f_strings_Join l sep = some y_) : Fun Tryd.prog glP 24 [.b (.s (.d (.sl (l.map eS)))), .b (.s (.d (.str sep)))] (.b (.s (.d (.str y_)))) := by
  obtain ⟨⟨hN, hlen⟩, h⟩ := gd_iff.1 h
  obtain rfl := Option.some.inj h
  refine Fun.flat (by kernel_rfl) (of_str _) fun w S vs hA => ?_
  obtain ⟨v, u, rfl, h1, h2⟩ := args2 hA
  obtain rfl := repv_str (l := sep) h2
  cases h1 with
  | d _ _ h1 =>
    cases h1 with
    | sl _ a c st b o us hc h0 hst ha hcell hu =>
      by_cases hne : l = []
      · subst hne
        refine (Tryd.strings_Join_none a c ⟨⟨sep⟩⟩ w).mono fun e w' => ?_
        rintro ⟨rfl, rfl⟩
        exact ⟨by simp [Lib.join, strV], Below.refl _ _⟩
      · obtain ⟨rfl, hS⟩ := ha (by simpa using hne)
        have hfl := flat_eS l
        have key : ∀ (j : Nat) x, l[j]? = some x → w.cell? ⟨b, o + j, none⟩ = some (strV x) := by
          intro j x hj
          have hj2 : (l.map eS).flatten[j]? = some (.str x) := by rw [hfl, List.getElem?_map, hj]; rfl
          rw [hcell j _ hj2]
          have := hu j _ hj2
          generalize us j = q at this
          cases this; rfl
        have hb : b < w.heap.size := by
          cases l with
          | nil => exact absurd rfl hne
          | cons x l => exact cell?_lt (key 0 x rfl)
        have e1 : (l.map fun x => (⟨⟨x⟩⟩ : ByteArray)).map (·.data.toList) = l := by rw [List.map_map]; simp [Function.comp_def]
        have := Tryd.strings_Join b o c (l.map fun x => ⟨⟨x⟩⟩) ⟨⟨sep⟩⟩ w (fun j x hj => by
          rw [List.getElem?_map, Option.map_eq_some_iff] at hj
          obtain ⟨q, hq, rfl⟩ := hj
          exact key j q hq) hb (by simpa using hN) (by simpa using hc) (by rw [e1]; exact hlen)
        rw [e1] at this
        simp only [List.length_map] at this ⊢
        exact this
-- 10 consignor/consignorlaw02.short
def c10r0 : List Opn := [
  ⟨(some 2), none, .mv (.c (.s (.d (.str []))))⟩]
def c10r1 : List Opn := [
  ⟨(some 3), none, .mv (.t 0)⟩, 
  ⟨(some 4), none, .mv (.t 0)⟩, 
  ⟨(some 5), none, .len .str (.t 4)⟩, 
  ⟨(some 6), none, .mm false (.t 5) (.c (.s (.d (.int .i64 300))))⟩, 
  ⟨(some 7), none, .slc .str (.t 3) none (some (.t 6)) none⟩, 
  ⟨(some 2), none, .mv (.t 7)⟩]
def c10 : C := .seq (.reg c10r0 none [0]) (.seq (.reg c10r1 none [2]) (.ret))
def k10 : List (Nat × List Nat) := [(1, [2]), (0, [0])]
theorem cc10 : (Tryd.f10.body).bind (cC Tryd.prog 8 k10) = some c10 := by kernel_rfl
def rv10 : List RV := [.t 2]
theorem cr10 : cRVs Tryd.prog Tryd.f10.results.toList = some rv10 := by kernel_rfl
theorem f_law02_short_ok (s : Str) (y_ : Str) (h : f_law02_short s = some y_) : Fun Tryd.prog glP 10 [.b (.s (.d (.str s)))] (.b (.s (.d (.str y_)))) := by
  refine fun_walk [] Tryd.func10 Tryd.ntmps10 cc10 cr10 (by kernel_rfl) (by simp only [List.length_cons, List.length_nil]; decide) ?_
  generalize hR : Ret _ _ _ _ _ = R_
  simp only [wz, wd, ws, Nat.reduceAdd, Nat.reduceSub, Nat.reduceMul, Nat.reduceLeDiff, Nat.reduceEqDiff, Nat.reduceLT, Nat.reduceBEq, reduceIte, reduceCtorEq, Int.reduceToNat, Nat.reduceShiftRight, Nat.reduceAnd, Nat.reduceBneDiff, Nat.reduceBNe]
  unfold f_law02_short at h; unfold c10
  refine .seq ?_
  refine Rw.walk ?_
  simp only [wz, wd, ws, Nat.reduceAdd, Nat.reduceSub, Nat.reduceMul, Nat.reduceLeDiff, Nat.reduceEqDiff, Nat.reduceLT, Nat.reduceBEq, reduceIte, reduceCtorEq, Int.reduceToNat, Nat.reduceShiftRight, Nat.reduceAnd, Nat.reduceBneDiff, Nat.reduceBNe, c10r0, semI.eq_10, semI.eq_11, semI.eq_3, semI.eq_5, semI.eq_7]
  refine .seq ?_
  refine Rw.walk ?_
  obtain ⟨g1, h⟩ := gd_iff.1 h
  simp only [wz, wd, ws, Nat.reduceAdd, Nat.reduceSub, Nat.reduceMul, Nat.reduceLeDiff, Nat.reduceEqDiff, Nat.reduceLT, Nat.reduceBEq, reduceIte, reduceCtorEq, Int.reduceToNat, Nat.reduceShiftRight, Nat.reduceAnd, Nat.reduceBneDiff, Nat.reduceBNe, c10r1, semI.eq_10, semI.eq_11, semI.eq_3, semI.eq_5, semI.eq_7]
  repeat (refine And.intro ?_ ?_; · first | omega | (intro q; simp only [wz, wd, ws, Nat.reduceAdd, Nat.reduceSub, Nat.reduceMul, Nat.reduceLeDiff, Nat.reduceEqDiff, Nat.reduceLT, Nat.reduceBEq, reduceIte, reduceCtorEq, Int.reduceToNat, Nat.reduceShiftRight, Nat.reduceAnd, Nat.reduceBneDiff, Nat.reduceBNe, q]; done))
  obtain rfl := Option.some.inj h
  refine .ret ?_
  rw [← hR]
  simp only [wz, wd, ws, Nat.reduceAdd, Nat.reduceSub, Nat.reduceMul, Nat.reduceLeDiff, Nat.reduceEqDiff, Nat.reduceLT, Nat.reduceBEq, reduceIte, reduceCtorEq, Int.reduceToNat, Nat.reduceShiftRight, Nat.reduceAnd, Nat.reduceBneDiff, Nat.reduceBNe, rv10]
-- 37 consignor/digest.begins
def c37r0 : List Opn := [
  ⟨(some 0), none, .new [(.d (.int .u32 0)), (.d (.int .u32 0)), (.d (.int .u32 0)), (.d (.int .u32 0)), (.d (.int .u32 0)), (.d (.int .u32 0)), (.d (.int .u32 0)), (.d (.int .u32 0))]⟩]
def c37r1 : List Opn := [
  ⟨(some 1), none, .build [(.d (.int .u32 0)), (.d (.int .u32 0)), (.d (.int .u32 0)), (.d (.int .u32 0)), (.d (.int .u32 0)), (.d (.int .u32 0)), (.d (.int .u32 0)), (.d (.int .u32 0))] [(0, 1, (.c (.s (.d (.int .u32 1779033703))))), (1, 1, (.c (.s (.d (.int .u32 3144134277))))), (2, 1, (.c (.s (.d (.int .u32 1013904242))))), (3, 1, (.c (.s (.d (.int .u32 2773480762))))), (4, 1, (.c (.s (.d (.int .u32 1359893119))))), (5, 1, (.c (.s (.d (.int .u32 2600822924))))), (6, 1, (.c (.s (.d (.int .u32 528734635))))), (7, 1, (.c (.s (.d (.int .u32 1541459225)))))]⟩, 
  ⟨none, none, .store 8 (.t 0) (.t 1)⟩]
def c37 : C := .seq (.reg c37r0 none [0]) (.seq (.reg c37r1 none [0]) (.ret))
def k37 : List (Nat × List Nat) := [(1, [0]), (0, [0])]
theorem cc37 : (Tryd.f37.body).bind (cC Tryd.prog 2 k37) = some c37 := by kernel_rfl
def rv37 : List RV := [.c 0 true 8]
theorem cr37 : cRVs Tryd.prog Tryd.f37.results.toList = some rv37 := by kernel_rfl
theorem f_digest_begins_ok (y_ : (List Int)) (h : f_digest_begins = some y_) : Fun Tryd.prog glP 37 [] (.b (.agg (ea (eI .u32) y_))) := by
  refine fun_walk [] Tryd.func37 Tryd.ntmps37 cc37 cr37 (by kernel_rfl) (by simp only [List.length_cons, List.length_nil]; decide) ?_
  generalize hR : Ret _ _ _ _ _ = R_
  simp only [wz, wd, ws, Nat.reduceAdd, Nat.reduceSub, Nat.reduceMul, Nat.reduceLeDiff, Nat.reduceEqDiff, Nat.reduceLT, Nat.reduceBEq, reduceIte, reduceCtorEq, Int.reduceToNat, Nat.reduceShiftRight, Nat.reduceAnd, Nat.reduceBneDiff, Nat.reduceBNe]
  unfold f_digest_begins at h; unfold c37
  refine .seq ?_
  refine Rw.walk ?_
  simp only [wz, wd, ws, Nat.reduceAdd, Nat.reduceSub, Nat.reduceMul, Nat.reduceLeDiff, Nat.reduceEqDiff, Nat.reduceLT, Nat.reduceBEq, reduceIte, reduceCtorEq, Int.reduceToNat, Nat.reduceShiftRight, Nat.reduceAnd, Nat.reduceBneDiff, Nat.reduceBNe, c37r0, semI.eq_10, semI.eq_11]
  refine Go1.of (sem_newA (enc := (eI .u32)) (l := (List.replicate 8 0)) (by first | rfl | (simp only [List.length_map, List.length_replicate, List.length_set]; rfl)) (by first | rfl | (simp only [List.length_map, List.length_replicate, List.length_set]; rfl)) (by first | rfl | (simp only [List.length_map, List.length_replicate, List.length_set]; rfl))) ?_
  simp only [wz, wd, ws, Nat.reduceAdd, Nat.reduceSub, Nat.reduceMul, Nat.reduceLeDiff, Nat.reduceEqDiff, Nat.reduceLT, Nat.reduceBEq, reduceIte, reduceCtorEq, Int.reduceToNat, Nat.reduceShiftRight, Nat.reduceAnd, Nat.reduceBneDiff, Nat.reduceBNe, c37r0, semI.eq_10, semI.eq_11]
  refine .seq ?_
  refine Rw.walk ?_
  simp only [wz, wd, ws, Nat.reduceAdd, Nat.reduceSub, Nat.reduceMul, Nat.reduceLeDiff, Nat.reduceEqDiff, Nat.reduceLT, Nat.reduceBEq, reduceIte, reduceCtorEq, Int.reduceToNat, Nat.reduceShiftRight, Nat.reduceAnd, Nat.reduceBneDiff, Nat.reduceBNe, c37r1]
  refine Go1.of (sem_buildA (enc := (eI .u32)) (l := ([1779033703, 3144134277, 1013904242, 2773480762, 1359893119, 2600822924, 528734635, 1541459225] : (List Int))) (by simp only [wz, wd, ws, Nat.reduceAdd, Nat.reduceSub, Nat.reduceMul, Nat.reduceLeDiff, Nat.reduceEqDiff, Nat.reduceLT, Nat.reduceBEq, reduceIte, reduceCtorEq, Int.reduceToNat, Nat.reduceShiftRight, Nat.reduceAnd, Nat.reduceBneDiff, Nat.reduceBNe]) (by simp only [wz, wd, ws, Nat.reduceAdd, Nat.reduceSub, Nat.reduceMul, Nat.reduceLeDiff, Nat.reduceEqDiff, Nat.reduceLT, Nat.reduceBEq, reduceIte, reduceCtorEq, Int.reduceToNat, Nat.reduceShiftRight, Nat.reduceAnd, Nat.reduceBneDiff, Nat.reduceBNe]) (by simp only [wz, wd, ws, Nat.reduceAdd, Nat.reduceSub, Nat.reduceMul, Nat.reduceLeDiff, Nat.reduceEqDiff, Nat.reduceLT, Nat.reduceBEq, reduceIte, reduceCtorEq, Int.reduceToNat, Nat.reduceShiftRight, Nat.reduceAnd, Nat.reduceBneDiff, Nat.reduceBNe, ea_nil, ea_cons])) ?_
  simp only [wz, wd, ws, Nat.reduceAdd, Nat.reduceSub, Nat.reduceMul, Nat.reduceLeDiff, Nat.reduceEqDiff, Nat.reduceLT, Nat.reduceBEq, reduceIte, reduceCtorEq, Int.reduceToNat, Nat.reduceShiftRight, Nat.reduceAnd, Nat.reduceBneDiff, Nat.reduceBNe, c37r1]
  refine Go1.of (sem_storeW (l := (List.replicate 8 0)) (m := ([1779033703, 3144134277, 1013904242, 2773480762, 1359893119, 2600822924, 528734635, 1541459225] : (List Int))) (n0 := 8) (eI_len _) (by first | rfl | (simp only [List.length_map, List.length_replicate, List.length_set]; rfl)) (by first | rfl | (simp only [List.length_map, List.length_replicate, List.length_set]; rfl)) (by first | rfl | (simp only [List.length_map, List.length_replicate, List.length_set]; rfl)) (by first | exact trivial | exact Eq.refl _) (by first | rfl | (simp only [List.length_map, List.length_replicate, List.length_set]; rfl)) (by first | exact trivial | exact Eq.refl _)) ?_
  simp only [wz, wd, ws, Nat.reduceAdd, Nat.reduceSub, Nat.reduceMul, Nat.reduceLeDiff, Nat.reduceEqDiff, Nat.reduceLT, Nat.reduceBEq, reduceIte, reduceCtorEq, Int.reduceToNat, Nat.reduceShiftRight, Nat.reduceAnd, Nat.reduceBneDiff, Nat.reduceBNe, c37r1]
  obtain ⟨gr, h⟩ := gd_iff.1 h
  obtain rfl := Option.some.inj h
  refine .ret ?_
  rw [← hR]
  exact ret_cellA (n0 := 8) (eI_len _) (by rfl) (by rfl) (by rfl) (by first | exact gr | exact Eq.refl _)
-- 54 consignor/digest.big
def c54r0 : List Opn := [
  ⟨(some 2), none, .mv (.c (.s (.d (.int .u32 0))))⟩]
def c54r1 : List Opn := [
  ⟨(some 3), none, .mv (.t 0)⟩, 
  ⟨(some 4), none, .idx .str (.t 3) (.c (.s (.d (.int .i64 0))))⟩, 
  ⟨(some 5), none, .cv (.toInt .u32) (.t 4)⟩, 
  ⟨(some 6), none, .bin .shl (.t 5) (.c (.s (.d (.int .u64 24))))⟩, 
  ⟨(some 7), none, .mv (.t 0)⟩, 
  ⟨(some 8), none, .idx .str (.t 7) (.c (.s (.d (.int .i64 1))))⟩, 
  ⟨(some 9), none, .cv (.toInt .u32) (.t 8)⟩, 
  ⟨(some 10), none, .bin .shl (.t 9) (.c (.s (.d (.int .u64 16))))⟩, 
  ⟨(some 11), none, .bin .or (.t 6) (.t 10)⟩, 
  ⟨(some 12), none, .mv (.t 0)⟩, 
  ⟨(some 13), none, .idx .str (.t 12) (.c (.s (.d (.int .i64 2))))⟩, 
  ⟨(some 14), none, .cv (.toInt .u32) (.t 13)⟩, 
  ⟨(some 15), none, .bin .shl (.t 14) (.c (.s (.d (.int .u64 8))))⟩, 
  ⟨(some 16), none, .bin .or (.t 11) (.t 15)⟩, 
  ⟨(some 17), none, .mv (.t 0)⟩, 
  ⟨(some 18), none, .idx .str (.t 17) (.c (.s (.d (.int .i64 3))))⟩, 
  ⟨(some 19), none, .cv (.toInt .u32) (.t 18)⟩, 
  ⟨(some 20), none, .bin .or (.t 16) (.t 19)⟩, 
  ⟨(some 2), none, .mv (.t 20)⟩]
def c54 : C := .seq (.reg c54r0 none [0]) (.seq (.reg c54r1 (some [0, 1, 3, 7, 0, 16, 48, 112, 255, 0, 512, 1536, 3584, 8191, 0, 16384, 49152, 131071, 262143]) [2]) (.ret))
def k54 : List (Nat × List Nat) := [(1, [2]), (0, [0])]
theorem cc54 : (Tryd.f54.body).bind (cC Tryd.prog 21 k54) = some c54 := by kernel_rfl
def rv54 : List RV := [.t 2]
theorem cr54 : cRVs Tryd.prog Tryd.f54.results.toList = some rv54 := by kernel_rfl
theorem f_digest_big_ok (s : Str) (y_ : Int) (h : f_digest_big s = some y_) : Fun Tryd.prog glP 54 [.b (.s (.d (.str s)))] (.b (.s (.d (.int .u32 y_)))) := by
  refine fun_walk [] Tryd.func54 Tryd.ntmps54 cc54 cr54 (by kernel_rfl) (by simp only [List.length_cons, List.length_nil]; decide) ?_
  generalize hR : Ret _ _ _ _ _ = R_
  simp only [wz, wd, ws, Nat.reduceAdd, Nat.reduceSub, Nat.reduceMul, Nat.reduceLeDiff, Nat.reduceEqDiff, Nat.reduceLT, Nat.reduceBEq, reduceIte, reduceCtorEq, Int.reduceToNat, Nat.reduceShiftRight, Nat.reduceAnd, Nat.reduceBneDiff, Nat.reduceBNe]
  unfold f_digest_big at h; unfold c54
  refine .seq ?_
  refine Rw.walk ?_
  simp only [wz, wd, ws, Nat.reduceAdd, Nat.reduceSub, Nat.reduceMul, Nat.reduceLeDiff, Nat.reduceEqDiff, Nat.reduceLT, Nat.reduceBEq, reduceIte, reduceCtorEq, Int.reduceToNat, Nat.reduceShiftRight, Nat.reduceAnd, Nat.reduceBneDiff, Nat.reduceBNe, c54r0, semI.eq_10, semI.eq_11, semI.eq_3, semI.eq_5, semI.eq_7]
  refine .seq ?_
  refine RwD.walk ?_
  simp only [wz, wd, ws, Nat.reduceAdd, Nat.reduceSub, Nat.reduceMul, Nat.reduceLeDiff, Nat.reduceEqDiff, Nat.reduceLT, Nat.reduceBEq, reduceIte, reduceCtorEq, Int.reduceToNat, Nat.reduceShiftRight, Nat.reduceAnd, Nat.reduceBneDiff, Nat.reduceBNe, c54r1, semI.eq_10, semI.eq_11, semI.eq_3, semI.eq_5, semI.eq_7]
  obtain ⟨c, e1, h⟩ := Option.bind_eq_some_iff.1 h
  refine GoD1.of (sem_idx e1 (by rfl) (by rfl)) ?_
  simp only [wz, wd, ws, Nat.reduceAdd, Nat.reduceSub, Nat.reduceMul, Nat.reduceLeDiff, Nat.reduceEqDiff, Nat.reduceLT, Nat.reduceBEq, reduceIte, reduceCtorEq, Int.reduceToNat, Nat.reduceShiftRight, Nat.reduceAnd, Nat.reduceBneDiff, Nat.reduceBNe, c54r1, semI.eq_10, semI.eq_11, semI.eq_3, semI.eq_5, semI.eq_7]
  repeat (refine And.intro ?_ ?_; · first | omega | (intro q; simp only [wz, wd, ws, Nat.reduceAdd, Nat.reduceSub, Nat.reduceMul, Nat.reduceLeDiff, Nat.reduceEqDiff, Nat.reduceLT, Nat.reduceBEq, reduceIte, reduceCtorEq, Int.reduceToNat, Nat.reduceShiftRight, Nat.reduceAnd, Nat.reduceBneDiff, Nat.reduceBNe, q]; done))
  obtain ⟨c2, e2, h⟩ := Option.bind_eq_some_iff.1 h
  refine GoD1.of (sem_idx e2 (by rfl) (by rfl)) ?_
  simp only [wz, wd, ws, Nat.reduceAdd, Nat.reduceSub, Nat.reduceMul, Nat.reduceLeDiff, Nat.reduceEqDiff, Nat.reduceLT, Nat.reduceBEq, reduceIte, reduceCtorEq, Int.reduceToNat, Nat.reduceShiftRight, Nat.reduceAnd, Nat.reduceBneDiff, Nat.reduceBNe, c54r1, semI.eq_10, semI.eq_11, semI.eq_3, semI.eq_5, semI.eq_7]
  repeat (refine And.intro ?_ ?_; · first | omega | (intro q; simp only [wz, wd, ws, Nat.reduceAdd, Nat.reduceSub, Nat.reduceMul, Nat.reduceLeDiff, Nat.reduceEqDiff, Nat.reduceLT, Nat.reduceBEq, reduceIte, reduceCtorEq, Int.reduceToNat, Nat.reduceShiftRight, Nat.reduceAnd, Nat.reduceBneDiff, Nat.reduceBNe, q]; done))
  obtain ⟨c3, e3, h⟩ := Option.bind_eq_some_iff.1 h
  refine GoD1.of (sem_idx e3 (by rfl) (by rfl)) ?_
  simp only [wz, wd, ws, Nat.reduceAdd, Nat.reduceSub, Nat.reduceMul, Nat.reduceLeDiff, Nat.reduceEqDiff, Nat.reduceLT, Nat.reduceBEq, reduceIte, reduceCtorEq, Int.reduceToNat, Nat.reduceShiftRight, Nat.reduceAnd, Nat.reduceBneDiff, Nat.reduceBNe, c54r1, semI.eq_10, semI.eq_11, semI.eq_3, semI.eq_5, semI.eq_7]
  repeat (refine And.intro ?_ ?_; · first | omega | (intro q; simp only [wz, wd, ws, Nat.reduceAdd, Nat.reduceSub, Nat.reduceMul, Nat.reduceLeDiff, Nat.reduceEqDiff, Nat.reduceLT, Nat.reduceBEq, reduceIte, reduceCtorEq, Int.reduceToNat, Nat.reduceShiftRight, Nat.reduceAnd, Nat.reduceBneDiff, Nat.reduceBNe, q]; done))
  obtain ⟨c4, e4, h⟩ := Option.bind_eq_some_iff.1 h
  refine GoD1.of (sem_idx e4 (by rfl) (by rfl)) ?_
  simp only [wz, wd, ws, Nat.reduceAdd, Nat.reduceSub, Nat.reduceMul, Nat.reduceLeDiff, Nat.reduceEqDiff, Nat.reduceLT, Nat.reduceBEq, reduceIte, reduceCtorEq, Int.reduceToNat, Nat.reduceShiftRight, Nat.reduceAnd, Nat.reduceBneDiff, Nat.reduceBNe, c54r1, semI.eq_10, semI.eq_11, semI.eq_3, semI.eq_5, semI.eq_7]
  obtain rfl := Option.some.inj h
  refine .ret ?_
  rw [← hR]
  simp only [wz, wd, ws, Nat.reduceAdd, Nat.reduceSub, Nat.reduceMul, Nat.reduceLeDiff, Nat.reduceEqDiff, Nat.reduceLT, Nat.reduceBEq, reduceIte, reduceCtorEq, Int.reduceToNat, Nat.reduceShiftRight, Nat.reduceAnd, Nat.reduceBneDiff, Nat.reduceBNe, rv54]
-- 68 math/bits.RotateLeft32
def c68r0 : List Opn := [
  ⟨(some 4), none, .mv (.c (.s (.d (.int .u32 0))))⟩]
def c68r1 : List Opn := [
  ⟨(some 6), none, .mv (.t 1)⟩, 
  ⟨(some 7), none, .cv (.toInt .u64) (.t 6)⟩, 
  ⟨(some 8), none, .bin .and (.t 7) (.c (.s (.d (.int .u64 31))))⟩, 
  ⟨(some 5), none, .mv (.t 8)⟩]
def c68r2 : List Opn := [
  ⟨(some 9), none, .mv (.t 0)⟩, 
  ⟨(some 10), none, .mv (.t 5)⟩, 
  ⟨(some 11), none, .bin .shl (.t 9) (.t 10)⟩, 
  ⟨(some 12), none, .mv (.t 0)⟩, 
  ⟨(some 13), none, .mv (.t 5)⟩, 
  ⟨(some 14), none, .bin .sub (.c (.s (.d (.int .u64 32)))) (.t 13)⟩, 
  ⟨(some 15), none, .bin .shr (.t 12) (.t 14)⟩, 
  ⟨(some 16), none, .bin .or (.t 11) (.t 15)⟩, 
  ⟨(some 4), none, .mv (.t 16)⟩]
def c68 : C := .seq (.reg c68r0 none [0, 1]) (.seq (.reg c68r1 none [0, 5]) (.seq (.reg c68r2 none [4]) (.ret)))
def k68 : List (Nat × List Nat) := [(2, [4]), (1, [0, 5]), (0, [0, 1])]
theorem cc68 : (Tryd.f68.body).bind (cC Tryd.prog 17 k68) = some c68 := by kernel_rfl
def rv68 : List RV := [.t 4]
theorem cr68 : cRVs Tryd.prog Tryd.f68.results.toList = some rv68 := by kernel_rfl
theorem f_math_bits_RotateLeft32_ok (x : Int) (kv : Int) (y_ : Int) (h : f_math_bits_RotateLeft32 x kv = some y_) : Fun Tryd.prog glP 68 [.b (.s (.d (.int .u32 x))), .b (.s (.d (.int .i64 kv)))] (.b (.s (.d (.int .u32 y_)))) := by
  refine fun_walk [] Tryd.func68 Tryd.ntmps68 cc68 cr68 (by kernel_rfl) (by simp only [List.length_cons, List.length_nil]; decide) ?_
  generalize hR : Ret _ _ _ _ _ = R_
  simp only [wz, wd, ws, Nat.reduceAdd, Nat.reduceSub, Nat.reduceMul, Nat.reduceLeDiff, Nat.reduceEqDiff, Nat.reduceLT, Nat.reduceBEq, reduceIte, reduceCtorEq, Int.reduceToNat, Nat.reduceShiftRight, Nat.reduceAnd, Nat.reduceBneDiff, Nat.reduceBNe]
  unfold f_math_bits_RotateLeft32 at h; unfold c68
  refine .seq ?_
  refine Rw.walk ?_
  simp only [wz, wd, ws, Nat.reduceAdd, Nat.reduceSub, Nat.reduceMul, Nat.reduceLeDiff, Nat.reduceEqDiff, Nat.reduceLT, Nat.reduceBEq, reduceIte, reduceCtorEq, Int.reduceToNat, Nat.reduceShiftRight, Nat.reduceAnd, Nat.reduceBneDiff, Nat.reduceBNe, c68r0, semI.eq_10, semI.eq_11, semI.eq_3, semI.eq_5, semI.eq_7]
  refine .seq ?_
  refine Rw.walk ?_
  simp only [wz, wd, ws, Nat.reduceAdd, Nat.reduceSub, Nat.reduceMul, Nat.reduceLeDiff, Nat.reduceEqDiff, Nat.reduceLT, Nat.reduceBEq, reduceIte, reduceCtorEq, Int.reduceToNat, Nat.reduceShiftRight, Nat.reduceAnd, Nat.reduceBneDiff, Nat.reduceBNe, c68r1, semI.eq_10, semI.eq_11, semI.eq_3, semI.eq_5, semI.eq_7]
  obtain ⟨s, e1, h⟩ := Option.bind_eq_some_iff.1 h
  replace e1 := Option.some.inj e1
  first | simp only [e1] | (simp only [wz, wd, ws, Nat.reduceAdd, Nat.reduceSub, Nat.reduceMul, Nat.reduceLeDiff, Nat.reduceEqDiff, Nat.reduceLT, Nat.reduceBEq, reduceIte, reduceCtorEq, Int.reduceToNat, Nat.reduceShiftRight, Nat.reduceAnd, Nat.reduceBneDiff, Nat.reduceBNe] at e1; simp only [e1])
  refine .seq ?_
  refine Rw.walk ?_
  obtain ⟨g2, h⟩ := gd_iff.1 h
  obtain ⟨g3, h⟩ := gd_iff.1 h
  simp only [wz, wd, ws, Nat.reduceAdd, Nat.reduceSub, Nat.reduceMul, Nat.reduceLeDiff, Nat.reduceEqDiff, Nat.reduceLT, Nat.reduceBEq, reduceIte, reduceCtorEq, Int.reduceToNat, Nat.reduceShiftRight, Nat.reduceAnd, Nat.reduceBneDiff, Nat.reduceBNe, c68r2, semI.eq_10, semI.eq_11, semI.eq_3, semI.eq_5, semI.eq_7]
  repeat (refine And.intro ?_ ?_; · first | omega | (intro q; simp only [wz, wd, ws, Nat.reduceAdd, Nat.reduceSub, Nat.reduceMul, Nat.reduceLeDiff, Nat.reduceEqDiff, Nat.reduceLT, Nat.reduceBEq, reduceIte, reduceCtorEq, Int.reduceToNat, Nat.reduceShiftRight, Nat.reduceAnd, Nat.reduceBneDiff, Nat.reduceBNe, q]; done))
  obtain rfl := Option.some.inj h
  refine .ret ?_
  rw [← hR]
  simp only [wz, wd, ws, Nat.reduceAdd, Nat.reduceSub, Nat.reduceMul, Nat.reduceLeDiff, Nat.reduceEqDiff, Nat.reduceLT, Nat.reduceBEq, reduceIte, reduceCtorEq, Int.reduceToNat, Nat.reduceShiftRight, Nat.reduceAnd, Nat.reduceBneDiff, Nat.reduceBNe, rv68]
-- 55 consignor/digest.mixed
def c55r0 : List Opn := [
  ⟨(some 10), none, .mv (.c (.s (.d (.int .u32 0))))⟩]
def c55r1 : List Opn := [
  ⟨(some 12), none, .mv (.t 0)⟩, 
  ⟨(some 13), none, .mv (.t 3)⟩, 
  ⟨(some 14), none, .un .neg (.t 13)⟩, 
  ⟨(some 15), none, .call (.fn 68) [(.t 12), (.t 14)]⟩, 
  ⟨(some 11), none, .mv (.t 15)⟩]
def c55r2 : List Opn := [
  ⟨(some 16), none, .mv (.t 4)⟩]
def c55r3 : List Opn := [
  ⟨(some 17), none, .mv (.t 0)⟩, 
  ⟨(some 18), none, .mv (.t 3)⟩, 
  ⟨(some 19), none, .bin .shr (.t 17) (.t 18)⟩, 
  ⟨(some 11), none, .mv (.t 19)⟩]
def c55r4 : List Opn := [
  ⟨(some 20), none, .mv (.t 0)⟩, 
  ⟨(some 21), none, .mv (.t 1)⟩, 
  ⟨(some 22), none, .un .neg (.t 21)⟩, 
  ⟨(some 23), none, .call (.fn 68) [(.t 20), (.t 22)]⟩, 
  ⟨(some 24), none, .mv (.t 0)⟩, 
  ⟨(some 25), none, .mv (.t 2)⟩, 
  ⟨(some 26), none, .un .neg (.t 25)⟩, 
  ⟨(some 27), none, .call (.fn 68) [(.t 24), (.t 26)]⟩, 
  ⟨(some 28), none, .bin .xor (.t 23) (.t 27)⟩, 
  ⟨(some 29), none, .mv (.t 11)⟩, 
  ⟨(some 30), none, .bin .xor (.t 28) (.t 29)⟩, 
  ⟨(some 10), none, .mv (.t 30)⟩]
def c55 : C := .seq (.reg c55r0 none [0, 1, 2, 3, 4]) (.seq (.reg c55r1 none [0, 1, 2, 3, 4, 11]) (.seq (.seq (.reg c55r2 none [0, 1, 2, 3, 11, 16]) (.cond (.t 16) (.reg c55r3 none [0, 1, 2, 11]) (.skip))) (.seq (.reg c55r4 none [10]) (.ret))))
def k55 : List (Nat × List Nat) := [(4, [10]), (3, [0, 1, 2, 11]), (2, [0, 1, 2, 3, 11, 16]), (1, [0, 1, 2, 3, 4, 11]), (0, [0, 1, 2, 3, 4])]
theorem cc55 : (Tryd.f55.body).bind (cC Tryd.prog 31 k55) = some c55 := by kernel_rfl
def rv55 : List RV := [.t 10]
theorem cr55 : cRVs Tryd.prog Tryd.f55.results.toList = some rv55 := by kernel_rfl
theorem f_digest_mixed_ok (x : Int) (a : Int) (b : Int) (c : Int) (moved : Bool) (y_ : Int) (h : f_digest_mixed x a b c moved = some y_) : Fun Tryd.prog glP 55 [.b (.s (.d (.int .u32 x))), .b (.s (.d (.int .i64 a))), .b (.s (.d (.int .i64 b))), .b (.s (.d (.int .i64 c))), .b (.s (.d (.bool moved)))] (.b (.s (.d (.int .u32 y_)))) := by
  refine fun_walk [] Tryd.func55 Tryd.ntmps55 cc55 cr55 (by kernel_rfl) (by simp only [List.length_cons, List.length_nil]; decide) ?_
  generalize hR : Ret _ _ _ _ _ = R_
  simp only [wz, wd, ws, Nat.reduceAdd, Nat.reduceSub, Nat.reduceMul, Nat.reduceLeDiff, Nat.reduceEqDiff, Nat.reduceLT, Nat.reduceBEq, reduceIte, reduceCtorEq, Int.reduceToNat, Nat.reduceShiftRight, Nat.reduceAnd, Nat.reduceBneDiff, Nat.reduceBNe]
  unfold f_digest_mixed at h; unfold c55
  refine .seq ?_
  refine Rw.walk ?_
  simp only [wz, wd, ws, Nat.reduceAdd, Nat.reduceSub, Nat.reduceMul, Nat.reduceLeDiff, Nat.reduceEqDiff, Nat.reduceLT, Nat.reduceBEq, reduceIte, reduceCtorEq, Int.reduceToNat, Nat.reduceShiftRight, Nat.reduceAnd, Nat.reduceBneDiff, Nat.reduceBNe, c55r0, semI.eq_10, semI.eq_11, semI.eq_3, semI.eq_5, semI.eq_7]
  refine .seq ?_
  refine Rw.walk ?_
  simp only [wz, wd, ws, Nat.reduceAdd, Nat.reduceSub, Nat.reduceMul, Nat.reduceLeDiff, Nat.reduceEqDiff, Nat.reduceLT, Nat.reduceBEq, reduceIte, reduceCtorEq, Int.reduceToNat, Nat.reduceShiftRight, Nat.reduceAnd, Nat.reduceBneDiff, Nat.reduceBNe, c55r1, semI.eq_10, semI.eq_11, semI.eq_3, semI.eq_5, semI.eq_7]
  obtain ⟨t, e1, h⟩ := Option.bind_eq_some_iff.1 h
  refine call_fun [] false ⟨trivial, trivial, trivial, trivial⟩ rfl ?_ (f_math_bits_RotateLeft32_ok _ _ _ e1) (fun _ => rfl) (fun i hi => by cases hi) ?_
  · simp only [wz, wd, ws, Nat.reduceAdd, Nat.reduceSub, Nat.reduceMul, Nat.reduceLeDiff, Nat.reduceEqDiff, Nat.reduceLT, Nat.reduceBEq, reduceIte, reduceCtorEq, Int.reduceToNat, Nat.reduceShiftRight, Nat.reduceAnd, Nat.reduceBneDiff, Nat.reduceBNe]
  simp only [wz, wd, ws, Nat.reduceAdd, Nat.reduceSub, Nat.reduceMul, Nat.reduceLeDiff, Nat.reduceEqDiff, Nat.reduceLT, Nat.reduceBEq, reduceIte, reduceCtorEq, Int.reduceToNat, Nat.reduceShiftRight, Nat.reduceAnd, Nat.reduceBneDiff, Nat.reduceBNe, c55r1, semI.eq_10, semI.eq_11, semI.eq_3, semI.eq_5, semI.eq_7]
  refine .seq ?_
  obtain ⟨s, hf, h⟩ := Option.bind_eq_some_iff.1 h
  refine W.cut1 ⟨lkT [(0, .b (.s (.d (.int .u32 x)))), (1, .b (.s (.d (.int .i64 a)))), (2, .b (.s (.d (.int .i64 b)))), (11, .b (.s (.d (.int .u32 s))))], lkG []⟩ ?_ (fun tail => ?_)
  · skip
    refine .seq ?_
    refine Rw.walk ?_
    simp only [wz, wd, ws, Nat.reduceAdd, Nat.reduceSub, Nat.reduceMul, Nat.reduceLeDiff, Nat.reduceEqDiff, Nat.reduceLT, Nat.reduceBEq, reduceIte, reduceCtorEq, Int.reduceToNat, Nat.reduceShiftRight, Nat.reduceAnd, Nat.reduceBneDiff, Nat.reduceBNe, c55r4, semI.eq_10, semI.eq_11, semI.eq_3, semI.eq_5, semI.eq_7]
    obtain ⟨t2, e2, h⟩ := Option.bind_eq_some_iff.1 h
    refine call_fun [] false ⟨trivial, trivial, trivial, trivial⟩ rfl ?_ (f_math_bits_RotateLeft32_ok _ _ _ e2) (fun _ => rfl) (fun i hi => by cases hi) ?_
    · simp only [wz, wd, ws, Nat.reduceAdd, Nat.reduceSub, Nat.reduceMul, Nat.reduceLeDiff, Nat.reduceEqDiff, Nat.reduceLT, Nat.reduceBEq, reduceIte, reduceCtorEq, Int.reduceToNat, Nat.reduceShiftRight, Nat.reduceAnd, Nat.reduceBneDiff, Nat.reduceBNe]
    simp only [wz, wd, ws, Nat.reduceAdd, Nat.reduceSub, Nat.reduceMul, Nat.reduceLeDiff, Nat.reduceEqDiff, Nat.reduceLT, Nat.reduceBEq, reduceIte, reduceCtorEq, Int.reduceToNat, Nat.reduceShiftRight, Nat.reduceAnd, Nat.reduceBneDiff, Nat.reduceBNe, c55r4, semI.eq_10, semI.eq_11, semI.eq_3, semI.eq_5, semI.eq_7]
    obtain ⟨t3, e3, h⟩ := Option.bind_eq_some_iff.1 h
    refine call_fun [] false ⟨trivial, trivial, trivial, trivial⟩ rfl ?_ (f_math_bits_RotateLeft32_ok _ _ _ e3) (fun _ => rfl) (fun i hi => by cases hi) ?_
    · simp only [wz, wd, ws, Nat.reduceAdd, Nat.reduceSub, Nat.reduceMul, Nat.reduceLeDiff, Nat.reduceEqDiff, Nat.reduceLT, Nat.reduceBEq, reduceIte, reduceCtorEq, Int.reduceToNat, Nat.reduceShiftRight, Nat.reduceAnd, Nat.reduceBneDiff, Nat.reduceBNe]
    simp only [wz, wd, ws, Nat.reduceAdd, Nat.reduceSub, Nat.reduceMul, Nat.reduceLeDiff, Nat.reduceEqDiff, Nat.reduceLT, Nat.reduceBEq, reduceIte, reduceCtorEq, Int.reduceToNat, Nat.reduceShiftRight, Nat.reduceAnd, Nat.reduceBneDiff, Nat.reduceBNe, c55r4, semI.eq_10, semI.eq_11, semI.eq_3, semI.eq_5, semI.eq_7]
    obtain rfl := Option.some.inj h
    refine .ret ?_
    rw [← hR]
    simp only [wz, wd, ws, Nat.reduceAdd, Nat.reduceSub, Nat.reduceMul, Nat.reduceLeDiff, Nat.reduceEqDiff, Nat.reduceLT, Nat.reduceBEq, reduceIte, reduceCtorEq, Int.reduceToNat, Nat.reduceShiftRight, Nat.reduceAnd, Nat.reduceBneDiff, Nat.reduceBNe, rv55]
  replace h := hf
  refine .seq ?_
  refine Rw.walk ?_
  simp only [wz, wd, ws, Nat.reduceAdd, Nat.reduceSub, Nat.reduceMul, Nat.reduceLeDiff, Nat.reduceEqDiff, Nat.reduceLT, Nat.reduceBEq, reduceIte, reduceCtorEq, Int.reduceToNat, Nat.reduceShiftRight, Nat.reduceAnd, Nat.reduceBneDiff, Nat.reduceBNe, c55r2, semI.eq_10, semI.eq_11, semI.eq_3, semI.eq_5, semI.eq_7]
  refine .cond (p := moved) (by first | rfl | simp only [wz, wd, ws, Nat.reduceAdd, Nat.reduceSub, Nat.reduceMul, Nat.reduceLeDiff, Nat.reduceEqDiff, Nat.reduceLT, Nat.reduceBEq, reduceIte, reduceCtorEq, Int.reduceToNat, Nat.reduceShiftRight, Nat.reduceAnd, Nat.reduceBneDiff, Nat.reduceBNe]) (fun h1 => ?_) (fun h1 => ?_)
  · rw [ite_t h1] at h
    refine Rw.walk ?_
    obtain ⟨g4, h⟩ := gd_iff.1 h
    simp only [wz, wd, ws, Nat.reduceAdd, Nat.reduceSub, Nat.reduceMul, Nat.reduceLeDiff, Nat.reduceEqDiff, Nat.reduceLT, Nat.reduceBEq, reduceIte, reduceCtorEq, Int.reduceToNat, Nat.reduceShiftRight, Nat.reduceAnd, Nat.reduceBneDiff, Nat.reduceBNe, c55r3, semI.eq_10, semI.eq_11, semI.eq_3, semI.eq_5, semI.eq_7]
    repeat (refine And.intro ?_ ?_; · first | omega | (intro q; simp only [wz, wd, ws, Nat.reduceAdd, Nat.reduceSub, Nat.reduceMul, Nat.reduceLeDiff, Nat.reduceEqDiff, Nat.reduceLT, Nat.reduceBEq, reduceIte, reduceCtorEq, Int.reduceToNat, Nat.reduceShiftRight, Nat.reduceAnd, Nat.reduceBneDiff, Nat.reduceBNe, q]; done))
    obtain rfl := Option.some.inj h
    refine .weak (Imp.co [] _ _ ?_ ?_ ?_ ?_ ?_) (tail) <;> simp only [wz, wd, ws, Nat.reduceAdd, Nat.reduceSub, Nat.reduceMul, Nat.reduceLeDiff, Nat.reduceEqDiff, Nat.reduceLT, Nat.reduceBEq, reduceIte, reduceCtorEq, Int.reduceToNat, Nat.reduceShiftRight, Nat.reduceAnd, Nat.reduceBneDiff, Nat.reduceBNe, wi, er_nil]
  · rw [ite_f h1] at h
    refine .skip ?_
    obtain rfl := Option.some.inj h
    refine .weak (Imp.co [] _ _ ?_ ?_ ?_ ?_ ?_) (tail) <;> simp only [wz, wd, ws, Nat.reduceAdd, Nat.reduceSub, Nat.reduceMul, Nat.reduceLeDiff, Nat.reduceEqDiff, Nat.reduceLT, Nat.reduceBEq, reduceIte, reduceCtorEq, Int.reduceToNat, Nat.reduceShiftRight, Nat.reduceAnd, Nat.reduceBneDiff, Nat.reduceBNe, wi, er_nil]
-- 38 consignor/digest.over
def c38r0 : List Opn := [
  ⟨(some 2), none, .box 8 (.t 0)⟩, 
  ⟨(some 4), none, .new [(.d (.int .u32 0)), (.d (.int .u32 0)), (.d (.int .u32 0)), (.d (.int .u32 0)), (.d (.int .u32 0)), (.d (.int .u32 0)), (.d (.int .u32 0)), (.d (.int .u32 0))]⟩]
def c38r1 : List Opn := [
  ⟨(some 5), none, .new [(.d (.int .u32 0)), (.d (.int .u32 0)), (.d (.int .u32 0)), (.d (.int .u32 0)), (.d (.int .u32 0)), (.d (.int .u32 0)), (.d (.int .u32 0)), (.d (.int .u32 0)), (.d (.int .u32 0)), (.d (.int .u32 0)), (.d (.int .u32 0)), (.d (.int .u32 0)), (.d (.int .u32 0)), (.d (.int .u32 0)), (.d (.int .u32 0)), (.d (.int .u32 0)), (.d (.int .u32 0)), (.d (.int .u32 0)), (.d (.int .u32 0)), (.d (.int .u32 0)), (.d (.int .u32 0)), (.d (.int .u32 0)), (.d (.int .u32 0)), (.d (.int .u32 0)), (.d (.int .u32 0)), (.d (.int .u32 0)), (.d (.int .u32 0)), (.d (.int .u32 0)), (.d (.int .u32 0)), (.d (.int .u32 0)), (.d (.int .u32 0)), (.d (.int .u32 0)), (.d (.int .u32 0)), (.d (.int .u32 0)), (.d (.int .u32 0)), (.d (.int .u32 0)), (.d (.int .u32 0)), (.d (.int .u32 0)), (.d (.int .u32 0)), (.d (.int .u32 0)), (.d (.int .u32 0)), (.d (.int .u32 0)), (.d (.int .u32 0)), (.d (.int .u32 0)), (.d (.int .u32 0)), (.d (.int .u32 0)), (.d (.int .u32 0)), (.d (.int .u32 0)), (.d (.int .u32 0)), (.d (.int .u32 0)), (.d (.int .u32 0)), (.d (.int .u32 0)), (.d (.int .u32 0)), (.d (.int .u32 0)), (.d (.int .u32 0)), (.d (.int .u32 0)), (.d (.int .u32 0)), (.d (.int .u32 0)), (.d (.int .u32 0)), (.d (.int .u32 0)), (.d (.int .u32 0)), (.d (.int .u32 0)), (.d (.int .u32 0)), (.d (.int .u32 0))]⟩]
def c38r2 : List Opn := [
  ⟨(some 14), none, .mv (.c (.s (.d (.int .i64 0))))⟩]
def c38r3 : List Opn := [
  ⟨(some 15), none, .bin .lss (.t 14) (.c (.s (.d (.int .i64 64))))⟩]
def c38r4 : List Opn := [
  ⟨(some 16), none, .mv (.t 14)⟩, 
  ⟨(some 6), none, .mv (.t 16)⟩]
def c38r5 : List Opn := [
  ⟨(some 17), none, .mv (.t 6)⟩, 
  ⟨(some 18), none, .bin .lss (.t 17) (.c (.s (.d (.int .i64 16))))⟩]
def c38r6 : List Opn := [
  ⟨(some 19), none, .mv (.t 6)⟩, 
  ⟨(some 20), none, .mv (.t 1)⟩, 
  ⟨(some 21), none, .mv (.t 6)⟩, 
  ⟨(some 22), none, .bin .mul (.c (.s (.d (.int .i64 4)))) (.t 21)⟩, 
  ⟨(some 23), none, .slc .str (.t 20) (some (.t 22)) none none⟩, 
  ⟨(some 24), none, .call (.fn 54) [(.t 23)]⟩, 
  ⟨(some 25), none, .iadr (.ptr 64 1) (.t 5) (.t 19)⟩, 
  ⟨none, none, .store 1 (.t 25) (.t 24)⟩]
def c38r7 : List Opn := [
  ⟨(some 26), none, .mv (.t 6)⟩, 
  ⟨(some 27), none, .mv (.t 6)⟩, 
  ⟨(some 28), none, .bin .sub (.t 27) (.c (.s (.d (.int .i64 2))))⟩, 
  ⟨(some 29), none, .iadr (.ptr 64 1) (.t 5) (.t 28)⟩, 
  ⟨(some 30), none, .load false 1 (.t 29)⟩, 
  ⟨(some 31), none, .call (.fn 55) [(.t 30), (.c (.s (.d (.int .i64 17)))), (.c (.s (.d (.int .i64 19)))), (.c (.s (.d (.int .i64 10)))), (.c (.s (.d (.bool true))))]⟩, 
  ⟨(some 32), none, .mv (.t 6)⟩, 
  ⟨(some 33), none, .bin .sub (.t 32) (.c (.s (.d (.int .i64 7))))⟩, 
  ⟨(some 34), none, .iadr (.ptr 64 1) (.t 5) (.t 33)⟩, 
  ⟨(some 35), none, .load false 1 (.t 34)⟩, 
  ⟨(some 36), none, .bin .add (.t 31) (.t 35)⟩, 
  ⟨(some 37), none, .mv (.t 6)⟩, 
  ⟨(some 38), none, .bin .sub (.t 37) (.c (.s (.d (.int .i64 15))))⟩, 
  ⟨(some 39), none, .iadr (.ptr 64 1) (.t 5) (.t 38)⟩, 
  ⟨(some 40), none, .load false 1 (.t 39)⟩, 
  ⟨(some 41), none, .call (.fn 55) [(.t 40), (.c (.s (.d (.int .i64 7)))), (.c (.s (.d (.int .i64 18)))), (.c (.s (.d (.int .i64 3)))), (.c (.s (.d (.bool true))))]⟩, 
  ⟨(some 42), none, .bin .add (.t 36) (.t 41)⟩, 
  ⟨(some 43), none, .mv (.t 6)⟩, 
  ⟨(some 44), none, .bin .sub (.t 43) (.c (.s (.d (.int .i64 16))))⟩, 
  ⟨(some 45), none, .iadr (.ptr 64 1) (.t 5) (.t 44)⟩, 
  ⟨(some 46), none, .load false 1 (.t 45)⟩, 
  ⟨(some 47), none, .bin .add (.t 42) (.t 46)⟩, 
  ⟨(some 48), none, .iadr (.ptr 64 1) (.t 5) (.t 26)⟩, 
  ⟨none, none, .store 1 (.t 48) (.t 47)⟩]
def c38r8 : List Opn := [
  ⟨(some 49), none, .bin .add (.t 14) (.c (.s (.d (.int .i64 1))))⟩, 
  ⟨(some 14), none, .mv (.t 49)⟩]
def c38l9 : C := .seq (.reg c38r3 none [1, 2, 4, 5, 14, 15]) (.seq (.cond (.t 15) (.skip) (.exit 0)) (.seq (.blk 1 (.seq (.reg c38r4 none [1, 2, 4, 5, 6, 14]) (.seq (.seq (.reg c38r5 none [1, 2, 4, 5, 6, 14, 18]) (.cond (.t 18) (.seq (.reg c38r6 none [1, 2, 4, 5, 14]) (.exit 1)) (.skip))) (.reg c38r7 (some [0, 0, 2, 6, 14, 30, 0, 64, 192, 448, 1022, 0, 2048, 6144, 14336, 30782, 65534, 0, 131072, 393216, 917504, 2097150, 4194303, 8388607]) [1, 2, 4, 5, 14])))) (.reg c38r8 none [1, 2, 4, 5, 14])))
def c38r9 : List Opn := [
  ⟨(some 50), none, .load true 8 (.t 2)⟩, 
  ⟨(some 7), none, .new [(.d (.int .u32 0)), (.d (.int .u32 0)), (.d (.int .u32 0)), (.d (.int .u32 0)), (.d (.int .u32 0)), (.d (.int .u32 0)), (.d (.int .u32 0)), (.d (.int .u32 0))]⟩, 
  ⟨none, none, .store 8 (.t 7) (.t 50)⟩]
def c38r10 : List Opn := [
  ⟨(some 51), none, .mv (.c (.s (.d (.int .i64 0))))⟩]
def c38r11 : List Opn := [
  ⟨(some 52), none, .bin .lss (.t 51) (.c (.s (.d (.int .i64 64))))⟩]
def c38r12 : List Opn := [
  ⟨(some 53), none, .mv (.t 51)⟩, 
  ⟨(some 8), none, .mv (.t 53)⟩]
def c38r13 : List Opn := [
  ⟨(some 54), none, .iadr (.ptr 8 1) (.t 7) (.c (.s (.d (.int .i64 0))))⟩, 
  ⟨(some 55), none, .load false 1 (.t 54)⟩, 
  ⟨(some 56), none, .iadr (.ptr 8 1) (.t 7) (.c (.s (.d (.int .i64 4))))⟩, 
  ⟨(some 57), none, .load false 1 (.t 56)⟩, 
  ⟨(some 9), none, .mv (.t 55)⟩, 
  ⟨(some 10), none, .mv (.t 57)⟩]
def c38r14 : List Opn := [
  ⟨(some 58), none, .iadr (.ptr 8 1) (.t 7) (.c (.s (.d (.int .i64 7))))⟩, 
  ⟨(some 59), none, .load false 1 (.t 58)⟩, 
  ⟨(some 60), none, .mv (.t 10)⟩, 
  ⟨(some 61), none, .call (.fn 55) [(.t 60), (.c (.s (.d (.int .i64 6)))), (.c (.s (.d (.int .i64 11)))), (.c (.s (.d (.int .i64 25)))), (.c (.s (.d (.bool false))))]⟩, 
  ⟨(some 62), none, .bin .add (.t 59) (.t 61)⟩, 
  ⟨(some 63), none, .mv (.t 10)⟩, 
  ⟨(some 64), none, .iadr (.ptr 8 1) (.t 7) (.c (.s (.d (.int .i64 5))))⟩, 
  ⟨(some 65), none, .load false 1 (.t 64)⟩, 
  ⟨(some 66), none, .bin .and (.t 63) (.t 65)⟩, 
  ⟨(some 67), none, .mv (.t 10)⟩, 
  ⟨(some 68), none, .un .xor (.t 67)⟩, 
  ⟨(some 69), none, .iadr (.ptr 8 1) (.t 7) (.c (.s (.d (.int .i64 6))))⟩, 
  ⟨(some 70), none, .load false 1 (.t 69)⟩, 
  ⟨(some 71), none, .bin .and (.t 68) (.t 70)⟩, 
  ⟨(some 72), none, .bin .xor (.t 66) (.t 71)⟩, 
  ⟨(some 73), none, .bin .add (.t 62) (.t 72)⟩, 
  ⟨(some 74), none, .mv (.t 8)⟩, 
  ⟨(some 75), none, .iadr (.ptr 64 1) (.g 0) (.t 74)⟩, 
  ⟨(some 76), none, .load false 1 (.t 75)⟩, 
  ⟨(some 77), none, .bin .add (.t 73) (.t 76)⟩, 
  ⟨(some 78), none, .mv (.t 8)⟩, 
  ⟨(some 79), none, .iadr (.ptr 64 1) (.t 5) (.t 78)⟩, 
  ⟨(some 80), none, .load false 1 (.t 79)⟩, 
  ⟨(some 81), none, .bin .add (.t 77) (.t 80)⟩, 
  ⟨(some 11), none, .mv (.t 81)⟩]
def c38r15 : List Opn := [
  ⟨(some 82), none, .mv (.t 9)⟩, 
  ⟨(some 83), none, .call (.fn 55) [(.t 82), (.c (.s (.d (.int .i64 2)))), (.c (.s (.d (.int .i64 13)))), (.c (.s (.d (.int .i64 22)))), (.c (.s (.d (.bool false))))]⟩, 
  ⟨(some 84), none, .mv (.t 9)⟩, 
  ⟨(some 85), none, .iadr (.ptr 8 1) (.t 7) (.c (.s (.d (.int .i64 1))))⟩, 
  ⟨(some 86), none, .load false 1 (.t 85)⟩, 
  ⟨(some 87), none, .bin .and (.t 84) (.t 86)⟩, 
  ⟨(some 88), none, .mv (.t 9)⟩, 
  ⟨(some 89), none, .iadr (.ptr 8 1) (.t 7) (.c (.s (.d (.int .i64 2))))⟩, 
  ⟨(some 90), none, .load false 1 (.t 89)⟩, 
  ⟨(some 91), none, .bin .and (.t 88) (.t 90)⟩, 
  ⟨(some 92), none, .bin .xor (.t 87) (.t 91)⟩, 
  ⟨(some 93), none, .iadr (.ptr 8 1) (.t 7) (.c (.s (.d (.int .i64 1))))⟩, 
  ⟨(some 94), none, .load false 1 (.t 93)⟩, 
  ⟨(some 95), none, .iadr (.ptr 8 1) (.t 7) (.c (.s (.d (.int .i64 2))))⟩, 
  ⟨(some 96), none, .load false 1 (.t 95)⟩, 
  ⟨(some 97), none, .bin .and (.t 94) (.t 96)⟩, 
  ⟨(some 98), none, .bin .xor (.t 92) (.t 97)⟩, 
  ⟨(some 99), none, .bin .add (.t 83) (.t 98)⟩, 
  ⟨(some 12), none, .mv (.t 99)⟩]
def c38r16 : List Opn := [
  ⟨(some 100), none, .mv (.t 11)⟩, 
  ⟨(some 101), none, .mv (.t 12)⟩, 
  ⟨(some 102), none, .bin .add (.t 100) (.t 101)⟩, 
  ⟨(some 103), none, .mv (.t 9)⟩, 
  ⟨(some 104), none, .iadr (.ptr 8 1) (.t 7) (.c (.s (.d (.int .i64 1))))⟩, 
  ⟨(some 105), none, .load false 1 (.t 104)⟩, 
  ⟨(some 106), none, .iadr (.ptr 8 1) (.t 7) (.c (.s (.d (.int .i64 2))))⟩, 
  ⟨(some 107), none, .load false 1 (.t 106)⟩, 
  ⟨(some 108), none, .iadr (.ptr 8 1) (.t 7) (.c (.s (.d (.int .i64 3))))⟩, 
  ⟨(some 109), none, .load false 1 (.t 108)⟩, 
  ⟨(some 110), none, .mv (.t 11)⟩, 
  ⟨(some 111), none, .bin .add (.t 109) (.t 110)⟩, 
  ⟨(some 112), none, .mv (.t 10)⟩, 
  ⟨(some 113), none, .iadr (.ptr 8 1) (.t 7) (.c (.s (.d (.int .i64 5))))⟩, 
  ⟨(some 114), none, .load false 1 (.t 113)⟩, 
  ⟨(some 115), none, .iadr (.ptr 8 1) (.t 7) (.c (.s (.d (.int .i64 6))))⟩, 
  ⟨(some 116), none, .load false 1 (.t 115)⟩, 
  ⟨(some 117), none, .build [(.d (.int .u32 0)), (.d (.int .u32 0)), (.d (.int .u32 0)), (.d (.int .u32 0)), (.d (.int .u32 0)), (.d (.int .u32 0)), (.d (.int .u32 0)), (.d (.int .u32 0))] [(0, 1, (.t 102)), (1, 1, (.t 103)), (2, 1, (.t 105)), (3, 1, (.t 107)), (4, 1, (.t 111)), (5, 1, (.t 112)), (6, 1, (.t 114)), (7, 1, (.t 116))]⟩, 
  ⟨none, none, .store 8 (.t 7) (.t 117)⟩]
def c38r17 : List Opn := [
  ⟨(some 118), none, .bin .add (.t 51) (.c (.s (.d (.int .i64 1))))⟩, 
  ⟨(some 51), none, .mv (.t 118)⟩]
def c38l19 : C := .seq (.reg c38r11 none [2, 4, 5, 7, 51, 52]) (.seq (.cond (.t 52) (.skip) (.exit 2)) (.seq (.blk 3 (.seq (.reg c38r12 none [2, 4, 5, 7, 8, 51]) (.seq (.reg c38r13 (some [0, 1, 0, 4, 3, 31]) [2, 4, 5, 7, 8, 9, 10, 51]) (.seq (.reg c38r14 (some [0, 1, 0, 4, 15, 0, 0, 64, 224, 0, 512, 0, 2048, 7680, 16352, 32767, 0, 65536, 196608, 524287, 0, 1048576, 3145728, 8388607, 16777215]) [2, 4, 5, 7, 9, 10, 11, 51]) (.seq (.reg c38r15 (some [0, 1, 0, 0, 8, 28, 0, 0, 128, 448, 1020, 0, 2048, 0, 8192, 30720, 65532, 131071, 262143]) [2, 4, 5, 7, 9, 10, 11, 12, 51]) (.reg c38r16 none [2, 4, 5, 7, 51])))))) (.reg c38r17 none [2, 4, 5, 7, 51])))
def c38r18 : List Opn := [
  ⟨(some 119), none, .mv (.c (.s (.d (.int .i64 0))))⟩]
def c38r19 : List Opn := [
  ⟨(some 120), none, .bin .lss (.t 119) (.c (.s (.d (.int .i64 8))))⟩]
def c38r20 : List Opn := [
  ⟨(some 121), none, .mv (.t 119)⟩, 
  ⟨(some 13), none, .mv (.t 121)⟩]
def c38r21 : List Opn := [
  ⟨(some 122), none, .mv (.t 13)⟩, 
  ⟨(some 123), none, .iadr (.ptr 8 1) (.t 2) (.t 122)⟩, 
  ⟨(some 124), none, .load false 1 (.t 123)⟩, 
  ⟨(some 125), none, .mv (.t 13)⟩, 
  ⟨(some 126), none, .iadr (.ptr 8 1) (.t 7) (.t 125)⟩, 
  ⟨(some 127), none, .load false 1 (.t 126)⟩, 
  ⟨(some 128), none, .bin .add (.t 124) (.t 127)⟩, 
  ⟨(some 129), none, .iadr (.ptr 8 1) (.t 2) (.t 122)⟩, 
  ⟨none, none, .store 1 (.t 129) (.t 128)⟩]
def c38r22 : List Opn := [
  ⟨(some 130), none, .bin .add (.t 119) (.c (.s (.d (.int .i64 1))))⟩, 
  ⟨(some 119), none, .mv (.t 130)⟩]
def c38l25 : C := .seq (.reg c38r19 none [2, 4, 7, 119, 120]) (.seq (.cond (.t 120) (.skip) (.exit 4)) (.seq (.blk 5 (.seq (.reg c38r20 none [2, 4, 7, 13, 119]) (.reg c38r21 (some [0, 1, 3, 0, 8, 24, 63, 127, 255]) [2, 4, 7, 119]))) (.reg c38r22 none [2, 4, 7, 119])))
def c38r23 : List Opn := [
  ⟨(some 131), none, .load true 8 (.t 2)⟩, 
  ⟨none, none, .store 8 (.t 4) (.t 131)⟩]
def c38 : C := .seq (.reg c38r0 none [1, 2, 4]) (.seq (.reg c38r1 none [1, 2, 4, 5]) (.seq (.seq (.reg c38r2 none [1, 2, 4, 5, 14]) (.blk 0 (.loop c38l9))) (.seq (.reg c38r9 none [2, 4, 5, 7]) (.seq (.seq (.reg c38r10 none [2, 4, 5, 7, 51]) (.blk 2 (.loop c38l19))) (.seq (.seq (.reg c38r18 none [2, 4, 7, 119]) (.blk 4 (.loop c38l25))) (.seq (.reg c38r23 none [4]) (.ret)))))))
def k38 : List (Nat × List Nat) := [(23, [4]), (22, [2, 4, 7, 119]), (21, [2, 4, 7, 119]), (20, [2, 4, 7, 13, 119]), (19, [2, 4, 7, 119, 120]), (18, [2, 4, 7, 119]), (17, [2, 4, 5, 7, 51]), (16, [2, 4, 5, 7, 51]), (15, [2, 4, 5, 7, 9, 10, 11, 12, 51]), (14, [2, 4, 5, 7, 9, 10, 11, 51]), (13, [2, 4, 5, 7, 8, 9, 10, 51]), (12, [2, 4, 5, 7, 8, 51]), (11, [2, 4, 5, 7, 51, 52]), (10, [2, 4, 5, 7, 51]), (9, [2, 4, 5, 7]), (8, [1, 2, 4, 5, 14]), (7, [1, 2, 4, 5, 14]), (6, [1, 2, 4, 5, 14]), (5, [1, 2, 4, 5, 6, 14, 18]), (4, [1, 2, 4, 5, 6, 14]), (3, [1, 2, 4, 5, 14, 15]), (2, [1, 2, 4, 5, 14]), (1, [1, 2, 4, 5]), (0, [1, 2, 4])]
theorem cc38 : (Tryd.f38.body).bind (cC Tryd.prog 132 k38) = some c38 := by kernel_rfl
def rv38 : List RV := [.c 4 true 8]
theorem cr38 : cRVs Tryd.prog Tryd.f38.results.toList = some rv38 := by kernel_rfl
theorem f_digest_over_l9_ok (hv : (List Int)) (s : Str) (y_ : (List Int)) (R_ : St → Prop) (hR : (Ret Tryd.prog glP [] rv38 (.b (.agg (ea (eI .u32) y_)))) = R_) : ∀ (m_ : Nat) (v14 : Int) (w : (List Int)) (res_ : Int × (List Int)) (h : f_digest_over_l9 hv s m_ v14 w = some res_) (k_ : List It) (hx : ∀ s_ : Int × (List Int), res_ = s_ → W Tryd.prog glP 132 k_ ⟨lkT [(1, .b (.s (.d (.str s)))), (2, .b (.s (.ptr 2 1 0 0))), (4, .b (.s (.ptr 4 1 0 0))), (5, .b (.s (.ptr 5 1 0 0))), (14, .b (.s (.d (.int .i64 s_.1))))], lkG [(2, ⟨8, [ea (eI .u32) hv], false⟩), (4, ⟨8, [ea (eI .u32) (List.replicate 8 0)], false⟩), (5, ⟨64, [ea (eI .u32) s_.2], false⟩)]⟩ R_), W Tryd.prog glP 132 (.c c38l9 :: .lp c38l9 :: .blk 0 :: k_) ⟨lkT [(1, .b (.s (.d (.str s)))), (2, .b (.s (.ptr 2 1 0 0))), (4, .b (.s (.ptr 4 1 0 0))), (5, .b (.s (.ptr 5 1 0 0))), (14, .b (.s (.d (.int .i64 v14))))], lkG [(2, ⟨8, [ea (eI .u32) hv], false⟩), (4, ⟨8, [ea (eI .u32) (List.replicate 8 0)], false⟩), (5, ⟨64, [ea (eI .u32) w], false⟩)]⟩ R_ := by
  intro m_; induction m_ with
  | zero => intro v14 w res_ h; rw [f_digest_over_l9.eq_1] at h; cases h
  | succ m_ ih =>
    intro v14 w res_ h k_ hx; rw [f_digest_over_l9.eq_2] at h; refine W.cdef c38l9.eq_1 ?_
    refine .seq ?_
    refine Rw.walk ?_
    simp only [wz, wd, ws, Nat.reduceAdd, Nat.reduceSub, Nat.reduceMul, Nat.reduceLeDiff, Nat.reduceEqDiff, Nat.reduceLT, Nat.reduceBEq, reduceIte, reduceCtorEq, Int.reduceToNat, Nat.reduceShiftRight, Nat.reduceAnd, Nat.reduceBneDiff, Nat.reduceBNe, c38r3, semI.eq_10, semI.eq_11, semI.eq_3, semI.eq_5, semI.eq_7]
    refine .seq ?_
    refine .cond (p := (decide (v14 < 64))) (by first | rfl | simp only [wz, wd, ws, Nat.reduceAdd, Nat.reduceSub, Nat.reduceMul, Nat.reduceLeDiff, Nat.reduceEqDiff, Nat.reduceLT, Nat.reduceBEq, reduceIte, reduceCtorEq, Int.reduceToNat, Nat.reduceShiftRight, Nat.reduceAnd, Nat.reduceBneDiff, Nat.reduceBNe]) (fun h1 => ?_) (fun h1 => ?_)
    · rw [ite_t h1] at h
      refine .skip ?_
      refine .seq ?_
      refine .blk ?_
      refine .seq ?_
      refine Rw.walk ?_
      simp only [wz, wd, ws, Nat.reduceAdd, Nat.reduceSub, Nat.reduceMul, Nat.reduceLeDiff, Nat.reduceEqDiff, Nat.reduceLT, Nat.reduceBEq, reduceIte, reduceCtorEq, Int.reduceToNat, Nat.reduceShiftRight, Nat.reduceAnd, Nat.reduceBneDiff, Nat.reduceBNe, c38r4, semI.eq_10, semI.eq_11, semI.eq_3, semI.eq_5, semI.eq_7]
      refine .seq ?_
      refine .seq ?_
      refine Rw.walk ?_
      simp only [wz, wd, ws, Nat.reduceAdd, Nat.reduceSub, Nat.reduceMul, Nat.reduceLeDiff, Nat.reduceEqDiff, Nat.reduceLT, Nat.reduceBEq, reduceIte, reduceCtorEq, Int.reduceToNat, Nat.reduceShiftRight, Nat.reduceAnd, Nat.reduceBneDiff, Nat.reduceBNe, c38r5, semI.eq_10, semI.eq_11, semI.eq_3, semI.eq_5, semI.eq_7]
      refine .cond (p := (decide (v14 < 16))) (by first | rfl | simp only [wz, wd, ws, Nat.reduceAdd, Nat.reduceSub, Nat.reduceMul, Nat.reduceLeDiff, Nat.reduceEqDiff, Nat.reduceLT, Nat.reduceBEq, reduceIte, reduceCtorEq, Int.reduceToNat, Nat.reduceShiftRight, Nat.reduceAnd, Nat.reduceBneDiff, Nat.reduceBNe]) (fun h1 => ?_) (fun h1 => ?_)
      · rw [ite_t h1] at h
        refine .seq ?_
        refine Rw.walk ?_
        obtain ⟨g2, h⟩ := gd_iff.1 h
        simp only [wz, wd, ws, Nat.reduceAdd, Nat.reduceSub, Nat.reduceMul, Nat.reduceLeDiff, Nat.reduceEqDiff, Nat.reduceLT, Nat.reduceBEq, reduceIte, reduceCtorEq, Int.reduceToNat, Nat.reduceShiftRight, Nat.reduceAnd, Nat.reduceBneDiff, Nat.reduceBNe, c38r6, semI.eq_3, semI.eq_5, semI.eq_7]
        repeat (refine And.intro ?_ ?_; · first | omega | (intro q; simp only [wz, wd, ws, Nat.reduceAdd, Nat.reduceSub, Nat.reduceMul, Nat.reduceLeDiff, Nat.reduceEqDiff, Nat.reduceLT, Nat.reduceBEq, reduceIte, reduceCtorEq, Int.reduceToNat, Nat.reduceShiftRight, Nat.reduceAnd, Nat.reduceBneDiff, Nat.reduceBNe, q]; done))
        obtain ⟨t, e3, h⟩ := Option.bind_eq_some_iff.1 h
        refine call_fun [] false ⟨trivial, trivial, trivial⟩ rfl ?_ (f_digest_big_ok _ _ e3) (fun _ => rfl) (fun i hi => by cases hi) ?_
        · simp only [wz, wd, ws, Nat.reduceAdd, Nat.reduceSub, Nat.reduceMul, Nat.reduceLeDiff, Nat.reduceEqDiff, Nat.reduceLT, Nat.reduceBEq, reduceIte, reduceCtorEq, Int.reduceToNat, Nat.reduceShiftRight, Nat.reduceAnd, Nat.reduceBneDiff, Nat.reduceBNe]
        simp only [wz, wd, ws, Nat.reduceAdd, Nat.reduceSub, Nat.reduceMul, Nat.reduceLeDiff, Nat.reduceEqDiff, Nat.reduceLT, Nat.reduceBEq, reduceIte, reduceCtorEq, Int.reduceToNat, Nat.reduceShiftRight, Nat.reduceAnd, Nat.reduceBneDiff, Nat.reduceBNe, c38r6, semI.eq_3, semI.eq_5, semI.eq_7]
        obtain ⟨g4, h⟩ := gd_iff.1 h
        refine Go1.of (sem_iadrA (by rfl) (by rfl) (by rfl)) ?_
        simp only [wz, wd, ws, Nat.reduceAdd, Nat.reduceSub, Nat.reduceMul, Nat.reduceLeDiff, Nat.reduceEqDiff, Nat.reduceLT, Nat.reduceBEq, reduceIte, reduceCtorEq, Int.reduceToNat, Nat.reduceShiftRight, Nat.reduceAnd, Nat.reduceBneDiff, Nat.reduceBNe, c38r6, semI.eq_3, semI.eq_5, semI.eq_7]
        repeat (refine And.intro ?_ ?_; · first | omega | (intro q; simp only [wz, wd, ws, Nat.reduceAdd, Nat.reduceSub, Nat.reduceMul, Nat.reduceLeDiff, Nat.reduceEqDiff, Nat.reduceLT, Nat.reduceBEq, reduceIte, reduceCtorEq, Int.reduceToNat, Nat.reduceShiftRight, Nat.reduceAnd, Nat.reduceBneDiff, Nat.reduceBNe, q]; done))
        obtain ⟨g5, h⟩ := gd_iff.1 h
        refine Go1.of (sem_storeA (enc := (eI .u32)) (a' := t) (i := v14) (eI_len _) (by rfl) (by rfl) (by omega) (by omega) (by rfl) (by trivial) (by rfl)) ?_
        simp only [wz, wd, ws, Nat.reduceAdd, Nat.reduceSub, Nat.reduceMul, Nat.reduceLeDiff, Nat.reduceEqDiff, Nat.reduceLT, Nat.reduceBEq, reduceIte, reduceCtorEq, Int.reduceToNat, Nat.reduceShiftRight, Nat.reduceAnd, Nat.reduceBneDiff, Nat.reduceBNe, c38r6, semI.eq_3, semI.eq_5, semI.eq_7]
        refine .exit rfl ?_
        refine Rw.walk ?_
        simp only [wz, wd, ws, Nat.reduceAdd, Nat.reduceSub, Nat.reduceMul, Nat.reduceLeDiff, Nat.reduceEqDiff, Nat.reduceLT, Nat.reduceBEq, reduceIte, reduceCtorEq, Int.reduceToNat, Nat.reduceShiftRight, Nat.reduceAnd, Nat.reduceBneDiff, Nat.reduceBNe, c38r8, semI.eq_10, semI.eq_11, semI.eq_3, semI.eq_5, semI.eq_7]
        refine .lp ?_
        refine .weak (Imp.co [] _ _ ?_ ?_ ?_ ?_ ?_) (ih (IntKind.i64.wrap (v14 + 1)) (w.set v14.toNat t) _ h k_ hx) <;> simp only [wz, wd, ws, Nat.reduceAdd, Nat.reduceSub, Nat.reduceMul, Nat.reduceLeDiff, Nat.reduceEqDiff, Nat.reduceLT, Nat.reduceBEq, reduceIte, reduceCtorEq, Int.reduceToNat, Nat.reduceShiftRight, Nat.reduceAnd, Nat.reduceBneDiff, Nat.reduceBNe, wi, er_nil]
      · rw [ite_f h1] at h
        refine .skip ?_
        refine RwD.walk ?_
        simp only [wz, wd, ws, Nat.reduceAdd, Nat.reduceSub, Nat.reduceMul, Nat.reduceLeDiff, Nat.reduceEqDiff, Nat.reduceLT, Nat.reduceBEq, reduceIte, reduceCtorEq, Int.reduceToNat, Nat.reduceShiftRight, Nat.reduceAnd, Nat.reduceBneDiff, Nat.reduceBNe, c38r7, semI.eq_3, semI.eq_5, semI.eq_7]
        obtain ⟨g6, h⟩ := gd_iff.1 h
        refine GoD1.of (sem_iadrA (by rfl) (by rfl) (by rfl)) ?_
        simp only [wz, wd, ws, Nat.reduceAdd, Nat.reduceSub, Nat.reduceMul, Nat.reduceLeDiff, Nat.reduceEqDiff, Nat.reduceLT, Nat.reduceBEq, reduceIte, reduceCtorEq, Int.reduceToNat, Nat.reduceShiftRight, Nat.reduceAnd, Nat.reduceBneDiff, Nat.reduceBNe, c38r7, semI.eq_3, semI.eq_5, semI.eq_7]
        repeat (refine And.intro ?_ ?_; · first | omega | (intro q; simp only [wz, wd, ws, Nat.reduceAdd, Nat.reduceSub, Nat.reduceMul, Nat.reduceLeDiff, Nat.reduceEqDiff, Nat.reduceLT, Nat.reduceBEq, reduceIte, reduceCtorEq, Int.reduceToNat, Nat.reduceShiftRight, Nat.reduceAnd, Nat.reduceBneDiff, Nat.reduceBNe, q]; done))
        obtain ⟨x, e7, h⟩ := Option.bind_eq_some_iff.1 h
        refine GoD1.of (sem_loadA1 (eI_len _) e7 (by rfl) (by rfl) (by rfl)) ?_
        simp only [wz, wd, ws, Nat.reduceAdd, Nat.reduceSub, Nat.reduceMul, Nat.reduceLeDiff, Nat.reduceEqDiff, Nat.reduceLT, Nat.reduceBEq, reduceIte, reduceCtorEq, Int.reduceToNat, Nat.reduceShiftRight, Nat.reduceAnd, Nat.reduceBneDiff, Nat.reduceBNe, c38r7, semI.eq_3, semI.eq_5, semI.eq_7]
        obtain ⟨t, e8, h⟩ := Option.bind_eq_some_iff.1 h
        refine call_fun [] false ⟨trivial, trivial, trivial, trivial, trivial, trivial, trivial⟩ rfl ?_ (f_digest_mixed_ok _ _ _ _ _ _ e8) (fun _ => rfl) (fun i hi => by cases hi) ?_
        · simp only [wz, wd, ws, Nat.reduceAdd, Nat.reduceSub, Nat.reduceMul, Nat.reduceLeDiff, Nat.reduceEqDiff, Nat.reduceLT, Nat.reduceBEq, reduceIte, reduceCtorEq, Int.reduceToNat, Nat.reduceShiftRight, Nat.reduceAnd, Nat.reduceBneDiff, Nat.reduceBNe]
        simp only [wz, wd, ws, Nat.reduceAdd, Nat.reduceSub, Nat.reduceMul, Nat.reduceLeDiff, Nat.reduceEqDiff, Nat.reduceLT, Nat.reduceBEq, reduceIte, reduceCtorEq, Int.reduceToNat, Nat.reduceShiftRight, Nat.reduceAnd, Nat.reduceBneDiff, Nat.reduceBNe, c38r7, semI.eq_3, semI.eq_5, semI.eq_7]
        obtain ⟨g9, h⟩ := gd_iff.1 h
        refine GoD1.of (sem_iadrA (by rfl) (by rfl) (by rfl)) ?_
        simp only [wz, wd, ws, Nat.reduceAdd, Nat.reduceSub, Nat.reduceMul, Nat.reduceLeDiff, Nat.reduceEqDiff, Nat.reduceLT, Nat.reduceBEq, reduceIte, reduceCtorEq, Int.reduceToNat, Nat.reduceShiftRight, Nat.reduceAnd, Nat.reduceBneDiff, Nat.reduceBNe, c38r7, semI.eq_3, semI.eq_5, semI.eq_7]
        repeat (refine And.intro ?_ ?_; · first | omega | (intro q; simp only [wz, wd, ws, Nat.reduceAdd, Nat.reduceSub, Nat.reduceMul, Nat.reduceLeDiff, Nat.reduceEqDiff, Nat.reduceLT, Nat.reduceBEq, reduceIte, reduceCtorEq, Int.reduceToNat, Nat.reduceShiftRight, Nat.reduceAnd, Nat.reduceBneDiff, Nat.reduceBNe, q]; done))
        obtain ⟨x2, e10, h⟩ := Option.bind_eq_some_iff.1 h
        refine GoD1.of (sem_loadA1 (eI_len _) e10 (by rfl) (by rfl) (by rfl)) ?_
        simp only [wz, wd, ws, Nat.reduceAdd, Nat.reduceSub, Nat.reduceMul, Nat.reduceLeDiff, Nat.reduceEqDiff, Nat.reduceLT, Nat.reduceBEq, reduceIte, reduceCtorEq, Int.reduceToNat, Nat.reduceShiftRight, Nat.reduceAnd, Nat.reduceBneDiff, Nat.reduceBNe, c38r7, semI.eq_3, semI.eq_5, semI.eq_7]
        obtain ⟨g11, h⟩ := gd_iff.1 h
        refine GoD1.of (sem_iadrA (by rfl) (by rfl) (by rfl)) ?_
        simp only [wz, wd, ws, Nat.reduceAdd, Nat.reduceSub, Nat.reduceMul, Nat.reduceLeDiff, Nat.reduceEqDiff, Nat.reduceLT, Nat.reduceBEq, reduceIte, reduceCtorEq, Int.reduceToNat, Nat.reduceShiftRight, Nat.reduceAnd, Nat.reduceBneDiff, Nat.reduceBNe, c38r7, semI.eq_3, semI.eq_5, semI.eq_7]
        repeat (refine And.intro ?_ ?_; · first | omega | (intro q; simp only [wz, wd, ws, Nat.reduceAdd, Nat.reduceSub, Nat.reduceMul, Nat.reduceLeDiff, Nat.reduceEqDiff, Nat.reduceLT, Nat.reduceBEq, reduceIte, reduceCtorEq, Int.reduceToNat, Nat.reduceShiftRight, Nat.reduceAnd, Nat.reduceBneDiff, Nat.reduceBNe, q]; done))
        obtain ⟨x3, e12, h⟩ := Option.bind_eq_some_iff.1 h
        refine GoD1.of (sem_loadA1 (eI_len _) e12 (by rfl) (by rfl) (by rfl)) ?_
        simp only [wz, wd, ws, Nat.reduceAdd, Nat.reduceSub, Nat.reduceMul, Nat.reduceLeDiff, Nat.reduceEqDiff, Nat.reduceLT, Nat.reduceBEq, reduceIte, reduceCtorEq, Int.reduceToNat, Nat.reduceShiftRight, Nat.reduceAnd, Nat.reduceBneDiff, Nat.reduceBNe, c38r7, semI.eq_3, semI.eq_5, semI.eq_7]
        obtain ⟨t2, e13, h⟩ := Option.bind_eq_some_iff.1 h
        refine call_fun [] false ⟨trivial, trivial, trivial, trivial, trivial, trivial, trivial⟩ rfl ?_ (f_digest_mixed_ok _ _ _ _ _ _ e13) (fun _ => rfl) (fun i hi => by cases hi) ?_
        · simp only [wz, wd, ws, Nat.reduceAdd, Nat.reduceSub, Nat.reduceMul, Nat.reduceLeDiff, Nat.reduceEqDiff, Nat.reduceLT, Nat.reduceBEq, reduceIte, reduceCtorEq, Int.reduceToNat, Nat.reduceShiftRight, Nat.reduceAnd, Nat.reduceBneDiff, Nat.reduceBNe]
        simp only [wz, wd, ws, Nat.reduceAdd, Nat.reduceSub, Nat.reduceMul, Nat.reduceLeDiff, Nat.reduceEqDiff, Nat.reduceLT, Nat.reduceBEq, reduceIte, reduceCtorEq, Int.reduceToNat, Nat.reduceShiftRight, Nat.reduceAnd, Nat.reduceBneDiff, Nat.reduceBNe, c38r7, semI.eq_3, semI.eq_5, semI.eq_7]
        obtain ⟨g14, h⟩ := gd_iff.1 h
        refine GoD1.of (sem_iadrA (by rfl) (by rfl) (by rfl)) ?_
        simp only [wz, wd, ws, Nat.reduceAdd, Nat.reduceSub, Nat.reduceMul, Nat.reduceLeDiff, Nat.reduceEqDiff, Nat.reduceLT, Nat.reduceBEq, reduceIte, reduceCtorEq, Int.reduceToNat, Nat.reduceShiftRight, Nat.reduceAnd, Nat.reduceBneDiff, Nat.reduceBNe, c38r7, semI.eq_3, semI.eq_5, semI.eq_7]
        repeat (refine And.intro ?_ ?_; · first | omega | (intro q; simp only [wz, wd, ws, Nat.reduceAdd, Nat.reduceSub, Nat.reduceMul, Nat.reduceLeDiff, Nat.reduceEqDiff, Nat.reduceLT, Nat.reduceBEq, reduceIte, reduceCtorEq, Int.reduceToNat, Nat.reduceShiftRight, Nat.reduceAnd, Nat.reduceBneDiff, Nat.reduceBNe, q]; done))
        obtain ⟨x4, e15, h⟩ := Option.bind_eq_some_iff.1 h
        refine GoD1.of (sem_loadA1 (eI_len _) e15 (by rfl) (by rfl) (by rfl)) ?_
        simp only [wz, wd, ws, Nat.reduceAdd, Nat.reduceSub, Nat.reduceMul, Nat.reduceLeDiff, Nat.reduceEqDiff, Nat.reduceLT, Nat.reduceBEq, reduceIte, reduceCtorEq, Int.reduceToNat, Nat.reduceShiftRight, Nat.reduceAnd, Nat.reduceBneDiff, Nat.reduceBNe, c38r7, semI.eq_3, semI.eq_5, semI.eq_7]
        obtain ⟨g16, h⟩ := gd_iff.1 h
        refine GoD1.of (sem_iadrA (by rfl) (by rfl) (by rfl)) ?_
        simp only [wz, wd, ws, Nat.reduceAdd, Nat.reduceSub, Nat.reduceMul, Nat.reduceLeDiff, Nat.reduceEqDiff, Nat.reduceLT, Nat.reduceBEq, reduceIte, reduceCtorEq, Int.reduceToNat, Nat.reduceShiftRight, Nat.reduceAnd, Nat.reduceBneDiff, Nat.reduceBNe, c38r7, semI.eq_3, semI.eq_5, semI.eq_7]
        repeat (refine And.intro ?_ ?_; · first | omega | (intro q; simp only [wz, wd, ws, Nat.reduceAdd, Nat.reduceSub, Nat.reduceMul, Nat.reduceLeDiff, Nat.reduceEqDiff, Nat.reduceLT, Nat.reduceBEq, reduceIte, reduceCtorEq, Int.reduceToNat, Nat.reduceShiftRight, Nat.reduceAnd, Nat.reduceBneDiff, Nat.reduceBNe, q]; done))
        obtain ⟨g17, h⟩ := gd_iff.1 h
        refine GoD1.of (sem_storeA (enc := (eI .u32)) (a' := (IntKind.u32.wrap ((IntKind.u32.wrap ((IntKind.u32.wrap (t + x2)) + t2)) + x4))) (i := v14) (eI_len _) (by rfl) (by rfl) (by omega) (by omega) (by rfl) (by trivial) (by rfl)) ?_
        simp only [wz, wd, ws, Nat.reduceAdd, Nat.reduceSub, Nat.reduceMul, Nat.reduceLeDiff, Nat.reduceEqDiff, Nat.reduceLT, Nat.reduceBEq, reduceIte, reduceCtorEq, Int.reduceToNat, Nat.reduceShiftRight, Nat.reduceAnd, Nat.reduceBneDiff, Nat.reduceBNe, c38r7, semI.eq_3, semI.eq_5, semI.eq_7]
        refine .eblk ?_
        refine Rw.walk ?_
        simp only [wz, wd, ws, Nat.reduceAdd, Nat.reduceSub, Nat.reduceMul, Nat.reduceLeDiff, Nat.reduceEqDiff, Nat.reduceLT, Nat.reduceBEq, reduceIte, reduceCtorEq, Int.reduceToNat, Nat.reduceShiftRight, Nat.reduceAnd, Nat.reduceBneDiff, Nat.reduceBNe, c38r8, semI.eq_10, semI.eq_11, semI.eq_3, semI.eq_5, semI.eq_7]
        refine .lp ?_
        refine .weak (Imp.co [] _ _ ?_ ?_ ?_ ?_ ?_) (ih (IntKind.i64.wrap (v14 + 1)) (w.set v14.toNat (IntKind.u32.wrap ((IntKind.u32.wrap ((IntKind.u32.wrap (t + x2)) + t2)) + x4))) _ h k_ hx) <;> simp only [wz, wd, ws, Nat.reduceAdd, Nat.reduceSub, Nat.reduceMul, Nat.reduceLeDiff, Nat.reduceEqDiff, Nat.reduceLT, Nat.reduceBEq, reduceIte, reduceCtorEq, Int.reduceToNat, Nat.reduceShiftRight, Nat.reduceAnd, Nat.reduceBneDiff, Nat.reduceBNe, wi, er_nil]
    · rw [ite_f h1] at h
      refine .exit rfl ?_
      obtain rfl := Option.some.inj h
      refine .weak (Imp.co [] _ _ ?_ ?_ ?_ ?_ ?_) (hx _ rfl) <;> simp only [wz, wd, ws, Nat.reduceAdd, Nat.reduceSub, Nat.reduceMul, Nat.reduceLeDiff, Nat.reduceEqDiff, Nat.reduceLT, Nat.reduceBEq, reduceIte, reduceCtorEq, Int.reduceToNat, Nat.reduceShiftRight, Nat.reduceAnd, Nat.reduceBneDiff, Nat.reduceBNe, wi, er_nil]
theorem f_digest_over_l19_ok (hv : (List Int)) (s : Str) (s2 : Int × (List Int)) (y_ : (List Int)) (R_ : St → Prop) (hR : (Ret Tryd.prog glP [] rv38 (.b (.agg (ea (eI .u32) y_)))) = R_) : ∀ (m_ : Nat) (v51 : Int) (v : (List Int)) (res_ : Int × (List Int)) (h : f_digest_over_l19 hv s s2 m_ v51 v = some res_) (k_ : List It) (hx : ∀ s_ : Int × (List Int), res_ = s_ → W Tryd.prog glP 132 k_ ⟨lkT [(2, .b (.s (.ptr 2 1 0 0))), (4, .b (.s (.ptr 4 1 0 0))), (5, .b (.s (.ptr 5 1 0 0))), (7, .b (.s (.ptr 7 1 0 0))), (51, .b (.s (.d (.int .i64 s_.1))))], lkG [(2, ⟨8, [ea (eI .u32) hv], false⟩), (4, ⟨8, [ea (eI .u32) (List.replicate 8 0)], false⟩), (5, ⟨64, [ea (eI .u32) s2.2], false⟩), (7, ⟨8, [ea (eI .u32) s_.2], false⟩)]⟩ R_), W Tryd.prog glP 132 (.c c38l19 :: .lp c38l19 :: .blk 2 :: k_) ⟨lkT [(2, .b (.s (.ptr 2 1 0 0))), (4, .b (.s (.ptr 4 1 0 0))), (5, .b (.s (.ptr 5 1 0 0))), (7, .b (.s (.ptr 7 1 0 0))), (51, .b (.s (.d (.int .i64 v51))))], lkG [(2, ⟨8, [ea (eI .u32) hv], false⟩), (4, ⟨8, [ea (eI .u32) (List.replicate 8 0)], false⟩), (5, ⟨64, [ea (eI .u32) s2.2], false⟩), (7, ⟨8, [ea (eI .u32) v], false⟩)]⟩ R_ := by
  intro m_; induction m_ with
  | zero => intro v51 v res_ h; rw [f_digest_over_l19.eq_1] at h; cases h
  | succ m_ ih =>
    intro v51 v res_ h k_ hx; rw [f_digest_over_l19.eq_2] at h; refine W.cdef c38l19.eq_1 ?_
    refine .seq ?_
    refine Rw.walk ?_
    simp only [wz, wd, ws, Nat.reduceAdd, Nat.reduceSub, Nat.reduceMul, Nat.reduceLeDiff, Nat.reduceEqDiff, Nat.reduceLT, Nat.reduceBEq, reduceIte, reduceCtorEq, Int.reduceToNat, Nat.reduceShiftRight, Nat.reduceAnd, Nat.reduceBneDiff, Nat.reduceBNe, c38r11, semI.eq_10, semI.eq_11, semI.eq_3, semI.eq_5, semI.eq_7]
    refine .seq ?_
    refine .cond (p := (decide (v51 < 64))) (by first | rfl | simp only [wz, wd, ws, Nat.reduceAdd, Nat.reduceSub, Nat.reduceMul, Nat.reduceLeDiff, Nat.reduceEqDiff, Nat.reduceLT, Nat.reduceBEq, reduceIte, reduceCtorEq, Int.reduceToNat, Nat.reduceShiftRight, Nat.reduceAnd, Nat.reduceBneDiff, Nat.reduceBNe]) (fun h1 => ?_) (fun h1 => ?_)
    · rw [ite_t h1] at h
      refine .skip ?_
      refine .seq ?_
      refine .blk ?_
      refine .seq ?_
      refine Rw.walk ?_
      simp only [wz, wd, ws, Nat.reduceAdd, Nat.reduceSub, Nat.reduceMul, Nat.reduceLeDiff, Nat.reduceEqDiff, Nat.reduceLT, Nat.reduceBEq, reduceIte, reduceCtorEq, Int.reduceToNat, Nat.reduceShiftRight, Nat.reduceAnd, Nat.reduceBneDiff, Nat.reduceBNe, c38r12, semI.eq_10, semI.eq_11, semI.eq_3, semI.eq_5, semI.eq_7]
      refine .seq ?_
      refine RwD.walk ?_
      simp only [wz, wd, ws, Nat.reduceAdd, Nat.reduceSub, Nat.reduceMul, Nat.reduceLeDiff, Nat.reduceEqDiff, Nat.reduceLT, Nat.reduceBEq, reduceIte, reduceCtorEq, Int.reduceToNat, Nat.reduceShiftRight, Nat.reduceAnd, Nat.reduceBneDiff, Nat.reduceBNe, c38r13, semI.eq_3, semI.eq_5, semI.eq_7]
      refine GoD1.of (sem_iadrA (by rfl) (by rfl) (by rfl)) ?_
      simp only [wz, wd, ws, Nat.reduceAdd, Nat.reduceSub, Nat.reduceMul, Nat.reduceLeDiff, Nat.reduceEqDiff, Nat.reduceLT, Nat.reduceBEq, reduceIte, reduceCtorEq, Int.reduceToNat, Nat.reduceShiftRight, Nat.reduceAnd, Nat.reduceBneDiff, Nat.reduceBNe, c38r13, semI.eq_3, semI.eq_5, semI.eq_7]
      repeat (refine And.intro ?_ ?_; · first | omega | (intro q; simp only [wz, wd, ws, Nat.reduceAdd, Nat.reduceSub, Nat.reduceMul, Nat.reduceLeDiff, Nat.reduceEqDiff, Nat.reduceLT, Nat.reduceBEq, reduceIte, reduceCtorEq, Int.reduceToNat, Nat.reduceShiftRight, Nat.reduceAnd, Nat.reduceBneDiff, Nat.reduceBNe, q]; done))
      obtain ⟨x, e20, h⟩ := Option.bind_eq_some_iff.1 h
      refine GoD1.of (sem_loadA1 (eI_len _) e20 (by rfl) (by rfl) (by rfl)) ?_
      simp only [wz, wd, ws, Nat.reduceAdd, Nat.reduceSub, Nat.reduceMul, Nat.reduceLeDiff, Nat.reduceEqDiff, Nat.reduceLT, Nat.reduceBEq, reduceIte, reduceCtorEq, Int.reduceToNat, Nat.reduceShiftRight, Nat.reduceAnd, Nat.reduceBneDiff, Nat.reduceBNe, c38r13, semI.eq_3, semI.eq_5, semI.eq_7]
      refine GoD1.of (sem_iadrA (by rfl) (by rfl) (by rfl)) ?_
      simp only [wz, wd, ws, Nat.reduceAdd, Nat.reduceSub, Nat.reduceMul, Nat.reduceLeDiff, Nat.reduceEqDiff, Nat.reduceLT, Nat.reduceBEq, reduceIte, reduceCtorEq, Int.reduceToNat, Nat.reduceShiftRight, Nat.reduceAnd, Nat.reduceBneDiff, Nat.reduceBNe, c38r13, semI.eq_3, semI.eq_5, semI.eq_7]
      repeat (refine And.intro ?_ ?_; · first | omega | (intro q; simp only [wz, wd, ws, Nat.reduceAdd, Nat.reduceSub, Nat.reduceMul, Nat.reduceLeDiff, Nat.reduceEqDiff, Nat.reduceLT, Nat.reduceBEq, reduceIte, reduceCtorEq, Int.reduceToNat, Nat.reduceShiftRight, Nat.reduceAnd, Nat.reduceBneDiff, Nat.reduceBNe, q]; done))
      obtain ⟨x2, e21, h⟩ := Option.bind_eq_some_iff.1 h
      refine GoD1.of (sem_loadA1 (eI_len _) e21 (by rfl) (by rfl) (by rfl)) ?_
      simp only [wz, wd, ws, Nat.reduceAdd, Nat.reduceSub, Nat.reduceMul, Nat.reduceLeDiff, Nat.reduceEqDiff, Nat.reduceLT, Nat.reduceBEq, reduceIte, reduceCtorEq, Int.reduceToNat, Nat.reduceShiftRight, Nat.reduceAnd, Nat.reduceBneDiff, Nat.reduceBNe, c38r13, semI.eq_3, semI.eq_5, semI.eq_7]
      refine .seq ?_
      refine RwD.walk ?_
      simp only [wz, wd, ws, Nat.reduceAdd, Nat.reduceSub, Nat.reduceMul, Nat.reduceLeDiff, Nat.reduceEqDiff, Nat.reduceLT, Nat.reduceBEq, reduceIte, reduceCtorEq, Int.reduceToNat, Nat.reduceShiftRight, Nat.reduceAnd, Nat.reduceBneDiff, Nat.reduceBNe, c38r14, semI.eq_3, semI.eq_5, semI.eq_7, glP.eq_1]
      refine GoD1.of (sem_iadrA (by rfl) (by rfl) (by rfl)) ?_
      simp only [wz, wd, ws, Nat.reduceAdd, Nat.reduceSub, Nat.reduceMul, Nat.reduceLeDiff, Nat.reduceEqDiff, Nat.reduceLT, Nat.reduceBEq, reduceIte, reduceCtorEq, Int.reduceToNat, Nat.reduceShiftRight, Nat.reduceAnd, Nat.reduceBneDiff, Nat.reduceBNe, c38r14, semI.eq_3, semI.eq_5, semI.eq_7, glP.eq_1]
      repeat (refine And.intro ?_ ?_; · first | omega | (intro q; simp only [wz, wd, ws, Nat.reduceAdd, Nat.reduceSub, Nat.reduceMul, Nat.reduceLeDiff, Nat.reduceEqDiff, Nat.reduceLT, Nat.reduceBEq, reduceIte, reduceCtorEq, Int.reduceToNat, Nat.reduceShiftRight, Nat.reduceAnd, Nat.reduceBneDiff, Nat.reduceBNe, q]; done))
      obtain ⟨x3, e22, h⟩ := Option.bind_eq_some_iff.1 h
      refine GoD1.of (sem_loadA1 (eI_len _) e22 (by rfl) (by rfl) (by rfl)) ?_
      simp only [wz, wd, ws, Nat.reduceAdd, Nat.reduceSub, Nat.reduceMul, Nat.reduceLeDiff, Nat.reduceEqDiff, Nat.reduceLT, Nat.reduceBEq, reduceIte, reduceCtorEq, Int.reduceToNat, Nat.reduceShiftRight, Nat.reduceAnd, Nat.reduceBneDiff, Nat.reduceBNe, c38r14, semI.eq_3, semI.eq_5, semI.eq_7, glP.eq_1]
      obtain ⟨t, e23, h⟩ := Option.bind_eq_some_iff.1 h
      refine call_fun [] false ⟨trivial, trivial, trivial, trivial, trivial, trivial, trivial⟩ rfl ?_ (f_digest_mixed_ok _ _ _ _ _ _ e23) (fun _ => rfl) (fun i hi => by cases hi) ?_
      · simp only [wz, wd, ws, Nat.reduceAdd, Nat.reduceSub, Nat.reduceMul, Nat.reduceLeDiff, Nat.reduceEqDiff, Nat.reduceLT, Nat.reduceBEq, reduceIte, reduceCtorEq, Int.reduceToNat, Nat.reduceShiftRight, Nat.reduceAnd, Nat.reduceBneDiff, Nat.reduceBNe]
      simp only [wz, wd, ws, Nat.reduceAdd, Nat.reduceSub, Nat.reduceMul, Nat.reduceLeDiff, Nat.reduceEqDiff, Nat.reduceLT, Nat.reduceBEq, reduceIte, reduceCtorEq, Int.reduceToNat, Nat.reduceShiftRight, Nat.reduceAnd, Nat.reduceBneDiff, Nat.reduceBNe, c38r14, semI.eq_3, semI.eq_5, semI.eq_7, glP.eq_1]
      refine GoD1.of (sem_iadrA (by rfl) (by rfl) (by rfl)) ?_
      simp only [wz, wd, ws, Nat.reduceAdd, Nat.reduceSub, Nat.reduceMul, Nat.reduceLeDiff, Nat.reduceEqDiff, Nat.reduceLT, Nat.reduceBEq, reduceIte, reduceCtorEq, Int.reduceToNat, Nat.reduceShiftRight, Nat.reduceAnd, Nat.reduceBneDiff, Nat.reduceBNe, c38r14, semI.eq_3, semI.eq_5, semI.eq_7, glP.eq_1]
      repeat (refine And.intro ?_ ?_; · first | omega | (intro q; simp only [wz, wd, ws, Nat.reduceAdd, Nat.reduceSub, Nat.reduceMul, Nat.reduceLeDiff, Nat.reduceEqDiff, Nat.reduceLT, Nat.reduceBEq, reduceIte, reduceCtorEq, Int.reduceToNat, Nat.reduceShiftRight, Nat.reduceAnd, Nat.reduceBneDiff, Nat.reduceBNe, q]; done))
      obtain ⟨x4, e24, h⟩ := Option.bind_eq_some_iff.1 h
      refine GoD1.of (sem_loadA1 (eI_len _) e24 (by rfl) (by rfl) (by rfl)) ?_
      simp only [wz, wd, ws, Nat.reduceAdd, Nat.reduceSub, Nat.reduceMul, Nat.reduceLeDiff, Nat.reduceEqDiff, Nat.reduceLT, Nat.reduceBEq, reduceIte, reduceCtorEq, Int.reduceToNat, Nat.reduceShiftRight, Nat.reduceAnd, Nat.reduceBneDiff, Nat.reduceBNe, c38r14, semI.eq_3, semI.eq_5, semI.eq_7, glP.eq_1]
      refine GoD1.of (sem_iadrA (by rfl) (by rfl) (by rfl)) ?_
      simp only [wz, wd, ws, Nat.reduceAdd, Nat.reduceSub, Nat.reduceMul, Nat.reduceLeDiff, Nat.reduceEqDiff, Nat.reduceLT, Nat.reduceBEq, reduceIte, reduceCtorEq, Int.reduceToNat, Nat.reduceShiftRight, Nat.reduceAnd, Nat.reduceBneDiff, Nat.reduceBNe, c38r14, semI.eq_3, semI.eq_5, semI.eq_7, glP.eq_1]
      repeat (refine And.intro ?_ ?_; · first | omega | (intro q; simp only [wz, wd, ws, Nat.reduceAdd, Nat.reduceSub, Nat.reduceMul, Nat.reduceLeDiff, Nat.reduceEqDiff, Nat.reduceLT, Nat.reduceBEq, reduceIte, reduceCtorEq, Int.reduceToNat, Nat.reduceShiftRight, Nat.reduceAnd, Nat.reduceBneDiff, Nat.reduceBNe, q]; done))
      obtain ⟨x5, e25, h⟩ := Option.bind_eq_some_iff.1 h
      refine GoD1.of (sem_loadA1 (eI_len _) e25 (by rfl) (by rfl) (by rfl)) ?_
      simp only [wz, wd, ws, Nat.reduceAdd, Nat.reduceSub, Nat.reduceMul, Nat.reduceLeDiff, Nat.reduceEqDiff, Nat.reduceLT, Nat.reduceBEq, reduceIte, reduceCtorEq, Int.reduceToNat, Nat.reduceShiftRight, Nat.reduceAnd, Nat.reduceBneDiff, Nat.reduceBNe, c38r14, semI.eq_3, semI.eq_5, semI.eq_7, glP.eq_1]
      obtain ⟨g26, h⟩ := gd_iff.1 h
      refine GoD1.of (sem_iadrR (cs := (g_digest_keys.map (eI .u32)).flatten) (by rfl) (by rfl)) ?_
      simp only [wz, wd, ws, Nat.reduceAdd, Nat.reduceSub, Nat.reduceMul, Nat.reduceLeDiff, Nat.reduceEqDiff, Nat.reduceLT, Nat.reduceBEq, reduceIte, reduceCtorEq, Int.reduceToNat, Nat.reduceShiftRight, Nat.reduceAnd, Nat.reduceBneDiff, Nat.reduceBNe, c38r14, semI.eq_3, semI.eq_5, semI.eq_7, glP.eq_1]
      repeat (refine And.intro ?_ ?_; · first | omega | (intro q; simp only [wz, wd, ws, Nat.reduceAdd, Nat.reduceSub, Nat.reduceMul, Nat.reduceLeDiff, Nat.reduceEqDiff, Nat.reduceLT, Nat.reduceBEq, reduceIte, reduceCtorEq, Int.reduceToNat, Nat.reduceShiftRight, Nat.reduceAnd, Nat.reduceBneDiff, Nat.reduceBNe, q]; done))
      obtain ⟨x6, e27, h⟩ := Option.bind_eq_some_iff.1 h
      refine GoD1.of (sem_loadR1 (eI_len _) e27 (by rfl) (by rfl)) ?_
      simp only [wz, wd, ws, Nat.reduceAdd, Nat.reduceSub, Nat.reduceMul, Nat.reduceLeDiff, Nat.reduceEqDiff, Nat.reduceLT, Nat.reduceBEq, reduceIte, reduceCtorEq, Int.reduceToNat, Nat.reduceShiftRight, Nat.reduceAnd, Nat.reduceBneDiff, Nat.reduceBNe, c38r14, semI.eq_3, semI.eq_5, semI.eq_7, glP.eq_1]
      obtain ⟨g28, h⟩ := gd_iff.1 h
      refine GoD1.of (sem_iadrA (by rfl) (by rfl) (by rfl)) ?_
      simp only [wz, wd, ws, Nat.reduceAdd, Nat.reduceSub, Nat.reduceMul, Nat.reduceLeDiff, Nat.reduceEqDiff, Nat.reduceLT, Nat.reduceBEq, reduceIte, reduceCtorEq, Int.reduceToNat, Nat.reduceShiftRight, Nat.reduceAnd, Nat.reduceBneDiff, Nat.reduceBNe, c38r14, semI.eq_3, semI.eq_5, semI.eq_7, glP.eq_1]
      repeat (refine And.intro ?_ ?_; · first | omega | (intro q; simp only [wz, wd, ws, Nat.reduceAdd, Nat.reduceSub, Nat.reduceMul, Nat.reduceLeDiff, Nat.reduceEqDiff, Nat.reduceLT, Nat.reduceBEq, reduceIte, reduceCtorEq, Int.reduceToNat, Nat.reduceShiftRight, Nat.reduceAnd, Nat.reduceBneDiff, Nat.reduceBNe, q]; done))
      obtain ⟨x7, e29, h⟩ := Option.bind_eq_some_iff.1 h
      refine GoD1.of (sem_loadA1 (eI_len _) e29 (by rfl) (by rfl) (by rfl)) ?_
      simp only [wz, wd, ws, Nat.reduceAdd, Nat.reduceSub, Nat.reduceMul, Nat.reduceLeDiff, Nat.reduceEqDiff, Nat.reduceLT, Nat.reduceBEq, reduceIte, reduceCtorEq, Int.reduceToNat, Nat.reduceShiftRight, Nat.reduceAnd, Nat.reduceBneDiff, Nat.reduceBNe, c38r14, semI.eq_3, semI.eq_5, semI.eq_7, glP.eq_1]
      obtain ⟨first, e30, h⟩ := Option.bind_eq_some_iff.1 h
      replace e30 := Option.some.inj e30
      first | simp only [e30] | (simp only [wz, wd, ws, Nat.reduceAdd, Nat.reduceSub, Nat.reduceMul, Nat.reduceLeDiff, Nat.reduceEqDiff, Nat.reduceLT, Nat.reduceBEq, reduceIte, reduceCtorEq, Int.reduceToNat, Nat.reduceShiftRight, Nat.reduceAnd, Nat.reduceBneDiff, Nat.reduceBNe] at e30; simp only [e30])
      refine .seq ?_
      refine RwD.walk ?_
      simp only [wz, wd, ws, Nat.reduceAdd, Nat.reduceSub, Nat.reduceMul, Nat.reduceLeDiff, Nat.reduceEqDiff, Nat.reduceLT, Nat.reduceBEq, reduceIte, reduceCtorEq, Int.reduceToNat, Nat.reduceShiftRight, Nat.reduceAnd, Nat.reduceBneDiff, Nat.reduceBNe, c38r15, semI.eq_3, semI.eq_5, semI.eq_7]
      obtain ⟨t2, e31, h⟩ := Option.bind_eq_some_iff.1 h
      refine call_fun [] false ⟨trivial, trivial, trivial, trivial, trivial, trivial, trivial⟩ rfl ?_ (f_digest_mixed_ok _ _ _ _ _ _ e31) (fun _ => rfl) (fun i hi => by cases hi) ?_
      · simp only [wz, wd, ws, Nat.reduceAdd, Nat.reduceSub, Nat.reduceMul, Nat.reduceLeDiff, Nat.reduceEqDiff, Nat.reduceLT, Nat.reduceBEq, reduceIte, reduceCtorEq, Int.reduceToNat, Nat.reduceShiftRight, Nat.reduceAnd, Nat.reduceBneDiff, Nat.reduceBNe]
      simp only [wz, wd, ws, Nat.reduceAdd, Nat.reduceSub, Nat.reduceMul, Nat.reduceLeDiff, Nat.reduceEqDiff, Nat.reduceLT, Nat.reduceBEq, reduceIte, reduceCtorEq, Int.reduceToNat, Nat.reduceShiftRight, Nat.reduceAnd, Nat.reduceBneDiff, Nat.reduceBNe, c38r15, semI.eq_3, semI.eq_5, semI.eq_7]
      refine GoD1.of (sem_iadrA (by rfl) (by rfl) (by rfl)) ?_
      simp only [wz, wd, ws, Nat.reduceAdd, Nat.reduceSub, Nat.reduceMul, Nat.reduceLeDiff, Nat.reduceEqDiff, Nat.reduceLT, Nat.reduceBEq, reduceIte, reduceCtorEq, Int.reduceToNat, Nat.reduceShiftRight, Nat.reduceAnd, Nat.reduceBneDiff, Nat.reduceBNe, c38r15, semI.eq_3, semI.eq_5, semI.eq_7]
      repeat (refine And.intro ?_ ?_; · first | omega | (intro q; simp only [wz, wd, ws, Nat.reduceAdd, Nat.reduceSub, Nat.reduceMul, Nat.reduceLeDiff, Nat.reduceEqDiff, Nat.reduceLT, Nat.reduceBEq, reduceIte, reduceCtorEq, Int.reduceToNat, Nat.reduceShiftRight, Nat.reduceAnd, Nat.reduceBneDiff, Nat.reduceBNe, q]; done))
      obtain ⟨x8, e32, h⟩ := Option.bind_eq_some_iff.1 h
      refine GoD1.of (sem_loadA1 (eI_len _) e32 (by rfl) (by rfl) (by rfl)) ?_
      simp only [wz, wd, ws, Nat.reduceAdd, Nat.reduceSub, Nat.reduceMul, Nat.reduceLeDiff, Nat.reduceEqDiff, Nat.reduceLT, Nat.reduceBEq, reduceIte, reduceCtorEq, Int.reduceToNat, Nat.reduceShiftRight, Nat.reduceAnd, Nat.reduceBneDiff, Nat.reduceBNe, c38r15, semI.eq_3, semI.eq_5, semI.eq_7]
      refine GoD1.of (sem_iadrA (by rfl) (by rfl) (by rfl)) ?_
      simp only [wz, wd, ws, Nat.reduceAdd, Nat.reduceSub, Nat.reduceMul, Nat.reduceLeDiff, Nat.reduceEqDiff, Nat.reduceLT, Nat.reduceBEq, reduceIte, reduceCtorEq, Int.reduceToNat, Nat.reduceShiftRight, Nat.reduceAnd, Nat.reduceBneDiff, Nat.reduceBNe, c38r15, semI.eq_3, semI.eq_5, semI.eq_7]
      repeat (refine And.intro ?_ ?_; · first | omega | (intro q; simp only [wz, wd, ws, Nat.reduceAdd, Nat.reduceSub, Nat.reduceMul, Nat.reduceLeDiff, Nat.reduceEqDiff, Nat.reduceLT, Nat.reduceBEq, reduceIte, reduceCtorEq, Int.reduceToNat, Nat.reduceShiftRight, Nat.reduceAnd, Nat.reduceBneDiff, Nat.reduceBNe, q]; done))
      obtain ⟨x9, e33, h⟩ := Option.bind_eq_some_iff.1 h
      refine GoD1.of (sem_loadA1 (eI_len _) e33 (by rfl) (by rfl) (by rfl)) ?_
      simp only [wz, wd, ws, Nat.reduceAdd, Nat.reduceSub, Nat.reduceMul, Nat.reduceLeDiff, Nat.reduceEqDiff, Nat.reduceLT, Nat.reduceBEq, reduceIte, reduceCtorEq, Int.reduceToNat, Nat.reduceShiftRight, Nat.reduceAnd, Nat.reduceBneDiff, Nat.reduceBNe, c38r15, semI.eq_3, semI.eq_5, semI.eq_7]
      refine GoD1.of (sem_iadrA (by rfl) (by rfl) (by rfl)) ?_
      simp only [wz, wd, ws, Nat.reduceAdd, Nat.reduceSub, Nat.reduceMul, Nat.reduceLeDiff, Nat.reduceEqDiff, Nat.reduceLT, Nat.reduceBEq, reduceIte, reduceCtorEq, Int.reduceToNat, Nat.reduceShiftRight, Nat.reduceAnd, Nat.reduceBneDiff, Nat.reduceBNe, c38r15, semI.eq_3, semI.eq_5, semI.eq_7]
      repeat (refine And.intro ?_ ?_; · first | omega | (intro q; simp only [wz, wd, ws, Nat.reduceAdd, Nat.reduceSub, Nat.reduceMul, Nat.reduceLeDiff, Nat.reduceEqDiff, Nat.reduceLT, Nat.reduceBEq, reduceIte, reduceCtorEq, Int.reduceToNat, Nat.reduceShiftRight, Nat.reduceAnd, Nat.reduceBneDiff, Nat.reduceBNe, q]; done))
      obtain ⟨x10, e34, h⟩ := Option.bind_eq_some_iff.1 h
      refine GoD1.of (sem_loadA1 (eI_len _) e34 (by rfl) (by rfl) (by rfl)) ?_
      simp only [wz, wd, ws, Nat.reduceAdd, Nat.reduceSub, Nat.reduceMul, Nat.reduceLeDiff, Nat.reduceEqDiff, Nat.reduceLT, Nat.reduceBEq, reduceIte, reduceCtorEq, Int.reduceToNat, Nat.reduceShiftRight, Nat.reduceAnd, Nat.reduceBneDiff, Nat.reduceBNe, c38r15, semI.eq_3, semI.eq_5, semI.eq_7]
      refine GoD1.of (sem_iadrA (by rfl) (by rfl) (by rfl)) ?_
      simp only [wz, wd, ws, Nat.reduceAdd, Nat.reduceSub, Nat.reduceMul, Nat.reduceLeDiff, Nat.reduceEqDiff, Nat.reduceLT, Nat.reduceBEq, reduceIte, reduceCtorEq, Int.reduceToNat, Nat.reduceShiftRight, Nat.reduceAnd, Nat.reduceBneDiff, Nat.reduceBNe, c38r15, semI.eq_3, semI.eq_5, semI.eq_7]
      repeat (refine And.intro ?_ ?_; · first | omega | (intro q; simp only [wz, wd, ws, Nat.reduceAdd, Nat.reduceSub, Nat.reduceMul, Nat.reduceLeDiff, Nat.reduceEqDiff, Nat.reduceLT, Nat.reduceBEq, reduceIte, reduceCtorEq, Int.reduceToNat, Nat.reduceShiftRight, Nat.reduceAnd, Nat.reduceBneDiff, Nat.reduceBNe, q]; done))
      obtain ⟨x11, e35, h⟩ := Option.bind_eq_some_iff.1 h
      refine GoD1.of (sem_loadA1 (eI_len _) e35 (by rfl) (by rfl) (by rfl)) ?_
      simp only [wz, wd, ws, Nat.reduceAdd, Nat.reduceSub, Nat.reduceMul, Nat.reduceLeDiff, Nat.reduceEqDiff, Nat.reduceLT, Nat.reduceBEq, reduceIte, reduceCtorEq, Int.reduceToNat, Nat.reduceShiftRight, Nat.reduceAnd, Nat.reduceBneDiff, Nat.reduceBNe, c38r15, semI.eq_3, semI.eq_5, semI.eq_7]
      obtain ⟨second, e36, h⟩ := Option.bind_eq_some_iff.1 h
      replace e36 := Option.some.inj e36
      first | simp only [e36] | (simp only [wz, wd, ws, Nat.reduceAdd, Nat.reduceSub, Nat.reduceMul, Nat.reduceLeDiff, Nat.reduceEqDiff, Nat.reduceLT, Nat.reduceBEq, reduceIte, reduceCtorEq, Int.reduceToNat, Nat.reduceShiftRight, Nat.reduceAnd, Nat.reduceBneDiff, Nat.reduceBNe] at e36; simp only [e36])
      refine Rw.walk ?_
      simp only [wz, wd, ws, Nat.reduceAdd, Nat.reduceSub, Nat.reduceMul, Nat.reduceLeDiff, Nat.reduceEqDiff, Nat.reduceLT, Nat.reduceBEq, reduceIte, reduceCtorEq, Int.reduceToNat, Nat.reduceShiftRight, Nat.reduceAnd, Nat.reduceBneDiff, Nat.reduceBNe, c38r16]
      refine Go1.of (sem_iadrA (by rfl) (by rfl) (by rfl)) ?_
      simp only [wz, wd, ws, Nat.reduceAdd, Nat.reduceSub, Nat.reduceMul, Nat.reduceLeDiff, Nat.reduceEqDiff, Nat.reduceLT, Nat.reduceBEq, reduceIte, reduceCtorEq, Int.reduceToNat, Nat.reduceShiftRight, Nat.reduceAnd, Nat.reduceBneDiff, Nat.reduceBNe, c38r16]
      repeat (refine And.intro ?_ ?_; · first | omega | (intro q; simp only [wz, wd, ws, Nat.reduceAdd, Nat.reduceSub, Nat.reduceMul, Nat.reduceLeDiff, Nat.reduceEqDiff, Nat.reduceLT, Nat.reduceBEq, reduceIte, reduceCtorEq, Int.reduceToNat, Nat.reduceShiftRight, Nat.reduceAnd, Nat.reduceBneDiff, Nat.reduceBNe, q]; done))
      obtain ⟨x12, e37, h⟩ := Option.bind_eq_some_iff.1 h
      refine Go1.of (sem_loadA1 (eI_len _) e37 (by rfl) (by rfl) (by rfl)) ?_
      simp only [wz, wd, ws, Nat.reduceAdd, Nat.reduceSub, Nat.reduceMul, Nat.reduceLeDiff, Nat.reduceEqDiff, Nat.reduceLT, Nat.reduceBEq, reduceIte, reduceCtorEq, Int.reduceToNat, Nat.reduceShiftRight, Nat.reduceAnd, Nat.reduceBneDiff, Nat.reduceBNe, c38r16]
      refine Go1.of (sem_iadrA (by rfl) (by rfl) (by rfl)) ?_
      simp only [wz, wd, ws, Nat.reduceAdd, Nat.reduceSub, Nat.reduceMul, Nat.reduceLeDiff, Nat.reduceEqDiff, Nat.reduceLT, Nat.reduceBEq, reduceIte, reduceCtorEq, Int.reduceToNat, Nat.reduceShiftRight, Nat.reduceAnd, Nat.reduceBneDiff, Nat.reduceBNe, c38r16]
      repeat (refine And.intro ?_ ?_; · first | omega | (intro q; simp only [wz, wd, ws, Nat.reduceAdd, Nat.reduceSub, Nat.reduceMul, Nat.reduceLeDiff, Nat.reduceEqDiff, Nat.reduceLT, Nat.reduceBEq, reduceIte, reduceCtorEq, Int.reduceToNat, Nat.reduceShiftRight, Nat.reduceAnd, Nat.reduceBneDiff, Nat.reduceBNe, q]; done))
      obtain ⟨x13, e38, h⟩ := Option.bind_eq_some_iff.1 h
      refine Go1.of (sem_loadA1 (eI_len _) e38 (by rfl) (by rfl) (by rfl)) ?_
      simp only [wz, wd, ws, Nat.reduceAdd, Nat.reduceSub, Nat.reduceMul, Nat.reduceLeDiff, Nat.reduceEqDiff, Nat.reduceLT, Nat.reduceBEq, reduceIte, reduceCtorEq, Int.reduceToNat, Nat.reduceShiftRight, Nat.reduceAnd, Nat.reduceBneDiff, Nat.reduceBNe, c38r16]
      refine Go1.of (sem_iadrA (by rfl) (by rfl) (by rfl)) ?_
      simp only [wz, wd, ws, Nat.reduceAdd, Nat.reduceSub, Nat.reduceMul, Nat.reduceLeDiff, Nat.reduceEqDiff, Nat.reduceLT, Nat.reduceBEq, reduceIte, reduceCtorEq, Int.reduceToNat, Nat.reduceShiftRight, Nat.reduceAnd, Nat.reduceBneDiff, Nat.reduceBNe, c38r16]
      repeat (refine And.intro ?_ ?_; · first | omega | (intro q; simp only [wz, wd, ws, Nat.reduceAdd, Nat.reduceSub, Nat.reduceMul, Nat.reduceLeDiff, Nat.reduceEqDiff, Nat.reduceLT, Nat.reduceBEq, reduceIte, reduceCtorEq, Int.reduceToNat, Nat.reduceShiftRight, Nat.reduceAnd, Nat.reduceBneDiff, Nat.reduceBNe, q]; done))
      obtain ⟨x14, e39, h⟩ := Option.bind_eq_some_iff.1 h
      refine Go1.of (sem_loadA1 (eI_len _) e39 (by rfl) (by rfl) (by rfl)) ?_
      simp only [wz, wd, ws, Nat.reduceAdd, Nat.reduceSub, Nat.reduceMul, Nat.reduceLeDiff, Nat.reduceEqDiff, Nat.reduceLT, Nat.reduceBEq, reduceIte, reduceCtorEq, Int.reduceToNat, Nat.reduceShiftRight, Nat.reduceAnd, Nat.reduceBneDiff, Nat.reduceBNe, c38r16]
      refine Go1.of (sem_iadrA (by rfl) (by rfl) (by rfl)) ?_
      simp only [wz, wd, ws, Nat.reduceAdd, Nat.reduceSub, Nat.reduceMul, Nat.reduceLeDiff, Nat.reduceEqDiff, Nat.reduceLT, Nat.reduceBEq, reduceIte, reduceCtorEq, Int.reduceToNat, Nat.reduceShiftRight, Nat.reduceAnd, Nat.reduceBneDiff, Nat.reduceBNe, c38r16]
      repeat (refine And.intro ?_ ?_; · first | omega | (intro q; simp only [wz, wd, ws, Nat.reduceAdd, Nat.reduceSub, Nat.reduceMul, Nat.reduceLeDiff, Nat.reduceEqDiff, Nat.reduceLT, Nat.reduceBEq, reduceIte, reduceCtorEq, Int.reduceToNat, Nat.reduceShiftRight, Nat.reduceAnd, Nat.reduceBneDiff, Nat.reduceBNe, q]; done))
      obtain ⟨x15, e40, h⟩ := Option.bind_eq_some_iff.1 h
      refine Go1.of (sem_loadA1 (eI_len _) e40 (by rfl) (by rfl) (by rfl)) ?_
      simp only [wz, wd, ws, Nat.reduceAdd, Nat.reduceSub, Nat.reduceMul, Nat.reduceLeDiff, Nat.reduceEqDiff, Nat.reduceLT, Nat.reduceBEq, reduceIte, reduceCtorEq, Int.reduceToNat, Nat.reduceShiftRight, Nat.reduceAnd, Nat.reduceBneDiff, Nat.reduceBNe, c38r16]
      refine Go1.of (sem_iadrA (by rfl) (by rfl) (by rfl)) ?_
      simp only [wz, wd, ws, Nat.reduceAdd, Nat.reduceSub, Nat.reduceMul, Nat.reduceLeDiff, Nat.reduceEqDiff, Nat.reduceLT, Nat.reduceBEq, reduceIte, reduceCtorEq, Int.reduceToNat, Nat.reduceShiftRight, Nat.reduceAnd, Nat.reduceBneDiff, Nat.reduceBNe, c38r16]
      repeat (refine And.intro ?_ ?_; · first | omega | (intro q; simp only [wz, wd, ws, Nat.reduceAdd, Nat.reduceSub, Nat.reduceMul, Nat.reduceLeDiff, Nat.reduceEqDiff, Nat.reduceLT, Nat.reduceBEq, reduceIte, reduceCtorEq, Int.reduceToNat, Nat.reduceShiftRight, Nat.reduceAnd, Nat.reduceBneDiff, Nat.reduceBNe, q]; done))
      obtain ⟨x16, e41, h⟩ := Option.bind_eq_some_iff.1 h
      refine Go1.of (sem_loadA1 (eI_len _) e41 (by rfl) (by rfl) (by rfl)) ?_
      simp only [wz, wd, ws, Nat.reduceAdd, Nat.reduceSub, Nat.reduceMul, Nat.reduceLeDiff, Nat.reduceEqDiff, Nat.reduceLT, Nat.reduceBEq, reduceIte, reduceCtorEq, Int.reduceToNat, Nat.reduceShiftRight, Nat.reduceAnd, Nat.reduceBneDiff, Nat.reduceBNe, c38r16]
      refine Go1.of (sem_buildA (enc := (eI .u32)) (l := ([(IntKind.u32.wrap (first + second)), x, x12, x13, (IntKind.u32.wrap (x14 + first)), x2, x15, x16] : (List Int))) (by simp only [wz, wd, ws, Nat.reduceAdd, Nat.reduceSub, Nat.reduceMul, Nat.reduceLeDiff, Nat.reduceEqDiff, Nat.reduceLT, Nat.reduceBEq, reduceIte, reduceCtorEq, Int.reduceToNat, Nat.reduceShiftRight, Nat.reduceAnd, Nat.reduceBneDiff, Nat.reduceBNe]) (by simp only [wz, wd, ws, Nat.reduceAdd, Nat.reduceSub, Nat.reduceMul, Nat.reduceLeDiff, Nat.reduceEqDiff, Nat.reduceLT, Nat.reduceBEq, reduceIte, reduceCtorEq, Int.reduceToNat, Nat.reduceShiftRight, Nat.reduceAnd, Nat.reduceBneDiff, Nat.reduceBNe]) (by simp only [wz, wd, ws, Nat.reduceAdd, Nat.reduceSub, Nat.reduceMul, Nat.reduceLeDiff, Nat.reduceEqDiff, Nat.reduceLT, Nat.reduceBEq, reduceIte, reduceCtorEq, Int.reduceToNat, Nat.reduceShiftRight, Nat.reduceAnd, Nat.reduceBneDiff, Nat.reduceBNe, ea_nil, ea_cons])) ?_
      simp only [wz, wd, ws, Nat.reduceAdd, Nat.reduceSub, Nat.reduceMul, Nat.reduceLeDiff, Nat.reduceEqDiff, Nat.reduceLT, Nat.reduceBEq, reduceIte, reduceCtorEq, Int.reduceToNat, Nat.reduceShiftRight, Nat.reduceAnd, Nat.reduceBneDiff, Nat.reduceBNe, c38r16]
      obtain ⟨g42, h⟩ := gd_iff.1 h
      refine Go1.of (sem_storeW (l := v) (m := ([(IntKind.u32.wrap (first + second)), x, x12, x13, (IntKind.u32.wrap (x14 + first)), x2, x15, x16] : (List Int))) (n0 := 8) (eI_len _) (by rfl) (by rfl) (by rfl) (by first | exact g42 | exact Eq.refl _) (by rfl) (by first | exact trivial | exact Eq.refl _)) ?_
      simp only [wz, wd, ws, Nat.reduceAdd, Nat.reduceSub, Nat.reduceMul, Nat.reduceLeDiff, Nat.reduceEqDiff, Nat.reduceLT, Nat.reduceBEq, reduceIte, reduceCtorEq, Int.reduceToNat, Nat.reduceShiftRight, Nat.reduceAnd, Nat.reduceBneDiff, Nat.reduceBNe, c38r16]
      refine .eblk ?_
      refine Rw.walk ?_
      simp only [wz, wd, ws, Nat.reduceAdd, Nat.reduceSub, Nat.reduceMul, Nat.reduceLeDiff, Nat.reduceEqDiff, Nat.reduceLT, Nat.reduceBEq, reduceIte, reduceCtorEq, Int.reduceToNat, Nat.reduceShiftRight, Nat.reduceAnd, Nat.reduceBneDiff, Nat.reduceBNe, c38r17, semI.eq_10, semI.eq_11, semI.eq_3, semI.eq_5, semI.eq_7]
      refine .lp ?_
      refine .weak (Imp.co [] _ _ ?_ ?_ ?_ ?_ ?_) (ih (IntKind.i64.wrap (v51 + 1)) ([(IntKind.u32.wrap (first + second)), x, x12, x13, (IntKind.u32.wrap (x14 + first)), x2, x15, x16] : (List Int)) _ h k_ hx) <;> simp only [wz, wd, ws, Nat.reduceAdd, Nat.reduceSub, Nat.reduceMul, Nat.reduceLeDiff, Nat.reduceEqDiff, Nat.reduceLT, Nat.reduceBEq, reduceIte, reduceCtorEq, Int.reduceToNat, Nat.reduceShiftRight, Nat.reduceAnd, Nat.reduceBneDiff, Nat.reduceBNe, wi, er_nil]
    · rw [ite_f h1] at h
      refine .exit rfl ?_
      obtain rfl := Option.some.inj h
      refine .weak (Imp.co [] _ _ ?_ ?_ ?_ ?_ ?_) (hx _ rfl) <;> simp only [wz, wd, ws, Nat.reduceAdd, Nat.reduceSub, Nat.reduceMul, Nat.reduceLeDiff, Nat.reduceEqDiff, Nat.reduceLT, Nat.reduceBEq, reduceIte, reduceCtorEq, Int.reduceToNat, Nat.reduceShiftRight, Nat.reduceAnd, Nat.reduceBneDiff, Nat.reduceBNe, wi, er_nil]
theorem f_digest_over_l25_ok (s : Str) (s3 : Int × (List Int)) (y_ : (List Int)) (R_ : St → Prop) (hR : (Ret Tryd.prog glP [] rv38 (.b (.agg (ea (eI .u32) y_)))) = R_) : ∀ (m_ : Nat) (v119 : Int) (hv2 : (List Int)) (res_ : Int × (List Int)) (h : f_digest_over_l25 s s3 m_ v119 hv2 = some res_) (k_ : List It) (hx : ∀ s_ : Int × (List Int), res_ = s_ → W Tryd.prog glP 132 k_ ⟨lkT [(2, .b (.s (.ptr 2 1 0 0))), (4, .b (.s (.ptr 4 1 0 0))), (7, .b (.s (.ptr 7 1 0 0))), (119, .b (.s (.d (.int .i64 s_.1))))], lkG [(2, ⟨8, [ea (eI .u32) s_.2], false⟩), (4, ⟨8, [ea (eI .u32) (List.replicate 8 0)], false⟩), (7, ⟨8, [ea (eI .u32) s3.2], false⟩)]⟩ R_), W Tryd.prog glP 132 (.c c38l25 :: .lp c38l25 :: .blk 4 :: k_) ⟨lkT [(2, .b (.s (.ptr 2 1 0 0))), (4, .b (.s (.ptr 4 1 0 0))), (7, .b (.s (.ptr 7 1 0 0))), (119, .b (.s (.d (.int .i64 v119))))], lkG [(2, ⟨8, [ea (eI .u32) hv2], false⟩), (4, ⟨8, [ea (eI .u32) (List.replicate 8 0)], false⟩), (7, ⟨8, [ea (eI .u32) s3.2], false⟩)]⟩ R_ := by
  intro m_; induction m_ with
  | zero => intro v119 hv2 res_ h; rw [f_digest_over_l25.eq_1] at h; cases h
  | succ m_ ih =>
    intro v119 hv2 res_ h k_ hx; rw [f_digest_over_l25.eq_2] at h; refine W.cdef c38l25.eq_1 ?_
    refine .seq ?_
    refine Rw.walk ?_
    simp only [wz, wd, ws, Nat.reduceAdd, Nat.reduceSub, Nat.reduceMul, Nat.reduceLeDiff, Nat.reduceEqDiff, Nat.reduceLT, Nat.reduceBEq, reduceIte, reduceCtorEq, Int.reduceToNat, Nat.reduceShiftRight, Nat.reduceAnd, Nat.reduceBneDiff, Nat.reduceBNe, c38r19, semI.eq_10, semI.eq_11, semI.eq_3, semI.eq_5, semI.eq_7]
    refine .seq ?_
    refine .cond (p := (decide (v119 < 8))) (by first | rfl | simp only [wz, wd, ws, Nat.reduceAdd, Nat.reduceSub, Nat.reduceMul, Nat.reduceLeDiff, Nat.reduceEqDiff, Nat.reduceLT, Nat.reduceBEq, reduceIte, reduceCtorEq, Int.reduceToNat, Nat.reduceShiftRight, Nat.reduceAnd, Nat.reduceBneDiff, Nat.reduceBNe]) (fun h1 => ?_) (fun h1 => ?_)
    · rw [ite_t h1] at h
      refine .skip ?_
      refine .seq ?_
      refine .blk ?_
      refine .seq ?_
      refine Rw.walk ?_
      simp only [wz, wd, ws, Nat.reduceAdd, Nat.reduceSub, Nat.reduceMul, Nat.reduceLeDiff, Nat.reduceEqDiff, Nat.reduceLT, Nat.reduceBEq, reduceIte, reduceCtorEq, Int.reduceToNat, Nat.reduceShiftRight, Nat.reduceAnd, Nat.reduceBneDiff, Nat.reduceBNe, c38r20, semI.eq_10, semI.eq_11, semI.eq_3, semI.eq_5, semI.eq_7]
      refine RwD.walk ?_
      simp only [wz, wd, ws, Nat.reduceAdd, Nat.reduceSub, Nat.reduceMul, Nat.reduceLeDiff, Nat.reduceEqDiff, Nat.reduceLT, Nat.reduceBEq, reduceIte, reduceCtorEq, Int.reduceToNat, Nat.reduceShiftRight, Nat.reduceAnd, Nat.reduceBneDiff, Nat.reduceBNe, c38r21, semI.eq_3, semI.eq_5, semI.eq_7]
      obtain ⟨g43, h⟩ := gd_iff.1 h
      refine GoD1.of (sem_iadrA (by rfl) (by rfl) (by rfl)) ?_
      simp only [wz, wd, ws, Nat.reduceAdd, Nat.reduceSub, Nat.reduceMul, Nat.reduceLeDiff, Nat.reduceEqDiff, Nat.reduceLT, Nat.reduceBEq, reduceIte, reduceCtorEq, Int.reduceToNat, Nat.reduceShiftRight, Nat.reduceAnd, Nat.reduceBneDiff, Nat.reduceBNe, c38r21, semI.eq_3, semI.eq_5, semI.eq_7]
      repeat (refine And.intro ?_ ?_; · first | omega | (intro q; simp only [wz, wd, ws, Nat.reduceAdd, Nat.reduceSub, Nat.reduceMul, Nat.reduceLeDiff, Nat.reduceEqDiff, Nat.reduceLT, Nat.reduceBEq, reduceIte, reduceCtorEq, Int.reduceToNat, Nat.reduceShiftRight, Nat.reduceAnd, Nat.reduceBneDiff, Nat.reduceBNe, q]; done))
      obtain ⟨x, e44, h⟩ := Option.bind_eq_some_iff.1 h
      refine GoD1.of (sem_loadA1 (eI_len _) e44 (by rfl) (by rfl) (by rfl)) ?_
      simp only [wz, wd, ws, Nat.reduceAdd, Nat.reduceSub, Nat.reduceMul, Nat.reduceLeDiff, Nat.reduceEqDiff, Nat.reduceLT, Nat.reduceBEq, reduceIte, reduceCtorEq, Int.reduceToNat, Nat.reduceShiftRight, Nat.reduceAnd, Nat.reduceBneDiff, Nat.reduceBNe, c38r21, semI.eq_3, semI.eq_5, semI.eq_7]
      obtain ⟨g45, h⟩ := gd_iff.1 h
      refine GoD1.of (sem_iadrA (by rfl) (by rfl) (by rfl)) ?_
      simp only [wz, wd, ws, Nat.reduceAdd, Nat.reduceSub, Nat.reduceMul, Nat.reduceLeDiff, Nat.reduceEqDiff, Nat.reduceLT, Nat.reduceBEq, reduceIte, reduceCtorEq, Int.reduceToNat, Nat.reduceShiftRight, Nat.reduceAnd, Nat.reduceBneDiff, Nat.reduceBNe, c38r21, semI.eq_3, semI.eq_5, semI.eq_7]
      repeat (refine And.intro ?_ ?_; · first | omega | (intro q; simp only [wz, wd, ws, Nat.reduceAdd, Nat.reduceSub, Nat.reduceMul, Nat.reduceLeDiff, Nat.reduceEqDiff, Nat.reduceLT, Nat.reduceBEq, reduceIte, reduceCtorEq, Int.reduceToNat, Nat.reduceShiftRight, Nat.reduceAnd, Nat.reduceBneDiff, Nat.reduceBNe, q]; done))
      obtain ⟨x2, e46, h⟩ := Option.bind_eq_some_iff.1 h
      refine GoD1.of (sem_loadA1 (eI_len _) e46 (by rfl) (by rfl) (by rfl)) ?_
      simp only [wz, wd, ws, Nat.reduceAdd, Nat.reduceSub, Nat.reduceMul, Nat.reduceLeDiff, Nat.reduceEqDiff, Nat.reduceLT, Nat.reduceBEq, reduceIte, reduceCtorEq, Int.reduceToNat, Nat.reduceShiftRight, Nat.reduceAnd, Nat.reduceBneDiff, Nat.reduceBNe, c38r21, semI.eq_3, semI.eq_5, semI.eq_7]
      obtain ⟨g47, h⟩ := gd_iff.1 h
      refine GoD1.of (sem_iadrA (by rfl) (by rfl) (by rfl)) ?_
      simp only [wz, wd, ws, Nat.reduceAdd, Nat.reduceSub, Nat.reduceMul, Nat.reduceLeDiff, Nat.reduceEqDiff, Nat.reduceLT, Nat.reduceBEq, reduceIte, reduceCtorEq, Int.reduceToNat, Nat.reduceShiftRight, Nat.reduceAnd, Nat.reduceBneDiff, Nat.reduceBNe, c38r21, semI.eq_3, semI.eq_5, semI.eq_7]
      repeat (refine And.intro ?_ ?_; · first | omega | (intro q; simp only [wz, wd, ws, Nat.reduceAdd, Nat.reduceSub, Nat.reduceMul, Nat.reduceLeDiff, Nat.reduceEqDiff, Nat.reduceLT, Nat.reduceBEq, reduceIte, reduceCtorEq, Int.reduceToNat, Nat.reduceShiftRight, Nat.reduceAnd, Nat.reduceBneDiff, Nat.reduceBNe, q]; done))
      obtain ⟨g48, h⟩ := gd_iff.1 h
      refine GoD1.of (sem_storeA (enc := (eI .u32)) (a' := (IntKind.u32.wrap (x + x2))) (i := v119) (eI_len _) (by rfl) (by rfl) (by omega) (by omega) (by rfl) (by trivial) (by rfl)) ?_
      simp only [wz, wd, ws, Nat.reduceAdd, Nat.reduceSub, Nat.reduceMul, Nat.reduceLeDiff, Nat.reduceEqDiff, Nat.reduceLT, Nat.reduceBEq, reduceIte, reduceCtorEq, Int.reduceToNat, Nat.reduceShiftRight, Nat.reduceAnd, Nat.reduceBneDiff, Nat.reduceBNe, c38r21, semI.eq_3, semI.eq_5, semI.eq_7]
      refine .eblk ?_
      refine Rw.walk ?_
      simp only [wz, wd, ws, Nat.reduceAdd, Nat.reduceSub, Nat.reduceMul, Nat.reduceLeDiff, Nat.reduceEqDiff, Nat.reduceLT, Nat.reduceBEq, reduceIte, reduceCtorEq, Int.reduceToNat, Nat.reduceShiftRight, Nat.reduceAnd, Nat.reduceBneDiff, Nat.reduceBNe, c38r22, semI.eq_10, semI.eq_11, semI.eq_3, semI.eq_5, semI.eq_7]
      refine .lp ?_
      refine .weak (Imp.co [] _ _ ?_ ?_ ?_ ?_ ?_) (ih (IntKind.i64.wrap (v119 + 1)) (hv2.set v119.toNat (IntKind.u32.wrap (x + x2))) _ h k_ hx) <;> simp only [wz, wd, ws, Nat.reduceAdd, Nat.reduceSub, Nat.reduceMul, Nat.reduceLeDiff, Nat.reduceEqDiff, Nat.reduceLT, Nat.reduceBEq, reduceIte, reduceCtorEq, Int.reduceToNat, Nat.reduceShiftRight, Nat.reduceAnd, Nat.reduceBneDiff, Nat.reduceBNe, wi, er_nil]
    · rw [ite_f h1] at h
      refine .exit rfl ?_
      obtain rfl := Option.some.inj h
      refine .weak (Imp.co [] _ _ ?_ ?_ ?_ ?_ ?_) (hx _ rfl) <;> simp only [wz, wd, ws, Nat.reduceAdd, Nat.reduceSub, Nat.reduceMul, Nat.reduceLeDiff, Nat.reduceEqDiff, Nat.reduceLT, Nat.reduceBEq, reduceIte, reduceCtorEq, Int.reduceToNat, Nat.reduceShiftRight, Nat.reduceAnd, Nat.reduceBneDiff, Nat.reduceBNe, wi, er_nil]
theorem f_digest_over_ok (hv : (List Int)) (s : Str) (y_ : (List Int)) (h : f_digest_over hv s = some y_) : Fun Tryd.prog glP 38 [.b (.agg (ea (eI .u32) hv)), .b (.s (.d (.str s)))] (.b (.agg (ea (eI .u32) y_))) := by
  refine fun_walk [] Tryd.func38 Tryd.ntmps38 cc38 cr38 (by kernel_rfl) (by simp only [List.length_cons, List.length_nil]; decide) ?_
  generalize hR : Ret _ _ _ _ _ = R_
  simp only [wz, wd, ws, Nat.reduceAdd, Nat.reduceSub, Nat.reduceMul, Nat.reduceLeDiff, Nat.reduceEqDiff, Nat.reduceLT, Nat.reduceBEq, reduceIte, reduceCtorEq, Int.reduceToNat, Nat.reduceShiftRight, Nat.reduceAnd, Nat.reduceBneDiff, Nat.reduceBNe]
  unfold f_digest_over at h; unfold c38
  refine .seq ?_
  refine Rw.walk ?_
  simp only [wz, wd, ws, Nat.reduceAdd, Nat.reduceSub, Nat.reduceMul, Nat.reduceLeDiff, Nat.reduceEqDiff, Nat.reduceLT, Nat.reduceBEq, reduceIte, reduceCtorEq, Int.reduceToNat, Nat.reduceShiftRight, Nat.reduceAnd, Nat.reduceBneDiff, Nat.reduceBNe, c38r0, semI.eq_10, semI.eq_11]
  obtain ⟨g1, h⟩ := gd_iff.1 h
  refine Go1.of (sem_boxA (by rfl) (eI_len _) (by first | omega | exact Eq.refl _) (by rfl)) ?_
  simp only [wz, wd, ws, Nat.reduceAdd, Nat.reduceSub, Nat.reduceMul, Nat.reduceLeDiff, Nat.reduceEqDiff, Nat.reduceLT, Nat.reduceBEq, reduceIte, reduceCtorEq, Int.reduceToNat, Nat.reduceShiftRight, Nat.reduceAnd, Nat.reduceBneDiff, Nat.reduceBNe, c38r0, semI.eq_10, semI.eq_11]
  refine Go1.of (sem_newA (enc := (eI .u32)) (l := (List.replicate 8 0)) (by first | rfl | (simp only [List.length_map, List.length_replicate, List.length_set]; rfl)) (by first | rfl | (simp only [List.length_map, List.length_replicate, List.length_set]; rfl)) (by first | rfl | (simp only [List.length_map, List.length_replicate, List.length_set]; rfl))) ?_
  simp only [wz, wd, ws, Nat.reduceAdd, Nat.reduceSub, Nat.reduceMul, Nat.reduceLeDiff, Nat.reduceEqDiff, Nat.reduceLT, Nat.reduceBEq, reduceIte, reduceCtorEq, Int.reduceToNat, Nat.reduceShiftRight, Nat.reduceAnd, Nat.reduceBneDiff, Nat.reduceBNe, c38r0, semI.eq_10, semI.eq_11]
  refine .seq ?_
  refine Rw.walk ?_
  simp only [wz, wd, ws, Nat.reduceAdd, Nat.reduceSub, Nat.reduceMul, Nat.reduceLeDiff, Nat.reduceEqDiff, Nat.reduceLT, Nat.reduceBEq, reduceIte, reduceCtorEq, Int.reduceToNat, Nat.reduceShiftRight, Nat.reduceAnd, Nat.reduceBneDiff, Nat.reduceBNe, c38r1, semI.eq_10, semI.eq_11]
  refine Go1.of (sem_newA (enc := (eI .u32)) (l := (List.replicate 64 0)) (by first | rfl | (simp only [List.length_map, List.length_replicate, List.length_set]; rfl)) (by first | rfl | (simp only [List.length_map, List.length_replicate, List.length_set]; rfl)) (by first | rfl | (simp only [List.length_map, List.length_replicate, List.length_set]; rfl))) ?_
  simp only [wz, wd, ws, Nat.reduceAdd, Nat.reduceSub, Nat.reduceMul, Nat.reduceLeDiff, Nat.reduceEqDiff, Nat.reduceLT, Nat.reduceBEq, reduceIte, reduceCtorEq, Int.reduceToNat, Nat.reduceShiftRight, Nat.reduceAnd, Nat.reduceBneDiff, Nat.reduceBNe, c38r1, semI.eq_10, semI.eq_11]
  refine .seq ?_
  refine .seq ?_
  refine Rw.walk ?_
  simp only [wz, wd, ws, Nat.reduceAdd, Nat.reduceSub, Nat.reduceMul, Nat.reduceLeDiff, Nat.reduceEqDiff, Nat.reduceLT, Nat.reduceBEq, reduceIte, reduceCtorEq, Int.reduceToNat, Nat.reduceShiftRight, Nat.reduceAnd, Nat.reduceBneDiff, Nat.reduceBNe, c38r2, semI.eq_10, semI.eq_11, semI.eq_3, semI.eq_5, semI.eq_7]
  refine .blk ?_
  obtain ⟨s2, hf, h⟩ := Option.bind_eq_some_iff.1 h
  refine .loop (.weak (Imp.co [] _ _ ?c1 ?c2 ?c3 ?c4 ?c5) (f_digest_over_l9_ok hv s _ _ hR _ _ _ _ hf _ ?_))
  case c1 | c2 | c3 | c4 | c5 => simp only [wz, wd, ws, Nat.reduceAdd, Nat.reduceSub, Nat.reduceMul, Nat.reduceLeDiff, Nat.reduceEqDiff, Nat.reduceLT, Nat.reduceBEq, reduceIte, reduceCtorEq, Int.reduceToNat, Nat.reduceShiftRight, Nat.reduceAnd, Nat.reduceBneDiff, Nat.reduceBNe, wi, er_nil]
  · intro s2_ hs; subst hs
    refine .seq ?_
    refine Rw.walk ?_
    simp only [wz, wd, ws, Nat.reduceAdd, Nat.reduceSub, Nat.reduceMul, Nat.reduceLeDiff, Nat.reduceEqDiff, Nat.reduceLT, Nat.reduceBEq, reduceIte, reduceCtorEq, Int.reduceToNat, Nat.reduceShiftRight, Nat.reduceAnd, Nat.reduceBneDiff, Nat.reduceBNe, c38r9]
    obtain ⟨g18, h⟩ := gd_iff.1 h
    refine Go1.of (sem_loadW (n0 := 8) (by rfl) (eI_len _) (by rfl) (by rfl) (by rfl) (by first | exact g18 | exact Eq.refl _)) ?_
    simp only [wz, wd, ws, Nat.reduceAdd, Nat.reduceSub, Nat.reduceMul, Nat.reduceLeDiff, Nat.reduceEqDiff, Nat.reduceLT, Nat.reduceBEq, reduceIte, reduceCtorEq, Int.reduceToNat, Nat.reduceShiftRight, Nat.reduceAnd, Nat.reduceBneDiff, Nat.reduceBNe, c38r9]
    refine Go1.of (sem_newA (enc := (eI .u32)) (l := (List.replicate 8 0)) (by first | rfl | (simp only [List.length_map, List.length_replicate, List.length_set]; rfl)) (by first | rfl | (simp only [List.length_map, List.length_replicate, List.length_set]; rfl)) (by first | rfl | (simp only [List.length_map, List.length_replicate, List.length_set]; rfl))) ?_
    simp only [wz, wd, ws, Nat.reduceAdd, Nat.reduceSub, Nat.reduceMul, Nat.reduceLeDiff, Nat.reduceEqDiff, Nat.reduceLT, Nat.reduceBEq, reduceIte, reduceCtorEq, Int.reduceToNat, Nat.reduceShiftRight, Nat.reduceAnd, Nat.reduceBneDiff, Nat.reduceBNe, c38r9]
    obtain ⟨g19, h⟩ := gd_iff.1 h
    refine Go1.of (sem_storeW (l := (List.replicate 8 0)) (m := hv) (n0 := 8) (eI_len _) (by first | rfl | (simp only [List.length_map, List.length_replicate, List.length_set]; rfl)) (by first | rfl | (simp only [List.length_map, List.length_replicate, List.length_set]; rfl)) (by first | rfl | (simp only [List.length_map, List.length_replicate, List.length_set]; rfl)) (by first | exact trivial | exact Eq.refl _) (by first | rfl | (simp only [List.length_map, List.length_replicate, List.length_set]; rfl)) (by first | exact g19 | exact Eq.refl _)) ?_
    simp only [wz, wd, ws, Nat.reduceAdd, Nat.reduceSub, Nat.reduceMul, Nat.reduceLeDiff, Nat.reduceEqDiff, Nat.reduceLT, Nat.reduceBEq, reduceIte, reduceCtorEq, Int.reduceToNat, Nat.reduceShiftRight, Nat.reduceAnd, Nat.reduceBneDiff, Nat.reduceBNe, c38r9]
    refine .seq ?_
    refine .seq ?_
    refine Rw.walk ?_
    simp only [wz, wd, ws, Nat.reduceAdd, Nat.reduceSub, Nat.reduceMul, Nat.reduceLeDiff, Nat.reduceEqDiff, Nat.reduceLT, Nat.reduceBEq, reduceIte, reduceCtorEq, Int.reduceToNat, Nat.reduceShiftRight, Nat.reduceAnd, Nat.reduceBneDiff, Nat.reduceBNe, c38r10, semI.eq_10, semI.eq_11, semI.eq_3, semI.eq_5, semI.eq_7]
    refine .blk ?_
    obtain ⟨s3, hf, h⟩ := Option.bind_eq_some_iff.1 h
    refine .loop (.weak (Imp.co [] _ _ ?c1 ?c2 ?c3 ?c4 ?c5) (f_digest_over_l19_ok hv s s2 _ _ hR _ _ _ _ hf _ ?_))
    case c1 | c2 | c3 | c4 | c5 => simp only [wz, wd, ws, Nat.reduceAdd, Nat.reduceSub, Nat.reduceMul, Nat.reduceLeDiff, Nat.reduceEqDiff, Nat.reduceLT, Nat.reduceBEq, reduceIte, reduceCtorEq, Int.reduceToNat, Nat.reduceShiftRight, Nat.reduceAnd, Nat.reduceBneDiff, Nat.reduceBNe, wi, er_nil]
    · intro s3_ hs; subst hs
      refine .seq ?_
      refine .seq ?_
      refine Rw.walk ?_
      simp only [wz, wd, ws, Nat.reduceAdd, Nat.reduceSub, Nat.reduceMul, Nat.reduceLeDiff, Nat.reduceEqDiff, Nat.reduceLT, Nat.reduceBEq, reduceIte, reduceCtorEq, Int.reduceToNat, Nat.reduceShiftRight, Nat.reduceAnd, Nat.reduceBneDiff, Nat.reduceBNe, c38r18, semI.eq_10, semI.eq_11, semI.eq_3, semI.eq_5, semI.eq_7]
      refine .blk ?_
      obtain ⟨s4, hf, h⟩ := Option.bind_eq_some_iff.1 h
      refine .loop (.weak (Imp.co [] _ _ ?c1 ?c2 ?c3 ?c4 ?c5) (f_digest_over_l25_ok s s3 _ _ hR _ _ _ _ hf _ ?_))
      case c1 | c2 | c3 | c4 | c5 => simp only [wz, wd, ws, Nat.reduceAdd, Nat.reduceSub, Nat.reduceMul, Nat.reduceLeDiff, Nat.reduceEqDiff, Nat.reduceLT, Nat.reduceBEq, reduceIte, reduceCtorEq, Int.reduceToNat, Nat.reduceShiftRight, Nat.reduceAnd, Nat.reduceBneDiff, Nat.reduceBNe, wi, er_nil]
      · intro s4_ hs; subst hs
        refine .seq ?_
        refine Rw.walk ?_
        simp only [wz, wd, ws, Nat.reduceAdd, Nat.reduceSub, Nat.reduceMul, Nat.reduceLeDiff, Nat.reduceEqDiff, Nat.reduceLT, Nat.reduceBEq, reduceIte, reduceCtorEq, Int.reduceToNat, Nat.reduceShiftRight, Nat.reduceAnd, Nat.reduceBneDiff, Nat.reduceBNe, c38r23, semI.eq_3, semI.eq_5, semI.eq_7]
        obtain ⟨g49, h⟩ := gd_iff.1 h
        refine Go1.of (sem_loadW (n0 := 8) (by rfl) (eI_len _) (by rfl) (by rfl) (by rfl) (by first | exact g49 | exact Eq.refl _)) ?_
        simp only [wz, wd, ws, Nat.reduceAdd, Nat.reduceSub, Nat.reduceMul, Nat.reduceLeDiff, Nat.reduceEqDiff, Nat.reduceLT, Nat.reduceBEq, reduceIte, reduceCtorEq, Int.reduceToNat, Nat.reduceShiftRight, Nat.reduceAnd, Nat.reduceBneDiff, Nat.reduceBNe, c38r23, semI.eq_3, semI.eq_5, semI.eq_7]
        obtain ⟨g50, h⟩ := gd_iff.1 h
        refine Go1.of (sem_storeW (l := (List.replicate 8 0)) (m := s4.2) (n0 := 8) (eI_len _) (by first | rfl | (simp only [List.length_map, List.length_replicate, List.length_set]; rfl)) (by first | rfl | (simp only [List.length_map, List.length_replicate, List.length_set]; rfl)) (by first | rfl | (simp only [List.length_map, List.length_replicate, List.length_set]; rfl)) (by first | exact trivial | exact Eq.refl _) (by first | rfl | (simp only [List.length_map, List.length_replicate, List.length_set]; rfl)) (by first | exact g50 | exact Eq.refl _)) ?_
        simp only [wz, wd, ws, Nat.reduceAdd, Nat.reduceSub, Nat.reduceMul, Nat.reduceLeDiff, Nat.reduceEqDiff, Nat.reduceLT, Nat.reduceBEq, reduceIte, reduceCtorEq, Int.reduceToNat, Nat.reduceShiftRight, Nat.reduceAnd, Nat.reduceBneDiff, Nat.reduceBNe, c38r23, semI.eq_3, semI.eq_5, semI.eq_7]
        obtain ⟨gr, h⟩ := gd_iff.1 h
        obtain rfl := Option.some.inj h
        refine .ret ?_
        rw [← hR]
        exact ret_cellA (n0 := 8) (eI_len _) (by rfl) (by rfl) (by rfl) (by first | exact gr | exact Eq.refl _)
-- 12 consignor/digest.Sum
def c12r0 : List Opn := [
  ⟨(some 2), none, .mv (.c (.s (.d (.str []))))⟩]
def c12r1 : List Opn := [
  ⟨(some 10), none, .mv (.t 0)⟩, 
  ⟨(some 11), none, .call (.fn 24) [(.t 10), (.c (.s (.d (.str []))))]⟩, 
  ⟨(some 3), none, .mv (.t 11)⟩]
def c12r2 : List Opn := [
  ⟨(some 12), none, .mv (.t 3)⟩, 
  ⟨(some 13), none, .len .str (.t 12)⟩, 
  ⟨(some 14), none, .cv (.toInt .u64) (.t 13)⟩, 
  ⟨(some 15), none, .bin .mul (.t 14) (.c (.s (.d (.int .u64 8))))⟩, 
  ⟨(some 4), none, .mv (.t 15)⟩]
def c12r3 : List Opn := [
  ⟨(some 16), none, .mv (.t 3)⟩, 
  ⟨(some 17), none, .bin .add (.t 16) (.c (.s (.d (.str [128]))))⟩, 
  ⟨(some 3), none, .mv (.t 17)⟩]
def c12r4 : List Opn := [
  ⟨(some 18), none, .mv (.t 3)⟩, 
  ⟨(some 19), none, .len .str (.t 18)⟩, 
  ⟨(some 20), none, .bin .rem (.t 19) (.c (.s (.d (.int .i64 64))))⟩, 
  ⟨(some 21), none, .bin .neq (.t 20) (.c (.s (.d (.int .i64 56))))⟩]
def c12r5 : List Opn := [
  ⟨(some 22), none, .mv (.t 3)⟩, 
  ⟨(some 23), none, .bin .add (.t 22) (.c (.s (.d (.str [0]))))⟩, 
  ⟨(some 3), none, .mv (.t 23)⟩]
def c12l6 : C := .seq (.seq (.reg c12r4 none [3, 4, 21]) (.cond (.t 21) (.skip) (.exit 0))) (.blk 1 (.reg c12r5 none [3, 4]))
def c12r6 : List Opn := [
  ⟨(some 5), none, .mv (.c (.s (.d (.int .i64 7))))⟩]
def c12r7 : List Opn := [
  ⟨(some 24), none, .mv (.t 5)⟩, 
  ⟨(some 25), none, .bin .geq (.t 24) (.c (.s (.d (.int .i64 0))))⟩]
def c12r9 : List Opn := [
  ⟨(some 28), none, .mv (.t 3)⟩, 
  ⟨(some 29), none, .mv (.t 4)⟩, 
  ⟨(some 30), none, .mv (.t 5)⟩, 
  ⟨(some 31), none, .bin .mul (.c (.s (.d (.int .i64 8)))) (.t 30)⟩, 
  ⟨(some 32), none, .bin .shr (.t 29) (.t 31)⟩, 
  ⟨(some 33), none, .cv (.toInt .u8) (.t 32)⟩, 
  ⟨(some 34), none, .bsl 1 [(.t 33)]⟩, 
  ⟨(some 35), none, .cv .b2s (.t 34)⟩, 
  ⟨(some 36), none, .bin .add (.t 28) (.t 35)⟩, 
  ⟨(some 3), none, .mv (.t 36)⟩]
def c12r8 : List Opn := [
  ⟨(some 26), none, .mv (.t 5)⟩, 
  ⟨(some 27), none, .bin .sub (.t 26) (.c (.s (.d (.int .i64 1))))⟩, 
  ⟨(some 5), none, .mv (.t 27)⟩]
def c12l11 : C := .seq (.seq (.reg c12r7 none [3, 4, 5, 25]) (.cond (.t 25) (.skip) (.exit 2))) (.seq (.blk 3 (.reg c12r9 none [3, 4, 5])) (.reg c12r8 none [3, 4, 5]))
def c12r10 : List Opn := [
  ⟨(some 37), none, .call (.fn 37) []⟩, 
  ⟨(some 6), none, .new [(.d (.int .u32 0)), (.d (.int .u32 0)), (.d (.int .u32 0)), (.d (.int .u32 0)), (.d (.int .u32 0)), (.d (.int .u32 0)), (.d (.int .u32 0)), (.d (.int .u32 0))]⟩, 
  ⟨none, none, .store 8 (.t 6) (.t 37)⟩]
def c12r11 : List Opn := [
  ⟨(some 38), none, .mv (.t 3)⟩, 
  ⟨(some 39), none, .bin .neq (.t 38) (.c (.s (.d (.str []))))⟩]
def c12r13 : List Opn := [
  ⟨(some 42), none, .load true 8 (.t 6)⟩, 
  ⟨(some 43), none, .mv (.t 3)⟩, 
  ⟨(some 44), none, .call (.fn 38) [(.t 42), (.t 43)]⟩, 
  ⟨none, none, .store 8 (.t 6) (.t 44)⟩]
def c12r12 : List Opn := [
  ⟨(some 40), none, .mv (.t 3)⟩, 
  ⟨(some 41), none, .slc .str (.t 40) (some (.c (.s (.d (.int .i64 64))))) none none⟩, 
  ⟨(some 3), none, .mv (.t 41)⟩]
def c12l16 : C := .seq (.seq (.reg c12r11 none [3, 6, 39]) (.cond (.t 39) (.skip) (.exit 4))) (.seq (.blk 5 (.reg c12r13 none [3, 6])) (.reg c12r12 none [3, 6]))
def c12r14 : List Opn := [
  ⟨(some 7), none, .mv (.c (.s .nils))⟩]
def c12r15 : List Opn := [
  ⟨(some 45), none, .load true 8 (.t 6)⟩, 
  ⟨(some 46), none, .mv (.c (.s (.d (.int .i64 0))))⟩]
def c12r16 : List Opn := [
  ⟨(some 47), none, .bin .lss (.t 46) (.c (.s (.d (.int .i64 8))))⟩]
def c12r17 : List Opn := [
  ⟨(some 48), none, .idx (.arr 8 1 false) (.t 45) (.t 46)⟩, 
  ⟨(some 9), none, .mv (.t 48)⟩]
def c12r18 : List Opn := [
  ⟨(some 49), none, .mv (.t 7)⟩, 
  ⟨(some 50), none, .mv (.t 9)⟩, 
  ⟨(some 51), none, .bin .shr (.t 50) (.c (.s (.d (.int .u64 24))))⟩, 
  ⟨(some 52), none, .cv (.toInt .u8) (.t 51)⟩, 
  ⟨(some 53), none, .mv (.t 9)⟩, 
  ⟨(some 54), none, .bin .shr (.t 53) (.c (.s (.d (.int .u64 16))))⟩, 
  ⟨(some 55), none, .cv (.toInt .u8) (.t 54)⟩, 
  ⟨(some 56), none, .mv (.t 9)⟩, 
  ⟨(some 57), none, .bin .shr (.t 56) (.c (.s (.d (.int .u64 8))))⟩, 
  ⟨(some 58), none, .cv (.toInt .u8) (.t 57)⟩, 
  ⟨(some 59), none, .mv (.t 9)⟩, 
  ⟨(some 60), none, .cv (.toInt .u8) (.t 59)⟩, 
  ⟨(some 61), none, .bsl 1 [(.t 52), (.t 55), (.t 58), (.t 60)]⟩, 
  ⟨(some 62), none, .app 1 1 false (.t 49) (.t 61)⟩, 
  ⟨(some 7), none, .mv (.t 62)⟩]
def c12r19 : List Opn := [
  ⟨(some 63), none, .bin .add (.t 46) (.c (.s (.d (.int .i64 1))))⟩, 
  ⟨(some 46), none, .mv (.t 63)⟩]
def c12l23 : C := .seq (.reg c12r16 none [7, 45, 46, 47]) (.seq (.cond (.t 47) (.skip) (.exit 6)) (.seq (.blk 7 (.seq (.reg c12r17 none [7, 9, 45, 46]) (.reg c12r18 none [7, 45, 46]))) (.reg c12r19 none [7, 45, 46])))
def c12r20 : List Opn := [
  ⟨(some 64), none, .mv (.t 7)⟩, 
  ⟨(some 65), none, .cv .b2s (.t 64)⟩, 
  ⟨(some 2), none, .mv (.t 65)⟩]
def c12 : C := .seq (.reg c12r0 none [0]) (.seq (.reg c12r1 none [3]) (.seq (.reg c12r2 none [3, 4]) (.seq (.reg c12r3 none [3, 4]) (.seq (.blk 0 (.loop c12l6)) (.seq (.seq (.reg c12r6 none [3, 4, 5]) (.blk 2 (.loop c12l11))) (.seq (.reg c12r10 none [3, 6]) (.seq (.blk 4 (.loop c12l16)) (.seq (.reg c12r14 none [6, 7]) (.seq (.seq (.reg c12r15 none [7, 45, 46]) (.blk 6 (.loop c12l23))) (.seq (.reg c12r20 none [2]) (.ret)))))))))))
def k12 : List (Nat × List Nat) := [(20, [2]), (19, [7, 45, 46]), (18, [7, 45, 46]), (17, [7, 9, 45, 46]), (16, [7, 45, 46, 47]), (15, [7, 45, 46]), (14, [6, 7]), (12, [3, 6]), (13, [3, 6]), (11, [3, 6, 39]), (10, [3, 6]), (8, [3, 4, 5]), (9, [3, 4, 5]), (7, [3, 4, 5, 25]), (6, [3, 4, 5]), (5, [3, 4]), (4, [3, 4, 21]), (3, [3, 4]), (2, [3, 4]), (1, [3]), (0, [0])]
theorem cc12 : (Tryd.f12.body).bind (cC Tryd.prog 66 k12) = some c12 := by kernel_rfl
def rv12 : List RV := [.t 2]
theorem cr12 : cRVs Tryd.prog Tryd.f12.results.toList = some rv12 := by kernel_rfl
theorem f_digest_Sum_l6_ok (t : Str) (y_ : Str) (R_ : St → Prop) (hR : (Ret Tryd.prog glP [] rv12 (.b (.s (.d (.str y_))))) = R_) : ∀ (m_ : Nat) (s : Str) (res_ : Str) (h : f_digest_Sum_l6 t m_ s = some res_) (k_ : List It) (hx : ∀ s_ : Str, res_ = s_ → W Tryd.prog glP 66 k_ ⟨lkT [(3, .b (.s (.d (.str s_)))), (4, .b (.s (.d (.int .u64 (IntKind.u64.wrap ((IntKind.u64.wrap (t.length : Int)) * 8))))))], lkG []⟩ R_), W Tryd.prog glP 66 (.c c12l6 :: .lp c12l6 :: .blk 0 :: k_) ⟨lkT [(3, .b (.s (.d (.str s)))), (4, .b (.s (.d (.int .u64 (IntKind.u64.wrap ((IntKind.u64.wrap (t.length : Int)) * 8))))))], lkG []⟩ R_ := by
  intro m_; induction m_ with
  | zero => intro s res_ h; rw [f_digest_Sum_l6.eq_1] at h; cases h
  | succ m_ ih =>
    intro s res_ h k_ hx; rw [f_digest_Sum_l6.eq_2] at h; refine W.cdef c12l6.eq_1 ?_
    refine .seq ?_
    refine .seq ?_
    refine Rw.walk ?_
    simp only [wz, wd, ws, Nat.reduceAdd, Nat.reduceSub, Nat.reduceMul, Nat.reduceLeDiff, Nat.reduceEqDiff, Nat.reduceLT, Nat.reduceBEq, reduceIte, reduceCtorEq, Int.reduceToNat, Nat.reduceShiftRight, Nat.reduceAnd, Nat.reduceBneDiff, Nat.reduceBNe, c12r4, semI.eq_10, semI.eq_11, semI.eq_3, semI.eq_5, semI.eq_7]
    repeat (refine And.intro ?_ ?_; · first | omega | (intro q; simp only [wz, wd, ws, Nat.reduceAdd, Nat.reduceSub, Nat.reduceMul, Nat.reduceLeDiff, Nat.reduceEqDiff, Nat.reduceLT, Nat.reduceBEq, reduceIte, reduceCtorEq, Int.reduceToNat, Nat.reduceShiftRight, Nat.reduceAnd, Nat.reduceBneDiff, Nat.reduceBNe, q]; done))
    refine .cond (p := (((s.length : Int).tmod 64) != 56)) (by first | rfl | simp only [wz, wd, ws, Nat.reduceAdd, Nat.reduceSub, Nat.reduceMul, Nat.reduceLeDiff, Nat.reduceEqDiff, Nat.reduceLT, Nat.reduceBEq, reduceIte, reduceCtorEq, Int.reduceToNat, Nat.reduceShiftRight, Nat.reduceAnd, Nat.reduceBneDiff, Nat.reduceBNe]) (fun h1 => ?_) (fun h1 => ?_)
    · rw [ite_t h1] at h
      refine .skip ?_
      refine .blk ?_
      refine Rw.walk ?_
      obtain ⟨g3, h⟩ := gd_iff.1 h
      simp only [wz, wd, ws, Nat.reduceAdd, Nat.reduceSub, Nat.reduceMul, Nat.reduceLeDiff, Nat.reduceEqDiff, Nat.reduceLT, Nat.reduceBEq, reduceIte, reduceCtorEq, Int.reduceToNat, Nat.reduceShiftRight, Nat.reduceAnd, Nat.reduceBneDiff, Nat.reduceBNe, c12r5, semI.eq_10, semI.eq_11, semI.eq_3, semI.eq_5, semI.eq_7]
      repeat (refine And.intro ?_ ?_; · first | omega | (intro q; simp only [wz, wd, ws, Nat.reduceAdd, Nat.reduceSub, Nat.reduceMul, Nat.reduceLeDiff, Nat.reduceEqDiff, Nat.reduceLT, Nat.reduceBEq, reduceIte, reduceCtorEq, Int.reduceToNat, Nat.reduceShiftRight, Nat.reduceAnd, Nat.reduceBneDiff, Nat.reduceBNe, q]; done))
      refine .eblk ?_
      refine .lp ?_
      refine .weak (Imp.co [] _ _ ?_ ?_ ?_ ?_ ?_) (ih (s ++ ([0] : Str)) _ h k_ hx) <;> simp only [wz, wd, ws, Nat.reduceAdd, Nat.reduceSub, Nat.reduceMul, Nat.reduceLeDiff, Nat.reduceEqDiff, Nat.reduceLT, Nat.reduceBEq, reduceIte, reduceCtorEq, Int.reduceToNat, Nat.reduceShiftRight, Nat.reduceAnd, Nat.reduceBneDiff, Nat.reduceBNe, wi, er_nil]
    · rw [ite_f h1] at h
      refine .exit rfl ?_
      obtain rfl := Option.some.inj h
      refine .weak (Imp.co [] _ _ ?_ ?_ ?_ ?_ ?_) (hx _ rfl) <;> simp only [wz, wd, ws, Nat.reduceAdd, Nat.reduceSub, Nat.reduceMul, Nat.reduceLeDiff, Nat.reduceEqDiff, Nat.reduceLT, Nat.reduceBEq, reduceIte, reduceCtorEq, Int.reduceToNat, Nat.reduceShiftRight, Nat.reduceAnd, Nat.reduceBneDiff, Nat.reduceBNe, wi, er_nil]
theorem f_digest_Sum_l11_ok (t : Str) (s : Str) (y_ : Str) (R_ : St → Prop) (hR : (Ret Tryd.prog glP [] rv12 (.b (.s (.d (.str y_))))) = R_) : ∀ (m_ : Nat) (s2 : Str) (i : Int) (res_ : Str × Int) (h : f_digest_Sum_l11 t s m_ s2 i = some res_) (k_ : List It) (hx : ∀ s_ : Str × Int, res_ = s_ → W Tryd.prog glP 66 k_ ⟨lkT [(3, .b (.s (.d (.str s_.1)))), (4, .b (.s (.d (.int .u64 (IntKind.u64.wrap ((IntKind.u64.wrap (t.length : Int)) * 8)))))), (5, .b (.s (.d (.int .i64 s_.2))))], lkG []⟩ R_), W Tryd.prog glP 66 (.c c12l11 :: .lp c12l11 :: .blk 2 :: k_) ⟨lkT [(3, .b (.s (.d (.str s2)))), (4, .b (.s (.d (.int .u64 (IntKind.u64.wrap ((IntKind.u64.wrap (t.length : Int)) * 8)))))), (5, .b (.s (.d (.int .i64 i))))], lkG []⟩ R_ := by
  intro m_; induction m_ with
  | zero => intro s2 i res_ h; rw [f_digest_Sum_l11.eq_1] at h; cases h
  | succ m_ ih =>
    intro s2 i res_ h k_ hx; rw [f_digest_Sum_l11.eq_2] at h; refine W.cdef c12l11.eq_1 ?_
    refine .seq ?_
    refine .seq ?_
    refine Rw.walk ?_
    simp only [wz, wd, ws, Nat.reduceAdd, Nat.reduceSub, Nat.reduceMul, Nat.reduceLeDiff, Nat.reduceEqDiff, Nat.reduceLT, Nat.reduceBEq, reduceIte, reduceCtorEq, Int.reduceToNat, Nat.reduceShiftRight, Nat.reduceAnd, Nat.reduceBneDiff, Nat.reduceBNe, c12r7, semI.eq_10, semI.eq_11, semI.eq_3, semI.eq_5, semI.eq_7]
    refine .cond (p := (decide (i ≥ 0))) (by first | rfl | simp only [wz, wd, ws, Nat.reduceAdd, Nat.reduceSub, Nat.reduceMul, Nat.reduceLeDiff, Nat.reduceEqDiff, Nat.reduceLT, Nat.reduceBEq, reduceIte, reduceCtorEq, Int.reduceToNat, Nat.reduceShiftRight, Nat.reduceAnd, Nat.reduceBneDiff, Nat.reduceBNe]) (fun h1 => ?_) (fun h1 => ?_)
    · rw [ite_t h1] at h
      refine .skip ?_
      refine .seq ?_
      refine .blk ?_
      refine Rw.walk ?_
      obtain ⟨g4, h⟩ := gd_iff.1 h
      simp only [wz, wd, ws, Nat.reduceAdd, Nat.reduceSub, Nat.reduceMul, Nat.reduceLeDiff, Nat.reduceEqDiff, Nat.reduceLT, Nat.reduceBEq, reduceIte, reduceCtorEq, Int.reduceToNat, Nat.reduceShiftRight, Nat.reduceAnd, Nat.reduceBneDiff, Nat.reduceBNe, c12r9, semI.eq_10, semI.eq_11, semI.eq_3, semI.eq_5, semI.eq_7]
      repeat (refine And.intro ?_ ?_; · first | omega | (intro q; simp only [wz, wd, ws, Nat.reduceAdd, Nat.reduceSub, Nat.reduceMul, Nat.reduceLeDiff, Nat.reduceEqDiff, Nat.reduceLT, Nat.reduceBEq, reduceIte, reduceCtorEq, Int.reduceToNat, Nat.reduceShiftRight, Nat.reduceAnd, Nat.reduceBneDiff, Nat.reduceBNe, q]; done))
      refine Go1.of (sem_bsl (enc := (eI .u8)) (m := ([(IntKind.u8.wrap ((IntKind.u64.wrap ((IntKind.u64.wrap (t.length : Int)) * 8)).fdiv (2 ^ (min (IntKind.i64.wrap (8 * i)).toNat IntKind.u64.bits))))] : List Int)) (eI_len _) (by rfl) (by rfl) (by rfl) ⟨trivial, trivial⟩) ?_
      simp only [wz, wd, ws, Nat.reduceAdd, Nat.reduceSub, Nat.reduceMul, Nat.reduceLeDiff, Nat.reduceEqDiff, Nat.reduceLT, Nat.reduceBEq, reduceIte, reduceCtorEq, Int.reduceToNat, Nat.reduceShiftRight, Nat.reduceAnd, Nat.reduceBneDiff, Nat.reduceBNe, c12r9, semI.eq_10, semI.eq_11, semI.eq_3, semI.eq_5, semI.eq_7]
      refine Go1.of (sem_b2s (n := ([(IntKind.u8.wrap ((IntKind.u64.wrap ((IntKind.u64.wrap (t.length : Int)) * 8)).fdiv (2 ^ (min (IntKind.i64.wrap (8 * i)).toNat IntKind.u64.bits))))] : List Int)) (rowsV_own (m := ([(IntKind.u8.wrap ((IntKind.u64.wrap ((IntKind.u64.wrap (t.length : Int)) * 8)).fdiv (2 ^ (min (IntKind.i64.wrap (8 * i)).toNat IntKind.u64.bits))))] : List Int)) (by rfl) (by rfl))) ?_
      simp only [wz, wd, ws, Nat.reduceAdd, Nat.reduceSub, Nat.reduceMul, Nat.reduceLeDiff, Nat.reduceEqDiff, Nat.reduceLT, Nat.reduceBEq, reduceIte, reduceCtorEq, Int.reduceToNat, Nat.reduceShiftRight, Nat.reduceAnd, Nat.reduceBneDiff, Nat.reduceBNe, c12r9, semI.eq_10, semI.eq_11, semI.eq_3, semI.eq_5, semI.eq_7]
      obtain ⟨g5, h⟩ := gd_iff.1 h
      repeat (refine And.intro ?_ ?_; · first | omega | (intro q; simp only [wz, wd, ws, Nat.reduceAdd, Nat.reduceSub, Nat.reduceMul, Nat.reduceLeDiff, Nat.reduceEqDiff, Nat.reduceLT, Nat.reduceBEq, reduceIte, reduceCtorEq, Int.reduceToNat, Nat.reduceShiftRight, Nat.reduceAnd, Nat.reduceBneDiff, Nat.reduceBNe, q]; done))
      obtain ⟨s3, e6, h⟩ := Option.bind_eq_some_iff.1 h
      replace e6 := Option.some.inj e6
      first | simp only [e6] | (simp only [wz, wd, ws, Nat.reduceAdd, Nat.reduceSub, Nat.reduceMul, Nat.reduceLeDiff, Nat.reduceEqDiff, Nat.reduceLT, Nat.reduceBEq, reduceIte, reduceCtorEq, Int.reduceToNat, Nat.reduceShiftRight, Nat.reduceAnd, Nat.reduceBneDiff, Nat.reduceBNe] at e6; simp only [e6])
      refine .eblk ?_
      refine Rw.walk ?_
      simp only [wz, wd, ws, Nat.reduceAdd, Nat.reduceSub, Nat.reduceMul, Nat.reduceLeDiff, Nat.reduceEqDiff, Nat.reduceLT, Nat.reduceBEq, reduceIte, reduceCtorEq, Int.reduceToNat, Nat.reduceShiftRight, Nat.reduceAnd, Nat.reduceBneDiff, Nat.reduceBNe, c12r8, semI.eq_10, semI.eq_11, semI.eq_3, semI.eq_5, semI.eq_7]
      refine .lp ?_
      refine .weak (Imp.co [] _ _ ?_ ?_ ?_ ?_ ?_) (ih s3 (IntKind.i64.wrap (i - 1)) _ h k_ hx) <;> simp only [wz, wd, ws, Nat.reduceAdd, Nat.reduceSub, Nat.reduceMul, Nat.reduceLeDiff, Nat.reduceEqDiff, Nat.reduceLT, Nat.reduceBEq, reduceIte, reduceCtorEq, Int.reduceToNat, Nat.reduceShiftRight, Nat.reduceAnd, Nat.reduceBneDiff, Nat.reduceBNe, wi, er_nil]
    · rw [ite_f h1] at h
      refine .exit rfl ?_
      obtain rfl := Option.some.inj h
      refine .weak (Imp.co [] _ _ ?_ ?_ ?_ ?_ ?_) (hx _ rfl) <;> simp only [wz, wd, ws, Nat.reduceAdd, Nat.reduceSub, Nat.reduceMul, Nat.reduceLeDiff, Nat.reduceEqDiff, Nat.reduceLT, Nat.reduceBEq, reduceIte, reduceCtorEq, Int.reduceToNat, Nat.reduceShiftRight, Nat.reduceAnd, Nat.reduceBneDiff, Nat.reduceBNe, wi, er_nil]
theorem f_digest_Sum_l16_ok (s : Str) (y_ : Str) (R_ : St → Prop) (hR : (Ret Tryd.prog glP [] rv12 (.b (.s (.d (.str y_))))) = R_) : ∀ (m_ : Nat) (s3 : Str) (hv : (List Int)) (res_ : Str × (List Int)) (h : f_digest_Sum_l16 s m_ s3 hv = some res_) (k_ : List It) (hx : ∀ s_ : Str × (List Int), res_ = s_ → W Tryd.prog glP 66 k_ ⟨lkT [(3, .b (.s (.d (.str s_.1)))), (6, .b (.s (.ptr 6 1 0 0)))], lkG [(6, ⟨8, [ea (eI .u32) s_.2], false⟩)]⟩ R_), W Tryd.prog glP 66 (.c c12l16 :: .lp c12l16 :: .blk 4 :: k_) ⟨lkT [(3, .b (.s (.d (.str s3)))), (6, .b (.s (.ptr 6 1 0 0)))], lkG [(6, ⟨8, [ea (eI .u32) hv], false⟩)]⟩ R_ := by
  intro m_; induction m_ with
  | zero => intro s3 hv res_ h; rw [f_digest_Sum_l16.eq_1] at h; cases h
  | succ m_ ih =>
    intro s3 hv res_ h k_ hx; rw [f_digest_Sum_l16.eq_2] at h; refine W.cdef c12l16.eq_1 ?_
    refine .seq ?_
    refine .seq ?_
    refine Rw.walk ?_
    simp only [wz, wd, ws, Nat.reduceAdd, Nat.reduceSub, Nat.reduceMul, Nat.reduceLeDiff, Nat.reduceEqDiff, Nat.reduceLT, Nat.reduceBEq, reduceIte, reduceCtorEq, Int.reduceToNat, Nat.reduceShiftRight, Nat.reduceAnd, Nat.reduceBneDiff, Nat.reduceBNe, c12r11, semI.eq_10, semI.eq_11, semI.eq_3, semI.eq_5, semI.eq_7]
    refine .cond (p := (!(s3 == ([] : Str)))) (by first | rfl | simp only [wz, wd, ws, Nat.reduceAdd, Nat.reduceSub, Nat.reduceMul, Nat.reduceLeDiff, Nat.reduceEqDiff, Nat.reduceLT, Nat.reduceBEq, reduceIte, reduceCtorEq, Int.reduceToNat, Nat.reduceShiftRight, Nat.reduceAnd, Nat.reduceBneDiff, Nat.reduceBNe]) (fun h1 => ?_) (fun h1 => ?_)
    · rw [ite_t h1] at h
      refine .skip ?_
      refine .seq ?_
      refine .blk ?_
      refine Rw.walk ?_
      simp only [wz, wd, ws, Nat.reduceAdd, Nat.reduceSub, Nat.reduceMul, Nat.reduceLeDiff, Nat.reduceEqDiff, Nat.reduceLT, Nat.reduceBEq, reduceIte, reduceCtorEq, Int.reduceToNat, Nat.reduceShiftRight, Nat.reduceAnd, Nat.reduceBneDiff, Nat.reduceBNe, c12r13, semI.eq_3, semI.eq_5, semI.eq_7]
      obtain ⟨g9, h⟩ := gd_iff.1 h
      refine Go1.of (sem_loadW (n0 := 8) (by rfl) (eI_len _) (by rfl) (by rfl) (by rfl) (by first | exact g9 | exact Eq.refl _)) ?_
      simp only [wz, wd, ws, Nat.reduceAdd, Nat.reduceSub, Nat.reduceMul, Nat.reduceLeDiff, Nat.reduceEqDiff, Nat.reduceLT, Nat.reduceBEq, reduceIte, reduceCtorEq, Int.reduceToNat, Nat.reduceShiftRight, Nat.reduceAnd, Nat.reduceBneDiff, Nat.reduceBNe, c12r13, semI.eq_3, semI.eq_5, semI.eq_7]
      obtain ⟨t3, e10, h⟩ := Option.bind_eq_some_iff.1 h
      refine call_fun [] true ⟨trivial, trivial, trivial, trivial⟩ rfl ?_ (f_digest_over_ok _ _ _ e10) (fun h => by cases h) (fun i hi => by cases hi) ?_
      · simp only [wz, wd, ws, Nat.reduceAdd, Nat.reduceSub, Nat.reduceMul, Nat.reduceLeDiff, Nat.reduceEqDiff, Nat.reduceLT, Nat.reduceBEq, reduceIte, reduceCtorEq, Int.reduceToNat, Nat.reduceShiftRight, Nat.reduceAnd, Nat.reduceBneDiff, Nat.reduceBNe]
      simp only [wz, wd, ws, Nat.reduceAdd, Nat.reduceSub, Nat.reduceMul, Nat.reduceLeDiff, Nat.reduceEqDiff, Nat.reduceLT, Nat.reduceBEq, reduceIte, reduceCtorEq, Int.reduceToNat, Nat.reduceShiftRight, Nat.reduceAnd, Nat.reduceBneDiff, Nat.reduceBNe, c12r13, semI.eq_3, semI.eq_5, semI.eq_7]
      obtain ⟨g11, h⟩ := gd_iff.1 h
      obtain ⟨g12, h⟩ := gd_iff.1 h
      refine Go1.of (sem_storeW (l := hv) (m := t3) (n0 := 8) (eI_len _) (by rfl) (by rfl) (by rfl) (by first | exact g11 | exact Eq.refl _) (by rfl) (by first | exact g12 | exact Eq.refl _)) ?_
      simp only [wz, wd, ws, Nat.reduceAdd, Nat.reduceSub, Nat.reduceMul, Nat.reduceLeDiff, Nat.reduceEqDiff, Nat.reduceLT, Nat.reduceBEq, reduceIte, reduceCtorEq, Int.reduceToNat, Nat.reduceShiftRight, Nat.reduceAnd, Nat.reduceBneDiff, Nat.reduceBNe, c12r13, semI.eq_3, semI.eq_5, semI.eq_7]
      refine .eblk ?_
      refine Rw.walk ?_
      obtain ⟨g13, h⟩ := gd_iff.1 h
      simp only [wz, wd, ws, Nat.reduceAdd, Nat.reduceSub, Nat.reduceMul, Nat.reduceLeDiff, Nat.reduceEqDiff, Nat.reduceLT, Nat.reduceBEq, reduceIte, reduceCtorEq, Int.reduceToNat, Nat.reduceShiftRight, Nat.reduceAnd, Nat.reduceBneDiff, Nat.reduceBNe, c12r12, semI.eq_10, semI.eq_11, semI.eq_3, semI.eq_5, semI.eq_7]
      repeat (refine And.intro ?_ ?_; · first | omega | (intro q; simp only [wz, wd, ws, Nat.reduceAdd, Nat.reduceSub, Nat.reduceMul, Nat.reduceLeDiff, Nat.reduceEqDiff, Nat.reduceLT, Nat.reduceBEq, reduceIte, reduceCtorEq, Int.reduceToNat, Nat.reduceShiftRight, Nat.reduceAnd, Nat.reduceBneDiff, Nat.reduceBNe, q]; done))
      refine .lp ?_
      refine .weak (Imp.co [] _ _ ?_ ?_ ?_ ?_ ?_) (ih (cut s3 64 (s3.length : Int)) t3 _ h k_ hx) <;> simp only [wz, wd, ws, Nat.reduceAdd, Nat.reduceSub, Nat.reduceMul, Nat.reduceLeDiff, Nat.reduceEqDiff, Nat.reduceLT, Nat.reduceBEq, reduceIte, reduceCtorEq, Int.reduceToNat, Nat.reduceShiftRight, Nat.reduceAnd, Nat.reduceBneDiff, Nat.reduceBNe, wi, er_nil]
    · rw [ite_f h1] at h
      refine .exit rfl ?_
      obtain rfl := Option.some.inj h
      refine .weak (Imp.co [] _ _ ?_ ?_ ?_ ?_ ?_) (hx _ rfl) <;> simp only [wz, wd, ws, Nat.reduceAdd, Nat.reduceSub, Nat.reduceMul, Nat.reduceLeDiff, Nat.reduceEqDiff, Nat.reduceLT, Nat.reduceBEq, reduceIte, reduceCtorEq, Int.reduceToNat, Nat.reduceShiftRight, Nat.reduceAnd, Nat.reduceBneDiff, Nat.reduceBNe, wi, er_nil]
theorem f_digest_Sum_l23_ok (s : Str) (s3 : Str × (List Int)) (y_ : Str) (R_ : St → Prop) (hR : (Ret Tryd.prog glP [] rv12 (.b (.s (.d (.str y_))))) = R_) : ∀ (m_ : Nat) (v46 : Int) (out : (List Int)) (res_ : Int × (List Int)) (h : f_digest_Sum_l23 s s3 m_ v46 out = some res_) (k_ : List It) (hx : ∀ s_ : Int × (List Int), res_ = s_ → W Tryd.prog glP 66 k_ ⟨lkT [(7, .b (.s (.own 62 s_.2.length))), (45, .b (.agg (ea (eI .u32) s3.2))), (46, .b (.s (.d (.int .i64 s_.1))))], lkG [(62, ⟨1, er (eI .u8) s_.2, false⟩)]⟩ R_), W Tryd.prog glP 66 (.c c12l23 :: .lp c12l23 :: .blk 6 :: k_) ⟨lkT [(7, .b (.s (.own 62 out.length))), (45, .b (.agg (ea (eI .u32) s3.2))), (46, .b (.s (.d (.int .i64 v46))))], lkG [(62, ⟨1, er (eI .u8) out, false⟩)]⟩ R_ := by
  intro m_; induction m_ with
  | zero => intro v46 out res_ h; rw [f_digest_Sum_l23.eq_1] at h; cases h
  | succ m_ ih =>
    intro v46 out res_ h k_ hx; rw [f_digest_Sum_l23.eq_2] at h; refine W.cdef c12l23.eq_1 ?_
    refine .seq ?_
    refine Rw.walk ?_
    simp only [wz, wd, ws, Nat.reduceAdd, Nat.reduceSub, Nat.reduceMul, Nat.reduceLeDiff, Nat.reduceEqDiff, Nat.reduceLT, Nat.reduceBEq, reduceIte, reduceCtorEq, Int.reduceToNat, Nat.reduceShiftRight, Nat.reduceAnd, Nat.reduceBneDiff, Nat.reduceBNe, c12r16, semI.eq_10, semI.eq_11, semI.eq_3, semI.eq_5, semI.eq_7]
    refine .seq ?_
    refine .cond (p := (decide (v46 < 8))) (by first | rfl | simp only [wz, wd, ws, Nat.reduceAdd, Nat.reduceSub, Nat.reduceMul, Nat.reduceLeDiff, Nat.reduceEqDiff, Nat.reduceLT, Nat.reduceBEq, reduceIte, reduceCtorEq, Int.reduceToNat, Nat.reduceShiftRight, Nat.reduceAnd, Nat.reduceBneDiff, Nat.reduceBNe]) (fun h1 => ?_) (fun h1 => ?_)
    · rw [ite_t h1] at h
      refine .skip ?_
      refine .seq ?_
      refine .blk ?_
      refine .seq ?_
      refine Rw.walk ?_
      simp only [wz, wd, ws, Nat.reduceAdd, Nat.reduceSub, Nat.reduceMul, Nat.reduceLeDiff, Nat.reduceEqDiff, Nat.reduceLT, Nat.reduceBEq, reduceIte, reduceCtorEq, Int.reduceToNat, Nat.reduceShiftRight, Nat.reduceAnd, Nat.reduceBneDiff, Nat.reduceBNe, c12r17, semI.eq_10, semI.eq_11, semI.eq_3, semI.eq_5, semI.eq_7]
      obtain ⟨g15, h⟩ := gd_iff.1 h
      obtain ⟨x, e16, h⟩ := Option.bind_eq_some_iff.1 h
      refine Go1.of (sem_idxA1 (eI_len _) e16 (by rfl) (by rfl) (by rfl)) ?_
      simp only [wz, wd, ws, Nat.reduceAdd, Nat.reduceSub, Nat.reduceMul, Nat.reduceLeDiff, Nat.reduceEqDiff, Nat.reduceLT, Nat.reduceBEq, reduceIte, reduceCtorEq, Int.reduceToNat, Nat.reduceShiftRight, Nat.reduceAnd, Nat.reduceBneDiff, Nat.reduceBNe, c12r17, semI.eq_10, semI.eq_11, semI.eq_3, semI.eq_5, semI.eq_7]
      repeat (refine And.intro ?_ ?_; · first | omega | (intro q; simp only [wz, wd, ws, Nat.reduceAdd, Nat.reduceSub, Nat.reduceMul, Nat.reduceLeDiff, Nat.reduceEqDiff, Nat.reduceLT, Nat.reduceBEq, reduceIte, reduceCtorEq, Int.reduceToNat, Nat.reduceShiftRight, Nat.reduceAnd, Nat.reduceBneDiff, Nat.reduceBNe, q]; done))
      refine Rw.walk ?_
      simp only [wz, wd, ws, Nat.reduceAdd, Nat.reduceSub, Nat.reduceMul, Nat.reduceLeDiff, Nat.reduceEqDiff, Nat.reduceLT, Nat.reduceBEq, reduceIte, reduceCtorEq, Int.reduceToNat, Nat.reduceShiftRight, Nat.reduceAnd, Nat.reduceBneDiff, Nat.reduceBNe, c12r18, semI.eq_10, semI.eq_11, semI.eq_3, semI.eq_5, semI.eq_7]
      repeat (refine And.intro ?_ ?_; · first | omega | (intro q; simp only [wz, wd, ws, Nat.reduceAdd, Nat.reduceSub, Nat.reduceMul, Nat.reduceLeDiff, Nat.reduceEqDiff, Nat.reduceLT, Nat.reduceBEq, reduceIte, reduceCtorEq, Int.reduceToNat, Nat.reduceShiftRight, Nat.reduceAnd, Nat.reduceBneDiff, Nat.reduceBNe, q]; done))
      refine Go1.of (sem_bsl (enc := (eI .u8)) (m := ([(IntKind.u8.wrap (x.fdiv (2 ^ (min 24 IntKind.u32.bits)))), (IntKind.u8.wrap (x.fdiv (2 ^ (min 16 IntKind.u32.bits)))), (IntKind.u8.wrap (x.fdiv (2 ^ (min 8 IntKind.u32.bits)))), (IntKind.u8.wrap x)] : List Int)) (eI_len _) (by rfl) (by rfl) (by rfl) ⟨trivial, trivial, trivial, trivial, trivial⟩) ?_
      simp only [wz, wd, ws, Nat.reduceAdd, Nat.reduceSub, Nat.reduceMul, Nat.reduceLeDiff, Nat.reduceEqDiff, Nat.reduceLT, Nat.reduceBEq, reduceIte, reduceCtorEq, Int.reduceToNat, Nat.reduceShiftRight, Nat.reduceAnd, Nat.reduceBneDiff, Nat.reduceBNe, c12r18, semI.eq_10, semI.eq_11, semI.eq_3, semI.eq_5, semI.eq_7]
      obtain ⟨g17, h⟩ := gd_iff.1 h
      refine Go1.of (sem_app (enc := (eI .u8)) (l := out) (m := ([(IntKind.u8.wrap (x.fdiv (2 ^ (min 24 IntKind.u32.bits)))), (IntKind.u8.wrap (x.fdiv (2 ^ (min 16 IntKind.u32.bits)))), (IntKind.u8.wrap (x.fdiv (2 ^ (min 8 IntKind.u32.bits)))), (IntKind.u8.wrap x)] : List Int)) (eI_len _) (by rfl) (by rfl) (newV_own (m := ([(IntKind.u8.wrap (x.fdiv (2 ^ (min 24 IntKind.u32.bits)))), (IntKind.u8.wrap (x.fdiv (2 ^ (min 16 IntKind.u32.bits)))), (IntKind.u8.wrap (x.fdiv (2 ^ (min 8 IntKind.u32.bits)))), (IntKind.u8.wrap x)] : List Int)) (by rfl) (by rfl))) ?_
      simp only [wz, wd, ws, Nat.reduceAdd, Nat.reduceSub, Nat.reduceMul, Nat.reduceLeDiff, Nat.reduceEqDiff, Nat.reduceLT, Nat.reduceBEq, reduceIte, reduceCtorEq, Int.reduceToNat, Nat.reduceShiftRight, Nat.reduceAnd, Nat.reduceBneDiff, Nat.reduceBNe, c12r18, semI.eq_10, semI.eq_11, semI.eq_3, semI.eq_5, semI.eq_7]
      repeat (refine And.intro ?_ ?_; · first | omega | (intro q; simp only [wz, wd, ws, Nat.reduceAdd, Nat.reduceSub, Nat.reduceMul, Nat.reduceLeDiff, Nat.reduceEqDiff, Nat.reduceLT, Nat.reduceBEq, reduceIte, reduceCtorEq, Int.reduceToNat, Nat.reduceShiftRight, Nat.reduceAnd, Nat.reduceBneDiff, Nat.reduceBNe, q]; done))
      refine .eblk ?_
      refine Rw.walk ?_
      simp only [wz, wd, ws, Nat.reduceAdd, Nat.reduceSub, Nat.reduceMul, Nat.reduceLeDiff, Nat.reduceEqDiff, Nat.reduceLT, Nat.reduceBEq, reduceIte, reduceCtorEq, Int.reduceToNat, Nat.reduceShiftRight, Nat.reduceAnd, Nat.reduceBneDiff, Nat.reduceBNe, c12r19, semI.eq_10, semI.eq_11, semI.eq_3, semI.eq_5, semI.eq_7]
      refine .lp ?_
      refine .weak (Imp.co [] _ _ ?_ ?_ ?_ ?_ ?_) (ih (IntKind.i64.wrap (v46 + 1)) (out ++ ([(IntKind.u8.wrap (x.fdiv (2 ^ (min 24 IntKind.u32.bits)))), (IntKind.u8.wrap (x.fdiv (2 ^ (min 16 IntKind.u32.bits)))), (IntKind.u8.wrap (x.fdiv (2 ^ (min 8 IntKind.u32.bits)))), (IntKind.u8.wrap x)] : List Int)) _ h k_ hx) <;> simp only [wz, wd, ws, Nat.reduceAdd, Nat.reduceSub, Nat.reduceMul, Nat.reduceLeDiff, Nat.reduceEqDiff, Nat.reduceLT, Nat.reduceBEq, reduceIte, reduceCtorEq, Int.reduceToNat, Nat.reduceShiftRight, Nat.reduceAnd, Nat.reduceBneDiff, Nat.reduceBNe, wi, er_nil]
    · rw [ite_f h1] at h
      refine .exit rfl ?_
      obtain rfl := Option.some.inj h
      refine .weak (Imp.co [] _ _ ?_ ?_ ?_ ?_ ?_) (hx _ rfl) <;> simp only [wz, wd, ws, Nat.reduceAdd, Nat.reduceSub, Nat.reduceMul, Nat.reduceLeDiff, Nat.reduceEqDiff, Nat.reduceLT, Nat.reduceBEq, reduceIte, reduceCtorEq, Int.reduceToNat, Nat.reduceShiftRight, Nat.reduceAnd, Nat.reduceBneDiff, Nat.reduceBNe, wi, er_nil]
theorem f_digest_Sum_ok (parts : (List Str)) (y_ : Str) (h : f_digest_Sum parts = some y_) : Fun Tryd.prog glP 12 [.b (.s (.d (.sl (parts.map eS))))] (.b (.s (.d (.str y_)))) := by
  refine fun_walk [] Tryd.func12 Tryd.ntmps12 cc12 cr12 (by kernel_rfl) (by simp only [List.length_cons, List.length_nil]; decide) ?_
  generalize hR : Ret _ _ _ _ _ = R_
  simp only [wz, wd, ws, Nat.reduceAdd, Nat.reduceSub, Nat.reduceMul, Nat.reduceLeDiff, Nat.reduceEqDiff, Nat.reduceLT, Nat.reduceBEq, reduceIte, reduceCtorEq, Int.reduceToNat, Nat.reduceShiftRight, Nat.reduceAnd, Nat.reduceBneDiff, Nat.reduceBNe]
  unfold f_digest_Sum at h; unfold c12
  refine .seq ?_
  refine Rw.walk ?_
  simp only [wz, wd, ws, Nat.reduceAdd, Nat.reduceSub, Nat.reduceMul, Nat.reduceLeDiff, Nat.reduceEqDiff, Nat.reduceLT, Nat.reduceBEq, reduceIte, reduceCtorEq, Int.reduceToNat, Nat.reduceShiftRight, Nat.reduceAnd, Nat.reduceBneDiff, Nat.reduceBNe, c12r0, semI.eq_10, semI.eq_11, semI.eq_3, semI.eq_5, semI.eq_7]
  refine .seq ?_
  refine Rw.walk ?_
  simp only [wz, wd, ws, Nat.reduceAdd, Nat.reduceSub, Nat.reduceMul, Nat.reduceLeDiff, Nat.reduceEqDiff, Nat.reduceLT, Nat.reduceBEq, reduceIte, reduceCtorEq, Int.reduceToNat, Nat.reduceShiftRight, Nat.reduceAnd, Nat.reduceBneDiff, Nat.reduceBNe, c12r1, semI.eq_10, semI.eq_11, semI.eq_3, semI.eq_5, semI.eq_7]
  obtain ⟨t, e1, h⟩ := Option.bind_eq_some_iff.1 h
  refine call_fun [] false ⟨trivial, trivial, trivial, trivial⟩ rfl ?_ (f_strings_Join_ok _ _ _ e1) (fun _ => rfl) (fun i hi => by cases hi) ?_
  · simp only [wz, wd, ws, Nat.reduceAdd, Nat.reduceSub, Nat.reduceMul, Nat.reduceLeDiff, Nat.reduceEqDiff, Nat.reduceLT, Nat.reduceBEq, reduceIte, reduceCtorEq, Int.reduceToNat, Nat.reduceShiftRight, Nat.reduceAnd, Nat.reduceBneDiff, Nat.reduceBNe]
  simp only [wz, wd, ws, Nat.reduceAdd, Nat.reduceSub, Nat.reduceMul, Nat.reduceLeDiff, Nat.reduceEqDiff, Nat.reduceLT, Nat.reduceBEq, reduceIte, reduceCtorEq, Int.reduceToNat, Nat.reduceShiftRight, Nat.reduceAnd, Nat.reduceBneDiff, Nat.reduceBNe, c12r1, semI.eq_10, semI.eq_11, semI.eq_3, semI.eq_5, semI.eq_7]
  refine .seq ?_
  refine Rw.walk ?_
  simp only [wz, wd, ws, Nat.reduceAdd, Nat.reduceSub, Nat.reduceMul, Nat.reduceLeDiff, Nat.reduceEqDiff, Nat.reduceLT, Nat.reduceBEq, reduceIte, reduceCtorEq, Int.reduceToNat, Nat.reduceShiftRight, Nat.reduceAnd, Nat.reduceBneDiff, Nat.reduceBNe, c12r2, semI.eq_10, semI.eq_11, semI.eq_3, semI.eq_5, semI.eq_7]
  refine .seq ?_
  refine Rw.walk ?_
  obtain ⟨g2, h⟩ := gd_iff.1 h
  simp only [wz, wd, ws, Nat.reduceAdd, Nat.reduceSub, Nat.reduceMul, Nat.reduceLeDiff, Nat.reduceEqDiff, Nat.reduceLT, Nat.reduceBEq, reduceIte, reduceCtorEq, Int.reduceToNat, Nat.reduceShiftRight, Nat.reduceAnd, Nat.reduceBneDiff, Nat.reduceBNe, c12r3, semI.eq_10, semI.eq_11, semI.eq_3, semI.eq_5, semI.eq_7]
  repeat (refine And.intro ?_ ?_; · first | omega | (intro q; simp only [wz, wd, ws, Nat.reduceAdd, Nat.reduceSub, Nat.reduceMul, Nat.reduceLeDiff, Nat.reduceEqDiff, Nat.reduceLT, Nat.reduceBEq, reduceIte, reduceCtorEq, Int.reduceToNat, Nat.reduceShiftRight, Nat.reduceAnd, Nat.reduceBneDiff, Nat.reduceBNe, q]; done))
  refine .seq ?_
  refine .blk ?_
  obtain ⟨s, hf, h⟩ := Option.bind_eq_some_iff.1 h
  refine .loop (.weak (Imp.co [] _ _ ?c1 ?c2 ?c3 ?c4 ?c5) (f_digest_Sum_l6_ok t _ _ hR _ _ _ hf _ ?_))
  case c1 | c2 | c3 | c4 | c5 => simp only [wz, wd, ws, Nat.reduceAdd, Nat.reduceSub, Nat.reduceMul, Nat.reduceLeDiff, Nat.reduceEqDiff, Nat.reduceLT, Nat.reduceBEq, reduceIte, reduceCtorEq, Int.reduceToNat, Nat.reduceShiftRight, Nat.reduceAnd, Nat.reduceBneDiff, Nat.reduceBNe, wi, er_nil]
  · intro s_ hs; subst hs
    refine .seq ?_
    refine .seq ?_
    refine Rw.walk ?_
    simp only [wz, wd, ws, Nat.reduceAdd, Nat.reduceSub, Nat.reduceMul, Nat.reduceLeDiff, Nat.reduceEqDiff, Nat.reduceLT, Nat.reduceBEq, reduceIte, reduceCtorEq, Int.reduceToNat, Nat.reduceShiftRight, Nat.reduceAnd, Nat.reduceBneDiff, Nat.reduceBNe, c12r6, semI.eq_10, semI.eq_11, semI.eq_3, semI.eq_5, semI.eq_7]
    refine .blk ?_
    obtain ⟨s2, hf, h⟩ := Option.bind_eq_some_iff.1 h
    refine .loop (.weak (Imp.co [] _ _ ?c1 ?c2 ?c3 ?c4 ?c5) (f_digest_Sum_l11_ok t s _ _ hR _ _ _ _ hf _ ?_))
    case c1 | c2 | c3 | c4 | c5 => simp only [wz, wd, ws, Nat.reduceAdd, Nat.reduceSub, Nat.reduceMul, Nat.reduceLeDiff, Nat.reduceEqDiff, Nat.reduceLT, Nat.reduceBEq, reduceIte, reduceCtorEq, Int.reduceToNat, Nat.reduceShiftRight, Nat.reduceAnd, Nat.reduceBneDiff, Nat.reduceBNe, wi, er_nil]
    · intro s2_ hs; subst hs
      refine .seq ?_
      refine Rw.walk ?_
      simp only [wz, wd, ws, Nat.reduceAdd, Nat.reduceSub, Nat.reduceMul, Nat.reduceLeDiff, Nat.reduceEqDiff, Nat.reduceLT, Nat.reduceBEq, reduceIte, reduceCtorEq, Int.reduceToNat, Nat.reduceShiftRight, Nat.reduceAnd, Nat.reduceBneDiff, Nat.reduceBNe, c12r10]
      obtain ⟨t2, e7, h⟩ := Option.bind_eq_some_iff.1 h
      refine call_fun [] true ⟨trivial, trivial⟩ rfl ?_ (f_digest_begins_ok _ e7) (fun h => by cases h) (fun i hi => by cases hi) ?_
      · simp only [wz, wd, ws, Nat.reduceAdd, Nat.reduceSub, Nat.reduceMul, Nat.reduceLeDiff, Nat.reduceEqDiff, Nat.reduceLT, Nat.reduceBEq, reduceIte, reduceCtorEq, Int.reduceToNat, Nat.reduceShiftRight, Nat.reduceAnd, Nat.reduceBneDiff, Nat.reduceBNe]
      simp only [wz, wd, ws, Nat.reduceAdd, Nat.reduceSub, Nat.reduceMul, Nat.reduceLeDiff, Nat.reduceEqDiff, Nat.reduceLT, Nat.reduceBEq, reduceIte, reduceCtorEq, Int.reduceToNat, Nat.reduceShiftRight, Nat.reduceAnd, Nat.reduceBneDiff, Nat.reduceBNe, c12r10]
      refine Go1.of (sem_newA (enc := (eI .u32)) (l := (List.replicate 8 0)) (by first | rfl | (simp only [List.length_map, List.length_replicate, List.length_set]; rfl)) (by first | rfl | (simp only [List.length_map, List.length_replicate, List.length_set]; rfl)) (by first | rfl | (simp only [List.length_map, List.length_replicate, List.length_set]; rfl))) ?_
      simp only [wz, wd, ws, Nat.reduceAdd, Nat.reduceSub, Nat.reduceMul, Nat.reduceLeDiff, Nat.reduceEqDiff, Nat.reduceLT, Nat.reduceBEq, reduceIte, reduceCtorEq, Int.reduceToNat, Nat.reduceShiftRight, Nat.reduceAnd, Nat.reduceBneDiff, Nat.reduceBNe, c12r10]
      obtain ⟨g8, h⟩ := gd_iff.1 h
      refine Go1.of (sem_storeW (l := (List.replicate 8 0)) (m := t2) (n0 := 8) (eI_len _) (by first | rfl | (simp only [List.length_map, List.length_replicate, List.length_set]; rfl)) (by first | rfl | (simp only [List.length_map, List.length_replicate, List.length_set]; rfl)) (by first | rfl | (simp only [List.length_map, List.length_replicate, List.length_set]; rfl)) (by first | exact trivial | exact Eq.refl _) (by first | rfl | (simp only [List.length_map, List.length_replicate, List.length_set]; rfl)) (by first | exact g8 | exact Eq.refl _)) ?_
      simp only [wz, wd, ws, Nat.reduceAdd, Nat.reduceSub, Nat.reduceMul, Nat.reduceLeDiff, Nat.reduceEqDiff, Nat.reduceLT, Nat.reduceBEq, reduceIte, reduceCtorEq, Int.reduceToNat, Nat.reduceShiftRight, Nat.reduceAnd, Nat.reduceBneDiff, Nat.reduceBNe, c12r10]
      refine .seq ?_
      refine .blk ?_
      obtain ⟨s3, hf, h⟩ := Option.bind_eq_some_iff.1 h
      refine .loop (.weak (Imp.co [] _ _ ?c1 ?c2 ?c3 ?c4 ?c5) (f_digest_Sum_l16_ok s _ _ hR _ _ _ _ hf _ ?_))
      case c1 | c2 | c3 | c4 | c5 => simp only [wz, wd, ws, Nat.reduceAdd, Nat.reduceSub, Nat.reduceMul, Nat.reduceLeDiff, Nat.reduceEqDiff, Nat.reduceLT, Nat.reduceBEq, reduceIte, reduceCtorEq, Int.reduceToNat, Nat.reduceShiftRight, Nat.reduceAnd, Nat.reduceBneDiff, Nat.reduceBNe, wi, er_nil]
      · intro s3_ hs; subst hs
        refine .seq ?_
        refine Rw.walk ?_
        simp only [wz, wd, ws, Nat.reduceAdd, Nat.reduceSub, Nat.reduceMul, Nat.reduceLeDiff, Nat.reduceEqDiff, Nat.reduceLT, Nat.reduceBEq, reduceIte, reduceCtorEq, Int.reduceToNat, Nat.reduceShiftRight, Nat.reduceAnd, Nat.reduceBneDiff, Nat.reduceBNe, c12r14, semI.eq_10, semI.eq_11, semI.eq_3, semI.eq_5, semI.eq_7]
        refine .seq ?_
        refine .seq ?_
        refine Rw.walk ?_
        simp only [wz, wd, ws, Nat.reduceAdd, Nat.reduceSub, Nat.reduceMul, Nat.reduceLeDiff, Nat.reduceEqDiff, Nat.reduceLT, Nat.reduceBEq, reduceIte, reduceCtorEq, Int.reduceToNat, Nat.reduceShiftRight, Nat.reduceAnd, Nat.reduceBneDiff, Nat.reduceBNe, c12r15, semI.eq_3, semI.eq_5, semI.eq_7]
        obtain ⟨g14, h⟩ := gd_iff.1 h
        refine Go1.of (sem_loadW (n0 := 8) (by rfl) (eI_len _) (by rfl) (by rfl) (by rfl) (by first | exact g14 | exact Eq.refl _)) ?_
        simp only [wz, wd, ws, Nat.reduceAdd, Nat.reduceSub, Nat.reduceMul, Nat.reduceLeDiff, Nat.reduceEqDiff, Nat.reduceLT, Nat.reduceBEq, reduceIte, reduceCtorEq, Int.reduceToNat, Nat.reduceShiftRight, Nat.reduceAnd, Nat.reduceBneDiff, Nat.reduceBNe, c12r15, semI.eq_3, semI.eq_5, semI.eq_7]
        refine .blk ?_
        obtain ⟨s4, hf, h⟩ := Option.bind_eq_some_iff.1 h
        refine .weak (Imp.adoptN 7 62 1 rfl rfl) ?_
        simp only [wz, wd, ws, Nat.reduceAdd, Nat.reduceSub, Nat.reduceMul, Nat.reduceLeDiff, Nat.reduceEqDiff, Nat.reduceLT, Nat.reduceBEq, reduceIte, reduceCtorEq, Int.reduceToNat, Nat.reduceShiftRight, Nat.reduceAnd, Nat.reduceBneDiff, Nat.reduceBNe]
        refine .loop (.weak (Imp.co [] _ _ ?c1 ?c2 ?c3 ?c4 ?c5) (f_digest_Sum_l23_ok s s3 _ _ hR _ _ _ _ hf _ ?_))
        case c1 | c2 | c3 | c4 | c5 => simp only [wz, wd, ws, Nat.reduceAdd, Nat.reduceSub, Nat.reduceMul, Nat.reduceLeDiff, Nat.reduceEqDiff, Nat.reduceLT, Nat.reduceBEq, reduceIte, reduceCtorEq, Int.reduceToNat, Nat.reduceShiftRight, Nat.reduceAnd, Nat.reduceBneDiff, Nat.reduceBNe, wi, er_nil]
        · intro s4_ hs; subst hs
          refine .seq ?_
          refine Rw.walk ?_
          simp only [wz, wd, ws, Nat.reduceAdd, Nat.reduceSub, Nat.reduceMul, Nat.reduceLeDiff, Nat.reduceEqDiff, Nat.reduceLT, Nat.reduceBEq, reduceIte, reduceCtorEq, Int.reduceToNat, Nat.reduceShiftRight, Nat.reduceAnd, Nat.reduceBneDiff, Nat.reduceBNe, c12r20, semI.eq_10, semI.eq_11, semI.eq_3, semI.eq_5, semI.eq_7]
          refine Go1.of (sem_b2s (n := s4.2) (rowsV_own (m := s4.2) (by rfl) (by rfl))) ?_
          simp only [wz, wd, ws, Nat.reduceAdd, Nat.reduceSub, Nat.reduceMul, Nat.reduceLeDiff, Nat.reduceEqDiff, Nat.reduceLT, Nat.reduceBEq, reduceIte, reduceCtorEq, Int.reduceToNat, Nat.reduceShiftRight, Nat.reduceAnd, Nat.reduceBneDiff, Nat.reduceBNe, c12r20, semI.eq_10, semI.eq_11, semI.eq_3, semI.eq_5, semI.eq_7]
          obtain rfl := Option.some.inj h
          refine .ret ?_
          rw [← hR]
          simp only [wz, wd, ws, Nat.reduceAdd, Nat.reduceSub, Nat.reduceMul, Nat.reduceLeDiff, Nat.reduceEqDiff, Nat.reduceLT, Nat.reduceBEq, reduceIte, reduceCtorEq, Int.reduceToNat, Nat.reduceShiftRight, Nat.reduceAnd, Nat.reduceBneDiff, Nat.reduceBNe, rv12]
-- 14 consignor/digest.Of
def c14r0 : List Opn := [
  ⟨(some 2), none, .mv (.c (.s (.d (.str []))))⟩]
def c14r1 : List Opn := [
  ⟨(some 3), none, .mv (.t 0)⟩, 
  ⟨(some 4), none, .bsl 1 [(.t 3)]⟩, 
  ⟨(some 5), none, .call (.fn 12) [(.t 4)]⟩, 
  ⟨(some 6), none, .call (.fn 34) [(.t 5)]⟩, 
  ⟨(some 7), none, .bin .add (.c (.s (.d (.str [115, 104, 97, 50, 53, 54, 58])))) (.t 6)⟩, 
  ⟨(some 2), none, .mv (.t 7)⟩]
def c14 : C := .seq (.reg c14r0 none [0]) (.seq (.reg c14r1 none [2]) (.ret))
def k14 : List (Nat × List Nat) := [(1, [2]), (0, [0])]
theorem cc14 : (Tryd.f14.body).bind (cC Tryd.prog 8 k14) = some c14 := by kernel_rfl
def rv14 : List RV := [.t 2]
theorem cr14 : cRVs Tryd.prog Tryd.f14.results.toList = some rv14 := by kernel_rfl
theorem f_digest_Of_ok (s : Str) (y_ : Str) (h : f_digest_Of s = some y_) : Fun Tryd.prog glP 14 [.b (.s (.d (.str s)))] (.b (.s (.d (.str y_)))) := by
  refine fun_walk [] Tryd.func14 Tryd.ntmps14 cc14 cr14 (by kernel_rfl) (by simp only [List.length_cons, List.length_nil]; decide) ?_
  generalize hR : Ret _ _ _ _ _ = R_
  simp only [wz, wd, ws, Nat.reduceAdd, Nat.reduceSub, Nat.reduceMul, Nat.reduceLeDiff, Nat.reduceEqDiff, Nat.reduceLT, Nat.reduceBEq, reduceIte, reduceCtorEq, Int.reduceToNat, Nat.reduceShiftRight, Nat.reduceAnd, Nat.reduceBneDiff, Nat.reduceBNe]
  unfold f_digest_Of at h; unfold c14
  refine .seq ?_
  refine Rw.walk ?_
  simp only [wz, wd, ws, Nat.reduceAdd, Nat.reduceSub, Nat.reduceMul, Nat.reduceLeDiff, Nat.reduceEqDiff, Nat.reduceLT, Nat.reduceBEq, reduceIte, reduceCtorEq, Int.reduceToNat, Nat.reduceShiftRight, Nat.reduceAnd, Nat.reduceBneDiff, Nat.reduceBNe, c14r0, semI.eq_10, semI.eq_11, semI.eq_3, semI.eq_5, semI.eq_7]
  refine .seq ?_
  refine Rw.walk ?_
  simp only [wz, wd, ws, Nat.reduceAdd, Nat.reduceSub, Nat.reduceMul, Nat.reduceLeDiff, Nat.reduceEqDiff, Nat.reduceLT, Nat.reduceBEq, reduceIte, reduceCtorEq, Int.reduceToNat, Nat.reduceShiftRight, Nat.reduceAnd, Nat.reduceBneDiff, Nat.reduceBNe, c14r1, semI.eq_10, semI.eq_11, semI.eq_3, semI.eq_5, semI.eq_7]
  refine Go1.of (sem_bsl (enc := eS) (m := ([s] : List Str)) eS_len (by rfl) (by rfl) (by rfl) ⟨trivial, trivial⟩) ?_
  simp only [wz, wd, ws, Nat.reduceAdd, Nat.reduceSub, Nat.reduceMul, Nat.reduceLeDiff, Nat.reduceEqDiff, Nat.reduceLT, Nat.reduceBEq, reduceIte, reduceCtorEq, Int.reduceToNat, Nat.reduceShiftRight, Nat.reduceAnd, Nat.reduceBneDiff, Nat.reduceBNe, c14r1, semI.eq_10, semI.eq_11, semI.eq_3, semI.eq_5, semI.eq_7]
  obtain ⟨t, e1, h⟩ := Option.bind_eq_some_iff.1 h
  refine call_fun [4] false ⟨trivial, trivial, trivial⟩ rfl ?_ (f_digest_Sum_ok _ _ e1) (fun _ => rfl) (fun i hi e he => coF_get (l := [4]) (by simp only [wz, wd, ws, Nat.reduceAdd, Nat.reduceSub, Nat.reduceMul, Nat.reduceLeDiff, Nat.reduceEqDiff, Nat.reduceLT, Nat.reduceBEq, reduceIte, reduceCtorEq, Int.reduceToNat, Nat.reduceShiftRight, Nat.reduceAnd, Nat.reduceBneDiff, Nat.reduceBNe, wi]) i e hi he) ?_
  · simp only [wz, wd, ws, Nat.reduceAdd, Nat.reduceSub, Nat.reduceMul, Nat.reduceLeDiff, Nat.reduceEqDiff, Nat.reduceLT, Nat.reduceBEq, reduceIte, reduceCtorEq, Int.reduceToNat, Nat.reduceShiftRight, Nat.reduceAnd, Nat.reduceBneDiff, Nat.reduceBNe]
  simp only [wz, wd, ws, Nat.reduceAdd, Nat.reduceSub, Nat.reduceMul, Nat.reduceLeDiff, Nat.reduceEqDiff, Nat.reduceLT, Nat.reduceBEq, reduceIte, reduceCtorEq, Int.reduceToNat, Nat.reduceShiftRight, Nat.reduceAnd, Nat.reduceBneDiff, Nat.reduceBNe, c14r1, semI.eq_10, semI.eq_11, semI.eq_3, semI.eq_5, semI.eq_7]
  obtain ⟨t2, e2, h⟩ := Option.bind_eq_some_iff.1 h
  refine call_fun [] false ⟨trivial, trivial, trivial⟩ rfl ?_ (f_octet_Hex_ok _ _ e2) (fun _ => rfl) (fun i hi => by cases hi) ?_
  · simp only [wz, wd, ws, Nat.reduceAdd, Nat.reduceSub, Nat.reduceMul, Nat.reduceLeDiff, Nat.reduceEqDiff, Nat.reduceLT, Nat.reduceBEq, reduceIte, reduceCtorEq, Int.reduceToNat, Nat.reduceShiftRight, Nat.reduceAnd, Nat.reduceBneDiff, Nat.reduceBNe]
  simp only [wz, wd, ws, Nat.reduceAdd, Nat.reduceSub, Nat.reduceMul, Nat.reduceLeDiff, Nat.reduceEqDiff, Nat.reduceLT, Nat.reduceBEq, reduceIte, reduceCtorEq, Int.reduceToNat, Nat.reduceShiftRight, Nat.reduceAnd, Nat.reduceBneDiff, Nat.reduceBNe, c14r1, semI.eq_10, semI.eq_11, semI.eq_3, semI.eq_5, semI.eq_7]
  obtain ⟨g3, h⟩ := gd_iff.1 h
  repeat (refine And.intro ?_ ?_; · first | omega | (intro q; simp only [wz, wd, ws, Nat.reduceAdd, Nat.reduceSub, Nat.reduceMul, Nat.reduceLeDiff, Nat.reduceEqDiff, Nat.reduceLT, Nat.reduceBEq, reduceIte, reduceCtorEq, Int.reduceToNat, Nat.reduceShiftRight, Nat.reduceAnd, Nat.reduceBneDiff, Nat.reduceBNe, q]; done))
  obtain rfl := Option.some.inj h
  refine .ret ?_
  rw [← hR]
  simp only [wz, wd, ws, Nat.reduceAdd, Nat.reduceSub, Nat.reduceMul, Nat.reduceLeDiff, Nat.reduceEqDiff, Nat.reduceLT, Nat.reduceBEq, reduceIte, reduceCtorEq, Int.reduceToNat, Nat.reduceShiftRight, Nat.reduceAnd, Nat.reduceBneDiff, Nat.reduceBNe, rv14]
-- 69 internal/stringslite.HasPrefix
def c69r0 : List Opn := [
  ⟨(some 4), none, .mv (.c (.s (.d (.bool false))))⟩]
def c69r1 : List Opn := [
  ⟨(some 5), none, .mv (.t 0)⟩, 
  ⟨(some 6), none, .len .str (.t 5)⟩, 
  ⟨(some 7), none, .mv (.t 1)⟩, 
  ⟨(some 8), none, .len .str (.t 7)⟩, 
  ⟨(some 9), none, .bin .geq (.t 6) (.t 8)⟩, 
  ⟨(some 10), none, .mv (.t 9)⟩, 
  ⟨(some 11), some (10, true), .mv (.t 0)⟩, 
  ⟨(some 12), some (10, true), .mv (.t 1)⟩, 
  ⟨(some 13), some (10, true), .len .str (.t 12)⟩, 
  ⟨(some 14), some (10, true), .slc .str (.t 11) none (some (.t 13)) none⟩, 
  ⟨(some 15), some (10, true), .mv (.t 1)⟩, 
  ⟨(some 16), some (10, true), .bin .eql (.t 14) (.t 15)⟩, 
  ⟨(some 17), none, .pick (.t 10) (.t 16) (.c (.s (.d (.bool false))))⟩, 
  ⟨(some 4), none, .mv (.t 17)⟩]
def c69 : C := .seq (.reg c69r0 none [0, 1]) (.seq (.reg c69r1 none [4]) (.ret))
def k69 : List (Nat × List Nat) := [(1, [4]), (0, [0, 1])]
theorem cc69 : (Tryd.f69.body).bind (cC Tryd.prog 18 k69) = some c69 := by kernel_rfl
def rv69 : List RV := [.t 4]
theorem cr69 : cRVs Tryd.prog Tryd.f69.results.toList = some rv69 := by kernel_rfl
theorem f_internal_stringslite_HasPrefix_ok (s : Str) (prefixv : Str) (y_ : Bool) (h : f_internal_stringslite_HasPrefix s prefixv = some y_) : Fun Tryd.prog glP 69 [.b (.s (.d (.str s))), .b (.s (.d (.str prefixv)))] (.b (.s (.d (.bool y_)))) := by
  refine fun_walk [] Tryd.func69 Tryd.ntmps69 cc69 cr69 (by kernel_rfl) (by simp only [List.length_cons, List.length_nil]; decide) ?_
  generalize hR : Ret _ _ _ _ _ = R_
  simp only [wz, wd, ws, Nat.reduceAdd, Nat.reduceSub, Nat.reduceMul, Nat.reduceLeDiff, Nat.reduceEqDiff, Nat.reduceLT, Nat.reduceBEq, reduceIte, reduceCtorEq, Int.reduceToNat, Nat.reduceShiftRight, Nat.reduceAnd, Nat.reduceBneDiff, Nat.reduceBNe]
  unfold f_internal_stringslite_HasPrefix at h; unfold c69
  refine .seq ?_
  refine Rw.walk ?_
  simp only [wz, wd, ws, Nat.reduceAdd, Nat.reduceSub, Nat.reduceMul, Nat.reduceLeDiff, Nat.reduceEqDiff, Nat.reduceLT, Nat.reduceBEq, reduceIte, reduceCtorEq, Int.reduceToNat, Nat.reduceShiftRight, Nat.reduceAnd, Nat.reduceBneDiff, Nat.reduceBNe, c69r0, semI.eq_10, semI.eq_11, semI.eq_3, semI.eq_5, semI.eq_7]
  refine .seq ?_
  refine Rw.walk ?_
  obtain ⟨g1, h⟩ := gd_iff.1 h
  simp only [wz, wd, ws, Nat.reduceAdd, Nat.reduceSub, Nat.reduceMul, Nat.reduceLeDiff, Nat.reduceEqDiff, Nat.reduceLT, Nat.reduceBEq, reduceIte, reduceCtorEq, Int.reduceToNat, Nat.reduceShiftRight, Nat.reduceAnd, Nat.reduceBneDiff, Nat.reduceBNe, c69r1, semI.eq_10, semI.eq_11, semI.eq_3, semI.eq_5, semI.eq_7]
  repeat (refine And.intro ?_ ?_; · first | omega | exact g1 | (intro q; first | omega | (have q2 := g1 (by simpa using q); omega) | (have q2 := g1 q; omega) | (have q2 := g1 (by simpa using q); simp only [List.length_append, List.length_cons, List.length_nil] at q2 ⊢; omega)) | (intro q; simp only [wz, wd, ws, Nat.reduceAdd, Nat.reduceSub, Nat.reduceMul, Nat.reduceLeDiff, Nat.reduceEqDiff, Nat.reduceLT, Nat.reduceBEq, reduceIte, reduceCtorEq, Int.reduceToNat, Nat.reduceShiftRight, Nat.reduceAnd, Nat.reduceBneDiff, Nat.reduceBNe, q]; done))
  obtain rfl := Option.some.inj h
  refine .ret ?_
  rw [← hR]
  simp only [wz, wd, ws, Nat.reduceAdd, Nat.reduceSub, Nat.reduceMul, Nat.reduceLeDiff, Nat.reduceEqDiff, Nat.reduceLT, Nat.reduceBEq, reduceIte, reduceCtorEq, Int.reduceToNat, Nat.reduceShiftRight, Nat.reduceAnd, Nat.reduceBneDiff, Nat.reduceBNe, rv69]
end Go.Proofs.YtjhgkcbhllomaaaDoor.V
end

section
/- Go functions compute what Lean functions do. -/
namespace Go.Proofs.YtjhgkcbhllomaaaDoor.V
open Go Go.RowKit
set_option linter.unusedVariables false
set_option linter.unusedSimpArgs false
set_option maxHeartbeats 1000000
-- 60 internal/stringslite.CutPrefix
def c60r0 : List Opn := [
  ⟨(some 4), none, .mv (.c (.s (.d (.str []))))⟩, 
  ⟨(some 5), none, .mv (.c (.s (.d (.bool false))))⟩]
def c60r1 : List Opn := [
  ⟨(some 6), none, .mv (.t 0)⟩, 
  ⟨(some 7), none, .mv (.t 1)⟩, 
  ⟨(some 8), none, .call (.fn 69) [(.t 6), (.t 7)]⟩, 
  ⟨(some 9), none, .un .not (.t 8)⟩]
def c60r2 : List Opn := [
  ⟨(some 10), none, .mv (.t 0)⟩, 
  ⟨(some 4), none, .mv (.t 10)⟩, 
  ⟨(some 5), none, .mv (.c (.s (.d (.bool false))))⟩]
def c60r3 : List Opn := [
  ⟨(some 11), none, .mv (.t 0)⟩, 
  ⟨(some 12), none, .mv (.t 1)⟩, 
  ⟨(some 13), none, .len .str (.t 12)⟩, 
  ⟨(some 14), none, .slc .str (.t 11) (some (.t 13)) none none⟩, 
  ⟨(some 4), none, .mv (.t 14)⟩, 
  ⟨(some 5), none, .mv (.c (.s (.d (.bool true))))⟩]
def c60 : C := .seq (.reg c60r0 none [0, 1]) (.seq (.seq (.reg c60r1 none [0, 1, 9]) (.cond (.t 9) (.seq (.reg c60r2 none [4, 5]) (.ret)) (.skip))) (.seq (.reg c60r3 none [4, 5]) (.ret)))
def k60 : List (Nat × List Nat) := [(3, [4, 5]), (2, [4, 5]), (1, [0, 1, 9]), (0, [0, 1])]
theorem cc60 : (Tryd.f60.body).bind (cC Tryd.prog 15 k60) = some c60 := by kernel_rfl
def rv60 : List RV := [.t 4, .t 5]
theorem cr60 : cRVs Tryd.prog Tryd.f60.results.toList = some rv60 := by kernel_rfl
theorem f_internal_stringslite_CutPrefix_ok (s : Str) (prefixv : Str) (y_ : Str × Bool) (h : f_internal_stringslite_CutPrefix s prefixv = some y_) : Fun Tryd.prog glP 60 [.b (.s (.d (.str s))), .b (.s (.d (.str prefixv)))] (.tup [.s (.d (.str y_.1)), .s (.d (.bool y_.2))]) := by
  refine fun_walk [] Tryd.func60 Tryd.ntmps60 cc60 cr60 (by kernel_rfl) (by simp only [List.length_cons, List.length_nil]; decide) ?_
  generalize hR : Ret _ _ _ _ _ = R_
  simp only [wz, wd, ws, Nat.reduceAdd, Nat.reduceSub, Nat.reduceMul, Nat.reduceLeDiff, Nat.reduceEqDiff, Nat.reduceLT, Nat.reduceBEq, reduceIte, reduceCtorEq, Int.reduceToNat, Nat.reduceShiftRight, Nat.reduceAnd, Nat.reduceBneDiff, Nat.reduceBNe]
  unfold f_internal_stringslite_CutPrefix at h; unfold c60
  refine .seq ?_
  refine Rw.walk ?_
  simp only [wz, wd, ws, Nat.reduceAdd, Nat.reduceSub, Nat.reduceMul, Nat.reduceLeDiff, Nat.reduceEqDiff, Nat.reduceLT, Nat.reduceBEq, reduceIte, reduceCtorEq, Int.reduceToNat, Nat.reduceShiftRight, Nat.reduceAnd, Nat.reduceBneDiff, Nat.reduceBNe, c60r0, semI.eq_10, semI.eq_11, semI.eq_3, semI.eq_5, semI.eq_7]
  refine .seq ?_
  refine .seq ?_
  refine Rw.walk ?_
  simp only [wz, wd, ws, Nat.reduceAdd, Nat.reduceSub, Nat.reduceMul, Nat.reduceLeDiff, Nat.reduceEqDiff, Nat.reduceLT, Nat.reduceBEq, reduceIte, reduceCtorEq, Int.reduceToNat, Nat.reduceShiftRight, Nat.reduceAnd, Nat.reduceBneDiff, Nat.reduceBNe, c60r1, semI.eq_10, semI.eq_11, semI.eq_3, semI.eq_5, semI.eq_7]
  obtain ⟨t, e1, h⟩ := Option.bind_eq_some_iff.1 h
  refine call_fun [] false ⟨trivial, trivial, trivial, trivial⟩ rfl ?_ (f_internal_stringslite_HasPrefix_ok _ _ _ e1) (fun _ => rfl) (fun i hi => by cases hi) ?_
  · simp only [wz, wd, ws, Nat.reduceAdd, Nat.reduceSub, Nat.reduceMul, Nat.reduceLeDiff, Nat.reduceEqDiff, Nat.reduceLT, Nat.reduceBEq, reduceIte, reduceCtorEq, Int.reduceToNat, Nat.reduceShiftRight, Nat.reduceAnd, Nat.reduceBneDiff, Nat.reduceBNe]
  simp only [wz, wd, ws, Nat.reduceAdd, Nat.reduceSub, Nat.reduceMul, Nat.reduceLeDiff, Nat.reduceEqDiff, Nat.reduceLT, Nat.reduceBEq, reduceIte, reduceCtorEq, Int.reduceToNat, Nat.reduceShiftRight, Nat.reduceAnd, Nat.reduceBneDiff, Nat.reduceBNe, c60r1, semI.eq_10, semI.eq_11, semI.eq_3, semI.eq_5, semI.eq_7]
  refine .cond (p := (!t)) (by first | rfl | simp only [wz, wd, ws, Nat.reduceAdd, Nat.reduceSub, Nat.reduceMul, Nat.reduceLeDiff, Nat.reduceEqDiff, Nat.reduceLT, Nat.reduceBEq, reduceIte, reduceCtorEq, Int.reduceToNat, Nat.reduceShiftRight, Nat.reduceAnd, Nat.reduceBneDiff, Nat.reduceBNe]) (fun h1 => ?_) (fun h1 => ?_)
  · rw [ite_t h1] at h
    refine .seq ?_
    refine Rw.walk ?_
    simp only [wz, wd, ws, Nat.reduceAdd, Nat.reduceSub, Nat.reduceMul, Nat.reduceLeDiff, Nat.reduceEqDiff, Nat.reduceLT, Nat.reduceBEq, reduceIte, reduceCtorEq, Int.reduceToNat, Nat.reduceShiftRight, Nat.reduceAnd, Nat.reduceBneDiff, Nat.reduceBNe, c60r2, semI.eq_10, semI.eq_11, semI.eq_3, semI.eq_5, semI.eq_7]
    obtain rfl := Option.some.inj h
    refine .ret ?_
    rw [← hR]
    simp only [wz, wd, ws, Nat.reduceAdd, Nat.reduceSub, Nat.reduceMul, Nat.reduceLeDiff, Nat.reduceEqDiff, Nat.reduceLT, Nat.reduceBEq, reduceIte, reduceCtorEq, Int.reduceToNat, Nat.reduceShiftRight, Nat.reduceAnd, Nat.reduceBneDiff, Nat.reduceBNe, rv60]
  · rw [ite_f h1] at h
    refine .skip ?_
    refine .seq ?_
    refine Rw.walk ?_
    obtain ⟨g2, h⟩ := gd_iff.1 h
    simp only [wz, wd, ws, Nat.reduceAdd, Nat.reduceSub, Nat.reduceMul, Nat.reduceLeDiff, Nat.reduceEqDiff, Nat.reduceLT, Nat.reduceBEq, reduceIte, reduceCtorEq, Int.reduceToNat, Nat.reduceShiftRight, Nat.reduceAnd, Nat.reduceBneDiff, Nat.reduceBNe, c60r3, semI.eq_10, semI.eq_11, semI.eq_3, semI.eq_5, semI.eq_7]
    repeat (refine And.intro ?_ ?_; · first | omega | (intro q; simp only [wz, wd, ws, Nat.reduceAdd, Nat.reduceSub, Nat.reduceMul, Nat.reduceLeDiff, Nat.reduceEqDiff, Nat.reduceLT, Nat.reduceBEq, reduceIte, reduceCtorEq, Int.reduceToNat, Nat.reduceShiftRight, Nat.reduceAnd, Nat.reduceBneDiff, Nat.reduceBNe, q]; done))
    obtain rfl := Option.some.inj h
    refine .ret ?_
    rw [← hR]
    simp only [wz, wd, ws, Nat.reduceAdd, Nat.reduceSub, Nat.reduceMul, Nat.reduceLeDiff, Nat.reduceEqDiff, Nat.reduceLT, Nat.reduceBEq, reduceIte, reduceCtorEq, Int.reduceToNat, Nat.reduceShiftRight, Nat.reduceAnd, Nat.reduceBneDiff, Nat.reduceBNe, rv60]
-- 43 strings.CutPrefix
def c43r0 : List Opn := [
  ⟨(some 4), none, .mv (.c (.s (.d (.str []))))⟩, 
  ⟨(some 5), none, .mv (.c (.s (.d (.bool false))))⟩]
def c43r1 : List Opn := [
  ⟨(some 6), none, .mv (.t 0)⟩, 
  ⟨(some 7), none, .mv (.t 1)⟩, 
  ⟨(some 8), none, .call (.fn 60) [(.t 6), (.t 7)]⟩, 
  ⟨(some 9), none, .ext (.t 8) 0⟩, 
  ⟨(some 10), none, .ext (.t 8) 1⟩, 
  ⟨(some 4), none, .mv (.t 9)⟩, 
  ⟨(some 5), none, .mv (.t 10)⟩]
def c43 : C := .seq (.reg c43r0 none [0, 1]) (.seq (.reg c43r1 none [4, 5]) (.ret))
def k43 : List (Nat × List Nat) := [(1, [4, 5]), (0, [0, 1])]
theorem cc43 : (Tryd.f43.body).bind (cC Tryd.prog 11 k43) = some c43 := by kernel_rfl
def rv43 : List RV := [.t 4, .t 5]
theorem cr43 : cRVs Tryd.prog Tryd.f43.results.toList = some rv43 := by kernel_rfl
theorem f_strings_CutPrefix_ok (s : Str) (prefixv : Str) (y_ : Str × Bool) (h : f_strings_CutPrefix s prefixv = some y_) : Fun Tryd.prog glP 43 [.b (.s (.d (.str s))), .b (.s (.d (.str prefixv)))] (.tup [.s (.d (.str y_.1)), .s (.d (.bool y_.2))]) := by
  refine fun_walk [] Tryd.func43 Tryd.ntmps43 cc43 cr43 (by kernel_rfl) (by simp only [List.length_cons, List.length_nil]; decide) ?_
  generalize hR : Ret _ _ _ _ _ = R_
  simp only [wz, wd, ws, Nat.reduceAdd, Nat.reduceSub, Nat.reduceMul, Nat.reduceLeDiff, Nat.reduceEqDiff, Nat.reduceLT, Nat.reduceBEq, reduceIte, reduceCtorEq, Int.reduceToNat, Nat.reduceShiftRight, Nat.reduceAnd, Nat.reduceBneDiff, Nat.reduceBNe]
  unfold f_strings_CutPrefix at h; unfold c43
  refine .seq ?_
  refine Rw.walk ?_
  simp only [wz, wd, ws, Nat.reduceAdd, Nat.reduceSub, Nat.reduceMul, Nat.reduceLeDiff, Nat.reduceEqDiff, Nat.reduceLT, Nat.reduceBEq, reduceIte, reduceCtorEq, Int.reduceToNat, Nat.reduceShiftRight, Nat.reduceAnd, Nat.reduceBneDiff, Nat.reduceBNe, c43r0, semI.eq_10, semI.eq_11, semI.eq_3, semI.eq_5, semI.eq_7]
  refine .seq ?_
  refine Rw.walk ?_
  simp only [wz, wd, ws, Nat.reduceAdd, Nat.reduceSub, Nat.reduceMul, Nat.reduceLeDiff, Nat.reduceEqDiff, Nat.reduceLT, Nat.reduceBEq, reduceIte, reduceCtorEq, Int.reduceToNat, Nat.reduceShiftRight, Nat.reduceAnd, Nat.reduceBneDiff, Nat.reduceBNe, c43r1, semI.eq_10, semI.eq_11, semI.eq_3, semI.eq_5, semI.eq_7]
  obtain ⟨t, e1, h⟩ := Option.bind_eq_some_iff.1 h
  refine call_fun [] false ⟨trivial, trivial, trivial, trivial⟩ rfl ?_ (f_internal_stringslite_CutPrefix_ok _ _ _ e1) (fun _ => rfl) (fun i hi => by cases hi) ?_
  · simp only [wz, wd, ws, Nat.reduceAdd, Nat.reduceSub, Nat.reduceMul, Nat.reduceLeDiff, Nat.reduceEqDiff, Nat.reduceLT, Nat.reduceBEq, reduceIte, reduceCtorEq, Int.reduceToNat, Nat.reduceShiftRight, Nat.reduceAnd, Nat.reduceBneDiff, Nat.reduceBNe]
  simp only [wz, wd, ws, Nat.reduceAdd, Nat.reduceSub, Nat.reduceMul, Nat.reduceLeDiff, Nat.reduceEqDiff, Nat.reduceLT, Nat.reduceBEq, reduceIte, reduceCtorEq, Int.reduceToNat, Nat.reduceShiftRight, Nat.reduceAnd, Nat.reduceBneDiff, Nat.reduceBNe, c43r1, semI.eq_10, semI.eq_11, semI.eq_3, semI.eq_5, semI.eq_7]
  obtain rfl := Option.some.inj h
  refine .ret ?_
  rw [← hR]
  simp only [wz, wd, ws, Nat.reduceAdd, Nat.reduceSub, Nat.reduceMul, Nat.reduceLeDiff, Nat.reduceEqDiff, Nat.reduceLT, Nat.reduceBEq, reduceIte, reduceCtorEq, Int.reduceToNat, Nat.reduceShiftRight, Nat.reduceAnd, Nat.reduceBneDiff, Nat.reduceBNe, rv43]
-- 52 strings.IndexByte
def c52r0 : List Opn := [
  ⟨(some 4), none, .mv (.c (.s (.d (.int .i64 0))))⟩]
def c52r1 : List Opn := [
  ⟨(some 5), none, .mv (.t 0)⟩, 
  ⟨(some 6), none, .mv (.t 1)⟩, 
  ⟨(some 7), none, .call (.fn 67) [(.t 5), (.t 6)]⟩, 
  ⟨(some 4), none, .mv (.t 7)⟩]
def c52 : C := .seq (.reg c52r0 none [0, 1]) (.seq (.reg c52r1 none [4]) (.ret))
def k52 : List (Nat × List Nat) := [(1, [4]), (0, [0, 1])]
theorem cc52 : (Tryd.f52.body).bind (cC Tryd.prog 8 k52) = some c52 := by kernel_rfl
def rv52 : List RV := [.t 4]
theorem cr52 : cRVs Tryd.prog Tryd.f52.results.toList = some rv52 := by kernel_rfl
theorem f_strings_IndexByte_ok (s : Str) (c : Int) (y_ : Int) (h : f_strings_IndexByte s c = some y_) : Fun Tryd.prog glP 52 [.b (.s (.d (.str s))), .b (.s (.d (.int .u8 c)))] (.b (.s (.d (.int .i64 y_)))) := by
  refine fun_walk [] Tryd.func52 Tryd.ntmps52 cc52 cr52 (by kernel_rfl) (by simp only [List.length_cons, List.length_nil]; decide) ?_
  generalize hR : Ret _ _ _ _ _ = R_
  simp only [wz, wd, ws, Nat.reduceAdd, Nat.reduceSub, Nat.reduceMul, Nat.reduceLeDiff, Nat.reduceEqDiff, Nat.reduceLT, Nat.reduceBEq, reduceIte, reduceCtorEq, Int.reduceToNat, Nat.reduceShiftRight, Nat.reduceAnd, Nat.reduceBneDiff, Nat.reduceBNe]
  unfold f_strings_IndexByte at h; unfold c52
  refine .seq ?_
  refine Rw.walk ?_
  simp only [wz, wd, ws, Nat.reduceAdd, Nat.reduceSub, Nat.reduceMul, Nat.reduceLeDiff, Nat.reduceEqDiff, Nat.reduceLT, Nat.reduceBEq, reduceIte, reduceCtorEq, Int.reduceToNat, Nat.reduceShiftRight, Nat.reduceAnd, Nat.reduceBneDiff, Nat.reduceBNe, c52r0, semI.eq_10, semI.eq_11, semI.eq_3, semI.eq_5, semI.eq_7]
  refine .seq ?_
  refine Rw.walk ?_
  simp only [wz, wd, ws, Nat.reduceAdd, Nat.reduceSub, Nat.reduceMul, Nat.reduceLeDiff, Nat.reduceEqDiff, Nat.reduceLT, Nat.reduceBEq, reduceIte, reduceCtorEq, Int.reduceToNat, Nat.reduceShiftRight, Nat.reduceAnd, Nat.reduceBneDiff, Nat.reduceBNe, c52r1, semI.eq_10, semI.eq_11, semI.eq_3, semI.eq_5, semI.eq_7]
  obtain ⟨t, e1, h⟩ := Option.bind_eq_some_iff.1 h
  refine call_fun [] false ⟨trivial, trivial, trivial, trivial⟩ rfl ?_ (f_internal_stringslite_IndexByte_ok _ _ _ e1) (fun _ => rfl) (fun i hi => by cases hi) ?_
  · simp only [wz, wd, ws, Nat.reduceAdd, Nat.reduceSub, Nat.reduceMul, Nat.reduceLeDiff, Nat.reduceEqDiff, Nat.reduceLT, Nat.reduceBEq, reduceIte, reduceCtorEq, Int.reduceToNat, Nat.reduceShiftRight, Nat.reduceAnd, Nat.reduceBneDiff, Nat.reduceBNe]
  simp only [wz, wd, ws, Nat.reduceAdd, Nat.reduceSub, Nat.reduceMul, Nat.reduceLeDiff, Nat.reduceEqDiff, Nat.reduceLT, Nat.reduceBEq, reduceIte, reduceCtorEq, Int.reduceToNat, Nat.reduceShiftRight, Nat.reduceAnd, Nat.reduceBneDiff, Nat.reduceBNe, c52r1, semI.eq_10, semI.eq_11, semI.eq_3, semI.eq_5, semI.eq_7]
  obtain rfl := Option.some.inj h
  refine .ret ?_
  rw [← hR]
  simp only [wz, wd, ws, Nat.reduceAdd, Nat.reduceSub, Nat.reduceMul, Nat.reduceLeDiff, Nat.reduceEqDiff, Nat.reduceLT, Nat.reduceBEq, reduceIte, reduceCtorEq, Int.reduceToNat, Nat.reduceShiftRight, Nat.reduceAnd, Nat.reduceBneDiff, Nat.reduceBNe, rv52]
-- 33 consignor/octet.Bytes
def c33r0 : List Opn := [
  ⟨(some 2), none, .mv (.c (.s (.d (.str []))))⟩, 
  ⟨(some 3), none, .mv (.c (.s (.d (.int .i64 0))))⟩]
def c33r1 : List Opn := [
  ⟨(some 8), none, .mv (.t 0)⟩, 
  ⟨(some 9), none, .len .str (.t 8)⟩, 
  ⟨(some 10), none, .bin .rem (.t 9) (.c (.s (.d (.int .i64 2))))⟩, 
  ⟨(some 11), none, .bin .neq (.t 10) (.c (.s (.d (.int .i64 0))))⟩]
def c33r2 : List Opn := [
  ⟨(some 2), none, .mv (.c (.s (.d (.str []))))⟩, 
  ⟨(some 3), none, .mv (.c (.s (.d (.int .i64 4))))⟩]
def c33r3 : List Opn := [
  ⟨(some 12), none, .mv (.t 0)⟩, 
  ⟨(some 13), none, .len .str (.t 12)⟩, 
  ⟨(some 14), none, .bin .quo (.t 13) (.c (.s (.d (.int .i64 2))))⟩, 
  ⟨(some 15), none, .mksl 1 1 [(.d (.int .u8 0))] (.t 14) (.t 14)⟩, 
  ⟨(some 4), none, .mv (.t 15)⟩]
def c33r4 : List Opn := [
  ⟨(some 16), none, .mv (.t 4)⟩, 
  ⟨(some 17), none, .len (.sl 0) (.t 16)⟩, 
  ⟨(some 18), none, .mv (.c (.s (.d (.int .i64 0))))⟩]
def c33r5 : List Opn := [
  ⟨(some 19), none, .bin .lss (.t 18) (.t 17)⟩]
def c33r6 : List Opn := [
  ⟨(some 20), none, .mv (.t 18)⟩, 
  ⟨(some 5), none, .mv (.t 20)⟩]
def c33r7 : List Opn := [
  ⟨(some 21), none, .mv (.t 0)⟩, 
  ⟨(some 22), none, .mv (.t 5)⟩, 
  ⟨(some 23), none, .bin .mul (.c (.s (.d (.int .i64 2)))) (.t 22)⟩, 
  ⟨(some 24), none, .idx .str (.t 21) (.t 23)⟩, 
  ⟨(some 25), none, .call (.fn 52) [(.c (.s (.d (.str [48, 49, 50, 51, 52, 53, 54, 55, 56, 57, 97, 98, 99, 100, 101, 102])))), (.t 24)]⟩, 
  ⟨(some 26), none, .mv (.t 0)⟩, 
  ⟨(some 27), none, .mv (.t 5)⟩, 
  ⟨(some 28), none, .bin .mul (.c (.s (.d (.int .i64 2)))) (.t 27)⟩, 
  ⟨(some 29), none, .bin .add (.t 28) (.c (.s (.d (.int .i64 1))))⟩, 
  ⟨(some 30), none, .idx .str (.t 26) (.t 29)⟩, 
  ⟨(some 31), none, .call (.fn 52) [(.c (.s (.d (.str [48, 49, 50, 51, 52, 53, 54, 55, 56, 57, 97, 98, 99, 100, 101, 102])))), (.t 30)]⟩, 
  ⟨(some 6), none, .mv (.t 25)⟩, 
  ⟨(some 7), none, .mv (.t 31)⟩]
def c33r8 : List Opn := [
  ⟨(some 32), none, .mv (.t 6)⟩, 
  ⟨(some 33), none, .bin .lss (.t 32) (.c (.s (.d (.int .i64 0))))⟩, 
  ⟨(some 34), none, .mv (.t 33)⟩, 
  ⟨(some 35), some (34, false), .mv (.t 7)⟩, 
  ⟨(some 36), some (34, false), .bin .lss (.t 35) (.c (.s (.d (.int .i64 0))))⟩, 
  ⟨(some 37), none, .pick (.t 34) (.c (.s (.d (.bool true)))) (.t 36)⟩]
def c33r9 : List Opn := [
  ⟨(some 2), none, .mv (.c (.s (.d (.str []))))⟩, 
  ⟨(some 3), none, .mv (.c (.s (.d (.int .i64 4))))⟩]
def c33r10 : List Opn := [
  ⟨(some 38), none, .mv (.t 4)⟩, 
  ⟨(some 39), none, .mv (.t 5)⟩, 
  ⟨(some 40), none, .mv (.t 6)⟩, 
  ⟨(some 41), none, .bin .mul (.t 40) (.c (.s (.d (.int .i64 16))))⟩, 
  ⟨(some 42), none, .mv (.t 7)⟩, 
  ⟨(some 43), none, .bin .add (.t 41) (.t 42)⟩, 
  ⟨(some 44), none, .cv (.toInt .u8) (.t 43)⟩, 
  ⟨(some 45), none, .iadr (.sl 1) (.t 38) (.t 39)⟩, 
  ⟨none, none, .store 1 (.t 45) (.t 44)⟩]
def c33r11 : List Opn := [
  ⟨(some 46), none, .bin .add (.t 18) (.c (.s (.d (.int .i64 1))))⟩, 
  ⟨(some 18), none, .mv (.t 46)⟩]
def c33l12 : C := .seq (.reg c33r5 none [0, 4, 17, 18, 19]) (.seq (.cond (.t 19) (.skip) (.exit 0)) (.seq (.blk 1 (.seq (.reg c33r6 none [0, 4, 5, 17, 18]) (.seq (.reg c33r7 (some [0, 0, 2, 7, 15, 0, 0, 64, 192, 480, 1023, 2047, 4095]) [0, 4, 5, 6, 7, 17, 18]) (.seq (.seq (.reg c33r8 none [0, 4, 5, 6, 7, 17, 18, 37]) (.cond (.t 37) (.seq (.reg c33r9 none [2, 3]) (.ret)) (.skip))) (.reg c33r10 none [0, 4, 17, 18]))))) (.reg c33r11 none [0, 4, 17, 18])))
def c33r12 : List Opn := [
  ⟨(some 47), none, .mv (.t 4)⟩, 
  ⟨(some 48), none, .cv .b2s (.t 47)⟩, 
  ⟨(some 2), none, .mv (.t 48)⟩, 
  ⟨(some 3), none, .mv (.c (.s (.d (.int .i64 0))))⟩]
def c33 : C := .seq (.reg c33r0 none [0]) (.seq (.seq (.reg c33r1 none [0, 11]) (.cond (.t 11) (.seq (.reg c33r2 none [2, 3]) (.ret)) (.skip))) (.seq (.reg c33r3 none [0, 4]) (.seq (.seq (.reg c33r4 none [0, 4, 17, 18]) (.blk 0 (.loop c33l12))) (.seq (.reg c33r12 none [2, 3]) (.ret)))))
def k33 : List (Nat × List Nat) := [(12, [2, 3]), (11, [0, 4, 17, 18]), (10, [0, 4, 17, 18]), (9, [2, 3]), (8, [0, 4, 5, 6, 7, 17, 18, 37]), (7, [0, 4, 5, 6, 7, 17, 18]), (6, [0, 4, 5, 17, 18]), (5, [0, 4, 17, 18, 19]), (4, [0, 4, 17, 18]), (3, [0, 4]), (2, [2, 3]), (1, [0, 11]), (0, [0])]
theorem cc33 : (Tryd.f33.body).bind (cC Tryd.prog 49 k33) = some c33 := by kernel_rfl
def rv33 : List RV := [.t 2, .t 3]
theorem cr33 : cRVs Tryd.prog Tryd.f33.results.toList = some rv33 := by kernel_rfl
theorem f_octet_Bytes_l12_ok (s : Str) (y_ : Str × Int) (R_ : St → Prop) (hR : (Ret Tryd.prog glP [] rv33 (.tup [.s (.d (.str y_.1)), .s (.d (.int .i64 y_.2))])) = R_) : ∀ (m_ : Nat) (v18 : Int) (out : (List Int)) (res_ : (Int × (List Int)) ⊕ (Str × Int)) (h : f_octet_Bytes_l12 s m_ v18 out = some res_) (k_ : List It) (hx : ∀ s_ : Int × (List Int), res_ = .inl s_ → W Tryd.prog glP 49 k_ ⟨lkT [(0, .b (.s (.d (.str s)))), (4, .b (.s (.own 15 s_.2.length))), (17, .b (.s (.d (.int .i64 ((List.replicate (IntKind.i64.wrap ((s.length : Int).tdiv 2)).toNat 0).length : Int))))), (18, .b (.s (.d (.int .i64 s_.1))))], lkG [(15, ⟨1, er (eI .u8) s_.2, false⟩)]⟩ R_) (hr : ∀ z_ : Str × Int, res_ = .inr z_ → z_ = y_), W Tryd.prog glP 49 (.c c33l12 :: .lp c33l12 :: .blk 0 :: k_) ⟨lkT [(0, .b (.s (.d (.str s)))), (4, .b (.s (.own 15 out.length))), (17, .b (.s (.d (.int .i64 ((List.replicate (IntKind.i64.wrap ((s.length : Int).tdiv 2)).toNat 0).length : Int))))), (18, .b (.s (.d (.int .i64 v18))))], lkG [(15, ⟨1, er (eI .u8) out, false⟩)]⟩ R_ := by
  intro m_; induction m_ with
  | zero => intro v18 out res_ h; rw [f_octet_Bytes_l12.eq_1] at h; cases h
  | succ m_ ih =>
    intro v18 out res_ h k_ hx hr; rw [f_octet_Bytes_l12.eq_2] at h; refine W.cdef c33l12.eq_1 ?_
    refine .seq ?_
    refine Rw.walk ?_
    simp only [wz, wd, ws, Nat.reduceAdd, Nat.reduceSub, Nat.reduceMul, Nat.reduceLeDiff, Nat.reduceEqDiff, Nat.reduceLT, Nat.reduceBEq, reduceIte, reduceCtorEq, Int.reduceToNat, Nat.reduceShiftRight, Nat.reduceAnd, Nat.reduceBneDiff, Nat.reduceBNe, c33r5, semI.eq_10, semI.eq_11, semI.eq_3, semI.eq_5, semI.eq_7]
    refine .seq ?_
    refine .cond (p := (decide (v18 < ((List.replicate (IntKind.i64.wrap ((s.length : Int).tdiv 2)).toNat 0).length : Int)))) (by first | rfl | simp only [wz, wd, ws, Nat.reduceAdd, Nat.reduceSub, Nat.reduceMul, Nat.reduceLeDiff, Nat.reduceEqDiff, Nat.reduceLT, Nat.reduceBEq, reduceIte, reduceCtorEq, Int.reduceToNat, Nat.reduceShiftRight, Nat.reduceAnd, Nat.reduceBneDiff, Nat.reduceBNe]) (fun h1 => ?_) (fun h1 => ?_)
    · rw [ite_t h1] at h
      refine .skip ?_
      refine .seq ?_
      refine .blk ?_
      refine .seq ?_
      refine Rw.walk ?_
      simp only [wz, wd, ws, Nat.reduceAdd, Nat.reduceSub, Nat.reduceMul, Nat.reduceLeDiff, Nat.reduceEqDiff, Nat.reduceLT, Nat.reduceBEq, reduceIte, reduceCtorEq, Int.reduceToNat, Nat.reduceShiftRight, Nat.reduceAnd, Nat.reduceBneDiff, Nat.reduceBNe, c33r6, semI.eq_10, semI.eq_11, semI.eq_3, semI.eq_5, semI.eq_7]
      refine .seq ?_
      refine RwD.walk ?_
      simp only [wz, wd, ws, Nat.reduceAdd, Nat.reduceSub, Nat.reduceMul, Nat.reduceLeDiff, Nat.reduceEqDiff, Nat.reduceLT, Nat.reduceBEq, reduceIte, reduceCtorEq, Int.reduceToNat, Nat.reduceShiftRight, Nat.reduceAnd, Nat.reduceBneDiff, Nat.reduceBNe, c33r7, semI.eq_10, semI.eq_11, semI.eq_3, semI.eq_5, semI.eq_7]
      obtain ⟨c, e2, h⟩ := Option.bind_eq_some_iff.1 h
      refine GoD1.of (sem_idx e2 (by rfl) (by rfl)) ?_
      simp only [wz, wd, ws, Nat.reduceAdd, Nat.reduceSub, Nat.reduceMul, Nat.reduceLeDiff, Nat.reduceEqDiff, Nat.reduceLT, Nat.reduceBEq, reduceIte, reduceCtorEq, Int.reduceToNat, Nat.reduceShiftRight, Nat.reduceAnd, Nat.reduceBneDiff, Nat.reduceBNe, c33r7, semI.eq_10, semI.eq_11, semI.eq_3, semI.eq_5, semI.eq_7]
      obtain ⟨t, e3, h⟩ := Option.bind_eq_some_iff.1 h
      refine call_fun [] false ⟨trivial, trivial, trivial, trivial⟩ rfl ?_ (f_strings_IndexByte_ok _ _ _ e3) (fun _ => rfl) (fun i hi => by cases hi) ?_
      · simp only [wz, wd, ws, Nat.reduceAdd, Nat.reduceSub, Nat.reduceMul, Nat.reduceLeDiff, Nat.reduceEqDiff, Nat.reduceLT, Nat.reduceBEq, reduceIte, reduceCtorEq, Int.reduceToNat, Nat.reduceShiftRight, Nat.reduceAnd, Nat.reduceBneDiff, Nat.reduceBNe]
      simp only [wz, wd, ws, Nat.reduceAdd, Nat.reduceSub, Nat.reduceMul, Nat.reduceLeDiff, Nat.reduceEqDiff, Nat.reduceLT, Nat.reduceBEq, reduceIte, reduceCtorEq, Int.reduceToNat, Nat.reduceShiftRight, Nat.reduceAnd, Nat.reduceBneDiff, Nat.reduceBNe, c33r7, semI.eq_10, semI.eq_11, semI.eq_3, semI.eq_5, semI.eq_7]
      obtain ⟨c2, e4, h⟩ := Option.bind_eq_some_iff.1 h
      refine GoD1.of (sem_idx e4 (by rfl) (by rfl)) ?_
      simp only [wz, wd, ws, Nat.reduceAdd, Nat.reduceSub, Nat.reduceMul, Nat.reduceLeDiff, Nat.reduceEqDiff, Nat.reduceLT, Nat.reduceBEq, reduceIte, reduceCtorEq, Int.reduceToNat, Nat.reduceShiftRight, Nat.reduceAnd, Nat.reduceBneDiff, Nat.reduceBNe, c33r7, semI.eq_10, semI.eq_11, semI.eq_3, semI.eq_5, semI.eq_7]
      obtain ⟨t2, e5, h⟩ := Option.bind_eq_some_iff.1 h
      refine call_fun [] false ⟨trivial, trivial, trivial, trivial⟩ rfl ?_ (f_strings_IndexByte_ok _ _ _ e5) (fun _ => rfl) (fun i hi => by cases hi) ?_
      · simp only [wz, wd, ws, Nat.reduceAdd, Nat.reduceSub, Nat.reduceMul, Nat.reduceLeDiff, Nat.reduceEqDiff, Nat.reduceLT, Nat.reduceBEq, reduceIte, reduceCtorEq, Int.reduceToNat, Nat.reduceShiftRight, Nat.reduceAnd, Nat.reduceBneDiff, Nat.reduceBNe]
      simp only [wz, wd, ws, Nat.reduceAdd, Nat.reduceSub, Nat.reduceMul, Nat.reduceLeDiff, Nat.reduceEqDiff, Nat.reduceLT, Nat.reduceBEq, reduceIte, reduceCtorEq, Int.reduceToNat, Nat.reduceShiftRight, Nat.reduceAnd, Nat.reduceBneDiff, Nat.reduceBNe, c33r7, semI.eq_10, semI.eq_11, semI.eq_3, semI.eq_5, semI.eq_7]
      refine .seq ?_
      refine .seq ?_
      refine Rw.walk ?_
      simp only [wz, wd, ws, Nat.reduceAdd, Nat.reduceSub, Nat.reduceMul, Nat.reduceLeDiff, Nat.reduceEqDiff, Nat.reduceLT, Nat.reduceBEq, reduceIte, reduceCtorEq, Int.reduceToNat, Nat.reduceShiftRight, Nat.reduceAnd, Nat.reduceBneDiff, Nat.reduceBNe, c33r8, semI.eq_10, semI.eq_11, semI.eq_3, semI.eq_5, semI.eq_7]
      repeat (refine And.intro ?_ ?_; · first | omega | (intro q; simp only [wz, wd, ws, Nat.reduceAdd, Nat.reduceSub, Nat.reduceMul, Nat.reduceLeDiff, Nat.reduceEqDiff, Nat.reduceLT, Nat.reduceBEq, reduceIte, reduceCtorEq, Int.reduceToNat, Nat.reduceShiftRight, Nat.reduceAnd, Nat.reduceBneDiff, Nat.reduceBNe, q]; done))
      refine .cond (p := ((decide (t < 0)) || (decide (t2 < 0)))) (by first | rfl | simp only [wz, wd, ws, Nat.reduceAdd, Nat.reduceSub, Nat.reduceMul, Nat.reduceLeDiff, Nat.reduceEqDiff, Nat.reduceLT, Nat.reduceBEq, reduceIte, reduceCtorEq, Int.reduceToNat, Nat.reduceShiftRight, Nat.reduceAnd, Nat.reduceBneDiff, Nat.reduceBNe]) (fun h1 => ?_) (fun h1 => ?_)
      · rw [ite_t h1] at h
        refine .seq ?_
        refine Rw.walk ?_
        simp only [wz, wd, ws, Nat.reduceAdd, Nat.reduceSub, Nat.reduceMul, Nat.reduceLeDiff, Nat.reduceEqDiff, Nat.reduceLT, Nat.reduceBEq, reduceIte, reduceCtorEq, Int.reduceToNat, Nat.reduceShiftRight, Nat.reduceAnd, Nat.reduceBneDiff, Nat.reduceBNe, c33r9, semI.eq_10, semI.eq_11, semI.eq_3, semI.eq_5, semI.eq_7]
        obtain rfl := Option.some.inj h; obtain rfl := hr _ rfl
        refine .ret ?_
        rw [← hR]
        simp only [wz, wd, ws, Nat.reduceAdd, Nat.reduceSub, Nat.reduceMul, Nat.reduceLeDiff, Nat.reduceEqDiff, Nat.reduceLT, Nat.reduceBEq, reduceIte, reduceCtorEq, Int.reduceToNat, Nat.reduceShiftRight, Nat.reduceAnd, Nat.reduceBneDiff, Nat.reduceBNe, rv33]
      · rw [ite_f h1] at h
        refine .skip ?_
        refine Rw.walk ?_
        simp only [wz, wd, ws, Nat.reduceAdd, Nat.reduceSub, Nat.reduceMul, Nat.reduceLeDiff, Nat.reduceEqDiff, Nat.reduceLT, Nat.reduceBEq, reduceIte, reduceCtorEq, Int.reduceToNat, Nat.reduceShiftRight, Nat.reduceAnd, Nat.reduceBneDiff, Nat.reduceBNe, c33r10, semI.eq_3, semI.eq_5, semI.eq_7]
        obtain ⟨x, e6, h⟩ := Option.bind_eq_some_iff.1 h
        refine Go1.of (sem_iadrO (l := out) e6 (by rfl) (by rfl) (by rfl)) ?_
        simp only [wz, wd, ws, Nat.reduceAdd, Nat.reduceSub, Nat.reduceMul, Nat.reduceLeDiff, Nat.reduceEqDiff, Nat.reduceLT, Nat.reduceBEq, reduceIte, reduceCtorEq, Int.reduceToNat, Nat.reduceShiftRight, Nat.reduceAnd, Nat.reduceBneDiff, Nat.reduceBNe, c33r10, semI.eq_3, semI.eq_5, semI.eq_7, er_get e6]
        refine Go1.of (sem_store (enc := (eI .u8)) (l := out) (a := x) (a' := (IntKind.u8.wrap (IntKind.i64.wrap ((IntKind.i64.wrap (t * 16)) + t2)))) (v := .b (.s (.d (.int .u8 (IntKind.u8.wrap (IntKind.i64.wrap ((IntKind.i64.wrap (t * 16)) + t2))))))) (by rfl) (by rfl) (er_get e6) (by rfl) (by trivial) (by rfl) (Nat.le_of_ble_eq_true (by rfl)) (by rfl)) ?_
        simp only [wz, wd, ws, Nat.reduceAdd, Nat.reduceSub, Nat.reduceMul, Nat.reduceLeDiff, Nat.reduceEqDiff, Nat.reduceLT, Nat.reduceBEq, reduceIte, reduceCtorEq, Int.reduceToNat, Nat.reduceShiftRight, Nat.reduceAnd, Nat.reduceBneDiff, Nat.reduceBNe, c33r10, semI.eq_3, semI.eq_5, semI.eq_7, er_get e6]
        refine .eblk ?_
        refine Rw.walk ?_
        simp only [wz, wd, ws, Nat.reduceAdd, Nat.reduceSub, Nat.reduceMul, Nat.reduceLeDiff, Nat.reduceEqDiff, Nat.reduceLT, Nat.reduceBEq, reduceIte, reduceCtorEq, Int.reduceToNat, Nat.reduceShiftRight, Nat.reduceAnd, Nat.reduceBneDiff, Nat.reduceBNe, c33r11, semI.eq_10, semI.eq_11, semI.eq_3, semI.eq_5, semI.eq_7, er_get e6]
        refine .lp ?_
        refine .weak (Imp.co [] _ _ ?_ ?_ ?_ ?_ ?_) (ih (IntKind.i64.wrap (v18 + 1)) (out.set v18.toNat (IntKind.u8.wrap (IntKind.i64.wrap ((IntKind.i64.wrap (t * 16)) + t2)))) _ h k_ hx hr) <;> simp only [wz, wd, ws, Nat.reduceAdd, Nat.reduceSub, Nat.reduceMul, Nat.reduceLeDiff, Nat.reduceEqDiff, Nat.reduceLT, Nat.reduceBEq, reduceIte, reduceCtorEq, Int.reduceToNat, Nat.reduceShiftRight, Nat.reduceAnd, Nat.reduceBneDiff, Nat.reduceBNe, wi, er_nil]
    · rw [ite_f h1] at h
      refine .exit rfl ?_
      obtain rfl := Option.some.inj h
      refine .weak (Imp.co [] _ _ ?_ ?_ ?_ ?_ ?_) (hx _ rfl) <;> simp only [wz, wd, ws, Nat.reduceAdd, Nat.reduceSub, Nat.reduceMul, Nat.reduceLeDiff, Nat.reduceEqDiff, Nat.reduceLT, Nat.reduceBEq, reduceIte, reduceCtorEq, Int.reduceToNat, Nat.reduceShiftRight, Nat.reduceAnd, Nat.reduceBneDiff, Nat.reduceBNe, wi, er_nil]
theorem f_octet_Bytes_ok (s : Str) (y_ : Str × Int) (h : f_octet_Bytes s = some y_) : Fun Tryd.prog glP 33 [.b (.s (.d (.str s)))] (.tup [.s (.d (.str y_.1)), .s (.d (.int .i64 y_.2))]) := by
  refine fun_walk [] Tryd.func33 Tryd.ntmps33 cc33 cr33 (by kernel_rfl) (by simp only [List.length_cons, List.length_nil]; decide) ?_
  generalize hR : Ret _ _ _ _ _ = R_
  simp only [wz, wd, ws, Nat.reduceAdd, Nat.reduceSub, Nat.reduceMul, Nat.reduceLeDiff, Nat.reduceEqDiff, Nat.reduceLT, Nat.reduceBEq, reduceIte, reduceCtorEq, Int.reduceToNat, Nat.reduceShiftRight, Nat.reduceAnd, Nat.reduceBneDiff, Nat.reduceBNe]
  unfold f_octet_Bytes at h; unfold c33
  refine .seq ?_
  refine Rw.walk ?_
  simp only [wz, wd, ws, Nat.reduceAdd, Nat.reduceSub, Nat.reduceMul, Nat.reduceLeDiff, Nat.reduceEqDiff, Nat.reduceLT, Nat.reduceBEq, reduceIte, reduceCtorEq, Int.reduceToNat, Nat.reduceShiftRight, Nat.reduceAnd, Nat.reduceBneDiff, Nat.reduceBNe, c33r0, semI.eq_10, semI.eq_11, semI.eq_3, semI.eq_5, semI.eq_7]
  refine .seq ?_
  refine .seq ?_
  refine Rw.walk ?_
  simp only [wz, wd, ws, Nat.reduceAdd, Nat.reduceSub, Nat.reduceMul, Nat.reduceLeDiff, Nat.reduceEqDiff, Nat.reduceLT, Nat.reduceBEq, reduceIte, reduceCtorEq, Int.reduceToNat, Nat.reduceShiftRight, Nat.reduceAnd, Nat.reduceBneDiff, Nat.reduceBNe, c33r1, semI.eq_10, semI.eq_11, semI.eq_3, semI.eq_5, semI.eq_7]
  repeat (refine And.intro ?_ ?_; · first | omega | (intro q; simp only [wz, wd, ws, Nat.reduceAdd, Nat.reduceSub, Nat.reduceMul, Nat.reduceLeDiff, Nat.reduceEqDiff, Nat.reduceLT, Nat.reduceBEq, reduceIte, reduceCtorEq, Int.reduceToNat, Nat.reduceShiftRight, Nat.reduceAnd, Nat.reduceBneDiff, Nat.reduceBNe, q]; done))
  refine .cond (p := (((s.length : Int).tmod 2) != 0)) (by first | rfl | simp only [wz, wd, ws, Nat.reduceAdd, Nat.reduceSub, Nat.reduceMul, Nat.reduceLeDiff, Nat.reduceEqDiff, Nat.reduceLT, Nat.reduceBEq, reduceIte, reduceCtorEq, Int.reduceToNat, Nat.reduceShiftRight, Nat.reduceAnd, Nat.reduceBneDiff, Nat.reduceBNe]) (fun h1 => ?_) (fun h1 => ?_)
  · rw [ite_t h1] at h
    refine .seq ?_
    refine Rw.walk ?_
    simp only [wz, wd, ws, Nat.reduceAdd, Nat.reduceSub, Nat.reduceMul, Nat.reduceLeDiff, Nat.reduceEqDiff, Nat.reduceLT, Nat.reduceBEq, reduceIte, reduceCtorEq, Int.reduceToNat, Nat.reduceShiftRight, Nat.reduceAnd, Nat.reduceBneDiff, Nat.reduceBNe, c33r2, semI.eq_10, semI.eq_11, semI.eq_3, semI.eq_5, semI.eq_7]
    obtain rfl := Option.some.inj h
    refine .ret ?_
    rw [← hR]
    simp only [wz, wd, ws, Nat.reduceAdd, Nat.reduceSub, Nat.reduceMul, Nat.reduceLeDiff, Nat.reduceEqDiff, Nat.reduceLT, Nat.reduceBEq, reduceIte, reduceCtorEq, Int.reduceToNat, Nat.reduceShiftRight, Nat.reduceAnd, Nat.reduceBneDiff, Nat.reduceBNe, rv33]
  · rw [ite_f h1] at h
    refine .skip ?_
    refine .seq ?_
    refine Rw.walk ?_
    simp only [wz, wd, ws, Nat.reduceAdd, Nat.reduceSub, Nat.reduceMul, Nat.reduceLeDiff, Nat.reduceEqDiff, Nat.reduceLT, Nat.reduceBEq, reduceIte, reduceCtorEq, Int.reduceToNat, Nat.reduceShiftRight, Nat.reduceAnd, Nat.reduceBneDiff, Nat.reduceBNe, c33r3, semI.eq_10, semI.eq_11, semI.eq_3, semI.eq_5, semI.eq_7]
    obtain ⟨g1, h⟩ := gd_iff.1 h
    repeat (refine And.intro ?_ ?_; · first | omega | (intro q; simp only [wz, wd, ws, Nat.reduceAdd, Nat.reduceSub, Nat.reduceMul, Nat.reduceLeDiff, Nat.reduceEqDiff, Nat.reduceLT, Nat.reduceBEq, reduceIte, reduceCtorEq, Int.reduceToNat, Nat.reduceShiftRight, Nat.reduceAnd, Nat.reduceBneDiff, Nat.reduceBNe, q]; done))
    refine Go1.of (sem_mksl (enc := (eI .u8)) (z1 := 0) (p := (IntKind.i64.wrap ((s.length : Int).tdiv 2))) (q := (IntKind.i64.wrap ((s.length : Int).tdiv 2))) (by rfl) (by rfl) (by rfl) (by rfl) (by rfl)) ?_
    simp only [wz, wd, ws, Nat.reduceAdd, Nat.reduceSub, Nat.reduceMul, Nat.reduceLeDiff, Nat.reduceEqDiff, Nat.reduceLT, Nat.reduceBEq, reduceIte, reduceCtorEq, Int.reduceToNat, Nat.reduceShiftRight, Nat.reduceAnd, Nat.reduceBneDiff, Nat.reduceBNe, c33r3, semI.eq_10, semI.eq_11, semI.eq_3, semI.eq_5, semI.eq_7]
    repeat (refine And.intro ?_ ?_; · first | omega | (intro q; simp only [wz, wd, ws, Nat.reduceAdd, Nat.reduceSub, Nat.reduceMul, Nat.reduceLeDiff, Nat.reduceEqDiff, Nat.reduceLT, Nat.reduceBEq, reduceIte, reduceCtorEq, Int.reduceToNat, Nat.reduceShiftRight, Nat.reduceAnd, Nat.reduceBneDiff, Nat.reduceBNe, q]; done))
    refine .seq ?_
    refine .seq ?_
    refine Rw.walk ?_
    simp only [wz, wd, ws, Nat.reduceAdd, Nat.reduceSub, Nat.reduceMul, Nat.reduceLeDiff, Nat.reduceEqDiff, Nat.reduceLT, Nat.reduceBEq, reduceIte, reduceCtorEq, Int.reduceToNat, Nat.reduceShiftRight, Nat.reduceAnd, Nat.reduceBneDiff, Nat.reduceBNe, c33r4, semI.eq_10, semI.eq_11, semI.eq_3, semI.eq_5, semI.eq_7]
    refine .blk ?_
    obtain ⟨s2, hf, h⟩ := Option.bind_eq_some_iff.1 h
    refine .loop (.weak (Imp.co [] _ _ ?c1 ?c2 ?c3 ?c4 ?c5) (f_octet_Bytes_l12_ok s _ _ hR _ _ _ _ hf _ ?_ ?_))
    case c1 | c2 | c3 | c4 | c5 => simp only [wz, wd, ws, Nat.reduceAdd, Nat.reduceSub, Nat.reduceMul, Nat.reduceLeDiff, Nat.reduceEqDiff, Nat.reduceLT, Nat.reduceBEq, reduceIte, reduceCtorEq, Int.reduceToNat, Nat.reduceShiftRight, Nat.reduceAnd, Nat.reduceBneDiff, Nat.reduceBNe, wi, er_nil]
    · intro s3 hs; subst hs; dsimp only at h
      refine .seq ?_
      refine Rw.walk ?_
      simp only [wz, wd, ws, Nat.reduceAdd, Nat.reduceSub, Nat.reduceMul, Nat.reduceLeDiff, Nat.reduceEqDiff, Nat.reduceLT, Nat.reduceBEq, reduceIte, reduceCtorEq, Int.reduceToNat, Nat.reduceShiftRight, Nat.reduceAnd, Nat.reduceBneDiff, Nat.reduceBNe, c33r12, semI.eq_10, semI.eq_11, semI.eq_3, semI.eq_5, semI.eq_7]
      refine Go1.of (sem_b2s (n := s3.2) (rowsV_own (m := s3.2) (by rfl) (by rfl))) ?_
      simp only [wz, wd, ws, Nat.reduceAdd, Nat.reduceSub, Nat.reduceMul, Nat.reduceLeDiff, Nat.reduceEqDiff, Nat.reduceLT, Nat.reduceBEq, reduceIte, reduceCtorEq, Int.reduceToNat, Nat.reduceShiftRight, Nat.reduceAnd, Nat.reduceBneDiff, Nat.reduceBNe, c33r12, semI.eq_10, semI.eq_11, semI.eq_3, semI.eq_5, semI.eq_7]
      obtain rfl := Option.some.inj h
      refine .ret ?_
      rw [← hR]
      simp only [wz, wd, ws, Nat.reduceAdd, Nat.reduceSub, Nat.reduceMul, Nat.reduceLeDiff, Nat.reduceEqDiff, Nat.reduceLT, Nat.reduceBEq, reduceIte, reduceCtorEq, Int.reduceToNat, Nat.reduceShiftRight, Nat.reduceAnd, Nat.reduceBneDiff, Nat.reduceBNe, rv33]
    · intro z hz; subst hz; dsimp only at h
      exact Option.some.inj h
-- 21 consignor/digest.Parse
def c21r0 : List Opn := [
  ⟨(some 2), none, .mv (.c (.s (.d (.str []))))⟩, 
  ⟨(some 3), none, .mv (.c (.s (.d (.int .i64 0))))⟩]
def c21r1 : List Opn := [
  ⟨(some 9), none, .mv (.t 0)⟩, 
  ⟨(some 10), none, .call (.fn 43) [(.t 9), (.c (.s (.d (.str [115, 104, 97, 50, 53, 54, 58]))))]⟩, 
  ⟨(some 8), none, .mv (.t 10)⟩, 
  ⟨(some 11), none, .ext (.t 8) 0⟩, 
  ⟨(some 12), none, .ext (.t 8) 1⟩, 
  ⟨(some 4), none, .mv (.t 11)⟩, 
  ⟨(some 5), none, .mv (.t 12)⟩]
def c21r2 : List Opn := [
  ⟨(some 14), none, .mv (.t 4)⟩, 
  ⟨(some 15), none, .call (.fn 33) [(.t 14)]⟩, 
  ⟨(some 13), none, .mv (.t 15)⟩, 
  ⟨(some 16), none, .ext (.t 13) 0⟩, 
  ⟨(some 17), none, .ext (.t 13) 1⟩, 
  ⟨(some 6), none, .mv (.t 16)⟩, 
  ⟨(some 7), none, .mv (.t 17)⟩]
def c21r3 : List Opn := [
  ⟨(some 18), none, .mv (.t 5)⟩, 
  ⟨(some 19), none, .un .not (.t 18)⟩, 
  ⟨(some 20), none, .mv (.t 19)⟩, 
  ⟨(some 21), some (20, false), .mv (.t 7)⟩, 
  ⟨(some 22), some (20, false), .bin .neq (.t 21) (.c (.s (.d (.int .i64 0))))⟩, 
  ⟨(some 23), none, .pick (.t 20) (.c (.s (.d (.bool true)))) (.t 22)⟩, 
  ⟨(some 24), none, .mv (.t 23)⟩, 
  ⟨(some 25), some (24, false), .mv (.t 6)⟩, 
  ⟨(some 26), some (24, false), .len .str (.t 25)⟩, 
  ⟨(some 27), some (24, false), .bin .neq (.t 26) (.c (.s (.d (.int .i64 32))))⟩, 
  ⟨(some 28), none, .pick (.t 24) (.c (.s (.d (.bool true)))) (.t 27)⟩]
def c21r4 : List Opn := [
  ⟨(some 2), none, .mv (.c (.s (.d (.str []))))⟩, 
  ⟨(some 3), none, .mv (.c (.s (.d (.int .i64 6))))⟩]
def c21r5 : List Opn := [
  ⟨(some 29), none, .mv (.t 6)⟩, 
  ⟨(some 2), none, .mv (.t 29)⟩, 
  ⟨(some 3), none, .mv (.c (.s (.d (.int .i64 0))))⟩]
def c21 : C := .seq (.reg c21r0 none [0]) (.seq (.reg c21r1 none [4, 5]) (.seq (.reg c21r2 none [5, 6, 7]) (.seq (.seq (.reg c21r3 none [6, 28]) (.cond (.t 28) (.seq (.reg c21r4 none [2, 3]) (.ret)) (.skip))) (.seq (.reg c21r5 none [2, 3]) (.ret)))))
def k21 : List (Nat × List Nat) := [(5, [2, 3]), (4, [2, 3]), (3, [6, 28]), (2, [5, 6, 7]), (1, [4, 5]), (0, [0])]
theorem cc21 : (Tryd.f21.body).bind (cC Tryd.prog 30 k21) = some c21 := by kernel_rfl
def rv21 : List RV := [.t 2, .t 3]
theorem cr21 : cRVs Tryd.prog Tryd.f21.results.toList = some rv21 := by kernel_rfl
theorem f_digest_Parse_ok (s : Str) (y_ : Str × Int) (h : f_digest_Parse s = some y_) : Fun Tryd.prog glP 21 [.b (.s (.d (.str s)))] (.tup [.s (.d (.str y_.1)), .s (.d (.int .i64 y_.2))]) := by
  refine fun_walk [] Tryd.func21 Tryd.ntmps21 cc21 cr21 (by kernel_rfl) (by simp only [List.length_cons, List.length_nil]; decide) ?_
  generalize hR : Ret _ _ _ _ _ = R_
  simp only [wz, wd, ws, Nat.reduceAdd, Nat.reduceSub, Nat.reduceMul, Nat.reduceLeDiff, Nat.reduceEqDiff, Nat.reduceLT, Nat.reduceBEq, reduceIte, reduceCtorEq, Int.reduceToNat, Nat.reduceShiftRight, Nat.reduceAnd, Nat.reduceBneDiff, Nat.reduceBNe]
  unfold f_digest_Parse at h; unfold c21
  refine .seq ?_
  refine Rw.walk ?_
  simp only [wz, wd, ws, Nat.reduceAdd, Nat.reduceSub, Nat.reduceMul, Nat.reduceLeDiff, Nat.reduceEqDiff, Nat.reduceLT, Nat.reduceBEq, reduceIte, reduceCtorEq, Int.reduceToNat, Nat.reduceShiftRight, Nat.reduceAnd, Nat.reduceBneDiff, Nat.reduceBNe, c21r0, semI.eq_10, semI.eq_11, semI.eq_3, semI.eq_5, semI.eq_7]
  refine .seq ?_
  refine Rw.walk ?_
  simp only [wz, wd, ws, Nat.reduceAdd, Nat.reduceSub, Nat.reduceMul, Nat.reduceLeDiff, Nat.reduceEqDiff, Nat.reduceLT, Nat.reduceBEq, reduceIte, reduceCtorEq, Int.reduceToNat, Nat.reduceShiftRight, Nat.reduceAnd, Nat.reduceBneDiff, Nat.reduceBNe, c21r1, semI.eq_10, semI.eq_11, semI.eq_3, semI.eq_5, semI.eq_7]
  obtain ⟨t, e1, h⟩ := Option.bind_eq_some_iff.1 h
  refine call_fun [] false ⟨trivial, trivial, trivial, trivial⟩ rfl ?_ (f_strings_CutPrefix_ok _ _ _ e1) (fun _ => rfl) (fun i hi => by cases hi) ?_
  · simp only [wz, wd, ws, Nat.reduceAdd, Nat.reduceSub, Nat.reduceMul, Nat.reduceLeDiff, Nat.reduceEqDiff, Nat.reduceLT, Nat.reduceBEq, reduceIte, reduceCtorEq, Int.reduceToNat, Nat.reduceShiftRight, Nat.reduceAnd, Nat.reduceBneDiff, Nat.reduceBNe]
  simp only [wz, wd, ws, Nat.reduceAdd, Nat.reduceSub, Nat.reduceMul, Nat.reduceLeDiff, Nat.reduceEqDiff, Nat.reduceLT, Nat.reduceBEq, reduceIte, reduceCtorEq, Int.reduceToNat, Nat.reduceShiftRight, Nat.reduceAnd, Nat.reduceBneDiff, Nat.reduceBNe, c21r1, semI.eq_10, semI.eq_11, semI.eq_3, semI.eq_5, semI.eq_7]
  refine .seq ?_
  refine Rw.walk ?_
  simp only [wz, wd, ws, Nat.reduceAdd, Nat.reduceSub, Nat.reduceMul, Nat.reduceLeDiff, Nat.reduceEqDiff, Nat.reduceLT, Nat.reduceBEq, reduceIte, reduceCtorEq, Int.reduceToNat, Nat.reduceShiftRight, Nat.reduceAnd, Nat.reduceBneDiff, Nat.reduceBNe, c21r2, semI.eq_10, semI.eq_11, semI.eq_3, semI.eq_5, semI.eq_7]
  obtain ⟨t2, e2, h⟩ := Option.bind_eq_some_iff.1 h
  refine call_fun [] false ⟨trivial, trivial, trivial⟩ rfl ?_ (f_octet_Bytes_ok _ _ e2) (fun _ => rfl) (fun i hi => by cases hi) ?_
  · simp only [wz, wd, ws, Nat.reduceAdd, Nat.reduceSub, Nat.reduceMul, Nat.reduceLeDiff, Nat.reduceEqDiff, Nat.reduceLT, Nat.reduceBEq, reduceIte, reduceCtorEq, Int.reduceToNat, Nat.reduceShiftRight, Nat.reduceAnd, Nat.reduceBneDiff, Nat.reduceBNe]
  simp only [wz, wd, ws, Nat.reduceAdd, Nat.reduceSub, Nat.reduceMul, Nat.reduceLeDiff, Nat.reduceEqDiff, Nat.reduceLT, Nat.reduceBEq, reduceIte, reduceCtorEq, Int.reduceToNat, Nat.reduceShiftRight, Nat.reduceAnd, Nat.reduceBneDiff, Nat.reduceBNe, c21r2, semI.eq_10, semI.eq_11, semI.eq_3, semI.eq_5, semI.eq_7]
  refine .seq ?_
  refine .seq ?_
  refine Rw.walk ?_
  simp only [wz, wd, ws, Nat.reduceAdd, Nat.reduceSub, Nat.reduceMul, Nat.reduceLeDiff, Nat.reduceEqDiff, Nat.reduceLT, Nat.reduceBEq, reduceIte, reduceCtorEq, Int.reduceToNat, Nat.reduceShiftRight, Nat.reduceAnd, Nat.reduceBneDiff, Nat.reduceBNe, c21r3, semI.eq_10, semI.eq_11, semI.eq_3, semI.eq_5, semI.eq_7]
  repeat (refine And.intro ?_ ?_; · first | omega | (intro q; simp only [wz, wd, ws, Nat.reduceAdd, Nat.reduceSub, Nat.reduceMul, Nat.reduceLeDiff, Nat.reduceEqDiff, Nat.reduceLT, Nat.reduceBEq, reduceIte, reduceCtorEq, Int.reduceToNat, Nat.reduceShiftRight, Nat.reduceAnd, Nat.reduceBneDiff, Nat.reduceBNe, q]; done))
  refine .cond (p := (((!t.2) || (t2.2 != 0)) || ((t2.1.length : Int) != 32))) (by first | rfl | simp only [wz, wd, ws, Nat.reduceAdd, Nat.reduceSub, Nat.reduceMul, Nat.reduceLeDiff, Nat.reduceEqDiff, Nat.reduceLT, Nat.reduceBEq, reduceIte, reduceCtorEq, Int.reduceToNat, Nat.reduceShiftRight, Nat.reduceAnd, Nat.reduceBneDiff, Nat.reduceBNe]) (fun h1 => ?_) (fun h1 => ?_)
  · rw [ite_t h1] at h
    refine .seq ?_
    refine Rw.walk ?_
    simp only [wz, wd, ws, Nat.reduceAdd, Nat.reduceSub, Nat.reduceMul, Nat.reduceLeDiff, Nat.reduceEqDiff, Nat.reduceLT, Nat.reduceBEq, reduceIte, reduceCtorEq, Int.reduceToNat, Nat.reduceShiftRight, Nat.reduceAnd, Nat.reduceBneDiff, Nat.reduceBNe, c21r4, semI.eq_10, semI.eq_11, semI.eq_3, semI.eq_5, semI.eq_7]
    obtain rfl := Option.some.inj h
    refine .ret ?_
    rw [← hR]
    simp only [wz, wd, ws, Nat.reduceAdd, Nat.reduceSub, Nat.reduceMul, Nat.reduceLeDiff, Nat.reduceEqDiff, Nat.reduceLT, Nat.reduceBEq, reduceIte, reduceCtorEq, Int.reduceToNat, Nat.reduceShiftRight, Nat.reduceAnd, Nat.reduceBneDiff, Nat.reduceBNe, rv21]
  · rw [ite_f h1] at h
    refine .skip ?_
    refine .seq ?_
    refine Rw.walk ?_
    simp only [wz, wd, ws, Nat.reduceAdd, Nat.reduceSub, Nat.reduceMul, Nat.reduceLeDiff, Nat.reduceEqDiff, Nat.reduceLT, Nat.reduceBEq, reduceIte, reduceCtorEq, Int.reduceToNat, Nat.reduceShiftRight, Nat.reduceAnd, Nat.reduceBneDiff, Nat.reduceBNe, c21r5, semI.eq_10, semI.eq_11, semI.eq_3, semI.eq_5, semI.eq_7]
    obtain rfl := Option.some.inj h
    refine .ret ?_
    rw [← hR]
    simp only [wz, wd, ws, Nat.reduceAdd, Nat.reduceSub, Nat.reduceMul, Nat.reduceLeDiff, Nat.reduceEqDiff, Nat.reduceLT, Nat.reduceBEq, reduceIte, reduceCtorEq, Int.reduceToNat, Nat.reduceShiftRight, Nat.reduceAnd, Nat.reduceBneDiff, Nat.reduceBNe, rv21]
-- 11 consignor/consignorlaw02.alive
def c11r0 : List Opn := [
  ⟨(some 0), none, .mv (.c (.s (.d (.bool false))))⟩]
def c11r1 : List Opn := [
  ⟨(some 1), none, .call (.fn 14) [(.c (.s (.d (.str [97, 98, 99]))))]⟩, 
  ⟨(some 2), none, .bin .eql (.t 1) (.c (.s (.d (.str [115, 104, 97, 50, 53, 54, 58, 98, 97, 55, 56, 49, 54, 98, 102, 56, 102, 48, 49, 99, 102, 101, 97, 52, 49, 52, 49, 52, 48, 100, 101, 53, 100, 97, 101, 50, 50, 50, 51, 98, 48, 48, 51, 54, 49, 97, 51, 57, 54, 49, 55, 55, 97, 57, 99, 98, 52, 49, 48, 102, 102, 54, 49, 102, 50, 48, 48, 49, 53, 97, 100]))))⟩, 
  ⟨(some 0), none, .mv (.t 2)⟩]
def c11 : C := .seq (.reg c11r0 none []) (.seq (.reg c11r1 none [0]) (.ret))
def k11 : List (Nat × List Nat) := [(1, [0]), (0, [])]
theorem cc11 : (Tryd.f11.body).bind (cC Tryd.prog 3 k11) = some c11 := by kernel_rfl
def rv11 : List RV := [.t 0]
theorem cr11 : cRVs Tryd.prog Tryd.f11.results.toList = some rv11 := by kernel_rfl
theorem f_law02_alive_ok (y_ : Bool) (h : f_law02_alive = some y_) : Fun Tryd.prog glP 11 [] (.b (.s (.d (.bool y_)))) := by
  refine fun_walk [] Tryd.func11 Tryd.ntmps11 cc11 cr11 (by kernel_rfl) (by simp only [List.length_cons, List.length_nil]; decide) ?_
  generalize hR : Ret _ _ _ _ _ = R_
  simp only [wz, wd, ws, Nat.reduceAdd, Nat.reduceSub, Nat.reduceMul, Nat.reduceLeDiff, Nat.reduceEqDiff, Nat.reduceLT, Nat.reduceBEq, reduceIte, reduceCtorEq, Int.reduceToNat, Nat.reduceShiftRight, Nat.reduceAnd, Nat.reduceBneDiff, Nat.reduceBNe]
  unfold f_law02_alive at h; unfold c11
  refine .seq ?_
  refine Rw.walk ?_
  simp only [wz, wd, ws, Nat.reduceAdd, Nat.reduceSub, Nat.reduceMul, Nat.reduceLeDiff, Nat.reduceEqDiff, Nat.reduceLT, Nat.reduceBEq, reduceIte, reduceCtorEq, Int.reduceToNat, Nat.reduceShiftRight, Nat.reduceAnd, Nat.reduceBneDiff, Nat.reduceBNe, c11r0, semI.eq_10, semI.eq_11, semI.eq_3, semI.eq_5, semI.eq_7]
  refine .seq ?_
  refine Rw.walk ?_
  simp only [wz, wd, ws, Nat.reduceAdd, Nat.reduceSub, Nat.reduceMul, Nat.reduceLeDiff, Nat.reduceEqDiff, Nat.reduceLT, Nat.reduceBEq, reduceIte, reduceCtorEq, Int.reduceToNat, Nat.reduceShiftRight, Nat.reduceAnd, Nat.reduceBneDiff, Nat.reduceBNe, c11r1, semI.eq_10, semI.eq_11, semI.eq_3, semI.eq_5, semI.eq_7]
  obtain ⟨t, e1, h⟩ := Option.bind_eq_some_iff.1 h
  refine call_fun [] false ⟨trivial, trivial, trivial⟩ rfl ?_ (f_digest_Of_ok _ _ e1) (fun _ => rfl) (fun i hi => by cases hi) ?_
  · simp only [wz, wd, ws, Nat.reduceAdd, Nat.reduceSub, Nat.reduceMul, Nat.reduceLeDiff, Nat.reduceEqDiff, Nat.reduceLT, Nat.reduceBEq, reduceIte, reduceCtorEq, Int.reduceToNat, Nat.reduceShiftRight, Nat.reduceAnd, Nat.reduceBneDiff, Nat.reduceBNe]
  simp only [wz, wd, ws, Nat.reduceAdd, Nat.reduceSub, Nat.reduceMul, Nat.reduceLeDiff, Nat.reduceEqDiff, Nat.reduceLT, Nat.reduceBEq, reduceIte, reduceCtorEq, Int.reduceToNat, Nat.reduceShiftRight, Nat.reduceAnd, Nat.reduceBneDiff, Nat.reduceBNe, c11r1, semI.eq_10, semI.eq_11, semI.eq_3, semI.eq_5, semI.eq_7]
  obtain rfl := Option.some.inj h
  refine .ret ?_
  rw [← hR]
  simp only [wz, wd, ws, Nat.reduceAdd, Nat.reduceSub, Nat.reduceMul, Nat.reduceLeDiff, Nat.reduceEqDiff, Nat.reduceLT, Nat.reduceBEq, reduceIte, reduceCtorEq, Int.reduceToNat, Nat.reduceShiftRight, Nat.reduceAnd, Nat.reduceBneDiff, Nat.reduceBNe, rv11]
-- 22 consignor/digest.Fits
def c22r0 : List Opn := [
  ⟨(some 4), none, .mv (.c (.s (.d (.int .i64 0))))⟩]
def c22r1 : List Opn := [
  ⟨(some 8), none, .mv (.t 0)⟩, 
  ⟨(some 9), none, .call (.fn 21) [(.t 8)]⟩, 
  ⟨(some 7), none, .mv (.t 9)⟩, 
  ⟨(some 10), none, .ext (.t 7) 0⟩, 
  ⟨(some 11), none, .ext (.t 7) 1⟩, 
  ⟨(some 5), none, .mv (.t 10)⟩, 
  ⟨(some 6), none, .mv (.t 11)⟩]
def c22r2 : List Opn := [
  ⟨(some 13), none, .mv (.t 6)⟩, 
  ⟨(some 14), none, .bin .neq (.t 13) (.c (.s (.d (.int .i64 0))))⟩, 
  ⟨(some 12), none, .mv (.t 14)⟩]
def c22r3 : List Opn := [
  ⟨(some 15), none, .mv (.t 6)⟩, 
  ⟨(some 4), none, .mv (.t 15)⟩]
def c22r4 : List Opn := [
  ⟨(some 17), none, .mv (.t 1)⟩, 
  ⟨(some 18), none, .bsl 1 [(.t 17)]⟩, 
  ⟨(some 19), none, .call (.fn 12) [(.t 18)]⟩, 
  ⟨(some 20), none, .mv (.t 5)⟩, 
  ⟨(some 21), none, .bin .neq (.t 19) (.t 20)⟩, 
  ⟨(some 16), none, .mv (.t 21)⟩]
def c22r5 : List Opn := [
  ⟨(some 4), none, .mv (.c (.s (.d (.int .i64 10))))⟩]
def c22r6 : List Opn := [
  ⟨(some 4), none, .mv (.c (.s (.d (.int .i64 0))))⟩]
def c22 : C := .seq (.reg c22r0 none [0, 1]) (.seq (.reg c22r1 none [1, 5, 6]) (.seq (.blk 0 (.seq (.reg c22r2 none [1, 5, 6, 12]) (.cond (.t 12) (.seq (.reg c22r3 none [4]) (.ret)) (.seq (.reg c22r4 none [16]) (.cond (.t 16) (.seq (.reg c22r5 none [4]) (.ret)) (.skip)))))) (.seq (.reg c22r6 none [4]) (.ret))))
def k22 : List (Nat × List Nat) := [(6, [4]), (3, [4]), (5, [4]), (4, [16]), (2, [1, 5, 6, 12]), (1, [1, 5, 6]), (0, [0, 1])]
theorem cc22 : (Tryd.f22.body).bind (cC Tryd.prog 22 k22) = some c22 := by kernel_rfl
def rv22 : List RV := [.t 4]
theorem cr22 : cRVs Tryd.prog Tryd.f22.results.toList = some rv22 := by kernel_rfl
theorem f_digest_Fits_ok (digest : Str) (data : Str) (y_ : Int) (h : f_digest_Fits digest data = some y_) : Fun Tryd.prog glP 22 [.b (.s (.d (.str digest))), .b (.s (.d (.str data)))] (.b (.s (.d (.int .i64 y_)))) := by
  refine fun_walk [] Tryd.func22 Tryd.ntmps22 cc22 cr22 (by kernel_rfl) (by simp only [List.length_cons, List.length_nil]; decide) ?_
  generalize hR : Ret _ _ _ _ _ = R_
  simp only [wz, wd, ws, Nat.reduceAdd, Nat.reduceSub, Nat.reduceMul, Nat.reduceLeDiff, Nat.reduceEqDiff, Nat.reduceLT, Nat.reduceBEq, reduceIte, reduceCtorEq, Int.reduceToNat, Nat.reduceShiftRight, Nat.reduceAnd, Nat.reduceBneDiff, Nat.reduceBNe]
  unfold f_digest_Fits at h; unfold c22
  refine .seq ?_
  refine Rw.walk ?_
  simp only [wz, wd, ws, Nat.reduceAdd, Nat.reduceSub, Nat.reduceMul, Nat.reduceLeDiff, Nat.reduceEqDiff, Nat.reduceLT, Nat.reduceBEq, reduceIte, reduceCtorEq, Int.reduceToNat, Nat.reduceShiftRight, Nat.reduceAnd, Nat.reduceBneDiff, Nat.reduceBNe, c22r0, semI.eq_10, semI.eq_11, semI.eq_3, semI.eq_5, semI.eq_7]
  refine .seq ?_
  refine Rw.walk ?_
  simp only [wz, wd, ws, Nat.reduceAdd, Nat.reduceSub, Nat.reduceMul, Nat.reduceLeDiff, Nat.reduceEqDiff, Nat.reduceLT, Nat.reduceBEq, reduceIte, reduceCtorEq, Int.reduceToNat, Nat.reduceShiftRight, Nat.reduceAnd, Nat.reduceBneDiff, Nat.reduceBNe, c22r1, semI.eq_10, semI.eq_11, semI.eq_3, semI.eq_5, semI.eq_7]
  obtain ⟨t, e1, h⟩ := Option.bind_eq_some_iff.1 h
  refine call_fun [] false ⟨trivial, trivial, trivial⟩ rfl ?_ (f_digest_Parse_ok _ _ e1) (fun _ => rfl) (fun i hi => by cases hi) ?_
  · simp only [wz, wd, ws, Nat.reduceAdd, Nat.reduceSub, Nat.reduceMul, Nat.reduceLeDiff, Nat.reduceEqDiff, Nat.reduceLT, Nat.reduceBEq, reduceIte, reduceCtorEq, Int.reduceToNat, Nat.reduceShiftRight, Nat.reduceAnd, Nat.reduceBneDiff, Nat.reduceBNe]
  simp only [wz, wd, ws, Nat.reduceAdd, Nat.reduceSub, Nat.reduceMul, Nat.reduceLeDiff, Nat.reduceEqDiff, Nat.reduceLT, Nat.reduceBEq, reduceIte, reduceCtorEq, Int.reduceToNat, Nat.reduceShiftRight, Nat.reduceAnd, Nat.reduceBneDiff, Nat.reduceBNe, c22r1, semI.eq_10, semI.eq_11, semI.eq_3, semI.eq_5, semI.eq_7]
  refine .seq ?_
  refine .blk ?_
  refine .seq ?_
  refine Rw.walk ?_
  simp only [wz, wd, ws, Nat.reduceAdd, Nat.reduceSub, Nat.reduceMul, Nat.reduceLeDiff, Nat.reduceEqDiff, Nat.reduceLT, Nat.reduceBEq, reduceIte, reduceCtorEq, Int.reduceToNat, Nat.reduceShiftRight, Nat.reduceAnd, Nat.reduceBneDiff, Nat.reduceBNe, c22r2, semI.eq_10, semI.eq_11, semI.eq_3, semI.eq_5, semI.eq_7]
  refine .cond (p := (t.2 != 0)) (by first | rfl | simp only [wz, wd, ws, Nat.reduceAdd, Nat.reduceSub, Nat.reduceMul, Nat.reduceLeDiff, Nat.reduceEqDiff, Nat.reduceLT, Nat.reduceBEq, reduceIte, reduceCtorEq, Int.reduceToNat, Nat.reduceShiftRight, Nat.reduceAnd, Nat.reduceBneDiff, Nat.reduceBNe]) (fun h1 => ?_) (fun h1 => ?_)
  · rw [ite_t h1] at h
    refine .seq ?_
    refine Rw.walk ?_
    simp only [wz, wd, ws, Nat.reduceAdd, Nat.reduceSub, Nat.reduceMul, Nat.reduceLeDiff, Nat.reduceEqDiff, Nat.reduceLT, Nat.reduceBEq, reduceIte, reduceCtorEq, Int.reduceToNat, Nat.reduceShiftRight, Nat.reduceAnd, Nat.reduceBneDiff, Nat.reduceBNe, c22r3, semI.eq_10, semI.eq_11, semI.eq_3, semI.eq_5, semI.eq_7]
    obtain rfl := Option.some.inj h
    refine .ret ?_
    rw [← hR]
    simp only [wz, wd, ws, Nat.reduceAdd, Nat.reduceSub, Nat.reduceMul, Nat.reduceLeDiff, Nat.reduceEqDiff, Nat.reduceLT, Nat.reduceBEq, reduceIte, reduceCtorEq, Int.reduceToNat, Nat.reduceShiftRight, Nat.reduceAnd, Nat.reduceBneDiff, Nat.reduceBNe, rv22]
  · rw [ite_f h1] at h
    refine .seq ?_
    refine Rw.walk ?_
    simp only [wz, wd, ws, Nat.reduceAdd, Nat.reduceSub, Nat.reduceMul, Nat.reduceLeDiff, Nat.reduceEqDiff, Nat.reduceLT, Nat.reduceBEq, reduceIte, reduceCtorEq, Int.reduceToNat, Nat.reduceShiftRight, Nat.reduceAnd, Nat.reduceBneDiff, Nat.reduceBNe, c22r4, semI.eq_10, semI.eq_11, semI.eq_3, semI.eq_5, semI.eq_7]
    refine Go1.of (sem_bsl (enc := eS) (m := ([data] : List Str)) eS_len (by rfl) (by rfl) (by rfl) ⟨trivial, trivial⟩) ?_
    simp only [wz, wd, ws, Nat.reduceAdd, Nat.reduceSub, Nat.reduceMul, Nat.reduceLeDiff, Nat.reduceEqDiff, Nat.reduceLT, Nat.reduceBEq, reduceIte, reduceCtorEq, Int.reduceToNat, Nat.reduceShiftRight, Nat.reduceAnd, Nat.reduceBneDiff, Nat.reduceBNe, c22r4, semI.eq_10, semI.eq_11, semI.eq_3, semI.eq_5, semI.eq_7]
    obtain ⟨t2, e2, h⟩ := Option.bind_eq_some_iff.1 h
    refine call_fun [18] false ⟨trivial, trivial, trivial⟩ rfl ?_ (f_digest_Sum_ok _ _ e2) (fun _ => rfl) (fun i hi e he => coF_get (l := [18]) (by simp only [wz, wd, ws, Nat.reduceAdd, Nat.reduceSub, Nat.reduceMul, Nat.reduceLeDiff, Nat.reduceEqDiff, Nat.reduceLT, Nat.reduceBEq, reduceIte, reduceCtorEq, Int.reduceToNat, Nat.reduceShiftRight, Nat.reduceAnd, Nat.reduceBneDiff, Nat.reduceBNe, wi]) i e hi he) ?_
    · simp only [wz, wd, ws, Nat.reduceAdd, Nat.reduceSub, Nat.reduceMul, Nat.reduceLeDiff, Nat.reduceEqDiff, Nat.reduceLT, Nat.reduceBEq, reduceIte, reduceCtorEq, Int.reduceToNat, Nat.reduceShiftRight, Nat.reduceAnd, Nat.reduceBneDiff, Nat.reduceBNe]
    simp only [wz, wd, ws, Nat.reduceAdd, Nat.reduceSub, Nat.reduceMul, Nat.reduceLeDiff, Nat.reduceEqDiff, Nat.reduceLT, Nat.reduceBEq, reduceIte, reduceCtorEq, Int.reduceToNat, Nat.reduceShiftRight, Nat.reduceAnd, Nat.reduceBneDiff, Nat.reduceBNe, c22r4, semI.eq_10, semI.eq_11, semI.eq_3, semI.eq_5, semI.eq_7]
    refine .cond (p := (!(t2 == t.1))) (by first | rfl | simp only [wz, wd, ws, Nat.reduceAdd, Nat.reduceSub, Nat.reduceMul, Nat.reduceLeDiff, Nat.reduceEqDiff, Nat.reduceLT, Nat.reduceBEq, reduceIte, reduceCtorEq, Int.reduceToNat, Nat.reduceShiftRight, Nat.reduceAnd, Nat.reduceBneDiff, Nat.reduceBNe]) (fun h1 => ?_) (fun h1 => ?_)
    · rw [ite_t h1] at h
      refine .seq ?_
      refine Rw.walk ?_
      simp only [wz, wd, ws, Nat.reduceAdd, Nat.reduceSub, Nat.reduceMul, Nat.reduceLeDiff, Nat.reduceEqDiff, Nat.reduceLT, Nat.reduceBEq, reduceIte, reduceCtorEq, Int.reduceToNat, Nat.reduceShiftRight, Nat.reduceAnd, Nat.reduceBneDiff, Nat.reduceBNe, c22r5, semI.eq_10, semI.eq_11, semI.eq_3, semI.eq_5, semI.eq_7]
      obtain rfl := Option.some.inj h
      refine .ret ?_
      rw [← hR]
      simp only [wz, wd, ws, Nat.reduceAdd, Nat.reduceSub, Nat.reduceMul, Nat.reduceLeDiff, Nat.reduceEqDiff, Nat.reduceLT, Nat.reduceBEq, reduceIte, reduceCtorEq, Int.reduceToNat, Nat.reduceShiftRight, Nat.reduceAnd, Nat.reduceBneDiff, Nat.reduceBNe, rv22]
    · rw [ite_f h1] at h
      refine .skip ?_
      refine .eblk ?_
      refine .seq ?_
      refine Rw.walk ?_
      simp only [wz, wd, ws, Nat.reduceAdd, Nat.reduceSub, Nat.reduceMul, Nat.reduceLeDiff, Nat.reduceEqDiff, Nat.reduceLT, Nat.reduceBEq, reduceIte, reduceCtorEq, Int.reduceToNat, Nat.reduceShiftRight, Nat.reduceAnd, Nat.reduceBneDiff, Nat.reduceBNe, c22r6, semI.eq_10, semI.eq_11, semI.eq_3, semI.eq_5, semI.eq_7]
      obtain rfl := Option.some.inj h
      refine .ret ?_
      rw [← hR]
      simp only [wz, wd, ws, Nat.reduceAdd, Nat.reduceSub, Nat.reduceMul, Nat.reduceLeDiff, Nat.reduceEqDiff, Nat.reduceLT, Nat.reduceBEq, reduceIte, reduceCtorEq, Int.reduceToNat, Nat.reduceShiftRight, Nat.reduceAnd, Nat.reduceBneDiff, Nat.reduceBNe, rv22]
-- 6 consignor/consignorlaw02.DigestApart
def c6r0 : List Opn := [
  ⟨(some 8), none, .mv (.c (.s (.d (.bool false))))⟩]
def c6r1 : List Opn := [
  ⟨(some 15), none, .mv (.t 0)⟩, 
  ⟨(some 16), none, .call (.fn 10) [(.t 15)]⟩, 
  ⟨(some 17), none, .mv (.t 1)⟩, 
  ⟨(some 18), none, .call (.fn 10) [(.t 17)]⟩, 
  ⟨(some 0), none, .mv (.t 16)⟩, 
  ⟨(some 1), none, .mv (.t 18)⟩]
def c6r2 : List Opn := [
  ⟨(some 19), none, .mv (.t 0)⟩, 
  ⟨(some 20), none, .call (.fn 14) [(.t 19)]⟩, 
  ⟨(some 9), none, .mv (.t 20)⟩]
def c6r3 : List Opn := [
  ⟨(some 22), none, .mv (.t 9)⟩, 
  ⟨(some 23), none, .call (.fn 21) [(.t 22)]⟩, 
  ⟨(some 21), none, .mv (.t 23)⟩, 
  ⟨(some 24), none, .ext (.t 21) 0⟩, 
  ⟨(some 25), none, .ext (.t 21) 1⟩, 
  ⟨(some 10), none, .mv (.t 24)⟩, 
  ⟨(some 11), none, .mv (.t 25)⟩]
def c6r4 : List Opn := [
  ⟨(some 26), none, .mv (.t 11)⟩, 
  ⟨(some 27), none, .bin .neq (.t 26) (.c (.s (.d (.int .i64 0))))⟩, 
  ⟨(some 28), none, .mv (.t 27)⟩, 
  ⟨(some 29), some (28, false), .mv (.t 9)⟩, 
  ⟨(some 30), some (28, false), .len .str (.t 29)⟩, 
  ⟨(some 31), some (28, false), .bin .neq (.t 30) (.c (.s (.d (.int .i64 71))))⟩, 
  ⟨(some 32), none, .pick (.t 28) (.c (.s (.d (.bool true)))) (.t 31)⟩, 
  ⟨(some 33), none, .mv (.t 32)⟩, 
  ⟨(some 34), some (33, false), .mv (.t 10)⟩, 
  ⟨(some 35), some (33, false), .len .str (.t 34)⟩, 
  ⟨(some 36), some (33, false), .bin .neq (.t 35) (.c (.s (.d (.int .i64 32))))⟩, 
  ⟨(some 37), none, .pick (.t 33) (.c (.s (.d (.bool true)))) (.t 36)⟩, 
  ⟨(some 38), none, .mv (.t 37)⟩, 
  ⟨(some 39), some (38, false), .call (.fn 11) []⟩, 
  ⟨(some 40), some (38, false), .un .not (.t 39)⟩, 
  ⟨(some 41), none, .pick (.t 38) (.c (.s (.d (.bool true)))) (.t 40)⟩]
def c6r5 : List Opn := [
  ⟨(some 8), none, .mv (.c (.s (.d (.bool false))))⟩]
def c6r6 : List Opn := [
  ⟨(some 42), none, .mv (.t 9)⟩, 
  ⟨(some 43), none, .mv (.t 1)⟩, 
  ⟨(some 44), none, .call (.fn 22) [(.t 42), (.t 43)]⟩, 
  ⟨(some 45), none, .bin .eql (.t 44) (.c (.s (.d (.int .i64 0))))⟩, 
  ⟨(some 46), none, .mv (.t 1)⟩, 
  ⟨(some 47), none, .bsl 1 [(.t 46)]⟩, 
  ⟨(some 48), none, .call (.fn 12) [(.t 47)]⟩, 
  ⟨(some 49), none, .mv (.t 10)⟩, 
  ⟨(some 50), none, .bin .eql (.t 48) (.t 49)⟩, 
  ⟨(some 51), none, .bbo .neq (.t 45) (.t 50)⟩]
def c6r7 : List Opn := [
  ⟨(some 8), none, .mv (.c (.s (.d (.bool false))))⟩]
def c6r8 : List Opn := [
  ⟨(some 52), none, .mv (.t 9)⟩, 
  ⟨(some 53), none, .cv .s2b (.t 52)⟩, 
  ⟨(some 12), none, .mv (.t 53)⟩]
def c6r9 : List Opn := [
  ⟨(some 54), none, .mv (.t 2)⟩, 
  ⟨(some 55), none, .bin .rem (.t 54) (.c (.s (.d (.int .i64 71))))⟩, 
  ⟨(some 56), none, .bin .add (.t 55) (.c (.s (.d (.int .i64 71))))⟩, 
  ⟨(some 57), none, .bin .rem (.t 56) (.c (.s (.d (.int .i64 71))))⟩, 
  ⟨(some 2), none, .mv (.t 57)⟩]
def c6r10 : List Opn := [
  ⟨(some 58), none, .mv (.t 12)⟩, 
  ⟨(some 59), none, .mv (.t 2)⟩, 
  ⟨(some 60), none, .iadr (.sl 1) (.t 58) (.t 59)⟩, 
  ⟨(some 61), none, .load false 1 (.t 60)⟩, 
  ⟨(some 62), none, .mv (.t 3)⟩, 
  ⟨(some 63), none, .bin .eql (.t 61) (.t 62)⟩]
def c6r11 : List Opn := [
  ⟨(some 8), none, .mv (.c (.s (.d (.bool true))))⟩]
def c6r12 : List Opn := [
  ⟨(some 64), none, .mv (.t 12)⟩, 
  ⟨(some 65), none, .mv (.t 2)⟩, 
  ⟨(some 66), none, .mv (.t 3)⟩, 
  ⟨(some 67), none, .iadr (.sl 1) (.t 64) (.t 65)⟩, 
  ⟨none, none, .store 1 (.t 67) (.t 66)⟩]
def c6r13 : List Opn := [
  ⟨(some 69), none, .mv (.t 12)⟩, 
  ⟨(some 70), none, .cv .b2s (.t 69)⟩, 
  ⟨(some 71), none, .call (.fn 21) [(.t 70)]⟩, 
  ⟨(some 68), none, .mv (.t 71)⟩, 
  ⟨(some 72), none, .ext (.t 68) 0⟩, 
  ⟨(some 73), none, .ext (.t 68) 1⟩, 
  ⟨(some 13), none, .mv (.t 72)⟩, 
  ⟨(some 14), none, .mv (.t 73)⟩]
def c6r14 : List Opn := [
  ⟨(some 74), none, .mv (.t 14)⟩, 
  ⟨(some 75), none, .bin .eql (.t 74) (.c (.s (.d (.int .i64 6))))⟩, 
  ⟨(some 76), none, .mv (.t 75)⟩, 
  ⟨(some 77), some (76, true), .mv (.t 13)⟩, 
  ⟨(some 78), some (76, true), .bin .eql (.t 77) (.c (.s (.d (.str []))))⟩, 
  ⟨(some 79), none, .pick (.t 76) (.t 78) (.c (.s (.d (.bool false))))⟩, 
  ⟨(some 80), none, .mv (.t 79)⟩, 
  ⟨(some 81), some (80, false), .mv (.t 14)⟩, 
  ⟨(some 82), some (80, false), .bin .eql (.t 81) (.c (.s (.d (.int .i64 0))))⟩, 
  ⟨(some 83), some (80, false), .mv (.t 82)⟩, 
  ⟨(some 84), some (83, true), .mv (.t 13)⟩, 
  ⟨(some 85), some (83, true), .mv (.t 10)⟩, 
  ⟨(some 86), some (83, true), .bin .neq (.t 84) (.t 85)⟩, 
  ⟨(some 87), some (80, false), .pick (.t 83) (.t 86) (.c (.s (.d (.bool false))))⟩, 
  ⟨(some 88), some (80, false), .mv (.t 87)⟩, 
  ⟨(some 89), some (88, true), .mv (.t 2)⟩, 
  ⟨(some 90), some (88, true), .bin .geq (.t 89) (.c (.s (.d (.int .i64 7))))⟩, 
  ⟨(some 91), some (80, false), .pick (.t 88) (.t 90) (.c (.s (.d (.bool false))))⟩, 
  ⟨(some 92), none, .pick (.t 80) (.c (.s (.d (.bool true)))) (.t 91)⟩, 
  ⟨(some 8), none, .mv (.t 92)⟩]
def c6 : C := .seq (.reg c6r0 none [0, 1, 2, 3]) (.seq (.reg c6r1 none [0, 1, 2, 3]) (.seq (.reg c6r2 none [1, 2, 3, 9]) (.seq (.reg c6r3 none [1, 2, 3, 9, 10, 11]) (.seq (.seq (.reg c6r4 none [1, 2, 3, 9, 10, 41]) (.cond (.t 41) (.seq (.reg c6r5 none [8]) (.ret)) (.skip))) (.seq (.seq (.reg c6r6 none [2, 3, 9, 10, 51]) (.cond (.t 51) (.seq (.reg c6r7 none [8]) (.ret)) (.skip))) (.seq (.reg c6r8 none [2, 3, 10, 12]) (.seq (.reg c6r9 none [2, 3, 10, 12]) (.seq (.seq (.reg c6r10 none [2, 3, 10, 12, 63]) (.cond (.t 63) (.seq (.reg c6r11 none [8]) (.ret)) (.skip))) (.seq (.reg c6r12 none [2, 10, 12]) (.seq (.reg c6r13 none [2, 10, 13, 14]) (.seq (.reg c6r14 none [8]) (.ret))))))))))))
def k6 : List (Nat × List Nat) := [(14, [8]), (13, [2, 10, 13, 14]), (12, [2, 10, 12]), (11, [8]), (10, [2, 3, 10, 12, 63]), (9, [2, 3, 10, 12]), (8, [2, 3, 10, 12]), (7, [8]), (6, [2, 3, 9, 10, 51]), (5, [8]), (4, [1, 2, 3, 9, 10, 41]), (3, [1, 2, 3, 9, 10, 11]), (2, [1, 2, 3, 9]), (1, [0, 1, 2, 3]), (0, [0, 1, 2, 3])]
theorem cc6 : (Tryd.f6.body).bind (cC Tryd.prog 93 k6) = some c6 := by kernel_rfl
def rv6 : List RV := [.t 8]
theorem cr6 : cRVs Tryd.prog Tryd.f6.results.toList = some rv6 := by kernel_rfl
theorem f_law02_DigestApart_ok (data : Str) (other : Str) (atv : Int) (c : Int) (y_ : Bool) (h : f_law02_DigestApart data other atv c = some y_) : Fun Tryd.prog glP 6 [.b (.s (.d (.str data))), .b (.s (.d (.str other))), .b (.s (.d (.int .i64 atv))), .b (.s (.d (.int .u8 c)))] (.b (.s (.d (.bool y_)))) := by
  refine fun_walk [] Tryd.func6 Tryd.ntmps6 cc6 cr6 (by kernel_rfl) (by simp only [List.length_cons, List.length_nil]; decide) ?_
  generalize hR : Ret _ _ _ _ _ = R_
  simp only [wz, wd, ws, Nat.reduceAdd, Nat.reduceSub, Nat.reduceMul, Nat.reduceLeDiff, Nat.reduceEqDiff, Nat.reduceLT, Nat.reduceBEq, reduceIte, reduceCtorEq, Int.reduceToNat, Nat.reduceShiftRight, Nat.reduceAnd, Nat.reduceBneDiff, Nat.reduceBNe]
  unfold f_law02_DigestApart at h; unfold c6
  refine .seq ?_
  refine Rw.walk ?_
  simp only [wz, wd, ws, Nat.reduceAdd, Nat.reduceSub, Nat.reduceMul, Nat.reduceLeDiff, Nat.reduceEqDiff, Nat.reduceLT, Nat.reduceBEq, reduceIte, reduceCtorEq, Int.reduceToNat, Nat.reduceShiftRight, Nat.reduceAnd, Nat.reduceBneDiff, Nat.reduceBNe, c6r0, semI.eq_10, semI.eq_11, semI.eq_3, semI.eq_5, semI.eq_7]
  refine .seq ?_
  refine Rw.walk ?_
  simp only [wz, wd, ws, Nat.reduceAdd, Nat.reduceSub, Nat.reduceMul, Nat.reduceLeDiff, Nat.reduceEqDiff, Nat.reduceLT, Nat.reduceBEq, reduceIte, reduceCtorEq, Int.reduceToNat, Nat.reduceShiftRight, Nat.reduceAnd, Nat.reduceBneDiff, Nat.reduceBNe, c6r1, semI.eq_10, semI.eq_11, semI.eq_3, semI.eq_5, semI.eq_7]
  obtain ⟨t, e1, h⟩ := Option.bind_eq_some_iff.1 h
  refine call_fun [] false ⟨trivial, trivial, trivial⟩ rfl ?_ (f_law02_short_ok _ _ e1) (fun _ => rfl) (fun i hi => by cases hi) ?_
  · simp only [wz, wd, ws, Nat.reduceAdd, Nat.reduceSub, Nat.reduceMul, Nat.reduceLeDiff, Nat.reduceEqDiff, Nat.reduceLT, Nat.reduceBEq, reduceIte, reduceCtorEq, Int.reduceToNat, Nat.reduceShiftRight, Nat.reduceAnd, Nat.reduceBneDiff, Nat.reduceBNe]
  simp only [wz, wd, ws, Nat.reduceAdd, Nat.reduceSub, Nat.reduceMul, Nat.reduceLeDiff, Nat.reduceEqDiff, Nat.reduceLT, Nat.reduceBEq, reduceIte, reduceCtorEq, Int.reduceToNat, Nat.reduceShiftRight, Nat.reduceAnd, Nat.reduceBneDiff, Nat.reduceBNe, c6r1, semI.eq_10, semI.eq_11, semI.eq_3, semI.eq_5, semI.eq_7]
  obtain ⟨t2, e2, h⟩ := Option.bind_eq_some_iff.1 h
  refine call_fun [] false ⟨trivial, trivial, trivial⟩ rfl ?_ (f_law02_short_ok _ _ e2) (fun _ => rfl) (fun i hi => by cases hi) ?_
  · simp only [wz, wd, ws, Nat.reduceAdd, Nat.reduceSub, Nat.reduceMul, Nat.reduceLeDiff, Nat.reduceEqDiff, Nat.reduceLT, Nat.reduceBEq, reduceIte, reduceCtorEq, Int.reduceToNat, Nat.reduceShiftRight, Nat.reduceAnd, Nat.reduceBneDiff, Nat.reduceBNe]
  simp only [wz, wd, ws, Nat.reduceAdd, Nat.reduceSub, Nat.reduceMul, Nat.reduceLeDiff, Nat.reduceEqDiff, Nat.reduceLT, Nat.reduceBEq, reduceIte, reduceCtorEq, Int.reduceToNat, Nat.reduceShiftRight, Nat.reduceAnd, Nat.reduceBneDiff, Nat.reduceBNe, c6r1, semI.eq_10, semI.eq_11, semI.eq_3, semI.eq_5, semI.eq_7]
  refine .seq ?_
  refine Rw.walk ?_
  simp only [wz, wd, ws, Nat.reduceAdd, Nat.reduceSub, Nat.reduceMul, Nat.reduceLeDiff, Nat.reduceEqDiff, Nat.reduceLT, Nat.reduceBEq, reduceIte, reduceCtorEq, Int.reduceToNat, Nat.reduceShiftRight, Nat.reduceAnd, Nat.reduceBneDiff, Nat.reduceBNe, c6r2, semI.eq_10, semI.eq_11, semI.eq_3, semI.eq_5, semI.eq_7]
  obtain ⟨t3, e3, h⟩ := Option.bind_eq_some_iff.1 h
  refine call_fun [] false ⟨trivial, trivial, trivial⟩ rfl ?_ (f_digest_Of_ok _ _ e3) (fun _ => rfl) (fun i hi => by cases hi) ?_
  · simp only [wz, wd, ws, Nat.reduceAdd, Nat.reduceSub, Nat.reduceMul, Nat.reduceLeDiff, Nat.reduceEqDiff, Nat.reduceLT, Nat.reduceBEq, reduceIte, reduceCtorEq, Int.reduceToNat, Nat.reduceShiftRight, Nat.reduceAnd, Nat.reduceBneDiff, Nat.reduceBNe]
  simp only [wz, wd, ws, Nat.reduceAdd, Nat.reduceSub, Nat.reduceMul, Nat.reduceLeDiff, Nat.reduceEqDiff, Nat.reduceLT, Nat.reduceBEq, reduceIte, reduceCtorEq, Int.reduceToNat, Nat.reduceShiftRight, Nat.reduceAnd, Nat.reduceBneDiff, Nat.reduceBNe, c6r2, semI.eq_10, semI.eq_11, semI.eq_3, semI.eq_5, semI.eq_7]
  refine .seq ?_
  refine Rw.walk ?_
  simp only [wz, wd, ws, Nat.reduceAdd, Nat.reduceSub, Nat.reduceMul, Nat.reduceLeDiff, Nat.reduceEqDiff, Nat.reduceLT, Nat.reduceBEq, reduceIte, reduceCtorEq, Int.reduceToNat, Nat.reduceShiftRight, Nat.reduceAnd, Nat.reduceBneDiff, Nat.reduceBNe, c6r3, semI.eq_10, semI.eq_11, semI.eq_3, semI.eq_5, semI.eq_7]
  obtain ⟨t4, e4, h⟩ := Option.bind_eq_some_iff.1 h
  refine call_fun [] false ⟨trivial, trivial, trivial⟩ rfl ?_ (f_digest_Parse_ok _ _ e4) (fun _ => rfl) (fun i hi => by cases hi) ?_
  · simp only [wz, wd, ws, Nat.reduceAdd, Nat.reduceSub, Nat.reduceMul, Nat.reduceLeDiff, Nat.reduceEqDiff, Nat.reduceLT, Nat.reduceBEq, reduceIte, reduceCtorEq, Int.reduceToNat, Nat.reduceShiftRight, Nat.reduceAnd, Nat.reduceBneDiff, Nat.reduceBNe]
  simp only [wz, wd, ws, Nat.reduceAdd, Nat.reduceSub, Nat.reduceMul, Nat.reduceLeDiff, Nat.reduceEqDiff, Nat.reduceLT, Nat.reduceBEq, reduceIte, reduceCtorEq, Int.reduceToNat, Nat.reduceShiftRight, Nat.reduceAnd, Nat.reduceBneDiff, Nat.reduceBNe, c6r3, semI.eq_10, semI.eq_11, semI.eq_3, semI.eq_5, semI.eq_7]
  refine .seq ?_
  refine .seq ?_
  refine Rw.walk ?_
  simp only [wz, wd, ws, Nat.reduceAdd, Nat.reduceSub, Nat.reduceMul, Nat.reduceLeDiff, Nat.reduceEqDiff, Nat.reduceLT, Nat.reduceBEq, reduceIte, reduceCtorEq, Int.reduceToNat, Nat.reduceShiftRight, Nat.reduceAnd, Nat.reduceBneDiff, Nat.reduceBNe, c6r4, semI.eq_10, semI.eq_11, semI.eq_3, semI.eq_5, semI.eq_7]
  repeat (refine And.intro ?_ ?_; · first | omega | (intro q; simp only [wz, wd, ws, Nat.reduceAdd, Nat.reduceSub, Nat.reduceMul, Nat.reduceLeDiff, Nat.reduceEqDiff, Nat.reduceLT, Nat.reduceBEq, reduceIte, reduceCtorEq, Int.reduceToNat, Nat.reduceShiftRight, Nat.reduceAnd, Nat.reduceBneDiff, Nat.reduceBNe, q]; done))
  obtain ⟨t5, e5, h⟩ := Option.bind_eq_some_iff.1 h
  refine call_funG [] rfl (by simp only [wz, wd, ws, Nat.reduceAdd, Nat.reduceSub, Nat.reduceMul, Nat.reduceLeDiff, Nat.reduceEqDiff, Nat.reduceLT, Nat.reduceBEq, reduceIte, reduceCtorEq, Int.reduceToNat, Nat.reduceShiftRight, Nat.reduceAnd, Nat.reduceBneDiff, Nat.reduceBNe]) rfl ?_ (fun q => (f_law02_alive_ok _ (gx_iff e5 (by simpa using q)))) rfl (fun i hi => by cases hi) ?_
  · simp only [wz, wd, ws, Nat.reduceAdd, Nat.reduceSub, Nat.reduceMul, Nat.reduceLeDiff, Nat.reduceEqDiff, Nat.reduceLT, Nat.reduceBEq, reduceIte, reduceCtorEq, Int.reduceToNat, Nat.reduceShiftRight, Nat.reduceAnd, Nat.reduceBneDiff, Nat.reduceBNe]
  simp only [wz, wd, ws, Nat.reduceAdd, Nat.reduceSub, Nat.reduceMul, Nat.reduceLeDiff, Nat.reduceEqDiff, Nat.reduceLT, Nat.reduceBEq, reduceIte, reduceCtorEq, Int.reduceToNat, Nat.reduceShiftRight, Nat.reduceAnd, Nat.reduceBneDiff, Nat.reduceBNe, c6r4, semI.eq_10, semI.eq_11, semI.eq_3, semI.eq_5, semI.eq_7]
  repeat (refine And.intro ?_ ?_; · first | omega | (intro q; simp only [wz, wd, ws, Nat.reduceAdd, Nat.reduceSub, Nat.reduceMul, Nat.reduceLeDiff, Nat.reduceEqDiff, Nat.reduceLT, Nat.reduceBEq, reduceIte, reduceCtorEq, Int.reduceToNat, Nat.reduceShiftRight, Nat.reduceAnd, Nat.reduceBneDiff, Nat.reduceBNe, q]; done))
  refine .cond (p := ((((t4.2 != 0) || ((t3.length : Int) != 71)) || ((t4.1.length : Int) != 32)) || (!t5))) (by first | rfl | simp only [wz, wd, ws, Nat.reduceAdd, Nat.reduceSub, Nat.reduceMul, Nat.reduceLeDiff, Nat.reduceEqDiff, Nat.reduceLT, Nat.reduceBEq, reduceIte, reduceCtorEq, Int.reduceToNat, Nat.reduceShiftRight, Nat.reduceAnd, Nat.reduceBneDiff, Nat.reduceBNe]) (fun h1 => ?_) (fun h1 => ?_)
  · rw [ite_t h1] at h
    refine .seq ?_
    refine Rw.walk ?_
    simp only [wz, wd, ws, Nat.reduceAdd, Nat.reduceSub, Nat.reduceMul, Nat.reduceLeDiff, Nat.reduceEqDiff, Nat.reduceLT, Nat.reduceBEq, reduceIte, reduceCtorEq, Int.reduceToNat, Nat.reduceShiftRight, Nat.reduceAnd, Nat.reduceBneDiff, Nat.reduceBNe, c6r5, semI.eq_10, semI.eq_11, semI.eq_3, semI.eq_5, semI.eq_7]
    obtain rfl := Option.some.inj h
    refine .ret ?_
    rw [← hR]
    simp only [wz, wd, ws, Nat.reduceAdd, Nat.reduceSub, Nat.reduceMul, Nat.reduceLeDiff, Nat.reduceEqDiff, Nat.reduceLT, Nat.reduceBEq, reduceIte, reduceCtorEq, Int.reduceToNat, Nat.reduceShiftRight, Nat.reduceAnd, Nat.reduceBneDiff, Nat.reduceBNe, rv6]
  · rw [ite_f h1] at h
    refine .skip ?_
    refine .seq ?_
    refine .seq ?_
    refine Rw.walk ?_
    simp only [wz, wd, ws, Nat.reduceAdd, Nat.reduceSub, Nat.reduceMul, Nat.reduceLeDiff, Nat.reduceEqDiff, Nat.reduceLT, Nat.reduceBEq, reduceIte, reduceCtorEq, Int.reduceToNat, Nat.reduceShiftRight, Nat.reduceAnd, Nat.reduceBneDiff, Nat.reduceBNe, c6r6, semI.eq_10, semI.eq_11, semI.eq_3, semI.eq_5, semI.eq_7]
    obtain ⟨t6, e6, h⟩ := Option.bind_eq_some_iff.1 h
    refine call_fun [] false ⟨trivial, trivial, trivial, trivial⟩ rfl ?_ (f_digest_Fits_ok _ _ _ e6) (fun _ => rfl) (fun i hi => by cases hi) ?_
    · simp only [wz, wd, ws, Nat.reduceAdd, Nat.reduceSub, Nat.reduceMul, Nat.reduceLeDiff, Nat.reduceEqDiff, Nat.reduceLT, Nat.reduceBEq, reduceIte, reduceCtorEq, Int.reduceToNat, Nat.reduceShiftRight, Nat.reduceAnd, Nat.reduceBneDiff, Nat.reduceBNe]
    simp only [wz, wd, ws, Nat.reduceAdd, Nat.reduceSub, Nat.reduceMul, Nat.reduceLeDiff, Nat.reduceEqDiff, Nat.reduceLT, Nat.reduceBEq, reduceIte, reduceCtorEq, Int.reduceToNat, Nat.reduceShiftRight, Nat.reduceAnd, Nat.reduceBneDiff, Nat.reduceBNe, c6r6, semI.eq_10, semI.eq_11, semI.eq_3, semI.eq_5, semI.eq_7]
    refine Go1.of (sem_bsl (enc := eS) (m := ([t2] : List Str)) eS_len (by rfl) (by rfl) (by rfl) ⟨trivial, trivial⟩) ?_
    simp only [wz, wd, ws, Nat.reduceAdd, Nat.reduceSub, Nat.reduceMul, Nat.reduceLeDiff, Nat.reduceEqDiff, Nat.reduceLT, Nat.reduceBEq, reduceIte, reduceCtorEq, Int.reduceToNat, Nat.reduceShiftRight, Nat.reduceAnd, Nat.reduceBneDiff, Nat.reduceBNe, c6r6, semI.eq_10, semI.eq_11, semI.eq_3, semI.eq_5, semI.eq_7]
    obtain ⟨t7, e7, h⟩ := Option.bind_eq_some_iff.1 h
    refine call_fun [47] false ⟨trivial, trivial, trivial⟩ rfl ?_ (f_digest_Sum_ok _ _ e7) (fun _ => rfl) (fun i hi e he => coF_get (l := [47]) (by simp only [wz, wd, ws, Nat.reduceAdd, Nat.reduceSub, Nat.reduceMul, Nat.reduceLeDiff, Nat.reduceEqDiff, Nat.reduceLT, Nat.reduceBEq, reduceIte, reduceCtorEq, Int.reduceToNat, Nat.reduceShiftRight, Nat.reduceAnd, Nat.reduceBneDiff, Nat.reduceBNe, wi]) i e hi he) ?_
    · simp only [wz, wd, ws, Nat.reduceAdd, Nat.reduceSub, Nat.reduceMul, Nat.reduceLeDiff, Nat.reduceEqDiff, Nat.reduceLT, Nat.reduceBEq, reduceIte, reduceCtorEq, Int.reduceToNat, Nat.reduceShiftRight, Nat.reduceAnd, Nat.reduceBneDiff, Nat.reduceBNe]
    simp only [wz, wd, ws, Nat.reduceAdd, Nat.reduceSub, Nat.reduceMul, Nat.reduceLeDiff, Nat.reduceEqDiff, Nat.reduceLT, Nat.reduceBEq, reduceIte, reduceCtorEq, Int.reduceToNat, Nat.reduceShiftRight, Nat.reduceAnd, Nat.reduceBneDiff, Nat.reduceBNe, c6r6, semI.eq_10, semI.eq_11, semI.eq_3, semI.eq_5, semI.eq_7]
    refine .cond (p := (!((t6 == 0) == (t7 == t4.1)))) (by first | rfl | simp only [wz, wd, ws, Nat.reduceAdd, Nat.reduceSub, Nat.reduceMul, Nat.reduceLeDiff, Nat.reduceEqDiff, Nat.reduceLT, Nat.reduceBEq, reduceIte, reduceCtorEq, Int.reduceToNat, Nat.reduceShiftRight, Nat.reduceAnd, Nat.reduceBneDiff, Nat.reduceBNe]) (fun h1 => ?_) (fun h1 => ?_)
    · rw [ite_t h1] at h
      refine .seq ?_
      refine Rw.walk ?_
      simp only [wz, wd, ws, Nat.reduceAdd, Nat.reduceSub, Nat.reduceMul, Nat.reduceLeDiff, Nat.reduceEqDiff, Nat.reduceLT, Nat.reduceBEq, reduceIte, reduceCtorEq, Int.reduceToNat, Nat.reduceShiftRight, Nat.reduceAnd, Nat.reduceBneDiff, Nat.reduceBNe, c6r7, semI.eq_10, semI.eq_11, semI.eq_3, semI.eq_5, semI.eq_7]
      obtain rfl := Option.some.inj h
      refine .ret ?_
      rw [← hR]
      simp only [wz, wd, ws, Nat.reduceAdd, Nat.reduceSub, Nat.reduceMul, Nat.reduceLeDiff, Nat.reduceEqDiff, Nat.reduceLT, Nat.reduceBEq, reduceIte, reduceCtorEq, Int.reduceToNat, Nat.reduceShiftRight, Nat.reduceAnd, Nat.reduceBneDiff, Nat.reduceBNe, rv6]
    · rw [ite_f h1] at h
      refine .skip ?_
      refine .seq ?_
      refine Rw.walk ?_
      simp only [wz, wd, ws, Nat.reduceAdd, Nat.reduceSub, Nat.reduceMul, Nat.reduceLeDiff, Nat.reduceEqDiff, Nat.reduceLT, Nat.reduceBEq, reduceIte, reduceCtorEq, Int.reduceToNat, Nat.reduceShiftRight, Nat.reduceAnd, Nat.reduceBneDiff, Nat.reduceBNe, c6r8, semI.eq_10, semI.eq_11, semI.eq_3, semI.eq_5, semI.eq_7]
      refine Go1.of (sem_s2b (s := t3) (by rfl) (by rfl)) ?_
      simp only [wz, wd, ws, Nat.reduceAdd, Nat.reduceSub, Nat.reduceMul, Nat.reduceLeDiff, Nat.reduceEqDiff, Nat.reduceLT, Nat.reduceBEq, reduceIte, reduceCtorEq, Int.reduceToNat, Nat.reduceShiftRight, Nat.reduceAnd, Nat.reduceBneDiff, Nat.reduceBNe, c6r8, semI.eq_10, semI.eq_11, semI.eq_3, semI.eq_5, semI.eq_7]
      refine .seq ?_
      refine Rw.walk ?_
      simp only [wz, wd, ws, Nat.reduceAdd, Nat.reduceSub, Nat.reduceMul, Nat.reduceLeDiff, Nat.reduceEqDiff, Nat.reduceLT, Nat.reduceBEq, reduceIte, reduceCtorEq, Int.reduceToNat, Nat.reduceShiftRight, Nat.reduceAnd, Nat.reduceBneDiff, Nat.reduceBNe, c6r9, semI.eq_10, semI.eq_11, semI.eq_3, semI.eq_5, semI.eq_7]
      repeat (refine And.intro ?_ ?_; · first | omega | (intro q; simp only [wz, wd, ws, Nat.reduceAdd, Nat.reduceSub, Nat.reduceMul, Nat.reduceLeDiff, Nat.reduceEqDiff, Nat.reduceLT, Nat.reduceBEq, reduceIte, reduceCtorEq, Int.reduceToNat, Nat.reduceShiftRight, Nat.reduceAnd, Nat.reduceBneDiff, Nat.reduceBNe, q]; done))
      refine .seq ?_
      refine .seq ?_
      refine Rw.walk ?_
      simp only [wz, wd, ws, Nat.reduceAdd, Nat.reduceSub, Nat.reduceMul, Nat.reduceLeDiff, Nat.reduceEqDiff, Nat.reduceLT, Nat.reduceBEq, reduceIte, reduceCtorEq, Int.reduceToNat, Nat.reduceShiftRight, Nat.reduceAnd, Nat.reduceBneDiff, Nat.reduceBNe, c6r10, semI.eq_10, semI.eq_11, semI.eq_3, semI.eq_5, semI.eq_7]
      obtain ⟨x, e8, h⟩ := Option.bind_eq_some_iff.1 h
      refine Go1.of (sem_iadrO (l := (t3.map bn)) e8 (by first | rfl | (simp only [List.length_map, List.length_replicate, List.length_set]; rfl)) (by first | rfl | (simp only [List.length_map, List.length_replicate, List.length_set]; rfl)) (by first | rfl | (simp only [List.length_map, List.length_replicate, List.length_set]; rfl))) ?_
      simp only [wz, wd, ws, Nat.reduceAdd, Nat.reduceSub, Nat.reduceMul, Nat.reduceLeDiff, Nat.reduceEqDiff, Nat.reduceLT, Nat.reduceBEq, reduceIte, reduceCtorEq, Int.reduceToNat, Nat.reduceShiftRight, Nat.reduceAnd, Nat.reduceBneDiff, Nat.reduceBNe, c6r10, semI.eq_10, semI.eq_11, semI.eq_3, semI.eq_5, semI.eq_7, er_get e8]
      refine .cond (p := (x == c)) (by first | rfl | simp only [wz, wd, ws, Nat.reduceAdd, Nat.reduceSub, Nat.reduceMul, Nat.reduceLeDiff, Nat.reduceEqDiff, Nat.reduceLT, Nat.reduceBEq, reduceIte, reduceCtorEq, Int.reduceToNat, Nat.reduceShiftRight, Nat.reduceAnd, Nat.reduceBneDiff, Nat.reduceBNe]) (fun h1 => ?_) (fun h1 => ?_)
      · rw [ite_t h1] at h
        refine .seq ?_
        refine Rw.walk ?_
        simp only [wz, wd, ws, Nat.reduceAdd, Nat.reduceSub, Nat.reduceMul, Nat.reduceLeDiff, Nat.reduceEqDiff, Nat.reduceLT, Nat.reduceBEq, reduceIte, reduceCtorEq, Int.reduceToNat, Nat.reduceShiftRight, Nat.reduceAnd, Nat.reduceBneDiff, Nat.reduceBNe, c6r11, semI.eq_10, semI.eq_11, semI.eq_3, semI.eq_5, semI.eq_7, er_get e8]
        obtain rfl := Option.some.inj h
        refine .ret ?_
        rw [← hR]
        simp only [wz, wd, ws, Nat.reduceAdd, Nat.reduceSub, Nat.reduceMul, Nat.reduceLeDiff, Nat.reduceEqDiff, Nat.reduceLT, Nat.reduceBEq, reduceIte, reduceCtorEq, Int.reduceToNat, Nat.reduceShiftRight, Nat.reduceAnd, Nat.reduceBneDiff, Nat.reduceBNe, rv6, er_get e8]
      · rw [ite_f h1] at h
        refine .skip ?_
        refine .seq ?_
        refine Rw.walk ?_
        simp only [wz, wd, ws, Nat.reduceAdd, Nat.reduceSub, Nat.reduceMul, Nat.reduceLeDiff, Nat.reduceEqDiff, Nat.reduceLT, Nat.reduceBEq, reduceIte, reduceCtorEq, Int.reduceToNat, Nat.reduceShiftRight, Nat.reduceAnd, Nat.reduceBneDiff, Nat.reduceBNe, c6r12, semI.eq_3, semI.eq_5, semI.eq_7, er_get e8]
        obtain ⟨x2, e9, h⟩ := Option.bind_eq_some_iff.1 h
        refine Go1.of (sem_iadrO (l := (t3.map bn)) e9 (by first | rfl | (simp only [List.length_map, List.length_replicate, List.length_set]; rfl)) (by first | rfl | (simp only [List.length_map, List.length_replicate, List.length_set]; rfl)) (by first | rfl | (simp only [List.length_map, List.length_replicate, List.length_set]; rfl))) ?_
        simp only [wz, wd, ws, Nat.reduceAdd, Nat.reduceSub, Nat.reduceMul, Nat.reduceLeDiff, Nat.reduceEqDiff, Nat.reduceLT, Nat.reduceBEq, reduceIte, reduceCtorEq, Int.reduceToNat, Nat.reduceShiftRight, Nat.reduceAnd, Nat.reduceBneDiff, Nat.reduceBNe, c6r12, semI.eq_3, semI.eq_5, semI.eq_7, er_get e8, er_get e9]
        refine Go1.of (sem_store (enc := (eI .u8)) (l := (t3.map bn)) (a := x2) (a' := c) (v := .b (.s (.d (.int .u8 c)))) (by first | rfl | (simp only [List.length_map, List.length_replicate, List.length_set]; rfl)) (by first | rfl | (simp only [List.length_map, List.length_replicate, List.length_set]; rfl)) (er_get e9) (by first | rfl | (simp only [List.length_map, List.length_replicate, List.length_set]; rfl)) (by trivial) (by first | rfl | (simp only [List.length_map, List.length_replicate, List.length_set]; rfl)) (Nat.le_of_ble_eq_true (by first | rfl | (simp only [List.length_map, List.length_replicate, List.length_set]; rfl))) (by first | rfl | (simp only [List.length_map, List.length_replicate, List.length_set]; rfl))) ?_
        simp only [wz, wd, ws, Nat.reduceAdd, Nat.reduceSub, Nat.reduceMul, Nat.reduceLeDiff, Nat.reduceEqDiff, Nat.reduceLT, Nat.reduceBEq, reduceIte, reduceCtorEq, Int.reduceToNat, Nat.reduceShiftRight, Nat.reduceAnd, Nat.reduceBneDiff, Nat.reduceBNe, c6r12, semI.eq_3, semI.eq_5, semI.eq_7, er_get e8, er_get e9]
        refine .seq ?_
        refine Rw.walk ?_
        simp only [wz, wd, ws, Nat.reduceAdd, Nat.reduceSub, Nat.reduceMul, Nat.reduceLeDiff, Nat.reduceEqDiff, Nat.reduceLT, Nat.reduceBEq, reduceIte, reduceCtorEq, Int.reduceToNat, Nat.reduceShiftRight, Nat.reduceAnd, Nat.reduceBneDiff, Nat.reduceBNe, c6r13, semI.eq_10, semI.eq_11, semI.eq_3, semI.eq_5, semI.eq_7, er_get e8, er_get e9]
        refine Go1.of (sem_b2s (n := ((t3.map bn).set ((IntKind.i64.wrap ((atv.tmod 71) + 71)).tmod 71).toNat c)) (rowsV_own (m := ((t3.map bn).set ((IntKind.i64.wrap ((atv.tmod 71) + 71)).tmod 71).toNat c)) (by first | rfl | (simp only [List.length_map, List.length_replicate, List.length_set]; rfl)) (by first | rfl | (simp only [List.length_map, List.length_replicate, List.length_set]; rfl)))) ?_
        simp only [wz, wd, ws, Nat.reduceAdd, Nat.reduceSub, Nat.reduceMul, Nat.reduceLeDiff, Nat.reduceEqDiff, Nat.reduceLT, Nat.reduceBEq, reduceIte, reduceCtorEq, Int.reduceToNat, Nat.reduceShiftRight, Nat.reduceAnd, Nat.reduceBneDiff, Nat.reduceBNe, c6r13, semI.eq_10, semI.eq_11, semI.eq_3, semI.eq_5, semI.eq_7, er_get e8, er_get e9]
        obtain ⟨t8, e10, h⟩ := Option.bind_eq_some_iff.1 h
        refine call_fun [] false ⟨trivial, trivial, trivial⟩ rfl ?_ (f_digest_Parse_ok _ _ e10) (fun _ => rfl) (fun i hi => by cases hi) ?_
        · simp only [wz, wd, ws, Nat.reduceAdd, Nat.reduceSub, Nat.reduceMul, Nat.reduceLeDiff, Nat.reduceEqDiff, Nat.reduceLT, Nat.reduceBEq, reduceIte, reduceCtorEq, Int.reduceToNat, Nat.reduceShiftRight, Nat.reduceAnd, Nat.reduceBneDiff, Nat.reduceBNe, er_get e8, er_get e9]
        simp only [wz, wd, ws, Nat.reduceAdd, Nat.reduceSub, Nat.reduceMul, Nat.reduceLeDiff, Nat.reduceEqDiff, Nat.reduceLT, Nat.reduceBEq, reduceIte, reduceCtorEq, Int.reduceToNat, Nat.reduceShiftRight, Nat.reduceAnd, Nat.reduceBneDiff, Nat.reduceBNe, c6r13, semI.eq_10, semI.eq_11, semI.eq_3, semI.eq_5, semI.eq_7, er_get e8, er_get e9]
        refine .seq ?_
        refine Rw.walk ?_
        simp only [wz, wd, ws, Nat.reduceAdd, Nat.reduceSub, Nat.reduceMul, Nat.reduceLeDiff, Nat.reduceEqDiff, Nat.reduceLT, Nat.reduceBEq, reduceIte, reduceCtorEq, Int.reduceToNat, Nat.reduceShiftRight, Nat.reduceAnd, Nat.reduceBneDiff, Nat.reduceBNe, c6r14, semI.eq_10, semI.eq_11, semI.eq_3, semI.eq_5, semI.eq_7, er_get e8, er_get e9]
        repeat (refine And.intro ?_ ?_; · first | omega | (intro q; simp only [wz, wd, ws, Nat.reduceAdd, Nat.reduceSub, Nat.reduceMul, Nat.reduceLeDiff, Nat.reduceEqDiff, Nat.reduceLT, Nat.reduceBEq, reduceIte, reduceCtorEq, Int.reduceToNat, Nat.reduceShiftRight, Nat.reduceAnd, Nat.reduceBneDiff, Nat.reduceBNe, q]; done))
        obtain rfl := Option.some.inj h
        refine .ret ?_
        rw [← hR]
        simp only [wz, wd, ws, Nat.reduceAdd, Nat.reduceSub, Nat.reduceMul, Nat.reduceLeDiff, Nat.reduceEqDiff, Nat.reduceLT, Nat.reduceBEq, reduceIte, reduceCtorEq, Int.reduceToNat, Nat.reduceShiftRight, Nat.reduceAnd, Nat.reduceBneDiff, Nat.reduceBNe, rv6, er_get e8, er_get e9]
end Go.Proofs.YtjhgkcbhllomaaaDoor.V
end
