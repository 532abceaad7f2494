/-
  NARROWER THAN 'FOR EVERY INPUT', by the rows' own cells (each row's printed sentence says how): GlobStars: laid · GlobNames: laid · GlobWords: laid · GlobOnes: laid · CronParses: laid · CronTimes: laid · CronDays: laid · CronFires: laid · CronEvery: laid · CronNext: laid.
  DERIVED. THE GIVEN ROWS OF THIS SEAT. 10 by the template 'for every input the law returns true; each argument reads behind the call as it read before'; 0 by the template 'total and deterministic' (their statements: YthcngbbceahdlaaDoorTotals.lean).
  GIVEN WITH THE SEED: the statements are not yours to turn. If you find one false, say at which input.
  Laid BY PROGRAM, IN A SANDBOX (cutbox-rows.mjs): the forced cells as the released guide's own fill.sh prints them over the translation 6b4616e2144092aa… (all of the seat's roots in one cut). By AI agents, Wed Nov 11 2026. No macro, syntax, notation, axiom, sorry.
-/
import Derived.Test.YthcngbbceahdlaaDoorChecked
import GoSem.PinnedTables
import GoSem.Claim
import GoSem.ClaimJoined
import GoSem.ClaimMapViews
import Derived.JoinedTies
import Derived.KernelRfl
namespace Go.Proofs.YthcngbbceahdlaaDoor
/- THE CELL 'sum', in the pinned program and in every row, IS THE sha256 OF THE DUMP (.gsa) THAT YthcngbbceahdlaaDoorProg.lean LOADS. Nothing in Lean hashes anything: it is a label: what it is worth is what the hold of that sum in a sandbox is worth. -/
noncomputable def Tryd.pinned : Pinned := { name := "ythcngbbceahdlaadoor", sum := "6b4616e2144092aad73f5e3dbb0a879393e246bdbd35e7489bbb2ec4515fcf39", checked := Tryd.checked }
namespace Rows
def none {H : Type} : Left H := { results := [], args := [] }

/- WHAT THE LISTED PACKAGE-LEVEL VARIABLES READ AS WHEN THE CALL BEGINS. Each datum BY PROGRAM (the guide's laid-datum.mjs) off the statement by which the dump's own 'gosem.cut.vars' lays the variable. In a bare row this is a premise. The card (YthcngbbceahdlaaDoorCards.lean) ties it to the program's text. -/
def laid_unicode_utf8_acceptRanges {H : Type} : DataW H := .agg [.agg [.lit (.int .u8 128), .lit (.int .u8 191)], .agg [.lit (.int .u8 160), .lit (.int .u8 191)], .agg [.lit (.int .u8 128), .lit (.int .u8 159)], .agg [.lit (.int .u8 144), .lit (.int .u8 191)], .agg [.lit (.int .u8 128), .lit (.int .u8 143)], .agg [.lit (.int .u8 0), .lit (.int .u8 0)], .agg [.lit (.int .u8 0), .lit (.int .u8 0)], .agg [.lit (.int .u8 0), .lit (.int .u8 0)], .agg [.lit (.int .u8 0), .lit (.int .u8 0)], .agg [.lit (.int .u8 0), .lit (.int .u8 0)], .agg [.lit (.int .u8 0), .lit (.int .u8 0)], .agg [.lit (.int .u8 0), .lit (.int .u8 0)], .agg [.lit (.int .u8 0), .lit (.int .u8 0)], .agg [.lit (.int .u8 0), .lit (.int .u8 0)], .agg [.lit (.int .u8 0), .lit (.int .u8 0)], .agg [.lit (.int .u8 0), .lit (.int .u8 0)]]
/-- One of Go's own tables, pinned by name: the form's constant. -/
def laid_unicode_utf8_first : DataW Unit := Go.Pinned.utf8First

/-- 'consignorlaw07.GlobStars': WHATEVER THE INPUT: true; the input reads as it did. -/
def globStarsSpec : ChangeSpec := { name := "globStars", fn := fun _ => fun
  | [d1, d2, d3] => { results := [.lit (.bool true)], args := [d1, d2, d3] }
  | _ => none }
def globStarsRow : OpenClaim := { program := "ythcngbbceahdlaadoor", sum := "6b4616e2144092aad73f5e3dbb0a879393e246bdbd35e7489bbb2ec4515fcf39", func := "consignor/consignorlaw07.GlobStars", spec := "globStars", inPlace := ["internal/bytealg.IndexByteString", "internal/bytealg.IndexString", "internal/bytealg.CountString"], unfollowed := true, recurses := true, named := ["internal/bytealg.MaxLen", "unicode/utf8.first", "unicode/utf8.acceptRanges"], apart := false, laid := [("unicode/utf8.acceptRanges", laid_unicode_utf8_acceptRanges), ("unicode/utf8.first", laid_unicode_utf8_first)] }
def GlobStarsSaid : Prop := globStarsRow.holds Tryd.pinned (OpenSpec.ofChange globStarsSpec)

/-- ITS FALSE NEIGHBOUR: 'it returns false'. Refute it at one input. -/
def globStarsWrong : ChangeSpec := { name := "globStars", fn := fun _ => fun
  | [d1, d2, d3] => { results := [.lit (.bool false)], args := [d1, d2, d3] }
  | _ => none }
def GlobStarsWrongFalsely : Prop := globStarsRow.holds Tryd.pinned (OpenSpec.ofChange globStarsWrong)

/-- 'consignorlaw07.GlobNames': WHATEVER THE INPUT: true; the input reads as it did. -/
def globNamesSpec : ChangeSpec := { name := "globNames", fn := fun _ => fun
  | [d1, d2] => { results := [.lit (.bool true)], args := [d1, d2] }
  | _ => none }
def globNamesRow : OpenClaim := { program := "ythcngbbceahdlaadoor", sum := "6b4616e2144092aad73f5e3dbb0a879393e246bdbd35e7489bbb2ec4515fcf39", func := "consignor/consignorlaw07.GlobNames", spec := "globNames", inPlace := ["internal/bytealg.IndexByteString", "internal/bytealg.IndexString", "internal/bytealg.CountString"], unfollowed := true, recurses := true, named := ["internal/bytealg.MaxLen", "unicode/utf8.first", "unicode/utf8.acceptRanges"], apart := false, laid := [("unicode/utf8.acceptRanges", laid_unicode_utf8_acceptRanges), ("unicode/utf8.first", laid_unicode_utf8_first)] }
def GlobNamesSaid : Prop := globNamesRow.holds Tryd.pinned (OpenSpec.ofChange globNamesSpec)

/-- ITS FALSE NEIGHBOUR: 'it returns false'. Refute it at one input. -/
def globNamesWrong : ChangeSpec := { name := "globNames", fn := fun _ => fun
  | [d1, d2] => { results := [.lit (.bool false)], args := [d1, d2] }
  | _ => none }
def GlobNamesWrongFalsely : Prop := globNamesRow.holds Tryd.pinned (OpenSpec.ofChange globNamesWrong)

/-- 'consignorlaw07.GlobWords': WHATEVER THE INPUT: true; the input reads as it did. -/
def globWordsSpec : ChangeSpec := { name := "globWords", fn := fun _ => fun
  | [d1, d2] => { results := [.lit (.bool true)], args := [d1, d2] }
  | _ => none }
def globWordsRow : OpenClaim := { program := "ythcngbbceahdlaadoor", sum := "6b4616e2144092aad73f5e3dbb0a879393e246bdbd35e7489bbb2ec4515fcf39", func := "consignor/consignorlaw07.GlobWords", spec := "globWords", inPlace := ["internal/bytealg.IndexByteString", "internal/bytealg.IndexString", "internal/bytealg.CountString", "internal/abi.NoEscape", "internal/bytealg.MakeNoZero"], unfollowed := true, recurses := true, named := ["internal/bytealg.MaxLen", "unicode/utf8.first", "unicode/utf8.acceptRanges"], apart := false, laid := [("unicode/utf8.acceptRanges", laid_unicode_utf8_acceptRanges), ("unicode/utf8.first", laid_unicode_utf8_first)] }
def GlobWordsSaid : Prop := globWordsRow.holds Tryd.pinned (OpenSpec.ofChange globWordsSpec)

/-- ITS FALSE NEIGHBOUR: 'it returns false'. Refute it at one input. -/
def globWordsWrong : ChangeSpec := { name := "globWords", fn := fun _ => fun
  | [d1, d2] => { results := [.lit (.bool false)], args := [d1, d2] }
  | _ => none }
def GlobWordsWrongFalsely : Prop := globWordsRow.holds Tryd.pinned (OpenSpec.ofChange globWordsWrong)

/-- 'consignorlaw07.GlobOnes': WHATEVER THE INPUT: true; the input reads as it did. -/
def globOnesSpec : ChangeSpec := { name := "globOnes", fn := fun _ => fun
  | [d1, d2, d3, d4, d5, d6] => { results := [.lit (.bool true)], args := [d1, d2, d3, d4, d5, d6] }
  | _ => none }
def globOnesRow : OpenClaim := { program := "ythcngbbceahdlaadoor", sum := "6b4616e2144092aad73f5e3dbb0a879393e246bdbd35e7489bbb2ec4515fcf39", func := "consignor/consignorlaw07.GlobOnes", spec := "globOnes", inPlace := ["internal/abi.NoEscape", "internal/bytealg.MakeNoZero", "internal/bytealg.IndexByteString", "internal/bytealg.IndexString", "internal/bytealg.CountString"], unfollowed := true, recurses := true, named := ["internal/bytealg.MaxLen", "unicode/utf8.first", "unicode/utf8.acceptRanges"], apart := false, laid := [("unicode/utf8.acceptRanges", laid_unicode_utf8_acceptRanges), ("unicode/utf8.first", laid_unicode_utf8_first)] }
def GlobOnesSaid : Prop := globOnesRow.holds Tryd.pinned (OpenSpec.ofChange globOnesSpec)

/-- ITS FALSE NEIGHBOUR: 'it returns false'. Refute it at one input. -/
def globOnesWrong : ChangeSpec := { name := "globOnes", fn := fun _ => fun
  | [d1, d2, d3, d4, d5, d6] => { results := [.lit (.bool false)], args := [d1, d2, d3, d4, d5, d6] }
  | _ => none }
def GlobOnesWrongFalsely : Prop := globOnesRow.holds Tryd.pinned (OpenSpec.ofChange globOnesWrong)

/-- 'consignorlaw08.CronParses': WHATEVER THE INPUT: true; the input reads as it did. -/
def cronParsesSpec : ChangeSpec := { name := "cronParses", fn := fun _ => fun
  | [d] => { results := [.lit (.bool true)], args := [d] }
  | _ => none }
def cronParsesRow : OpenClaim := { program := "ythcngbbceahdlaadoor", sum := "6b4616e2144092aad73f5e3dbb0a879393e246bdbd35e7489bbb2ec4515fcf39", func := "consignor/consignorlaw08.CronParses", spec := "cronParses", inPlace := ["internal/bytealg.CountString", "internal/bytealg.IndexByteString", "internal/bytealg.IndexString", "internal/reflectlite.TypeOf"], unfollowed := true, recurses := true, named := ["unicode/utf8.first", "unicode/utf8.acceptRanges", "internal/bytealg.MaxLen"], apart := false, laid := [("unicode/utf8.acceptRanges", laid_unicode_utf8_acceptRanges), ("unicode/utf8.first", laid_unicode_utf8_first)] }
def CronParsesSaid : Prop := cronParsesRow.holds Tryd.pinned (OpenSpec.ofChange cronParsesSpec)

/-- ITS FALSE NEIGHBOUR: 'it returns false'. Refute it at one input. -/
def cronParsesWrong : ChangeSpec := { name := "cronParses", fn := fun _ => fun
  | [d] => { results := [.lit (.bool false)], args := [d] }
  | _ => none }
def CronParsesWrongFalsely : Prop := cronParsesRow.holds Tryd.pinned (OpenSpec.ofChange cronParsesWrong)

/-- 'consignorlaw08.CronTimes': WHATEVER THE INPUT: true; the input reads as it did. -/
def cronTimesSpec : ChangeSpec := { name := "cronTimes", fn := fun _ => fun
  | [d] => { results := [.lit (.bool true)], args := [d] }
  | _ => none }
def cronTimesRow : OpenClaim := { program := "ythcngbbceahdlaadoor", sum := "6b4616e2144092aad73f5e3dbb0a879393e246bdbd35e7489bbb2ec4515fcf39", func := "consignor/consignorlaw08.CronTimes", spec := "cronTimes", inPlace := ["internal/bytealg.CountString", "internal/bytealg.IndexByteString", "internal/bytealg.IndexString", "internal/reflectlite.TypeOf"], unfollowed := true, recurses := true, named := ["unicode/utf8.first", "unicode/utf8.acceptRanges", "internal/bytealg.MaxLen"], apart := false, laid := [("unicode/utf8.acceptRanges", laid_unicode_utf8_acceptRanges), ("unicode/utf8.first", laid_unicode_utf8_first)] }
def CronTimesSaid : Prop := cronTimesRow.holds Tryd.pinned (OpenSpec.ofChange cronTimesSpec)

/-- ITS FALSE NEIGHBOUR: 'it returns false'. Refute it at one input. -/
def cronTimesWrong : ChangeSpec := { name := "cronTimes", fn := fun _ => fun
  | [d] => { results := [.lit (.bool false)], args := [d] }
  | _ => none }
def CronTimesWrongFalsely : Prop := cronTimesRow.holds Tryd.pinned (OpenSpec.ofChange cronTimesWrong)

/-- 'consignorlaw08.CronDays': WHATEVER THE INPUT: true; the input reads as it did. -/
def cronDaysSpec : ChangeSpec := { name := "cronDays", fn := fun _ => fun
  | [d1, d2] => { results := [.lit (.bool true)], args := [d1, d2] }
  | _ => none }
def cronDaysRow : OpenClaim := { program := "ythcngbbceahdlaadoor", sum := "6b4616e2144092aad73f5e3dbb0a879393e246bdbd35e7489bbb2ec4515fcf39", func := "consignor/consignorlaw08.CronDays", spec := "cronDays", inPlace := ["internal/bytealg.CountString", "internal/bytealg.IndexByteString", "internal/bytealg.IndexString", "internal/reflectlite.TypeOf"], unfollowed := true, recurses := true, named := ["unicode/utf8.first", "unicode/utf8.acceptRanges", "internal/bytealg.MaxLen"], apart := false, laid := [("unicode/utf8.acceptRanges", laid_unicode_utf8_acceptRanges), ("unicode/utf8.first", laid_unicode_utf8_first)] }
def CronDaysSaid : Prop := cronDaysRow.holds Tryd.pinned (OpenSpec.ofChange cronDaysSpec)

/-- ITS FALSE NEIGHBOUR: 'it returns false'. Refute it at one input. -/
def cronDaysWrong : ChangeSpec := { name := "cronDays", fn := fun _ => fun
  | [d1, d2] => { results := [.lit (.bool false)], args := [d1, d2] }
  | _ => none }
def CronDaysWrongFalsely : Prop := cronDaysRow.holds Tryd.pinned (OpenSpec.ofChange cronDaysWrong)

/-- 'consignorlaw08.CronFires': WHATEVER THE INPUT: true; the input reads as it did. -/
def cronFiresSpec : ChangeSpec := { name := "cronFires", fn := fun _ => fun
  | [d1, d2, d3] => { results := [.lit (.bool true)], args := [d1, d2, d3] }
  | _ => none }
def cronFiresRow : OpenClaim := { program := "ythcngbbceahdlaadoor", sum := "6b4616e2144092aad73f5e3dbb0a879393e246bdbd35e7489bbb2ec4515fcf39", func := "consignor/consignorlaw08.CronFires", spec := "cronFires", inPlace := ["internal/bytealg.CountString", "internal/bytealg.IndexByteString", "internal/bytealg.IndexString", "internal/reflectlite.TypeOf"], unfollowed := true, recurses := true, named := ["unicode/utf8.first", "unicode/utf8.acceptRanges", "internal/bytealg.MaxLen"], apart := false, laid := [("unicode/utf8.acceptRanges", laid_unicode_utf8_acceptRanges), ("unicode/utf8.first", laid_unicode_utf8_first)] }
def CronFiresSaid : Prop := cronFiresRow.holds Tryd.pinned (OpenSpec.ofChange cronFiresSpec)

/-- ITS FALSE NEIGHBOUR: 'it returns false'. Refute it at one input. -/
def cronFiresWrong : ChangeSpec := { name := "cronFires", fn := fun _ => fun
  | [d1, d2, d3] => { results := [.lit (.bool false)], args := [d1, d2, d3] }
  | _ => none }
def CronFiresWrongFalsely : Prop := cronFiresRow.holds Tryd.pinned (OpenSpec.ofChange cronFiresWrong)

/-- 'consignorlaw08.CronEvery': WHATEVER THE INPUT: true; the input reads as it did. -/
def cronEverySpec : ChangeSpec := { name := "cronEvery", fn := fun _ => fun
  | [d1, d2] => { results := [.lit (.bool true)], args := [d1, d2] }
  | _ => none }
def cronEveryRow : OpenClaim := { program := "ythcngbbceahdlaadoor", sum := "6b4616e2144092aad73f5e3dbb0a879393e246bdbd35e7489bbb2ec4515fcf39", func := "consignor/consignorlaw08.CronEvery", spec := "cronEvery", inPlace := ["internal/bytealg.CountString", "internal/bytealg.IndexByteString", "internal/bytealg.IndexString", "internal/reflectlite.TypeOf"], unfollowed := true, recurses := true, named := ["unicode/utf8.first", "unicode/utf8.acceptRanges", "internal/bytealg.MaxLen"], apart := false, laid := [("unicode/utf8.acceptRanges", laid_unicode_utf8_acceptRanges), ("unicode/utf8.first", laid_unicode_utf8_first)] }
def CronEverySaid : Prop := cronEveryRow.holds Tryd.pinned (OpenSpec.ofChange cronEverySpec)

/-- ITS FALSE NEIGHBOUR: 'it returns false'. Refute it at one input. -/
def cronEveryWrong : ChangeSpec := { name := "cronEvery", fn := fun _ => fun
  | [d1, d2] => { results := [.lit (.bool false)], args := [d1, d2] }
  | _ => none }
def CronEveryWrongFalsely : Prop := cronEveryRow.holds Tryd.pinned (OpenSpec.ofChange cronEveryWrong)

/-- 'consignorlaw08.CronNext': WHATEVER THE INPUT: true; the input reads as it did. -/
def cronNextSpec : ChangeSpec := { name := "cronNext", fn := fun _ => fun
  | [d1, d2, d3] => { results := [.lit (.bool true)], args := [d1, d2, d3] }
  | _ => none }
def cronNextRow : OpenClaim := { program := "ythcngbbceahdlaadoor", sum := "6b4616e2144092aad73f5e3dbb0a879393e246bdbd35e7489bbb2ec4515fcf39", func := "consignor/consignorlaw08.CronNext", spec := "cronNext", inPlace := ["internal/bytealg.CountString", "internal/bytealg.IndexByteString", "internal/bytealg.IndexString", "internal/reflectlite.TypeOf"], unfollowed := true, recurses := true, named := ["unicode/utf8.first", "unicode/utf8.acceptRanges", "internal/bytealg.MaxLen"], apart := false, laid := [("unicode/utf8.acceptRanges", laid_unicode_utf8_acceptRanges), ("unicode/utf8.first", laid_unicode_utf8_first)] }
def CronNextSaid : Prop := cronNextRow.holds Tryd.pinned (OpenSpec.ofChange cronNextSpec)

/-- ITS FALSE NEIGHBOUR: 'it returns false'. Refute it at one input. -/
def cronNextWrong : ChangeSpec := { name := "cronNext", fn := fun _ => fun
  | [d1, d2, d3] => { results := [.lit (.bool false)], args := [d1, d2, d3] }
  | _ => none }
def CronNextWrongFalsely : Prop := cronNextRow.holds Tryd.pinned (OpenSpec.ofChange cronNextWrong)

/- THE SECOND FORM. 'bulk': how many values and letters a reading holds, each counted each time it is reached (what is shared counts as often as it is met; a slice's spare places count too). A statement '..UptoSaid' is the law's where the arguments, and the package variables that the reading takes, are together of bulk at most 1048576: NARROWER than '..Said'. Prove '..Said' where nothing that the law and all that it calls make is longer than what came in: it says more and counts as full. Else prove '..UptoSaid'. A law counts once. -/
mutual
def uptoBulk {H : Type} : DataW H → Nat
  | .lit (.string bytes) => bytes.length + 1
  | .lit _ => 1
  | .nil => 1
  | .ptr d => uptoBulk d + 1
  | .slice elems spare => uptoBulkAll elems + uptoBulkAll spare + 1
  | .agg parts => uptoBulkAll parts + 1
  | .iface _ d => uptoBulk d + 1
  | .map entries => uptoBulkEntries entries + 1
  | .held _ => 1
def uptoBulkAll {H : Type} : List (DataW H) → Nat
  | [] => 0
  | d :: r => uptoBulk d + uptoBulkAll r
def uptoBulkEntries {H : Type} : List (Lit × DataW H) → Nat
  | [] => 0
  | x :: r => uptoBulkEntry x + uptoBulkEntries r
def uptoBulkEntry {H : Type} : Lit × DataW H → Nat
  | (.string bytes, d) => bytes.length + uptoBulk d + 1
  | (_, d) => uptoBulk d + 1
 end
def uptoSmall : (H : Type) → List (DataW H) → Bool := fun _ ds => decide (uptoBulkAll ds ≤ 1048576)
def OpenSpec.upto (s : _root_.Go.ChangeSpec) : _root_.Go.OpenSpec := { _root_.Go.OpenSpec.ofChange s with cond := some uptoSmall }

/-- 'consignorlaw07.GlobStars', WHERE WHAT IT READS IS OF BULK AT MOST 1048576: true; the input reads as it did. -/
def globStarsUptoRow : OpenClaim := { program := "ythcngbbceahdlaadoor", sum := "6b4616e2144092aad73f5e3dbb0a879393e246bdbd35e7489bbb2ec4515fcf39", func := "consignor/consignorlaw07.GlobStars", spec := "globStars", inPlace := ["internal/bytealg.IndexByteString", "internal/bytealg.IndexString", "internal/bytealg.CountString"], unfollowed := true, recurses := true, named := ["internal/bytealg.MaxLen", "unicode/utf8.first", "unicode/utf8.acceptRanges"], apart := false, laid := [("unicode/utf8.acceptRanges", laid_unicode_utf8_acceptRanges), ("unicode/utf8.first", laid_unicode_utf8_first)], narrowed := true }
def GlobStarsUptoSaid : Prop := globStarsUptoRow.holds Tryd.pinned (OpenSpec.upto globStarsSpec)

/-- 'consignorlaw07.GlobNames', WHERE WHAT IT READS IS OF BULK AT MOST 1048576: true; the input reads as it did. -/
def globNamesUptoRow : OpenClaim := { program := "ythcngbbceahdlaadoor", sum := "6b4616e2144092aad73f5e3dbb0a879393e246bdbd35e7489bbb2ec4515fcf39", func := "consignor/consignorlaw07.GlobNames", spec := "globNames", inPlace := ["internal/bytealg.IndexByteString", "internal/bytealg.IndexString", "internal/bytealg.CountString"], unfollowed := true, recurses := true, named := ["internal/bytealg.MaxLen", "unicode/utf8.first", "unicode/utf8.acceptRanges"], apart := false, laid := [("unicode/utf8.acceptRanges", laid_unicode_utf8_acceptRanges), ("unicode/utf8.first", laid_unicode_utf8_first)], narrowed := true }
def GlobNamesUptoSaid : Prop := globNamesUptoRow.holds Tryd.pinned (OpenSpec.upto globNamesSpec)

/-- 'consignorlaw07.GlobWords', WHERE WHAT IT READS IS OF BULK AT MOST 1048576: true; the input reads as it did. -/
def globWordsUptoRow : OpenClaim := { program := "ythcngbbceahdlaadoor", sum := "6b4616e2144092aad73f5e3dbb0a879393e246bdbd35e7489bbb2ec4515fcf39", func := "consignor/consignorlaw07.GlobWords", spec := "globWords", inPlace := ["internal/bytealg.IndexByteString", "internal/bytealg.IndexString", "internal/bytealg.CountString", "internal/abi.NoEscape", "internal/bytealg.MakeNoZero"], unfollowed := true, recurses := true, named := ["internal/bytealg.MaxLen", "unicode/utf8.first", "unicode/utf8.acceptRanges"], apart := false, laid := [("unicode/utf8.acceptRanges", laid_unicode_utf8_acceptRanges), ("unicode/utf8.first", laid_unicode_utf8_first)], narrowed := true }
def GlobWordsUptoSaid : Prop := globWordsUptoRow.holds Tryd.pinned (OpenSpec.upto globWordsSpec)

/-- 'consignorlaw07.GlobOnes', WHERE WHAT IT READS IS OF BULK AT MOST 1048576: true; the input reads as it did. -/
def globOnesUptoRow : OpenClaim := { program := "ythcngbbceahdlaadoor", sum := "6b4616e2144092aad73f5e3dbb0a879393e246bdbd35e7489bbb2ec4515fcf39", func := "consignor/consignorlaw07.GlobOnes", spec := "globOnes", inPlace := ["internal/abi.NoEscape", "internal/bytealg.MakeNoZero", "internal/bytealg.IndexByteString", "internal/bytealg.IndexString", "internal/bytealg.CountString"], unfollowed := true, recurses := true, named := ["internal/bytealg.MaxLen", "unicode/utf8.first", "unicode/utf8.acceptRanges"], apart := false, laid := [("unicode/utf8.acceptRanges", laid_unicode_utf8_acceptRanges), ("unicode/utf8.first", laid_unicode_utf8_first)], narrowed := true }
def GlobOnesUptoSaid : Prop := globOnesUptoRow.holds Tryd.pinned (OpenSpec.upto globOnesSpec)

/-- 'consignorlaw08.CronParses', WHERE WHAT IT READS IS OF BULK AT MOST 1048576: true; the input reads as it did. -/
def cronParsesUptoRow : OpenClaim := { program := "ythcngbbceahdlaadoor", sum := "6b4616e2144092aad73f5e3dbb0a879393e246bdbd35e7489bbb2ec4515fcf39", func := "consignor/consignorlaw08.CronParses", spec := "cronParses", inPlace := ["internal/bytealg.CountString", "internal/bytealg.IndexByteString", "internal/bytealg.IndexString", "internal/reflectlite.TypeOf"], unfollowed := true, recurses := true, named := ["unicode/utf8.first", "unicode/utf8.acceptRanges", "internal/bytealg.MaxLen"], apart := false, laid := [("unicode/utf8.acceptRanges", laid_unicode_utf8_acceptRanges), ("unicode/utf8.first", laid_unicode_utf8_first)], narrowed := true }
def CronParsesUptoSaid : Prop := cronParsesUptoRow.holds Tryd.pinned (OpenSpec.upto cronParsesSpec)

/-- 'consignorlaw08.CronTimes', WHERE WHAT IT READS IS OF BULK AT MOST 1048576: true; the input reads as it did. -/
def cronTimesUptoRow : OpenClaim := { program := "ythcngbbceahdlaadoor", sum := "6b4616e2144092aad73f5e3dbb0a879393e246bdbd35e7489bbb2ec4515fcf39", func := "consignor/consignorlaw08.CronTimes", spec := "cronTimes", inPlace := ["internal/bytealg.CountString", "internal/bytealg.IndexByteString", "internal/bytealg.IndexString", "internal/reflectlite.TypeOf"], unfollowed := true, recurses := true, named := ["unicode/utf8.first", "unicode/utf8.acceptRanges", "internal/bytealg.MaxLen"], apart := false, laid := [("unicode/utf8.acceptRanges", laid_unicode_utf8_acceptRanges), ("unicode/utf8.first", laid_unicode_utf8_first)], narrowed := true }
def CronTimesUptoSaid : Prop := cronTimesUptoRow.holds Tryd.pinned (OpenSpec.upto cronTimesSpec)

/-- 'consignorlaw08.CronDays', WHERE WHAT IT READS IS OF BULK AT MOST 1048576: true; the input reads as it did. -/
def cronDaysUptoRow : OpenClaim := { program := "ythcngbbceahdlaadoor", sum := "6b4616e2144092aad73f5e3dbb0a879393e246bdbd35e7489bbb2ec4515fcf39", func := "consignor/consignorlaw08.CronDays", spec := "cronDays", inPlace := ["internal/bytealg.CountString", "internal/bytealg.IndexByteString", "internal/bytealg.IndexString", "internal/reflectlite.TypeOf"], unfollowed := true, recurses := true, named := ["unicode/utf8.first", "unicode/utf8.acceptRanges", "internal/bytealg.MaxLen"], apart := false, laid := [("unicode/utf8.acceptRanges", laid_unicode_utf8_acceptRanges), ("unicode/utf8.first", laid_unicode_utf8_first)], narrowed := true }
def CronDaysUptoSaid : Prop := cronDaysUptoRow.holds Tryd.pinned (OpenSpec.upto cronDaysSpec)

/-- 'consignorlaw08.CronFires', WHERE WHAT IT READS IS OF BULK AT MOST 1048576: true; the input reads as it did. -/
def cronFiresUptoRow : OpenClaim := { program := "ythcngbbceahdlaadoor", sum := "6b4616e2144092aad73f5e3dbb0a879393e246bdbd35e7489bbb2ec4515fcf39", func := "consignor/consignorlaw08.CronFires", spec := "cronFires", inPlace := ["internal/bytealg.CountString", "internal/bytealg.IndexByteString", "internal/bytealg.IndexString", "internal/reflectlite.TypeOf"], unfollowed := true, recurses := true, named := ["unicode/utf8.first", "unicode/utf8.acceptRanges", "internal/bytealg.MaxLen"], apart := false, laid := [("unicode/utf8.acceptRanges", laid_unicode_utf8_acceptRanges), ("unicode/utf8.first", laid_unicode_utf8_first)], narrowed := true }
def CronFiresUptoSaid : Prop := cronFiresUptoRow.holds Tryd.pinned (OpenSpec.upto cronFiresSpec)

/-- 'consignorlaw08.CronEvery', WHERE WHAT IT READS IS OF BULK AT MOST 1048576: true; the input reads as it did. -/
def cronEveryUptoRow : OpenClaim := { program := "ythcngbbceahdlaadoor", sum := "6b4616e2144092aad73f5e3dbb0a879393e246bdbd35e7489bbb2ec4515fcf39", func := "consignor/consignorlaw08.CronEvery", spec := "cronEvery", inPlace := ["internal/bytealg.CountString", "internal/bytealg.IndexByteString", "internal/bytealg.IndexString", "internal/reflectlite.TypeOf"], unfollowed := true, recurses := true, named := ["unicode/utf8.first", "unicode/utf8.acceptRanges", "internal/bytealg.MaxLen"], apart := false, laid := [("unicode/utf8.acceptRanges", laid_unicode_utf8_acceptRanges), ("unicode/utf8.first", laid_unicode_utf8_first)], narrowed := true }
def CronEveryUptoSaid : Prop := cronEveryUptoRow.holds Tryd.pinned (OpenSpec.upto cronEverySpec)

/-- 'consignorlaw08.CronNext', WHERE WHAT IT READS IS OF BULK AT MOST 1048576: true; the input reads as it did. -/
def cronNextUptoRow : OpenClaim := { program := "ythcngbbceahdlaadoor", sum := "6b4616e2144092aad73f5e3dbb0a879393e246bdbd35e7489bbb2ec4515fcf39", func := "consignor/consignorlaw08.CronNext", spec := "cronNext", inPlace := ["internal/bytealg.CountString", "internal/bytealg.IndexByteString", "internal/bytealg.IndexString", "internal/reflectlite.TypeOf"], unfollowed := true, recurses := true, named := ["unicode/utf8.first", "unicode/utf8.acceptRanges", "internal/bytealg.MaxLen"], apart := false, laid := [("unicode/utf8.acceptRanges", laid_unicode_utf8_acceptRanges), ("unicode/utf8.first", laid_unicode_utf8_first)], narrowed := true }
def CronNextUptoSaid : Prop := cronNextUptoRow.holds Tryd.pinned (OpenSpec.upto cronNextSpec)

end Rows
end Go.Proofs.YthcngbbceahdlaaDoor
