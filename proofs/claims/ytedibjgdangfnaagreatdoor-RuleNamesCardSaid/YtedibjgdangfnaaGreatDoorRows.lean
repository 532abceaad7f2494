/-
  NARROWER THAN 'FOR EVERY INPUT', by the rows' own cells (each row's printed sentence says how): RuleClashes: laid · RulePicks: laid · RuleNames: laid · RuleSides: laid · PlanNone: laid · PlanFlags: laid · PlanPrefix: laid · VaultApplies: laid · VaultKeeps: laid · VaultOnce: laid · VaultSmall: laid.
  DERIVED. THE GIVEN ROWS OF THIS SEAT. 11 by the template 'for every input the law returns true; each argument reads behind the call as it read before'; 0 by the template 'total and deterministic' (their statements: YtedibjgdangfnaaGreatDoorTotals.lean).
  GIVEN WITH THE SEED: the statements are not yours to turn. If you find one false, say at which input.
  Laid BY PROGRAM, IN A SANDBOX (cutbox-rows.mjs): the forced cells as the released guide's own fill.sh prints them over the translation 866d32a541b6596d… (all of the seat's roots in one cut). By AI agents, Wed Nov 11 2026. No macro, syntax, notation, axiom, sorry.
-/
import Derived.Test.YtedibjgdangfnaaGreatDoorChecked
import GoSem.PinnedTables
import GoSem.Claim
import GoSem.ClaimJoined
import GoSem.ClaimMapViews
import Derived.JoinedTies
import Derived.KernelRfl
namespace Go.Proofs.YtedibjgdangfnaaGreatDoor
/- THE CELL 'sum', in the pinned program and in every row, IS THE sha256 OF THE DUMP (.gsa) THAT YtedibjgdangfnaaGreatDoorProg.lean LOADS. Nothing in Lean hashes anything: it is a label: what it is worth is what the hold of that sum in a sandbox is worth. -/
noncomputable def Tryz.pinned : Pinned := { name := "ytedibjgdangfnaagreatdoor", sum := "866d32a541b6596d33e122fc8863044b0138cea0a44f41e686380140b6010236", checked := Tryz.checked }
namespace Rows
def none {H : Type} : Left H := { results := [], args := [] }

/- WHAT THE LISTED PACKAGE-LEVEL VARIABLES READ AS WHEN THE CALL BEGINS. Each datum BY PROGRAM (the guide's laid-datum.mjs) off the statement by which the dump's own 'gosem.cut.vars' lays the variable. In a bare row this is a premise. The card (YtedibjgdangfnaaGreatDoorCards.lean) ties it to the program's text. -/
def laid_unicode_utf8_acceptRanges {H : Type} : DataW H := .agg [.agg [.lit (.int .u8 128), .lit (.int .u8 191)], .agg [.lit (.int .u8 160), .lit (.int .u8 191)], .agg [.lit (.int .u8 128), .lit (.int .u8 159)], .agg [.lit (.int .u8 144), .lit (.int .u8 191)], .agg [.lit (.int .u8 128), .lit (.int .u8 143)], .agg [.lit (.int .u8 0), .lit (.int .u8 0)], .agg [.lit (.int .u8 0), .lit (.int .u8 0)], .agg [.lit (.int .u8 0), .lit (.int .u8 0)], .agg [.lit (.int .u8 0), .lit (.int .u8 0)], .agg [.lit (.int .u8 0), .lit (.int .u8 0)], .agg [.lit (.int .u8 0), .lit (.int .u8 0)], .agg [.lit (.int .u8 0), .lit (.int .u8 0)], .agg [.lit (.int .u8 0), .lit (.int .u8 0)], .agg [.lit (.int .u8 0), .lit (.int .u8 0)], .agg [.lit (.int .u8 0), .lit (.int .u8 0)], .agg [.lit (.int .u8 0), .lit (.int .u8 0)]]
/-- One of Go's own tables, pinned by name: the form's constant. -/
def laid_unicode_utf8_first : DataW Unit := Go.Pinned.utf8First
def laid_errors_errorType {H : Type} : DataW H := .iface "internal/reflectlite.rtype" (.agg [.ptr (.lit (.string [101, 114, 114, 111, 114]))])

/-- 'consignorlaw14.RuleClashes': WHATEVER THE INPUT: true; the input reads as it did. -/
def ruleClashesSpec : ChangeSpec := { name := "ruleClashes", fn := fun _ => fun
  | [d1, d2, d3] => { results := [.lit (.bool true)], args := [d1, d2, d3] }
  | _ => none }
def ruleClashesRow : OpenClaim := { program := "ytedibjgdangfnaagreatdoor", sum := "866d32a541b6596d33e122fc8863044b0138cea0a44f41e686380140b6010236", func := "consignor/consignorlaw14.RuleClashes", spec := "ruleClashes", inPlace := ["internal/bytealg.CountString", "internal/bytealg.IndexByteString", "internal/bytealg.IndexString", "internal/reflectlite.TypeOf"], unfollowed := true, recurses := true, named := ["unicode/utf8.first", "unicode/utf8.acceptRanges", "internal/bytealg.MaxLen"], apart := false, laid := [("unicode/utf8.acceptRanges", laid_unicode_utf8_acceptRanges), ("unicode/utf8.first", laid_unicode_utf8_first)] }
def RuleClashesSaid : Prop := ruleClashesRow.holds Tryz.pinned (OpenSpec.ofChange ruleClashesSpec)

/-- ITS FALSE NEIGHBOUR: 'it returns false'. Refute it at one input. -/
def ruleClashesWrong : ChangeSpec := { name := "ruleClashes", fn := fun _ => fun
  | [d1, d2, d3] => { results := [.lit (.bool false)], args := [d1, d2, d3] }
  | _ => none }
def RuleClashesWrongFalsely : Prop := ruleClashesRow.holds Tryz.pinned (OpenSpec.ofChange ruleClashesWrong)

/-- 'consignorlaw14.RulePicks': WHATEVER THE INPUT: true; the input reads as it did. -/
def rulePicksSpec : ChangeSpec := { name := "rulePicks", fn := fun _ => fun
  | [d1, d2, d3, d4] => { results := [.lit (.bool true)], args := [d1, d2, d3, d4] }
  | _ => none }
def rulePicksRow : OpenClaim := { program := "ytedibjgdangfnaagreatdoor", sum := "866d32a541b6596d33e122fc8863044b0138cea0a44f41e686380140b6010236", func := "consignor/consignorlaw14.RulePicks", spec := "rulePicks", inPlace := ["internal/bytealg.CountString", "internal/bytealg.IndexByteString", "internal/bytealg.IndexString", "internal/reflectlite.TypeOf"], unfollowed := true, recurses := true, named := ["unicode/utf8.first", "unicode/utf8.acceptRanges", "internal/bytealg.MaxLen"], apart := false, laid := [("unicode/utf8.acceptRanges", laid_unicode_utf8_acceptRanges), ("unicode/utf8.first", laid_unicode_utf8_first)] }
def RulePicksSaid : Prop := rulePicksRow.holds Tryz.pinned (OpenSpec.ofChange rulePicksSpec)

/-- ITS FALSE NEIGHBOUR: 'it returns false'. Refute it at one input. -/
def rulePicksWrong : ChangeSpec := { name := "rulePicks", fn := fun _ => fun
  | [d1, d2, d3, d4] => { results := [.lit (.bool false)], args := [d1, d2, d3, d4] }
  | _ => none }
def RulePicksWrongFalsely : Prop := rulePicksRow.holds Tryz.pinned (OpenSpec.ofChange rulePicksWrong)

/-- 'consignorlaw14.RuleNames': WHATEVER THE INPUT: true; the input reads as it did. -/
def ruleNamesSpec : ChangeSpec := { name := "ruleNames", fn := fun _ => fun
  | [d1, d2, d3, d4] => { results := [.lit (.bool true)], args := [d1, d2, d3, d4] }
  | _ => none }
def ruleNamesRow : OpenClaim := { program := "ytedibjgdangfnaagreatdoor", sum := "866d32a541b6596d33e122fc8863044b0138cea0a44f41e686380140b6010236", func := "consignor/consignorlaw14.RuleNames", spec := "ruleNames", inPlace := ["internal/bytealg.CountString", "internal/bytealg.IndexByteString", "internal/bytealg.IndexString", "internal/reflectlite.TypeOf"], unfollowed := true, recurses := true, named := ["unicode/utf8.first", "unicode/utf8.acceptRanges", "internal/bytealg.MaxLen"], apart := false, laid := [("unicode/utf8.acceptRanges", laid_unicode_utf8_acceptRanges), ("unicode/utf8.first", laid_unicode_utf8_first)] }
def RuleNamesSaid : Prop := ruleNamesRow.holds Tryz.pinned (OpenSpec.ofChange ruleNamesSpec)

/-- ITS FALSE NEIGHBOUR: 'it returns false'. Refute it at one input. -/
def ruleNamesWrong : ChangeSpec := { name := "ruleNames", fn := fun _ => fun
  | [d1, d2, d3, d4] => { results := [.lit (.bool false)], args := [d1, d2, d3, d4] }
  | _ => none }
def RuleNamesWrongFalsely : Prop := ruleNamesRow.holds Tryz.pinned (OpenSpec.ofChange ruleNamesWrong)

/-- 'consignorlaw14.RuleSides': WHATEVER THE INPUT: true; the input reads as it did. -/
def ruleSidesSpec : ChangeSpec := { name := "ruleSides", fn := fun _ => fun
  | [d1, d2, d3, d4, d5] => { results := [.lit (.bool true)], args := [d1, d2, d3, d4, d5] }
  | _ => none }
def ruleSidesRow : OpenClaim := { program := "ytedibjgdangfnaagreatdoor", sum := "866d32a541b6596d33e122fc8863044b0138cea0a44f41e686380140b6010236", func := "consignor/consignorlaw14.RuleSides", spec := "ruleSides", inPlace := ["internal/bytealg.CountString", "internal/bytealg.IndexByteString", "internal/bytealg.IndexString", "internal/reflectlite.TypeOf"], unfollowed := true, recurses := true, named := ["unicode/utf8.first", "unicode/utf8.acceptRanges", "internal/bytealg.MaxLen"], apart := false, laid := [("unicode/utf8.acceptRanges", laid_unicode_utf8_acceptRanges), ("unicode/utf8.first", laid_unicode_utf8_first)] }
def RuleSidesSaid : Prop := ruleSidesRow.holds Tryz.pinned (OpenSpec.ofChange ruleSidesSpec)

/-- ITS FALSE NEIGHBOUR: 'it returns false'. Refute it at one input. -/
def ruleSidesWrong : ChangeSpec := { name := "ruleSides", fn := fun _ => fun
  | [d1, d2, d3, d4, d5] => { results := [.lit (.bool false)], args := [d1, d2, d3, d4, d5] }
  | _ => none }
def RuleSidesWrongFalsely : Prop := ruleSidesRow.holds Tryz.pinned (OpenSpec.ofChange ruleSidesWrong)

/-- 'consignorlaw17.PlanNone': WHATEVER THE INPUT: true; the input reads as it did. -/
def planNoneSpec : ChangeSpec := { name := "planNone", fn := fun _ => fun
  | [d1, d2, d3] => { results := [.lit (.bool true)], args := [d1, d2, d3] }
  | _ => none }
def planNoneRow : OpenClaim := { program := "ytedibjgdangfnaagreatdoor", sum := "866d32a541b6596d33e122fc8863044b0138cea0a44f41e686380140b6010236", func := "consignor/consignorlaw17.PlanNone", spec := "planNone", inPlace := ["internal/bytealg.CountString", "internal/bytealg.IndexByteString", "internal/bytealg.IndexString", "internal/reflectlite.TypeOf"], unfollowed := true, recurses := true, named := ["unicode/utf8.first", "unicode/utf8.acceptRanges", "internal/bytealg.MaxLen"], apart := false, laid := [("unicode/utf8.acceptRanges", laid_unicode_utf8_acceptRanges), ("unicode/utf8.first", laid_unicode_utf8_first)] }
def PlanNoneSaid : Prop := planNoneRow.holds Tryz.pinned (OpenSpec.ofChange planNoneSpec)

/-- ITS FALSE NEIGHBOUR: 'it returns false'. Refute it at one input. -/
def planNoneWrong : ChangeSpec := { name := "planNone", fn := fun _ => fun
  | [d1, d2, d3] => { results := [.lit (.bool false)], args := [d1, d2, d3] }
  | _ => none }
def PlanNoneWrongFalsely : Prop := planNoneRow.holds Tryz.pinned (OpenSpec.ofChange planNoneWrong)

/-- 'consignorlaw17.PlanFlags': WHATEVER THE INPUT: true; the input reads as it did. -/
def planFlagsSpec : ChangeSpec := { name := "planFlags", fn := fun _ => fun
  | [d1, d2, d3] => { results := [.lit (.bool true)], args := [d1, d2, d3] }
  | _ => none }
def planFlagsRow : OpenClaim := { program := "ytedibjgdangfnaagreatdoor", sum := "866d32a541b6596d33e122fc8863044b0138cea0a44f41e686380140b6010236", func := "consignor/consignorlaw17.PlanFlags", spec := "planFlags", inPlace := ["internal/bytealg.CountString", "internal/bytealg.IndexByteString", "internal/bytealg.IndexString", "internal/reflectlite.TypeOf"], unfollowed := true, recurses := true, named := ["unicode/utf8.first", "unicode/utf8.acceptRanges", "internal/bytealg.MaxLen"], apart := false, laid := [("unicode/utf8.acceptRanges", laid_unicode_utf8_acceptRanges), ("unicode/utf8.first", laid_unicode_utf8_first)] }
def PlanFlagsSaid : Prop := planFlagsRow.holds Tryz.pinned (OpenSpec.ofChange planFlagsSpec)

/-- ITS FALSE NEIGHBOUR: 'it returns false'. Refute it at one input. -/
def planFlagsWrong : ChangeSpec := { name := "planFlags", fn := fun _ => fun
  | [d1, d2, d3] => { results := [.lit (.bool false)], args := [d1, d2, d3] }
  | _ => none }
def PlanFlagsWrongFalsely : Prop := planFlagsRow.holds Tryz.pinned (OpenSpec.ofChange planFlagsWrong)

/-- 'consignorlaw17.PlanPrefix': WHATEVER THE INPUT: true; the input reads as it did. -/
def planPrefixSpec : ChangeSpec := { name := "planPrefix", fn := fun _ => fun
  | [d1, d2, d3] => { results := [.lit (.bool true)], args := [d1, d2, d3] }
  | _ => none }
def planPrefixRow : OpenClaim := { program := "ytedibjgdangfnaagreatdoor", sum := "866d32a541b6596d33e122fc8863044b0138cea0a44f41e686380140b6010236", func := "consignor/consignorlaw17.PlanPrefix", spec := "planPrefix", inPlace := ["internal/bytealg.CountString", "internal/bytealg.IndexByteString", "internal/bytealg.IndexString", "internal/reflectlite.TypeOf", "internal/abi.NoEscape"], unfollowed := true, recurses := true, named := ["unicode/utf8.first", "unicode/utf8.acceptRanges", "internal/bytealg.MaxLen"], apart := false, laid := [("unicode/utf8.acceptRanges", laid_unicode_utf8_acceptRanges), ("unicode/utf8.first", laid_unicode_utf8_first)] }
def PlanPrefixSaid : Prop := planPrefixRow.holds Tryz.pinned (OpenSpec.ofChange planPrefixSpec)

/-- ITS FALSE NEIGHBOUR: 'it returns false'. Refute it at one input. -/
def planPrefixWrong : ChangeSpec := { name := "planPrefix", fn := fun _ => fun
  | [d1, d2, d3] => { results := [.lit (.bool false)], args := [d1, d2, d3] }
  | _ => none }
def PlanPrefixWrongFalsely : Prop := planPrefixRow.holds Tryz.pinned (OpenSpec.ofChange planPrefixWrong)

/-- 'consignorlaw16.VaultApplies': WHATEVER THE INPUT: true; the input reads as it did. -/
def vaultAppliesSpec : ChangeSpec := { name := "vaultApplies", fn := fun _ => fun
  | [d1, d2, d3] => { results := [.lit (.bool true)], args := [d1, d2, d3] }
  | _ => none }
def vaultAppliesRow : OpenClaim := { program := "ytedibjgdangfnaagreatdoor", sum := "866d32a541b6596d33e122fc8863044b0138cea0a44f41e686380140b6010236", func := "consignor/consignorlaw16.VaultApplies", spec := "vaultApplies", inPlace := ["internal/abi.NoEscape", "internal/reflectlite.TypeOf", "internal/reflectlite.ValueOf", "(internal/reflectlite.Value).Type", "(internal/reflectlite.Value).IsNil", "(internal/reflectlite.Value).Elem", "(internal/reflectlite.Value).Set", "internal/bytealg.MakeNoZero"], unfollowed := true, recurses := true, named := ["errors.errorType"], apart := false, laid := [("errors.errorType", laid_errors_errorType)] }
def VaultAppliesSaid : Prop := vaultAppliesRow.holds Tryz.pinned (OpenSpec.ofChange vaultAppliesSpec)

/-- ITS FALSE NEIGHBOUR: 'it returns false'. Refute it at one input. -/
def vaultAppliesWrong : ChangeSpec := { name := "vaultApplies", fn := fun _ => fun
  | [d1, d2, d3] => { results := [.lit (.bool false)], args := [d1, d2, d3] }
  | _ => none }
def VaultAppliesWrongFalsely : Prop := vaultAppliesRow.holds Tryz.pinned (OpenSpec.ofChange vaultAppliesWrong)

/-- 'consignorlaw16.VaultKeeps': WHATEVER THE INPUT: true; the input reads as it did. -/
def vaultKeepsSpec : ChangeSpec := { name := "vaultKeeps", fn := fun _ => fun
  | [d1, d2] => { results := [.lit (.bool true)], args := [d1, d2] }
  | _ => none }
def vaultKeepsRow : OpenClaim := { program := "ytedibjgdangfnaagreatdoor", sum := "866d32a541b6596d33e122fc8863044b0138cea0a44f41e686380140b6010236", func := "consignor/consignorlaw16.VaultKeeps", spec := "vaultKeeps", inPlace := ["internal/abi.NoEscape", "internal/bytealg.MakeNoZero", "internal/reflectlite.TypeOf", "internal/reflectlite.ValueOf", "(internal/reflectlite.Value).Type", "(internal/reflectlite.Value).IsNil", "(internal/reflectlite.Value).Elem", "(internal/reflectlite.Value).Set"], unfollowed := true, recurses := true, named := ["errors.errorType"], apart := false, laid := [("errors.errorType", laid_errors_errorType)] }
def VaultKeepsSaid : Prop := vaultKeepsRow.holds Tryz.pinned (OpenSpec.ofChange vaultKeepsSpec)

/-- ITS FALSE NEIGHBOUR: 'it returns false'. Refute it at one input. -/
def vaultKeepsWrong : ChangeSpec := { name := "vaultKeeps", fn := fun _ => fun
  | [d1, d2] => { results := [.lit (.bool false)], args := [d1, d2] }
  | _ => none }
def VaultKeepsWrongFalsely : Prop := vaultKeepsRow.holds Tryz.pinned (OpenSpec.ofChange vaultKeepsWrong)

/-- 'consignorlaw16.VaultOnce': WHATEVER THE INPUT: true; the input reads as it did. -/
def vaultOnceSpec : ChangeSpec := { name := "vaultOnce", fn := fun _ => fun
  | [d1, d2] => { results := [.lit (.bool true)], args := [d1, d2] }
  | _ => none }
def vaultOnceRow : OpenClaim := { program := "ytedibjgdangfnaagreatdoor", sum := "866d32a541b6596d33e122fc8863044b0138cea0a44f41e686380140b6010236", func := "consignor/consignorlaw16.VaultOnce", spec := "vaultOnce", inPlace := ["internal/abi.NoEscape", "internal/bytealg.MakeNoZero", "internal/reflectlite.TypeOf", "internal/reflectlite.ValueOf", "(internal/reflectlite.Value).Type", "(internal/reflectlite.Value).IsNil", "(internal/reflectlite.Value).Elem", "(internal/reflectlite.Value).Set"], unfollowed := true, recurses := true, named := ["errors.errorType"], apart := false, laid := [("errors.errorType", laid_errors_errorType)] }
def VaultOnceSaid : Prop := vaultOnceRow.holds Tryz.pinned (OpenSpec.ofChange vaultOnceSpec)

/-- ITS FALSE NEIGHBOUR: 'it returns false'. Refute it at one input. -/
def vaultOnceWrong : ChangeSpec := { name := "vaultOnce", fn := fun _ => fun
  | [d1, d2] => { results := [.lit (.bool false)], args := [d1, d2] }
  | _ => none }
def VaultOnceWrongFalsely : Prop := vaultOnceRow.holds Tryz.pinned (OpenSpec.ofChange vaultOnceWrong)

/-- 'consignorlaw16.VaultSmall': WHATEVER THE INPUT: true; the input reads as it did. -/
def vaultSmallSpec : ChangeSpec := { name := "vaultSmall", fn := fun _ => fun
  | [d1, d2] => { results := [.lit (.bool true)], args := [d1, d2] }
  | _ => none }
def vaultSmallRow : OpenClaim := { program := "ytedibjgdangfnaagreatdoor", sum := "866d32a541b6596d33e122fc8863044b0138cea0a44f41e686380140b6010236", func := "consignor/consignorlaw16.VaultSmall", spec := "vaultSmall", inPlace := ["internal/abi.NoEscape", "internal/bytealg.MakeNoZero", "internal/reflectlite.TypeOf", "internal/reflectlite.ValueOf", "(internal/reflectlite.Value).Type", "(internal/reflectlite.Value).IsNil", "(internal/reflectlite.Value).Elem", "(internal/reflectlite.Value).Set"], unfollowed := true, recurses := true, named := ["errors.errorType"], apart := false, laid := [("errors.errorType", laid_errors_errorType)] }
def VaultSmallSaid : Prop := vaultSmallRow.holds Tryz.pinned (OpenSpec.ofChange vaultSmallSpec)

/-- ITS FALSE NEIGHBOUR: 'it returns false'. Refute it at one input. -/
def vaultSmallWrong : ChangeSpec := { name := "vaultSmall", fn := fun _ => fun
  | [d1, d2] => { results := [.lit (.bool false)], args := [d1, d2] }
  | _ => none }
def VaultSmallWrongFalsely : Prop := vaultSmallRow.holds Tryz.pinned (OpenSpec.ofChange vaultSmallWrong)

/- THE SECOND FORM. 'bulk': how many values and letters a reading holds, each counted each time it is reached (what is shared counts as often as it is met; a slice's spare places count too). A statement '..UptoSaid' is the law's where the arguments, and the package variables that the reading takes, are together of bulk at most 1048576: NARROWER than '..Said'. Prove '..Said' where nothing that the law and all that it calls make is longer than what came in: it says more and counts as full. Else prove '..UptoSaid'. A law counts once. -/
mutual
def uptoBulk {H : Type} : DataW H → Nat
  | .lit (.string bytes) => bytes.length + 1
  | .lit _ => 1
  | .nil => 1
  | .ptr d => uptoBulk d + 1
  | .slice elems spare => uptoBulkAll elems + uptoBulkAll spare + 1
  | .agg parts => uptoBulkAll parts + 1
  | .iface _ d => uptoBulk d + 1
  | .map entries => uptoBulkEntries entries + 1
  | .held _ => 1
def uptoBulkAll {H : Type} : List (DataW H) → Nat
  | [] => 0
  | d :: r => uptoBulk d + uptoBulkAll r
def uptoBulkEntries {H : Type} : List (Lit × DataW H) → Nat
  | [] => 0
  | x :: r => uptoBulkEntry x + uptoBulkEntries r
def uptoBulkEntry {H : Type} : Lit × DataW H → Nat
  | (.string bytes, d) => bytes.length + uptoBulk d + 1
  | (_, d) => uptoBulk d + 1
 end
def uptoSmall : (H : Type) → List (DataW H) → Bool := fun _ ds => decide (uptoBulkAll ds ≤ 1048576)
def OpenSpec.upto (s : _root_.Go.ChangeSpec) : _root_.Go.OpenSpec := { _root_.Go.OpenSpec.ofChange s with cond := some uptoSmall }

/-- 'consignorlaw14.RuleClashes', WHERE WHAT IT READS IS OF BULK AT MOST 1048576: true; the input reads as it did. -/
def ruleClashesUptoRow : OpenClaim := { program := "ytedibjgdangfnaagreatdoor", sum := "866d32a541b6596d33e122fc8863044b0138cea0a44f41e686380140b6010236", func := "consignor/consignorlaw14.RuleClashes", spec := "ruleClashes", inPlace := ["internal/bytealg.CountString", "internal/bytealg.IndexByteString", "internal/bytealg.IndexString", "internal/reflectlite.TypeOf"], unfollowed := true, recurses := true, named := ["unicode/utf8.first", "unicode/utf8.acceptRanges", "internal/bytealg.MaxLen"], apart := false, laid := [("unicode/utf8.acceptRanges", laid_unicode_utf8_acceptRanges), ("unicode/utf8.first", laid_unicode_utf8_first)], narrowed := true }
def RuleClashesUptoSaid : Prop := ruleClashesUptoRow.holds Tryz.pinned (OpenSpec.upto ruleClashesSpec)

/-- 'consignorlaw14.RulePicks', WHERE WHAT IT READS IS OF BULK AT MOST 1048576: true; the input reads as it did. -/
def rulePicksUptoRow : OpenClaim := { program := "ytedibjgdangfnaagreatdoor", sum := "866d32a541b6596d33e122fc8863044b0138cea0a44f41e686380140b6010236", func := "consignor/consignorlaw14.RulePicks", spec := "rulePicks", inPlace := ["internal/bytealg.CountString", "internal/bytealg.IndexByteString", "internal/bytealg.IndexString", "internal/reflectlite.TypeOf"], unfollowed := true, recurses := true, named := ["unicode/utf8.first", "unicode/utf8.acceptRanges", "internal/bytealg.MaxLen"], apart := false, laid := [("unicode/utf8.acceptRanges", laid_unicode_utf8_acceptRanges), ("unicode/utf8.first", laid_unicode_utf8_first)], narrowed := true }
def RulePicksUptoSaid : Prop := rulePicksUptoRow.holds Tryz.pinned (OpenSpec.upto rulePicksSpec)

/-- 'consignorlaw14.RuleNames', WHERE WHAT IT READS IS OF BULK AT MOST 1048576: true; the input reads as it did. -/
def ruleNamesUptoRow : OpenClaim := { program := "ytedibjgdangfnaagreatdoor", sum := "866d32a541b6596d33e122fc8863044b0138cea0a44f41e686380140b6010236", func := "consignor/consignorlaw14.RuleNames", spec := "ruleNames", inPlace := ["internal/bytealg.CountString", "internal/bytealg.IndexByteString", "internal/bytealg.IndexString", "internal/reflectlite.TypeOf"], unfollowed := true, recurses := true, named := ["unicode/utf8.first", "unicode/utf8.acceptRanges", "internal/bytealg.MaxLen"], apart := false, laid := [("unicode/utf8.acceptRanges", laid_unicode_utf8_acceptRanges), ("unicode/utf8.first", laid_unicode_utf8_first)], narrowed := true }
def RuleNamesUptoSaid : Prop := ruleNamesUptoRow.holds Tryz.pinned (OpenSpec.upto ruleNamesSpec)

/-- 'consignorlaw14.RuleSides', WHERE WHAT IT READS IS OF BULK AT MOST 1048576: true; the input reads as it did. -/
def ruleSidesUptoRow : OpenClaim := { program := "ytedibjgdangfnaagreatdoor", sum := "866d32a541b6596d33e122fc8863044b0138cea0a44f41e686380140b6010236", func := "consignor/consignorlaw14.RuleSides", spec := "ruleSides", inPlace := ["internal/bytealg.CountString", "internal/bytealg.IndexByteString", "internal/bytealg.IndexString", "internal/reflectlite.TypeOf"], unfollowed := true, recurses := true, named := ["unicode/utf8.first", "unicode/utf8.acceptRanges", "internal/bytealg.MaxLen"], apart := false, laid := [("unicode/utf8.acceptRanges", laid_unicode_utf8_acceptRanges), ("unicode/utf8.first", laid_unicode_utf8_first)], narrowed := true }
def RuleSidesUptoSaid : Prop := ruleSidesUptoRow.holds Tryz.pinned (OpenSpec.upto ruleSidesSpec)

/-- 'consignorlaw17.PlanNone', WHERE WHAT IT READS IS OF BULK AT MOST 1048576: true; the input reads as it did. -/
def planNoneUptoRow : OpenClaim := { program := "ytedibjgdangfnaagreatdoor", sum := "866d32a541b6596d33e122fc8863044b0138cea0a44f41e686380140b6010236", func := "consignor/consignorlaw17.PlanNone", spec := "planNone", inPlace := ["internal/bytealg.CountString", "internal/bytealg.IndexByteString", "internal/bytealg.IndexString", "internal/reflectlite.TypeOf"], unfollowed := true, recurses := true, named := ["unicode/utf8.first", "unicode/utf8.acceptRanges", "internal/bytealg.MaxLen"], apart := false, laid := [("unicode/utf8.acceptRanges", laid_unicode_utf8_acceptRanges), ("unicode/utf8.first", laid_unicode_utf8_first)], narrowed := true }
def PlanNoneUptoSaid : Prop := planNoneUptoRow.holds Tryz.pinned (OpenSpec.upto planNoneSpec)

/-- 'consignorlaw17.PlanFlags', WHERE WHAT IT READS IS OF BULK AT MOST 1048576: true; the input reads as it did. -/
def planFlagsUptoRow : OpenClaim := { program := "ytedibjgdangfnaagreatdoor", sum := "866d32a541b6596d33e122fc8863044b0138cea0a44f41e686380140b6010236", func := "consignor/consignorlaw17.PlanFlags", spec := "planFlags", inPlace := ["internal/bytealg.CountString", "internal/bytealg.IndexByteString", "internal/bytealg.IndexString", "internal/reflectlite.TypeOf"], unfollowed := true, recurses := true, named := ["unicode/utf8.first", "unicode/utf8.acceptRanges", "internal/bytealg.MaxLen"], apart := false, laid := [("unicode/utf8.acceptRanges", laid_unicode_utf8_acceptRanges), ("unicode/utf8.first", laid_unicode_utf8_first)], narrowed := true }
def PlanFlagsUptoSaid : Prop := planFlagsUptoRow.holds Tryz.pinned (OpenSpec.upto planFlagsSpec)

/-- 'consignorlaw17.PlanPrefix', WHERE WHAT IT READS IS OF BULK AT MOST 1048576: true; the input reads as it did. -/
def planPrefixUptoRow : OpenClaim := { program := "ytedibjgdangfnaagreatdoor", sum := "866d32a541b6596d33e122fc8863044b0138cea0a44f41e686380140b6010236", func := "consignor/consignorlaw17.PlanPrefix", spec := "planPrefix", inPlace := ["internal/bytealg.CountString", "internal/bytealg.IndexByteString", "internal/bytealg.IndexString", "internal/reflectlite.TypeOf", "internal/abi.NoEscape"], unfollowed := true, recurses := true, named := ["unicode/utf8.first", "unicode/utf8.acceptRanges", "internal/bytealg.MaxLen"], apart := false, laid := [("unicode/utf8.acceptRanges", laid_unicode_utf8_acceptRanges), ("unicode/utf8.first", laid_unicode_utf8_first)], narrowed := true }
def PlanPrefixUptoSaid : Prop := planPrefixUptoRow.holds Tryz.pinned (OpenSpec.upto planPrefixSpec)

/-- 'consignorlaw16.VaultApplies', WHERE WHAT IT READS IS OF BULK AT MOST 1048576: true; the input reads as it did. -/
def vaultAppliesUptoRow : OpenClaim := { program := "ytedibjgdangfnaagreatdoor", sum := "866d32a541b6596d33e122fc8863044b0138cea0a44f41e686380140b6010236", func := "consignor/consignorlaw16.VaultApplies", spec := "vaultApplies", inPlace := ["internal/abi.NoEscape", "internal/reflectlite.TypeOf", "internal/reflectlite.ValueOf", "(internal/reflectlite.Value).Type", "(internal/reflectlite.Value).IsNil", "(internal/reflectlite.Value).Elem", "(internal/reflectlite.Value).Set", "internal/bytealg.MakeNoZero"], unfollowed := true, recurses := true, named := ["errors.errorType"], apart := false, laid := [("errors.errorType", laid_errors_errorType)], narrowed := true }
def VaultAppliesUptoSaid : Prop := vaultAppliesUptoRow.holds Tryz.pinned (OpenSpec.upto vaultAppliesSpec)

/-- 'consignorlaw16.VaultKeeps', WHERE WHAT IT READS IS OF BULK AT MOST 1048576: true; the input reads as it did. -/
def vaultKeepsUptoRow : OpenClaim := { program := "ytedibjgdangfnaagreatdoor", sum := "866d32a541b6596d33e122fc8863044b0138cea0a44f41e686380140b6010236", func := "consignor/consignorlaw16.VaultKeeps", spec := "vaultKeeps", inPlace := ["internal/abi.NoEscape", "internal/bytealg.MakeNoZero", "internal/reflectlite.TypeOf", "internal/reflectlite.ValueOf", "(internal/reflectlite.Value).Type", "(internal/reflectlite.Value).IsNil", "(internal/reflectlite.Value).Elem", "(internal/reflectlite.Value).Set"], unfollowed := true, recurses := true, named := ["errors.errorType"], apart := false, laid := [("errors.errorType", laid_errors_errorType)], narrowed := true }
def VaultKeepsUptoSaid : Prop := vaultKeepsUptoRow.holds Tryz.pinned (OpenSpec.upto vaultKeepsSpec)

/-- 'consignorlaw16.VaultOnce', WHERE WHAT IT READS IS OF BULK AT MOST 1048576: true; the input reads as it did. -/
def vaultOnceUptoRow : OpenClaim := { program := "ytedibjgdangfnaagreatdoor", sum := "866d32a541b6596d33e122fc8863044b0138cea0a44f41e686380140b6010236", func := "consignor/consignorlaw16.VaultOnce", spec := "vaultOnce", inPlace := ["internal/abi.NoEscape", "internal/bytealg.MakeNoZero", "internal/reflectlite.TypeOf", "internal/reflectlite.ValueOf", "(internal/reflectlite.Value).Type", "(internal/reflectlite.Value).IsNil", "(internal/reflectlite.Value).Elem", "(internal/reflectlite.Value).Set"], unfollowed := true, recurses := true, named := ["errors.errorType"], apart := false, laid := [("errors.errorType", laid_errors_errorType)], narrowed := true }
def VaultOnceUptoSaid : Prop := vaultOnceUptoRow.holds Tryz.pinned (OpenSpec.upto vaultOnceSpec)

/-- 'consignorlaw16.VaultSmall', WHERE WHAT IT READS IS OF BULK AT MOST 1048576: true; the input reads as it did. -/
def vaultSmallUptoRow : OpenClaim := { program := "ytedibjgdangfnaagreatdoor", sum := "866d32a541b6596d33e122fc8863044b0138cea0a44f41e686380140b6010236", func := "consignor/consignorlaw16.VaultSmall", spec := "vaultSmall", inPlace := ["internal/abi.NoEscape", "internal/bytealg.MakeNoZero", "internal/reflectlite.TypeOf", "internal/reflectlite.ValueOf", "(internal/reflectlite.Value).Type", "(internal/reflectlite.Value).IsNil", "(internal/reflectlite.Value).Elem", "(internal/reflectlite.Value).Set"], unfollowed := true, recurses := true, named := ["errors.errorType"], apart := false, laid := [("errors.errorType", laid_errors_errorType)], narrowed := true }
def VaultSmallUptoSaid : Prop := vaultSmallUptoRow.holds Tryz.pinned (OpenSpec.upto vaultSmallSpec)

end Rows
end Go.Proofs.YtedibjgdangfnaaGreatDoor
