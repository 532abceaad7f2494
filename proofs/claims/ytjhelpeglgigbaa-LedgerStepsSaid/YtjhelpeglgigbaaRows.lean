/-
  No cell of these rows narrows 'for every input' (looked for: loops, veiled, ifaces, maps, wideKeys, modest, calm, conditions, laid).
  DERIVED. THE GIVEN ROWS OF THIS SEAT. 6 by the template 'for every input the law returns true; each argument reads behind the call as it read before'; 0 by the template 'total and deterministic' (their statements: YtjhelpeglgigbaaTotals.lean).
  GIVEN WITH THE SEED: the statements are not yours to turn. If you find one false, say at which input.
  Laid BY PROGRAM, IN A SANDBOX (cutbox-rows.mjs): the forced cells as the released guide's own fill.sh prints them over the translation 7f7cc00293a0b4e3… (all of the seat's roots in one cut). By AI agents, Wed Nov 11 2026. No macro, syntax, notation, axiom, sorry.
-/
import Derived.Test.YtjhelpeglgigbaaChecked
import GoSem.Claim
import GoSem.ClaimJoined
import GoSem.ClaimMapViews
import Derived.JoinedTies
import Derived.KernelRfl
namespace Go.Proofs.Ytjhelpeglgigbaa
/- THE CELL 'sum', in the pinned program and in every row, IS THE sha256 OF THE DUMP (.gsa) THAT YtjhelpeglgigbaaProg.lean LOADS. Nothing in Lean hashes anything: it is a label: what it is worth is what the hold of that sum in a sandbox is worth. -/
noncomputable def Try.pinned : Pinned := { name := "ytjhelpeglgigbaa", sum := "7f7cc00293a0b4e3108925df68dd6e99381e4f18b964b4bd3ad37c4b90417519", checked := Try.checked }
namespace Rows
def none {H : Type} : Left H := { results := [], args := [] }

/-- 'consignorlaw10.LedgerOpens': WHATEVER THE INPUT: true; the input reads as it did. -/
def ledgerOpensSpec : ChangeSpec := { name := "ledgerOpens", fn := fun _ => fun
  | [d1, d2, d3] => { results := [.lit (.bool true)], args := [d1, d2, d3] }
  | _ => none }
def ledgerOpensRow : OpenClaim := { program := "ytjhelpeglgigbaa", sum := "7f7cc00293a0b4e3108925df68dd6e99381e4f18b964b4bd3ad37c4b90417519", func := "consignor/consignorlaw10.LedgerOpens", spec := "ledgerOpens", inPlace := ["internal/abi.NoEscape", "internal/bytealg.MakeNoZero"], unfollowed := true, recurses := true, apart := false }
def LedgerOpensSaid : Prop := ledgerOpensRow.holds Try.pinned (OpenSpec.ofChange ledgerOpensSpec)

/-- ITS FALSE NEIGHBOUR: 'it returns false'. Refute it at one input. -/
def ledgerOpensWrong : ChangeSpec := { name := "ledgerOpens", fn := fun _ => fun
  | [d1, d2, d3] => { results := [.lit (.bool false)], args := [d1, d2, d3] }
  | _ => none }
def LedgerOpensWrongFalsely : Prop := ledgerOpensRow.holds Try.pinned (OpenSpec.ofChange ledgerOpensWrong)

/-- 'consignorlaw10.LedgerOrder': WHATEVER THE INPUT: true; the input reads as it did. -/
def ledgerOrderSpec : ChangeSpec := { name := "ledgerOrder", fn := fun _ => fun
  | [d1, d2, d3] => { results := [.lit (.bool true)], args := [d1, d2, d3] }
  | _ => none }
def ledgerOrderRow : OpenClaim := { program := "ytjhelpeglgigbaa", sum := "7f7cc00293a0b4e3108925df68dd6e99381e4f18b964b4bd3ad37c4b90417519", func := "consignor/consignorlaw10.LedgerOrder", spec := "ledgerOrder", inPlace := ["internal/abi.NoEscape", "internal/bytealg.MakeNoZero"], unfollowed := true, recurses := true, apart := false }
def LedgerOrderSaid : Prop := ledgerOrderRow.holds Try.pinned (OpenSpec.ofChange ledgerOrderSpec)

/-- ITS FALSE NEIGHBOUR: 'it returns false'. Refute it at one input. -/
def ledgerOrderWrong : ChangeSpec := { name := "ledgerOrder", fn := fun _ => fun
  | [d1, d2, d3] => { results := [.lit (.bool false)], args := [d1, d2, d3] }
  | _ => none }
def LedgerOrderWrongFalsely : Prop := ledgerOrderRow.holds Try.pinned (OpenSpec.ofChange ledgerOrderWrong)

/-- 'consignorlaw10.LedgerSteps': WHATEVER THE INPUT: true; the input reads as it did. -/
def ledgerStepsSpec : ChangeSpec := { name := "ledgerSteps", fn := fun _ => fun
  | [d1, d2, d3] => { results := [.lit (.bool true)], args := [d1, d2, d3] }
  | _ => none }
def ledgerStepsRow : OpenClaim := { program := "ytjhelpeglgigbaa", sum := "7f7cc00293a0b4e3108925df68dd6e99381e4f18b964b4bd3ad37c4b90417519", func := "consignor/consignorlaw10.LedgerSteps", spec := "ledgerSteps", inPlace := ["internal/abi.NoEscape", "internal/bytealg.MakeNoZero"], unfollowed := true, recurses := true, apart := false }
def LedgerStepsSaid : Prop := ledgerStepsRow.holds Try.pinned (OpenSpec.ofChange ledgerStepsSpec)

/-- ITS FALSE NEIGHBOUR: 'it returns false'. Refute it at one input. -/
def ledgerStepsWrong : ChangeSpec := { name := "ledgerSteps", fn := fun _ => fun
  | [d1, d2, d3] => { results := [.lit (.bool false)], args := [d1, d2, d3] }
  | _ => none }
def LedgerStepsWrongFalsely : Prop := ledgerStepsRow.holds Try.pinned (OpenSpec.ofChange ledgerStepsWrong)

/-- 'consignorlaw10.LedgerGoes': WHATEVER THE INPUT: true; the input reads as it did. -/
def ledgerGoesSpec : ChangeSpec := { name := "ledgerGoes", fn := fun _ => fun
  | [d1, d2, d3] => { results := [.lit (.bool true)], args := [d1, d2, d3] }
  | _ => none }
def ledgerGoesRow : OpenClaim := { program := "ytjhelpeglgigbaa", sum := "7f7cc00293a0b4e3108925df68dd6e99381e4f18b964b4bd3ad37c4b90417519", func := "consignor/consignorlaw10.LedgerGoes", spec := "ledgerGoes", inPlace := ["internal/abi.NoEscape", "internal/bytealg.MakeNoZero"], unfollowed := true, recurses := true, apart := false }
def LedgerGoesSaid : Prop := ledgerGoesRow.holds Try.pinned (OpenSpec.ofChange ledgerGoesSpec)

/-- ITS FALSE NEIGHBOUR: 'it returns false'. Refute it at one input. -/
def ledgerGoesWrong : ChangeSpec := { name := "ledgerGoes", fn := fun _ => fun
  | [d1, d2, d3] => { results := [.lit (.bool false)], args := [d1, d2, d3] }
  | _ => none }
def LedgerGoesWrongFalsely : Prop := ledgerGoesRow.holds Try.pinned (OpenSpec.ofChange ledgerGoesWrong)

/-- 'consignorlaw10.LedgerHalves': WHATEVER THE INPUT: true; the input reads as it did. -/
def ledgerHalvesSpec : ChangeSpec := { name := "ledgerHalves", fn := fun _ => fun
  | [d1, d2, d3, d4] => { results := [.lit (.bool true)], args := [d1, d2, d3, d4] }
  | _ => none }
def ledgerHalvesRow : OpenClaim := { program := "ytjhelpeglgigbaa", sum := "7f7cc00293a0b4e3108925df68dd6e99381e4f18b964b4bd3ad37c4b90417519", func := "consignor/consignorlaw10.LedgerHalves", spec := "ledgerHalves", inPlace := ["internal/abi.NoEscape", "internal/bytealg.MakeNoZero"], unfollowed := true, recurses := true, apart := false }
def LedgerHalvesSaid : Prop := ledgerHalvesRow.holds Try.pinned (OpenSpec.ofChange ledgerHalvesSpec)

/-- ITS FALSE NEIGHBOUR: 'it returns false'. Refute it at one input. -/
def ledgerHalvesWrong : ChangeSpec := { name := "ledgerHalves", fn := fun _ => fun
  | [d1, d2, d3, d4] => { results := [.lit (.bool false)], args := [d1, d2, d3, d4] }
  | _ => none }
def LedgerHalvesWrongFalsely : Prop := ledgerHalvesRow.holds Try.pinned (OpenSpec.ofChange ledgerHalvesWrong)

/-- 'consignorlaw10.LedgerFills': WHATEVER THE INPUT: true; the input reads as it did. -/
def ledgerFillsSpec : ChangeSpec := { name := "ledgerFills", fn := fun _ => fun
  | [d1, d2] => { results := [.lit (.bool true)], args := [d1, d2] }
  | _ => none }
def ledgerFillsRow : OpenClaim := { program := "ytjhelpeglgigbaa", sum := "7f7cc00293a0b4e3108925df68dd6e99381e4f18b964b4bd3ad37c4b90417519", func := "consignor/consignorlaw10.LedgerFills", spec := "ledgerFills", inPlace := ["internal/abi.NoEscape", "internal/bytealg.MakeNoZero"], unfollowed := true, recurses := true, apart := false }
def LedgerFillsSaid : Prop := ledgerFillsRow.holds Try.pinned (OpenSpec.ofChange ledgerFillsSpec)

/-- ITS FALSE NEIGHBOUR: 'it returns false'. Refute it at one input. -/
def ledgerFillsWrong : ChangeSpec := { name := "ledgerFills", fn := fun _ => fun
  | [d1, d2] => { results := [.lit (.bool false)], args := [d1, d2] }
  | _ => none }
def LedgerFillsWrongFalsely : Prop := ledgerFillsRow.holds Try.pinned (OpenSpec.ofChange ledgerFillsWrong)

/- THE SECOND FORM. 'bulk': how many values and letters a reading holds, each counted each time it is reached (what is shared counts as often as it is met; a slice's spare places count too). A statement '..UptoSaid' is the law's where the arguments, and the package variables that the reading takes, are together of bulk at most 1048576: NARROWER than '..Said'. Prove '..Said' where nothing that the law and all that it calls make is longer than what came in: it says more and counts as full. Else prove '..UptoSaid'. A law counts once. -/
mutual
def uptoBulk {H : Type} : DataW H → Nat
  | .lit (.string bytes) => bytes.length + 1
  | .lit _ => 1
  | .nil => 1
  | .ptr d => uptoBulk d + 1
  | .slice elems spare => uptoBulkAll elems + uptoBulkAll spare + 1
  | .agg parts => uptoBulkAll parts + 1
  | .iface _ d => uptoBulk d + 1
  | .map entries => uptoBulkEntries entries + 1
  | .held _ => 1
def uptoBulkAll {H : Type} : List (DataW H) → Nat
  | [] => 0
  | d :: r => uptoBulk d + uptoBulkAll r
def uptoBulkEntries {H : Type} : List (Lit × DataW H) → Nat
  | [] => 0
  | x :: r => uptoBulkEntry x + uptoBulkEntries r
def uptoBulkEntry {H : Type} : Lit × DataW H → Nat
  | (.string bytes, d) => bytes.length + uptoBulk d + 1
  | (_, d) => uptoBulk d + 1
 end
def uptoSmall : (H : Type) → List (DataW H) → Bool := fun _ ds => decide (uptoBulkAll ds ≤ 1048576)
def OpenSpec.upto (s : _root_.Go.ChangeSpec) : _root_.Go.OpenSpec := { _root_.Go.OpenSpec.ofChange s with cond := some uptoSmall }

/-- 'consignorlaw10.LedgerOpens', WHERE WHAT IT READS IS OF BULK AT MOST 1048576: true; the input reads as it did. -/
def ledgerOpensUptoRow : OpenClaim := { program := "ytjhelpeglgigbaa", sum := "7f7cc00293a0b4e3108925df68dd6e99381e4f18b964b4bd3ad37c4b90417519", func := "consignor/consignorlaw10.LedgerOpens", spec := "ledgerOpens", inPlace := ["internal/abi.NoEscape", "internal/bytealg.MakeNoZero"], unfollowed := true, recurses := true, apart := false, narrowed := true }
def LedgerOpensUptoSaid : Prop := ledgerOpensUptoRow.holds Try.pinned (OpenSpec.upto ledgerOpensSpec)

/-- 'consignorlaw10.LedgerOrder', WHERE WHAT IT READS IS OF BULK AT MOST 1048576: true; the input reads as it did. -/
def ledgerOrderUptoRow : OpenClaim := { program := "ytjhelpeglgigbaa", sum := "7f7cc00293a0b4e3108925df68dd6e99381e4f18b964b4bd3ad37c4b90417519", func := "consignor/consignorlaw10.LedgerOrder", spec := "ledgerOrder", inPlace := ["internal/abi.NoEscape", "internal/bytealg.MakeNoZero"], unfollowed := true, recurses := true, apart := false, narrowed := true }
def LedgerOrderUptoSaid : Prop := ledgerOrderUptoRow.holds Try.pinned (OpenSpec.upto ledgerOrderSpec)

/-- 'consignorlaw10.LedgerSteps', WHERE WHAT IT READS IS OF BULK AT MOST 1048576: true; the input reads as it did. -/
def ledgerStepsUptoRow : OpenClaim := { program := "ytjhelpeglgigbaa", sum := "7f7cc00293a0b4e3108925df68dd6e99381e4f18b964b4bd3ad37c4b90417519", func := "consignor/consignorlaw10.LedgerSteps", spec := "ledgerSteps", inPlace := ["internal/abi.NoEscape", "internal/bytealg.MakeNoZero"], unfollowed := true, recurses := true, apart := false, narrowed := true }
def LedgerStepsUptoSaid : Prop := ledgerStepsUptoRow.holds Try.pinned (OpenSpec.upto ledgerStepsSpec)

/-- 'consignorlaw10.LedgerGoes', WHERE WHAT IT READS IS OF BULK AT MOST 1048576: true; the input reads as it did. -/
def ledgerGoesUptoRow : OpenClaim := { program := "ytjhelpeglgigbaa", sum := "7f7cc00293a0b4e3108925df68dd6e99381e4f18b964b4bd3ad37c4b90417519", func := "consignor/consignorlaw10.LedgerGoes", spec := "ledgerGoes", inPlace := ["internal/abi.NoEscape", "internal/bytealg.MakeNoZero"], unfollowed := true, recurses := true, apart := false, narrowed := true }
def LedgerGoesUptoSaid : Prop := ledgerGoesUptoRow.holds Try.pinned (OpenSpec.upto ledgerGoesSpec)

/-- 'consignorlaw10.LedgerHalves', WHERE WHAT IT READS IS OF BULK AT MOST 1048576: true; the input reads as it did. -/
def ledgerHalvesUptoRow : OpenClaim := { program := "ytjhelpeglgigbaa", sum := "7f7cc00293a0b4e3108925df68dd6e99381e4f18b964b4bd3ad37c4b90417519", func := "consignor/consignorlaw10.LedgerHalves", spec := "ledgerHalves", inPlace := ["internal/abi.NoEscape", "internal/bytealg.MakeNoZero"], unfollowed := true, recurses := true, apart := false, narrowed := true }
def LedgerHalvesUptoSaid : Prop := ledgerHalvesUptoRow.holds Try.pinned (OpenSpec.upto ledgerHalvesSpec)

/-- 'consignorlaw10.LedgerFills', WHERE WHAT IT READS IS OF BULK AT MOST 1048576: true; the input reads as it did. -/
def ledgerFillsUptoRow : OpenClaim := { program := "ytjhelpeglgigbaa", sum := "7f7cc00293a0b4e3108925df68dd6e99381e4f18b964b4bd3ad37c4b90417519", func := "consignor/consignorlaw10.LedgerFills", spec := "ledgerFills", inPlace := ["internal/abi.NoEscape", "internal/bytealg.MakeNoZero"], unfollowed := true, recurses := true, apart := false, narrowed := true }
def LedgerFillsUptoSaid : Prop := ledgerFillsUptoRow.holds Try.pinned (OpenSpec.upto ledgerFillsSpec)

end Rows
end Go.Proofs.Ytjhelpeglgigbaa
