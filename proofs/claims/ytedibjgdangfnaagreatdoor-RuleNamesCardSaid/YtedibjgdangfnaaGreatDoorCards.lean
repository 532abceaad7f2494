/-
  DERIVED. GIVEN WITH THE SEED: THE CARDS: each row of YtedibjgdangfnaaGreatDoorRows.lean that lists a variable, with what it lists TIED to the program's text (the seventh form; the later family's looks); each row that meets fmt, with fmt's text TOLD by the authors' own Lean function (tested against real Go, not proved from fmt's source: count such statements apart). THE CARD IS WHAT COUNTS. Prove the row's statement (the work); the ties are given (YtedibjgdangfnaaGreatDoorTie.lean); close each card by the builder's one call (the guide's Derived/Test/ToyasCard.lean, 'card_holds'). Laid BY PROGRAM, IN A SANDBOX (cutbox-door.mjs). By AI agents, Wed Nov 11 2026. No macro, syntax, notation, axiom, sorry.
-/
import Derived.Test.YtedibjgdangfnaaGreatDoorRows
import GoSem.ClaimSeven
namespace Go.Proofs.YtedibjgdangfnaaGreatDoor
namespace Rows

/-- THE TIED CARD OF 'consignorlaw14.RuleClashes'. -/
def ruleClashesCard : Claim7 := { stood := { row := ruleClashesRow, standIns := [], harness := (true, "38722e2a6d65258c32db6bf8a20ce7a2ffce9bfee3ce1f428c68c19ecfbb0a85"), looks := true }, kinds := [], alts := [], laidByText := true, laidKinds := [.data, .pinned], laidTests := true, laidLooks := .later }
def RuleClashesCardSaid : Prop := Claim7.holds Tryz.pinned (.plain (OpenSpec.ofChange ruleClashesSpec)) ruleClashesCard

/-- THE TIED CARD OF 'consignorlaw14.RulePicks'. -/
def rulePicksCard : Claim7 := { stood := { row := rulePicksRow, standIns := [], harness := (true, "38722e2a6d65258c32db6bf8a20ce7a2ffce9bfee3ce1f428c68c19ecfbb0a85"), looks := true }, kinds := [], alts := [], laidByText := true, laidKinds := [.data, .pinned], laidTests := true, laidLooks := .later }
def RulePicksCardSaid : Prop := Claim7.holds Tryz.pinned (.plain (OpenSpec.ofChange rulePicksSpec)) rulePicksCard

/-- THE TIED CARD OF 'consignorlaw14.RuleNames'. -/
def ruleNamesCard : Claim7 := { stood := { row := ruleNamesRow, standIns := [], harness := (true, "38722e2a6d65258c32db6bf8a20ce7a2ffce9bfee3ce1f428c68c19ecfbb0a85"), looks := true }, kinds := [], alts := [], laidByText := true, laidKinds := [.data, .pinned], laidTests := true, laidLooks := .later }
def RuleNamesCardSaid : Prop := Claim7.holds Tryz.pinned (.plain (OpenSpec.ofChange ruleNamesSpec)) ruleNamesCard

/-- THE TIED CARD OF 'consignorlaw14.RuleSides'. -/
def ruleSidesCard : Claim7 := { stood := { row := ruleSidesRow, standIns := [], harness := (true, "38722e2a6d65258c32db6bf8a20ce7a2ffce9bfee3ce1f428c68c19ecfbb0a85"), looks := true }, kinds := [], alts := [], laidByText := true, laidKinds := [.data, .pinned], laidTests := true, laidLooks := .later }
def RuleSidesCardSaid : Prop := Claim7.holds Tryz.pinned (.plain (OpenSpec.ofChange ruleSidesSpec)) ruleSidesCard

/-- THE TIED CARD OF 'consignorlaw17.PlanNone'. -/
def planNoneCard : Claim7 := { stood := { row := planNoneRow, standIns := [], harness := (true, "38722e2a6d65258c32db6bf8a20ce7a2ffce9bfee3ce1f428c68c19ecfbb0a85"), looks := true }, kinds := [], alts := [], laidByText := true, laidKinds := [.data, .pinned], laidTests := true, laidLooks := .later }
def PlanNoneCardSaid : Prop := Claim7.holds Tryz.pinned (.plain (OpenSpec.ofChange planNoneSpec)) planNoneCard

/-- THE TIED CARD OF 'consignorlaw17.PlanFlags'. -/
def planFlagsCard : Claim7 := { stood := { row := planFlagsRow, standIns := [], harness := (true, "38722e2a6d65258c32db6bf8a20ce7a2ffce9bfee3ce1f428c68c19ecfbb0a85"), looks := true }, kinds := [], alts := [], laidByText := true, laidKinds := [.data, .pinned], laidTests := true, laidLooks := .later }
def PlanFlagsCardSaid : Prop := Claim7.holds Tryz.pinned (.plain (OpenSpec.ofChange planFlagsSpec)) planFlagsCard

/-- THE TIED CARD OF 'consignorlaw17.PlanPrefix'. -/
def planPrefixCard : Claim7 := { stood := { row := planPrefixRow, standIns := [], harness := (true, "38722e2a6d65258c32db6bf8a20ce7a2ffce9bfee3ce1f428c68c19ecfbb0a85"), looks := true }, kinds := [], alts := [], laidByText := true, laidKinds := [.data, .pinned], laidTests := true, laidLooks := .later }
def PlanPrefixCardSaid : Prop := Claim7.holds Tryz.pinned (.plain (OpenSpec.ofChange planPrefixSpec)) planPrefixCard

/-- THE TIED CARD OF 'consignorlaw16.VaultApplies'. -/
def vaultAppliesCard : Claim7 := { stood := { row := vaultAppliesRow, standIns := [], harness := (true, "38722e2a6d65258c32db6bf8a20ce7a2ffce9bfee3ce1f428c68c19ecfbb0a85"), looks := true }, kinds := [], alts := [], laidByText := true, laidKinds := [.handle], laidTests := true, laidLooks := .later }
def VaultAppliesCardSaid : Prop := Claim7.holds Tryz.pinned (.plain (OpenSpec.ofChange vaultAppliesSpec)) vaultAppliesCard

/-- THE TIED CARD OF 'consignorlaw16.VaultKeeps'. -/
def vaultKeepsCard : Claim7 := { stood := { row := vaultKeepsRow, standIns := [], harness := (true, "38722e2a6d65258c32db6bf8a20ce7a2ffce9bfee3ce1f428c68c19ecfbb0a85"), looks := true }, kinds := [], alts := [], laidByText := true, laidKinds := [.handle], laidTests := true, laidLooks := .later }
def VaultKeepsCardSaid : Prop := Claim7.holds Tryz.pinned (.plain (OpenSpec.ofChange vaultKeepsSpec)) vaultKeepsCard

/-- THE TIED CARD OF 'consignorlaw16.VaultOnce'. -/
def vaultOnceCard : Claim7 := { stood := { row := vaultOnceRow, standIns := [], harness := (true, "38722e2a6d65258c32db6bf8a20ce7a2ffce9bfee3ce1f428c68c19ecfbb0a85"), looks := true }, kinds := [], alts := [], laidByText := true, laidKinds := [.handle], laidTests := true, laidLooks := .later }
def VaultOnceCardSaid : Prop := Claim7.holds Tryz.pinned (.plain (OpenSpec.ofChange vaultOnceSpec)) vaultOnceCard

/-- THE TIED CARD OF 'consignorlaw16.VaultSmall'. -/
def vaultSmallCard : Claim7 := { stood := { row := vaultSmallRow, standIns := [], harness := (true, "38722e2a6d65258c32db6bf8a20ce7a2ffce9bfee3ce1f428c68c19ecfbb0a85"), looks := true }, kinds := [], alts := [], laidByText := true, laidKinds := [.handle], laidTests := true, laidLooks := .later }
def VaultSmallCardSaid : Prop := Claim7.holds Tryz.pinned (.plain (OpenSpec.ofChange vaultSmallSpec)) vaultSmallCard

/-- THE SECOND FORM's CARD OF 'consignorlaw14.RuleClashes'. -/
def ruleClashesUptoCard : Claim7 := { stood := { row := ruleClashesUptoRow, standIns := [], harness := (true, "38722e2a6d65258c32db6bf8a20ce7a2ffce9bfee3ce1f428c68c19ecfbb0a85"), looks := true }, kinds := [], alts := [], laidByText := true, laidKinds := [.data, .pinned], laidTests := true, laidLooks := .later }
def RuleClashesUptoCardSaid : Prop := Claim7.holds Tryz.pinned (.plain (OpenSpec.upto ruleClashesSpec)) ruleClashesUptoCard

/-- THE SECOND FORM's CARD OF 'consignorlaw14.RulePicks'. -/
def rulePicksUptoCard : Claim7 := { stood := { row := rulePicksUptoRow, standIns := [], harness := (true, "38722e2a6d65258c32db6bf8a20ce7a2ffce9bfee3ce1f428c68c19ecfbb0a85"), looks := true }, kinds := [], alts := [], laidByText := true, laidKinds := [.data, .pinned], laidTests := true, laidLooks := .later }
def RulePicksUptoCardSaid : Prop := Claim7.holds Tryz.pinned (.plain (OpenSpec.upto rulePicksSpec)) rulePicksUptoCard

/-- THE SECOND FORM's CARD OF 'consignorlaw14.RuleNames'. -/
def ruleNamesUptoCard : Claim7 := { stood := { row := ruleNamesUptoRow, standIns := [], harness := (true, "38722e2a6d65258c32db6bf8a20ce7a2ffce9bfee3ce1f428c68c19ecfbb0a85"), looks := true }, kinds := [], alts := [], laidByText := true, laidKinds := [.data, .pinned], laidTests := true, laidLooks := .later }
def RuleNamesUptoCardSaid : Prop := Claim7.holds Tryz.pinned (.plain (OpenSpec.upto ruleNamesSpec)) ruleNamesUptoCard

/-- THE SECOND FORM's CARD OF 'consignorlaw14.RuleSides'. -/
def ruleSidesUptoCard : Claim7 := { stood := { row := ruleSidesUptoRow, standIns := [], harness := (true, "38722e2a6d65258c32db6bf8a20ce7a2ffce9bfee3ce1f428c68c19ecfbb0a85"), looks := true }, kinds := [], alts := [], laidByText := true, laidKinds := [.data, .pinned], laidTests := true, laidLooks := .later }
def RuleSidesUptoCardSaid : Prop := Claim7.holds Tryz.pinned (.plain (OpenSpec.upto ruleSidesSpec)) ruleSidesUptoCard

/-- THE SECOND FORM's CARD OF 'consignorlaw17.PlanNone'. -/
def planNoneUptoCard : Claim7 := { stood := { row := planNoneUptoRow, standIns := [], harness := (true, "38722e2a6d65258c32db6bf8a20ce7a2ffce9bfee3ce1f428c68c19ecfbb0a85"), looks := true }, kinds := [], alts := [], laidByText := true, laidKinds := [.data, .pinned], laidTests := true, laidLooks := .later }
def PlanNoneUptoCardSaid : Prop := Claim7.holds Tryz.pinned (.plain (OpenSpec.upto planNoneSpec)) planNoneUptoCard

/-- THE SECOND FORM's CARD OF 'consignorlaw17.PlanFlags'. -/
def planFlagsUptoCard : Claim7 := { stood := { row := planFlagsUptoRow, standIns := [], harness := (true, "38722e2a6d65258c32db6bf8a20ce7a2ffce9bfee3ce1f428c68c19ecfbb0a85"), looks := true }, kinds := [], alts := [], laidByText := true, laidKinds := [.data, .pinned], laidTests := true, laidLooks := .later }
def PlanFlagsUptoCardSaid : Prop := Claim7.holds Tryz.pinned (.plain (OpenSpec.upto planFlagsSpec)) planFlagsUptoCard

/-- THE SECOND FORM's CARD OF 'consignorlaw17.PlanPrefix'. -/
def planPrefixUptoCard : Claim7 := { stood := { row := planPrefixUptoRow, standIns := [], harness := (true, "38722e2a6d65258c32db6bf8a20ce7a2ffce9bfee3ce1f428c68c19ecfbb0a85"), looks := true }, kinds := [], alts := [], laidByText := true, laidKinds := [.data, .pinned], laidTests := true, laidLooks := .later }
def PlanPrefixUptoCardSaid : Prop := Claim7.holds Tryz.pinned (.plain (OpenSpec.upto planPrefixSpec)) planPrefixUptoCard

/-- THE SECOND FORM's CARD OF 'consignorlaw16.VaultApplies'. -/
def vaultAppliesUptoCard : Claim7 := { stood := { row := vaultAppliesUptoRow, standIns := [], harness := (true, "38722e2a6d65258c32db6bf8a20ce7a2ffce9bfee3ce1f428c68c19ecfbb0a85"), looks := true }, kinds := [], alts := [], laidByText := true, laidKinds := [.handle], laidTests := true, laidLooks := .later }
def VaultAppliesUptoCardSaid : Prop := Claim7.holds Tryz.pinned (.plain (OpenSpec.upto vaultAppliesSpec)) vaultAppliesUptoCard

/-- THE SECOND FORM's CARD OF 'consignorlaw16.VaultKeeps'. -/
def vaultKeepsUptoCard : Claim7 := { stood := { row := vaultKeepsUptoRow, standIns := [], harness := (true, "38722e2a6d65258c32db6bf8a20ce7a2ffce9bfee3ce1f428c68c19ecfbb0a85"), looks := true }, kinds := [], alts := [], laidByText := true, laidKinds := [.handle], laidTests := true, laidLooks := .later }
def VaultKeepsUptoCardSaid : Prop := Claim7.holds Tryz.pinned (.plain (OpenSpec.upto vaultKeepsSpec)) vaultKeepsUptoCard

/-- THE SECOND FORM's CARD OF 'consignorlaw16.VaultOnce'. -/
def vaultOnceUptoCard : Claim7 := { stood := { row := vaultOnceUptoRow, standIns := [], harness := (true, "38722e2a6d65258c32db6bf8a20ce7a2ffce9bfee3ce1f428c68c19ecfbb0a85"), looks := true }, kinds := [], alts := [], laidByText := true, laidKinds := [.handle], laidTests := true, laidLooks := .later }
def VaultOnceUptoCardSaid : Prop := Claim7.holds Tryz.pinned (.plain (OpenSpec.upto vaultOnceSpec)) vaultOnceUptoCard

/-- THE SECOND FORM's CARD OF 'consignorlaw16.VaultSmall'. -/
def vaultSmallUptoCard : Claim7 := { stood := { row := vaultSmallUptoRow, standIns := [], harness := (true, "38722e2a6d65258c32db6bf8a20ce7a2ffce9bfee3ce1f428c68c19ecfbb0a85"), looks := true }, kinds := [], alts := [], laidByText := true, laidKinds := [.handle], laidTests := true, laidLooks := .later }
def VaultSmallUptoCardSaid : Prop := Claim7.holds Tryz.pinned (.plain (OpenSpec.upto vaultSmallSpec)) vaultSmallUptoCard
end Rows
end Go.Proofs.YtedibjgdangfnaaGreatDoor
