/- The row of the law RuleNames: for every input that the row speaks of the law returns true; each argument reads behind the call as it read before. -/
import Derived.Test.YtedibjgdangfnaaGreatDoorRows
import Derived.Test.YtedibjgdangfnaaGreatDoorQRuleNamesE
import Derived.Test.YtedibjgdangfnaaGreatDoorTie
import Derived.Test.YtedibjgdangfnaaGreatDoorCards
import Derived.WalkKit
import Derived.ProofKit
import Derived.OpenShut
import Derived.ShutString
import Derived.ChangeOld
import Derived.Below
import Derived.SizedLaws
import Derived.SliceStrings
import Derived.Carry
import Derived.KernelRfl
import Derived.LaidMore
import Derived.Stop.Joined
import Derived.SevenTiedAt
import Derived.Test.YtedibjgdangfnaaGreatDoorWSized
section
namespace Go.Proofs.YtedibjgdangfnaaGreatDoor.ruleNames
open Go.ChangeShapes Go.WideShapes Go.ChangeAt Go.RowKit Go.Proofs.YtedibjgdangfnaaGreatDoor.V Go.Proofs.YtedibjgdangfnaaGreatDoorW.PrintWords
set_option linter.unusedVariables false
theorem wf_:Rows.ruleNamesRow.wfByText (OpenSpec.ofChange Rows.ruleNamesSpec)=true:=by kernel_rfl
theorem main_:Tryz.pinned.checked.prog.mainIs=some (((true, "38722e2a6d65258c32db6bf8a20ce7a2ffce9bfee3ce1f428c68c19ecfbb0a85"):Bool×String).1,((true, "38722e2a6d65258c32db6bf8a20ce7a2ffce9bfee3ce1f428c68c19ecfbb0a85"):Bool×String).2.toList):=by kernel_rfl
theorem looks_:true=Tryz.pinned.checked.prog.looks []:=by kernel_rfl
end Go.Proofs.YtedibjgdangfnaaGreatDoor.ruleNames
end
