/- The row of the law RuleNames: for every input that the row speaks of the law returns true; each argument reads behind the call as it read before. -/
import Derived.Test.YtedibjgdangfnaaGreatDoorRows
import Derived.Test.YtedibjgdangfnaaGreatDoorQRuleNamesE
import Derived.Test.YtedibjgdangfnaaGreatDoorTie
import Derived.Test.YtedibjgdangfnaaGreatDoorCards
import Derived.WalkKit
import Derived.ProofKit
import Derived.OpenShut
import Derived.ShutString
import Derived.ChangeOld
import Derived.Below
import Derived.SizedLaws
import Derived.SliceStrings
import Derived.Carry
import Derived.KernelRfl
import Derived.LaidMore
import Derived.Stop.Joined
import Derived.SevenTiedAt
import Derived.Test.YtedibjgdangfnaaGreatDoorWSized
section
namespace Go.Proofs.YtedibjgdangfnaaGreatDoor.ruleNames
open Go.ChangeShapes Go.WideShapes Go.ChangeAt Go.RowKit Go.Proofs.YtedibjgdangfnaaGreatDoor.V Go.Proofs.YtedibjgdangfnaaGreatDoorW.PrintWords
set_option linter.unusedVariables false
theorem goes_:false=Rows.ruleNamesRow.goesBy Tryz.pinned.checked.prog:=by kernel_rfl
end Go.Proofs.YtedibjgdangfnaaGreatDoor.ruleNames
end
