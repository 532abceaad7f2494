/- The row of the law RuleNames: for every input that the row speaks of the law returns true; each argument reads behind the call as it read before. -/
import Derived.Test.YtedibjgdangfnaaGreatDoorRows
import Derived.Test.YtedibjgdangfnaaGreatDoorQRuleNamesE
import Derived.Test.YtedibjgdangfnaaGreatDoorTie
import Derived.Test.YtedibjgdangfnaaGreatDoorCards
import Derived.WalkKit
import Derived.ProofKit
import Derived.OpenShut
import Derived.ShutString
import Derived.ChangeOld
import Derived.Below
import Derived.SizedLaws
import Derived.SliceStrings
import Derived.Carry
import Derived.KernelRfl
import Derived.LaidMore
import Derived.Stop.Joined
import Derived.SevenTiedAt
import Derived.Test.YtedibjgdangfnaaGreatDoorWSized
section
namespace Go.Proofs.YtedibjgdangfnaaGreatDoor.ruleNames
open Go.ChangeShapes Go.WideShapes Go.ChangeAt Go.RowKit Go.Proofs.YtedibjgdangfnaaGreatDoor.V Go.Proofs.YtedibjgdangfnaaGreatDoorW.PrintWords
set_option linter.unusedVariables false
theorem j0:(Rows.ruleNamesRow.inPlace == Tryz.pinned.checked.prog.inPlace 5)=true:=by kernel_rfl
theorem j1:(Rows.ruleNamesRow.unfollowed == Tryz.pinned.checked.prog.unfollowed 5)=true:=by kernel_rfl
theorem j2:(Rows.ruleNamesRow.recurses == Tryz.pinned.checked.prog.recurses 5)=true:=by kernel_rfl
theorem j3:(Rows.ruleNamesRow.named == Tryz.pinned.checked.prog.varsNamed 5)=true:=by kernel_rfl
theorem wrapped:Tryz.f5.isWrapper Tryz.pinned.checked.prog Rows.ruleNamesRow.wrapper Rows.ruleNamesRow.mainSum:=(by unfold Func.isWrapper;first | (rw [if_pos (by decide +kernel)];kernel_rfl) | (rw [if_neg (by decide +kernel)];exact ⟨rfl,rfl⟩))
end Go.Proofs.YtedibjgdangfnaaGreatDoor.ruleNames
end
