/- The row of the law RuleNames: for every input that the row speaks of the law returns true; each argument reads behind the call as it read before. -/
import Derived.Test.YtedibjgdangfnaaGreatDoorRows
import Derived.Test.YtedibjgdangfnaaGreatDoorQRuleNamesE
import Derived.Test.YtedibjgdangfnaaGreatDoorTie
import Derived.Test.YtedibjgdangfnaaGreatDoorCards
import Derived.WalkKit
import Derived.ProofKit
import Derived.OpenShut
import Derived.ShutString
import Derived.ChangeOld
import Derived.Below
import Derived.SizedLaws
import Derived.SliceStrings
import Derived.Carry
import Derived.KernelRfl
import Derived.LaidMore
import Derived.Stop.Joined
import Derived.SevenTiedAt
import Derived.Test.YtedibjgdangfnaaGreatDoorWSized
section
namespace Go.Proofs.YtedibjgdangfnaaGreatDoor.ruleNames
open Go.ChangeShapes Go.WideShapes Go.ChangeAt Go.RowKit Go.Proofs.YtedibjgdangfnaaGreatDoor.V Go.Proofs.YtedibjgdangfnaaGreatDoorW.PrintWords
set_option linter.unusedVariables false
theorem ops_api_Rule:OpS Tryz.prog 24 9 e_api_Rule W_api_Rule:=ops_struct (fun a=>api_Rule.mk a.1 a.2.1 a.2.2.1 a.2.2.2.1 a.2.2.2.2.1 a.2.2.2.2.2.1 a.2.2.2.2.2.2.1 a.2.2.2.2.2.2.2.1 a.2.2.2.2.2.2.2.2) Tryz.underlying24 (by kernel_rfl) (OpSF.cons rfl rfl (by kernel_rfl) (ops_int (by kernel_rfl)) (OpSF.cons rfl rfl (by kernel_rfl) (ops_int (by kernel_rfl)) (OpSF.cons rfl rfl (by kernel_rfl) (ops_slice (e:=9) (by kernel_rfl) (by kernel_rfl) (by decide) (ops_str (by kernel_rfl))) (OpSF.cons rfl rfl (by kernel_rfl) (ops_slice (e:=9) (by kernel_rfl) (by kernel_rfl) (by decide) (ops_str (by kernel_rfl))) (OpSF.cons rfl rfl (by kernel_rfl) (ops_str (by kernel_rfl)) (OpSF.cons rfl rfl (by kernel_rfl) (ops_bool (by kernel_rfl)) (OpSF.cons rfl rfl (by kernel_rfl) (ops_bool (by kernel_rfl)) (OpSF.cons rfl rfl (by kernel_rfl) (ops_bool (by kernel_rfl)) (OpSF.one rfl rfl (by kernel_rfl) rfl (ops_str (by kernel_rfl))))))))))) (fun _=>rfl) (by intro a h;exact h)
theorem own:ownKnob Tryz.prog.godebug=none:=by kernel_rfl
theorem laidOut:laidOutB Tryz.prog=true:=by kernel_rfl
noncomputable def doorW (os:Os):World:=(let w0:=World.doorLaid Tryz.prog 400 os; { w0 with heap:=w0.heap.modify 1 fun | .cells _ t fz=>.cells ((Go.Pinned.utf8FirstZ.map fun (n:Nat)=>Value.int .u8 n).toArray) t fz | o=>o })
theorem door_met (os:Os) (args:Array Value):laidMetH Tryz.prog Rows.ruleNamesRow.laid ((doorW os).forCall (fun _ _=>0) ⟨#[],args,[]⟩).memory :=
  laidMetH_of_parts3 (fuel:=8) (laidMet_of_run' 8 (by kernel_rfl) (by kernel_rfl)) (by kernel_rfl) (by kernel_rfl)
theorem gl_ok {W:World} (h:laidMetH Tryz.prog Rows.ruleNamesRow.laid W):GlOk glP W (fun k=>k < W.heap.size):=fun g cs hg=>by cases hg
end Go.Proofs.YtedibjgdangfnaaGreatDoor.ruleNames
end
