/- The row of the law RuleNames: for every input that the row speaks of the law returns true; each argument reads behind the call as it read before. -/
import Derived.Test.YtedibjgdangfnaaGreatDoorQRuleNamesJ
import Derived.Test.YtedibjgdangfnaaGreatDoorQRuleNamesK
import Derived.Test.YtedibjgdangfnaaGreatDoorQRuleNamesL
import Derived.Test.YtedibjgdangfnaaGreatDoorRows
import Derived.Test.YtedibjgdangfnaaGreatDoorQRuleNamesE
import Derived.Test.YtedibjgdangfnaaGreatDoorTie
import Derived.Test.YtedibjgdangfnaaGreatDoorCards
import Derived.WalkKit
import Derived.ProofKit
import Derived.OpenShut
import Derived.ShutString
import Derived.ChangeOld
import Derived.Below
import Derived.SizedLaws
import Derived.SliceStrings
import Derived.Carry
import Derived.KernelRfl
import Derived.LaidMore
import Derived.Stop.Joined
import Derived.SevenTiedAt
import Derived.Test.YtedibjgdangfnaaGreatDoorWSized
section
namespace Go.Proofs.YtedibjgdangfnaaGreatDoor
theorem ruleNames_holds:Rows.RuleNamesCardSaid :=
  Claim7.holds_tied_plain_at .later [] [.data,.pinned] true (true, "38722e2a6d65258c32db6bf8a20ce7a2ffce9bfee3ce1f428c68c19ecfbb0a85") true
    ruleNames.proved (fun _ h=>by cases h) ruleNames.wf_ (fun _ h=>by cases h) ruleNames_row_tie rfl ⟨rfl,rfl⟩ ruleNames.main_ rfl
    (fun f fn hf hfn=>by
      obtain rfl:f=5:=Option.some.inj ((show Tryz.prog.funcNamed "consignor/consignorlaw14.RuleNames" = some 5 by kernel_rfl).symm.trans hf) |>.symm
      obtain rfl:fn=Tryz.f5:=(Option.some.inj (Tryz.func5.symm.trans hfn)).symm
      exact ⟨ruleNames.looks_,fun j t ht=>by
        rw [Tryz.params5] at ht
        have hm:t∈[24,9,9,9]:=by simpa using Array.mem_of_getElem? ht
        have hall:([24,9,9,9].all fun u => !Tryz.prog.wantsStandIn u)=true:=by kernel_rfl
        exact (show Tryz.prog.wantsStandIn t=false by simpa using List.all_eq_true.1 hall t hm)⟩)
    ruleNames.goes_
#print axioms ruleNames_holds
end Go.Proofs.YtedibjgdangfnaaGreatDoor
end
