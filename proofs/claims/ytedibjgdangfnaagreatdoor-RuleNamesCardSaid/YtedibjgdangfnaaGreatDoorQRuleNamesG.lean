/- The row of the law RuleNames: for every input that the row speaks of the law returns true; each argument reads behind the call as it read before. -/
import Derived.Test.YtedibjgdangfnaaGreatDoorQRuleNamesF
import Derived.Test.YtedibjgdangfnaaGreatDoorRows
import Derived.Test.YtedibjgdangfnaaGreatDoorQRuleNamesE
import Derived.Test.YtedibjgdangfnaaGreatDoorTie
import Derived.Test.YtedibjgdangfnaaGreatDoorCards
import Derived.WalkKit
import Derived.ProofKit
import Derived.OpenShut
import Derived.ShutString
import Derived.ChangeOld
import Derived.Below
import Derived.SizedLaws
import Derived.SliceStrings
import Derived.Carry
import Derived.KernelRfl
import Derived.LaidMore
import Derived.Stop.Joined
import Derived.SevenTiedAt
import Derived.Test.YtedibjgdangfnaaGreatDoorWSized
section
namespace Go.Proofs.YtedibjgdangfnaaGreatDoor.ruleNames
open Go.ChangeShapes Go.WideShapes Go.ChangeAt Go.RowKit Go.Proofs.YtedibjgdangfnaaGreatDoor.V Go.Proofs.YtedibjgdangfnaaGreatDoorW.PrintWords
set_option linter.unusedVariables false
set_option maxRecDepth 100000 in
theorem lifted (os:Os) (started:os.Started) (H:Type) (enc:TypeId×Value→H) :
    ReturnsInHanded {} Tryz.checked os 5 .any (fun w args=>(Rows.ruleNamesSpec.pre enc Tryz.prog Tryz.f5 [] false w args∧laidMetH Tryz.prog Rows.ruleNamesRow.laid w)∧sizedMet enc Tryz.prog Tryz.f5 (OpenSpec.ofChange Rows.ruleNamesSpec) false w args) (Rows.ruleNamesSpec.post enc Tryz.prog Tryz.f5 false true false false):=by
  refine returnsInHanded_of_change_and (C:=Tryz.checked) (X:=fun w _=>laidMetH Tryz.prog Rows.ruleNamesRow.laid w) (fun _ _ _ hh h=>h.of_heap hh) own started (by kernel_rfl) Tryz.func5
    (ChangeSpec.witness_shaped (enc:=enc) (C:=Tryz.checked) (os:=os) (X:=fun w _=>laidMetH Tryz.prog Rows.ruleNamesRow.laid w) false (doorW os) #[.agg #[.int .i64 0,.int .i64 0,.slice none 0 0,.slice none 0 0,.string ByteArray.empty,.bool false,.bool false,.bool false,.string ByteArray.empty],.string ByteArray.empty,.string ByteArray.empty,.string ByteArray.empty] 8 rfl (World.shaped_of_RefB (by kernel_rfl) (by kernel_rfl)) (by kernel_rfl) (by kernel_rfl) (by kernel_rfl) (door_met os _)) ?_
  intro W base args ds gs before hval0 hW hcnd hsz0 hL _
  have hsz:(DataW.weightsEach Tryz.prog (Tryz.f5.params.toList++Rows.ruleNamesSpec.plain.varTypes Tryz.prog) (ds++gs)).all (· ≤ reachBytes)=true:=hsz0
  have hval:∀ (j:Nat) t v,Tryz.f5.params[j]? = some t→args[j]? = some v→Value.okWide Tryz.prog W .any base t v:=hval0
  have hW':=hW
  obtain ⟨p,q,hA0,hV,rfl,hfz,hnd⟩:=hW
  have hA:DataW.TrodAll enc Tryz.prog W 0 (fun _=>true) true Tryz.f5.params.toList args.toList ds p:=hA0
  rw [Tryz.params5] at hA hval hsz
  obtain ⟨v0,vs0,d0,ds0,p0,q0,hargs,rfl,rfl,h0,r0⟩:=trodAll_cons hA
  obtain ⟨v1,vs1,d1,ds1,p1,q1,rfl,rfl,rfl,h1,r1⟩:=trodAll_cons r0
  obtain ⟨v2,vs2,d2,ds2,p2,q2,rfl,rfl,rfl,h2,r2⟩:=trodAll_cons r1
  obtain ⟨v3,vs3,d3,ds3,p3,q3,rfl,rfl,rfl,h3,r3⟩:=trodAll_cons r2
  obtain ⟨rfl,rfl,rfl⟩:=trodAll_nil r3
  obtain rfl:args = #[v0,v1,v2,v3]:=Array.toList_inj.1 hargs
  obtain ⟨rfl,rfl⟩:=trodVars_none hV
  have k0:=h0
  have lt0:∀ x∈p0,x.block < W.heap.size:=by obtain ⟨m,hm⟩:=k0;exact DataW.trod_lt m _ _ _ hm
  obtain ⟨a0,e0,w0⟩:=arg_struct Tryz.underlying24 ops_api_Rule (hval 0 24 v0 rfl rfl) h0
  have k1:=h1
  have lt1:∀ x∈p1,x.block < W.heap.size:=by obtain ⟨m,hm⟩:=k1;exact DataW.trod_lt m _ _ _ hm
  obtain ⟨a1,e1,rfl,z1⟩:=arg_str Tryz.underlying9 (hval 1 9 v1 rfl rfl) h1
  have w1:a1.length≤140737488351232:=sized_string hsz (j:=1) (t:=9) rfl rfl
  have k2:=h2
  have lt2:∀ x∈p2,x.block < W.heap.size:=by obtain ⟨m,hm⟩:=k2;exact DataW.trod_lt m _ _ _ hm
  obtain ⟨a2,e2,rfl,z2⟩:=arg_str Tryz.underlying9 (hval 2 9 v2 rfl rfl) h2
  have w2:a2.length≤140737488351232:=sized_string hsz (j:=2) (t:=9) rfl rfl
  have k3:=h3
  have lt3:∀ x∈p3,x.block < W.heap.size:=by obtain ⟨m,hm⟩:=k3;exact DataW.trod_lt m _ _ _ hm
  obtain ⟨a3,e3,rfl,z3⟩:=arg_str Tryz.underlying9 (hval 3 9 v3 rfl rfl) h3
  have w3:a3.length≤140737488351232:=sized_string hsz (j:=3) (t:=9) rfl rfl
  refine (Fun.lawG (xs:=[_,_,_,_]) (vs:=[v0,v1,v2,v3]) (w:=W) (f_law14_RuleNames_ok a0 a1 a2 a3 true (by first | exact ruleNames_true a0 a1 a2 a3 w0 w1 w2 w3 | exact ruleNames_true a0 a1 a2 a3 | (apply ruleNames_true <;> assumption))) (gl_ok hL) ⟨e0,e1,e2,e3,trivial⟩).mono fun e W' ⟨he,bel⟩ => ?_
  subst he
  exact ⟨_,rfl,_,_,_,[],_,[],hW',trodAll_mk1 (shut_bool Tryz.underlying4 _),(trodAll_cons_mk (Below.trod laidOut (by kernel_rfl) (of_decide_eq_true (by kernel_rfl)) k0 bel lt0) (trodAll_cons_mk (Below.trod laidOut (by kernel_rfl) (of_decide_eq_true (by kernel_rfl)) k1 bel lt1) (trodAll_cons_mk (Below.trod laidOut (by kernel_rfl) (of_decide_eq_true (by kernel_rfl)) k2 bel lt2) (trodAll_cons_mk (Below.trod laidOut (by kernel_rfl) (of_decide_eq_true (by kernel_rfl)) k3 bel lt3) trodAll_mk0)))),rfl,bel.frame _,fun h=>by cases h⟩
end Go.Proofs.YtedibjgdangfnaaGreatDoor.ruleNames
end
