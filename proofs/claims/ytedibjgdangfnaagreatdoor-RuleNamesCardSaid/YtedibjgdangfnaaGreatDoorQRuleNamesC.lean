/- Go functions compute what Lean functions do. -/
import Derived.Test.YtedibjgdangfnaaGreatDoorQRuleNamesB
import Derived.Below
import Derived.OwnWalk
import Derived.Orders
import Derived.WalkKit
import Derived.Laws.Slices
import Derived.Lib.Bytealg
import Derived.Test.YtedibjgdangfnaaGreatDoorQRuleNamesA
import Derived.Shelf.Strings.SlTrimAscii
import Derived.Shelf.Strings.Builder1
import Derived.Shelf.Strings.Builder2
import Derived.Shelf.Strings.OnBuilder
import Derived.Shelf.Strings.Trim
import Derived.Shelf.Small.Utf8
import Derived.Shelf.Small.Strs
import Derived.Shelf.Small.Wraps
import Derived.Shelf.Strings.BuilderF
import Derived.Shelf.Strings.BuilderK
import Derived.Shelf.Strings.Builder2Cap
import Derived.Shelf.Strings.Search1
import Derived.Shelf.Strings.Search2
import Derived.Shelf.Strings.Search3
import Derived.Shelf.Strings.Cut
import Derived.Shelf.Strings.Count
import Derived.Shelf.LaysM
import Derived.Shelf.Strings.Shaped
import Derived.Shelf.Strings.Prefix
import Derived.Shelf.Strings.Split
import Derived.Shelf.Strings.SplitShaped
import Derived.Shelf.Unicode.Decode
import Derived.Shelf.Strings.Runes
import Derived.Shelf.Strings.AsciiSet
import Derived.Shelf.Bits.Mul64
import Derived.Shelf.Strings.Repeat
import Derived.Shelf.Unicode.DecodeSlow
import Derived.Shelf.Strings.BuilderCap
import Derived.Shelf.Slices.Turned
import Derived.Ground.Names2Prog
import Derived.Shelf.Slices.Clone
import Derived.Ground.SlgnProg
import Derived.Shelf.SlicesE.Clone
import Derived.Test.YtedibjgdangfnaaGreatDoorProg
import Derived.OpenShut
import Derived.FnData
import Derived.LaidMore
import Derived.MakeChecks
import Derived.RangeFuncKeeps
import Derived.RangeFuncCalls
import Derived.RangeFuncLeaves
import Derived.LoopNIn
import Derived.LoopIn
import Derived.OwnWalkIn
import Derived.TacticsInMore
import Derived.Deep.Draws
import Derived.Laws.BytesArg
import Derived.Laws.MakeOwn
import Derived.Laws.OwnMore
import Derived.Deep.OwnRows
import Derived.Tactics
import Derived.Lib.ConvBytes
import Derived.KernelRfl
import Derived.RowKit3
import Derived.Deep.LoopGhost
import Derived.Deep.QuietTactic
import Derived.BigQuiet
import Derived.WideLaws
import Derived.Deep.DeepCutAuto
import Derived.Deep.CutBlock
import Derived.Deep.RegionHeld3
import Derived.Laws.Rows
import Derived.Lib.AppendStr
import Derived.ArgAppend
import Derived.Laws.BitsLemmas
import Derived.RowKit
import Derived.Stop.Asserts
section
namespace Go.Proofs.YtedibjgdangfnaaGreatDoor.V
open Go Go.RowKit
set_option linter.unusedVariables false
set_option linter.unusedSimpArgs false
theorem wz0:type_of% (And.intro @Rw_nil (And.intro @Rw_mv (And.intro @Rw_mvg (And.intro @Rw_pick (And.intro @Rw_pickg (And.intro @Rw_call (And.intro @RwD_nil (And.intro @RwD_mv (And.intro @RwD_mvg (And.intro @RwD_pick (And.intro @RwD_pickg (And.intro @RwD_call (And.intro @Go1_mk (And.intro @Go2_mk (And.intro @GoD1_mk (And.intro @GoD2_mk (And.intro @Gd_some (And.intro @nx_mk (And.intro @nt_mk (And.intro @ntc_mk (And.intro @dck_nil (And.intro @dck_fp (And.intro @dck_wr (And.intro @List.flatMap_cons.{0,0} (And.intro @List.flatMap_nil.{0,0} (And.intro @Option.toList_some.{0} (And.intro @Option.toList_none.{0} (And.intro @putT_lk (And.intro @putT_no (And.intro @lkT_upd (And.intro @lkG_upd (And.intro @lkT_nil (And.intro @lkT_cons (And.intro @lkG_nil (And.intro @lkG_cons (And.intro @pr_lk (And.intro @start_lk (And.intro @List.map_cons.{0,0} (And.intro @List.map_nil.{0,0} @List.length_cons.{0}))))))))))))))))))))))))))))))))))))))):=(And.intro @Rw_nil (And.intro @Rw_mv (And.intro @Rw_mvg (And.intro @Rw_pick (And.intro @Rw_pickg (And.intro @Rw_call (And.intro @RwD_nil (And.intro @RwD_mv (And.intro @RwD_mvg (And.intro @RwD_pick (And.intro @RwD_pickg (And.intro @RwD_call (And.intro @Go1_mk (And.intro @Go2_mk (And.intro @GoD1_mk (And.intro @GoD2_mk (And.intro @Gd_some (And.intro @nx_mk (And.intro @nt_mk (And.intro @ntc_mk (And.intro @dck_nil (And.intro @dck_fp (And.intro @dck_wr (And.intro @List.flatMap_cons.{0,0} (And.intro @List.flatMap_nil.{0,0} (And.intro @Option.toList_some.{0} (And.intro @Option.toList_none.{0} (And.intro @putT_lk (And.intro @putT_no (And.intro @lkT_upd (And.intro @lkG_upd (And.intro @lkT_nil (And.intro @lkT_cons (And.intro @lkG_nil (And.intro @lkG_cons (And.intro @pr_lk (And.intro @start_lk (And.intro @List.map_cons.{0,0} (And.intro @List.map_nil.{0,0} @List.length_cons.{0})))))))))))))))))))))))))))))))))))))))
theorem wz1:type_of% (And.intro @List.length_nil.{0} (And.intro @List.length_map.{0,0} (And.intro @List.nil_append.{0} (And.intro @List.cons_append.{0} (And.intro @List.take_succ_cons.{0} (And.intro @List.take_zero.{0} (And.intro @List.take_nil.{0} (And.intro @List.drop_succ_cons.{0} (And.intro @List.drop_zero.{0} (And.intro @List.drop_nil.{0} (And.intro @List.getD_cons_zero.{0} (And.intro @List.getD_cons_succ.{0} (And.intro @List.getElem?_cons_zero.{0} (And.intro @List.getElem?_cons_succ.{0} (And.intro @List.set_cons_zero.{0} (And.intro @List.set_cons_succ.{0} (And.intro @List.contains_cons.{0} (And.intro @List.contains_nil.{0} (And.intro @List.not_mem_nil.{0} (And.intro @List.mem_cons.{0} (And.intro @Option.map_some.{0,0} (And.intro @Option.map_none.{0,0} (And.intro @Option.isNone_none.{0} (And.intro @Option.isNone_some.{0} (And.intro @Option.isSome_some.{0} (And.intro @Option.isSome_none.{0} (And.intro @Option.getD_some.{0} (And.intro @Nat.zero_add (And.intro @Nat.add_zero (And.intro @Nat.succ_ne_zero (And.intro @Nat.le_refl (And.intro @Bool.cond_false_right (And.intro @Bool.cond_true_right (And.intro @Bool.cond_true_left (And.intro @Bool.cond_false_left (And.intro @Bool.true_and (And.intro @Bool.and_true (And.intro @Bool.or_self (And.intro @Bool.or_false @Bool.or_true))))))))))))))))))))))))))))))))))))))):=(And.intro @List.length_nil.{0} (And.intro @List.length_map.{0,0} (And.intro @List.nil_append.{0} (And.intro @List.cons_append.{0} (And.intro @List.take_succ_cons.{0} (And.intro @List.take_zero.{0} (And.intro @List.take_nil.{0} (And.intro @List.drop_succ_cons.{0} (And.intro @List.drop_zero.{0} (And.intro @List.drop_nil.{0} (And.intro @List.getD_cons_zero.{0} (And.intro @List.getD_cons_succ.{0} (And.intro @List.getElem?_cons_zero.{0} (And.intro @List.getElem?_cons_succ.{0} (And.intro @List.set_cons_zero.{0} (And.intro @List.set_cons_succ.{0} (And.intro @List.contains_cons.{0} (And.intro @List.contains_nil.{0} (And.intro @List.not_mem_nil.{0} (And.intro @List.mem_cons.{0} (And.intro @Option.map_some.{0,0} (And.intro @Option.map_none.{0,0} (And.intro @Option.isNone_none.{0} (And.intro @Option.isNone_some.{0} (And.intro @Option.isSome_some.{0} (And.intro @Option.isSome_none.{0} (And.intro @Option.getD_some.{0} (And.intro @Nat.zero_add (And.intro @Nat.add_zero (And.intro @Nat.succ_ne_zero (And.intro @Nat.le_refl (And.intro @Bool.cond_false_right (And.intro @Bool.cond_true_right (And.intro @Bool.cond_true_left (And.intro @Bool.cond_false_left (And.intro @Bool.true_and (And.intro @Bool.and_true (And.intro @Bool.or_self (And.intro @Bool.or_false @Bool.or_true)))))))))))))))))))))))))))))))))))))))
theorem wz2:type_of% (And.intro @Bool.true_or (And.intro @Bool.false_or (And.intro @Bool.false_and (And.intro @Bool.and_false (And.intro @Bool.not_true (And.intro @Bool.not_false (And.intro @Bool.not_not (And.intro @Bool.false_eq_true (And.intro @true_and (And.intro @and_true (And.intro @true_or (And.intro @or_true (And.intro @false_or (And.intro @or_false (And.intro @true_implies (And.intro @false_implies (And.intro @and_self (And.intro @or_self (And.intro @not_true_eq_false (And.intro @not_false_eq_true (And.intro @Option.some.injEq.{0} (And.intro @List.all_nil.{0} (And.intro @List.all_cons.{0} (And.intro @List.flatten_cons.{0} (And.intro @List.flatten_nil.{0} (And.intro @List.append_nil.{0} (And.intro @List.forall_mem_cons.{0} (And.intro @List.any_nil.{0} (And.intro @List.any_cons.{0} (And.intro @imp_self (And.intro @Bool.not_eq_true' (And.intro @Bool.not_eq_false' (And.intro @Int.toNat_zero (And.intro @Int.ofNat_eq_natCast (And.intro @conv_d (And.intro @convC_d (And.intro @convR_d (And.intro @argsV_caps (And.intro @refs_d @refsR_d))))))))))))))))))))))))))))))))))))))):=(And.intro @Bool.true_or (And.intro @Bool.false_or (And.intro @Bool.false_and (And.intro @Bool.and_false (And.intro @Bool.not_true (And.intro @Bool.not_false (And.intro @Bool.not_not (And.intro @Bool.false_eq_true (And.intro @true_and (And.intro @and_true (And.intro @true_or (And.intro @or_true (And.intro @false_or (And.intro @or_false (And.intro @true_implies (And.intro @false_implies (And.intro @and_self (And.intro @or_self (And.intro @not_true_eq_false (And.intro @not_false_eq_true (And.intro @Option.some.injEq.{0} (And.intro @List.all_nil.{0} (And.intro @List.all_cons.{0} (And.intro @List.flatten_cons.{0} (And.intro @List.flatten_nil.{0} (And.intro @List.append_nil.{0} (And.intro @List.forall_mem_cons.{0} (And.intro @List.any_nil.{0} (And.intro @List.any_cons.{0} (And.intro @imp_self (And.intro @Bool.not_eq_true' (And.intro @Bool.not_eq_false' (And.intro @Int.toNat_zero (And.intro @Int.ofNat_eq_natCast (And.intro @conv_d (And.intro @convC_d (And.intro @convR_d (And.intro @argsV_caps (And.intro @refs_d @refsR_d)))))))))))))))))))))))))))))))))))))))
theorem wz3:type_of% (And.intro @Int.toNat_natCast (And.intro @Va.b.injEq (And.intro @Vb.s.injEq (And.intro @Nat.zero_mul (And.intro @List.filterMap_nil.{0,0} (And.intro @List.filterMap_cons.{0,0} (And.intro @List.length_replicate.{0} (And.intro @Rw_op (And.intro @Rw_opg (And.intro @Rw_alt (And.intro @RwD_op (And.intro @RwD_opg (And.intro @RwD_alt (And.intro @er_len (And.intro @er_conv (And.intro @er_refs (And.intro @List.length_set.{0} (And.intro @Int.cast_ofNat_Int (And.intro @Rs_nil (And.intro @Rs_mv (And.intro @Rs_mvg (And.intro @Rs_pick (And.intro @Rs_pickg (And.intro @Rs_call (And.intro @Rs_callg (And.intro @Rs_op (And.intro @Rs_opg (And.intro @RsD_nil (And.intro @RsD_mv (And.intro @RsD_mvg (And.intro @RsD_pick (And.intro @RsD_pickg (And.intro @RsD_call (And.intro @RsD_callg (And.intro @RsD_op (And.intro @RsD_opg (And.intro @Br_yes (And.intro @Br_no (And.intro @GoU_mk @nxw_mk))))))))))))))))))))))))))))))))))))))):=(And.intro @Int.toNat_natCast (And.intro @Va.b.injEq (And.intro @Vb.s.injEq (And.intro @Nat.zero_mul (And.intro @List.filterMap_nil.{0,0} (And.intro @List.filterMap_cons.{0,0} (And.intro @List.length_replicate.{0} (And.intro @Rw_op (And.intro @Rw_opg (And.intro @Rw_alt (And.intro @RwD_op (And.intro @RwD_opg (And.intro @RwD_alt (And.intro @er_len (And.intro @er_conv (And.intro @er_refs (And.intro @List.length_set.{0} (And.intro @Int.cast_ofNat_Int (And.intro @Rs_nil (And.intro @Rs_mv (And.intro @Rs_mvg (And.intro @Rs_pick (And.intro @Rs_pickg (And.intro @Rs_call (And.intro @Rs_callg (And.intro @Rs_op (And.intro @Rs_opg (And.intro @RsD_nil (And.intro @RsD_mv (And.intro @RsD_mvg (And.intro @RsD_pick (And.intro @RsD_pickg (And.intro @RsD_call (And.intro @RsD_callg (And.intro @RsD_op (And.intro @RsD_opg (And.intro @Br_yes (And.intro @Br_no (And.intro @GoU_mk @nxw_mk)))))))))))))))))))))))))))))))))))))))
theorem wz4:type_of% (And.intro @boolV_dead (And.intro @er_nil (And.intro @ea_conv (And.intro @ea_fold (And.intro @ea_refs (And.intro @Bool.cond_true.{0} (And.intro @Bool.cond_false.{0} (And.intro @Option.bind_some.{0,0} (And.intro @Option.bind_none.{0,0} (And.intro @if_true.{1} (And.intro @if_false.{1} (And.intro @implies_true.{0} (And.intro @implies_true.{1} (And.intro @forall_const.{0} (And.intro @forall_const.{1} (And.intro @eq_self.{1} (And.intro @ne_eq.{1} (And.intro @forall_eq.{1} (And.intro @forall_eq'.{1} (And.intro @forall_eq_or_imp.{1} (And.intro @exists_eq'.{1} @bne_self_eq_false.{0}))))))))))))))))))))):=(And.intro @boolV_dead (And.intro @er_nil (And.intro @ea_conv (And.intro @ea_fold (And.intro @ea_refs (And.intro @Bool.cond_true.{0} (And.intro @Bool.cond_false.{0} (And.intro @Option.bind_some.{0,0} (And.intro @Option.bind_none.{0,0} (And.intro @if_true.{1} (And.intro @if_false.{1} (And.intro @implies_true.{0} (And.intro @implies_true.{1} (And.intro @forall_const.{0} (And.intro @forall_const.{1} (And.intro @eq_self.{1} (And.intro @ne_eq.{1} (And.intro @forall_eq.{1} (And.intro @forall_eq'.{1} (And.intro @forall_eq_or_imp.{1} (And.intro @exists_eq'.{1} @bne_self_eq_false.{0})))))))))))))))))))))
theorem wz:type_of% (And.intro @wz0 (And.intro @wz1 (And.intro @wz2 (And.intro @wz3 @wz4)))):=(And.intro @wz0 (And.intro @wz1 (And.intro @wz2 (And.intro @wz3 @wz4))))
theorem wd0:type_of% (And.intro @dchk.eq_1 (And.intro @dchk.eq_2 (And.intro @meets.eq_1 (And.intro @touchS.eq_1 (And.intro @touchI.eq_1 (And.intro @quietI.eq_1 (And.intro @quietI.eq_2 (And.intro @quietI.eq_3 (And.intro @allocI.eq_1 (And.intro @allocI.eq_2 (And.intro @allocI.eq_3 (And.intro @allocI.eq_4 (And.intro @allocI.eq_5 (And.intro @allocI.eq_6 (And.intro @allocI.eq_7 (And.intro @isCall.eq_1 (And.intro @isCall.eq_2 (And.intro @altI.eq_1 (And.intro @altI.eq_2 (And.intro @altI.eq_3 (And.intro @idsV.eq_1 (And.intro @idsV.eq_2 (And.intro @idsV.eq_3 (And.intro @ch0.eq_1 (And.intro @binS.eq_1 (And.intro @binS.eq_2 (And.intro @binS.eq_3 (And.intro @binS.eq_4 (And.intro @binS.eq_5 (And.intro @binS.eq_6 (And.intro @binS.eq_7 (And.intro @binS.eq_8 (And.intro @binS.eq_9 (And.intro @binS.eq_10 (And.intro @binS.eq_11 (And.intro @binS.eq_12 (And.intro @binS.eq_13 (And.intro @binS.eq_14 (And.intro @binS.eq_15 @binS.eq_16))))))))))))))))))))))))))))))))))))))):=(And.intro @dchk.eq_1 (And.intro @dchk.eq_2 (And.intro @meets.eq_1 (And.intro @touchS.eq_1 (And.intro @touchI.eq_1 (And.intro @quietI.eq_1 (And.intro @quietI.eq_2 (And.intro @quietI.eq_3 (And.intro @allocI.eq_1 (And.intro @allocI.eq_2 (And.intro @allocI.eq_3 (And.intro @allocI.eq_4 (And.intro @allocI.eq_5 (And.intro @allocI.eq_6 (And.intro @allocI.eq_7 (And.intro @isCall.eq_1 (And.intro @isCall.eq_2 (And.intro @altI.eq_1 (And.intro @altI.eq_2 (And.intro @altI.eq_3 (And.intro @idsV.eq_1 (And.intro @idsV.eq_2 (And.intro @idsV.eq_3 (And.intro @ch0.eq_1 (And.intro @binS.eq_1 (And.intro @binS.eq_2 (And.intro @binS.eq_3 (And.intro @binS.eq_4 (And.intro @binS.eq_5 (And.intro @binS.eq_6 (And.intro @binS.eq_7 (And.intro @binS.eq_8 (And.intro @binS.eq_9 (And.intro @binS.eq_10 (And.intro @binS.eq_11 (And.intro @binS.eq_12 (And.intro @binS.eq_13 (And.intro @binS.eq_14 (And.intro @binS.eq_15 @binS.eq_16)))))))))))))))))))))))))))))))))))))))
theorem wd1:type_of% (And.intro @binS.eq_17 (And.intro @binS.eq_18 (And.intro @binS.eq_19 (And.intro @binS.eq_20 (And.intro @binS.eq_21 (And.intro @binS.eq_22 (And.intro @binS.eq_23 (And.intro @binS.eq_24 (And.intro @binS.eq_25 (And.intro @unS.eq_1 (And.intro @unS.eq_2 (And.intro @unS.eq_3 (And.intro @unS.eq_4 (And.intro @nilS.eq_1 (And.intro @nilS.eq_2 (And.intro @nilS.eq_3 (And.intro @aggS.eq_1 (And.intro @eqLs.eq_1 (And.intro @eqLs.eq_2 (And.intro @eqLs.eq_3 (And.intro @eqL.eq_1 (And.intro @eqL.eq_2 (And.intro @eqL.eq_3 (And.intro @eqL.eq_4 (And.intro @evT.eq_1 (And.intro @evT.eq_2 (And.intro @evT.eq_3 (And.intro @evT.eq_4 (And.intro @evT.eq_5 (And.intro @evS.eq_1 (And.intro @stripV.eq_1 (And.intro @stripV.eq_2 (And.intro @gOk.eq_1 (And.intro @gOk.eq_2 (And.intro @gAll.eq_1 (And.intro @gAll.eq_2 (And.intro @opsOf.eq_1 (And.intro @opsOf.eq_2 (And.intro @opsOf.eq_3 @opsOf.eq_4))))))))))))))))))))))))))))))))))))))):=(And.intro @binS.eq_17 (And.intro @binS.eq_18 (And.intro @binS.eq_19 (And.intro @binS.eq_20 (And.intro @binS.eq_21 (And.intro @binS.eq_22 (And.intro @binS.eq_23 (And.intro @binS.eq_24 (And.intro @binS.eq_25 (And.intro @unS.eq_1 (And.intro @unS.eq_2 (And.intro @unS.eq_3 (And.intro @unS.eq_4 (And.intro @nilS.eq_1 (And.intro @nilS.eq_2 (And.intro @nilS.eq_3 (And.intro @aggS.eq_1 (And.intro @eqLs.eq_1 (And.intro @eqLs.eq_2 (And.intro @eqLs.eq_3 (And.intro @eqL.eq_1 (And.intro @eqL.eq_2 (And.intro @eqL.eq_3 (And.intro @eqL.eq_4 (And.intro @evT.eq_1 (And.intro @evT.eq_2 (And.intro @evT.eq_3 (And.intro @evT.eq_4 (And.intro @evT.eq_5 (And.intro @evS.eq_1 (And.intro @stripV.eq_1 (And.intro @stripV.eq_2 (And.intro @gOk.eq_1 (And.intro @gOk.eq_2 (And.intro @gAll.eq_1 (And.intro @gAll.eq_2 (And.intro @opsOf.eq_1 (And.intro @opsOf.eq_2 (And.intro @opsOf.eq_3 @opsOf.eq_4)))))))))))))))))))))))))))))))))))))))
theorem wd2:type_of% (And.intro @opsOf.eq_5 (And.intro @opsOf.eq_6 (And.intro @opsOf.eq_7 (And.intro @opsOf.eq_8 (And.intro @opsOf.eq_9 (And.intro @opsOf.eq_10 (And.intro @opsOf.eq_11 (And.intro @opsOf.eq_12 (And.intro @opsOf.eq_13 (And.intro @opsOf.eq_14 (And.intro @opsOf.eq_15 (And.intro @opsOf.eq_16 (And.intro @opsOf.eq_17 (And.intro @opsOf.eq_18 (And.intro @opsOf.eq_19 (And.intro @opsOf.eq_20 (And.intro @opsOf.eq_21 (And.intro @opsOf.eq_22 (And.intro @opsOf.eq_23 (And.intro @opsOf.eq_24 (And.intro @opsOf.eq_25 (And.intro @opsOf.eq_26 (And.intro @opsOf.eq_27 (And.intro @opsOf.eq_28 (And.intro @opsOf.eq_29 (And.intro @opsOf.eq_30 (And.intro @opsOf.eq_31 (And.intro @boolV.eq_1 (And.intro @boolV.eq_2 (And.intro @boolV.eq_3 (And.intro @boolV.eq_4 (And.intro @apG.eq_1 (And.intro @apG.eq_2 (And.intro @numd.eq_1 (And.intro @numd.eq_2 (And.intro @prL.eq_1 (And.intro @prL.eq_2 (And.intro @cellsV.eq_1 (And.intro @cellsV.eq_2 @cellsV.eq_3))))))))))))))))))))))))))))))))))))))):=(And.intro @opsOf.eq_5 (And.intro @opsOf.eq_6 (And.intro @opsOf.eq_7 (And.intro @opsOf.eq_8 (And.intro @opsOf.eq_9 (And.intro @opsOf.eq_10 (And.intro @opsOf.eq_11 (And.intro @opsOf.eq_12 (And.intro @opsOf.eq_13 (And.intro @opsOf.eq_14 (And.intro @opsOf.eq_15 (And.intro @opsOf.eq_16 (And.intro @opsOf.eq_17 (And.intro @opsOf.eq_18 (And.intro @opsOf.eq_19 (And.intro @opsOf.eq_20 (And.intro @opsOf.eq_21 (And.intro @opsOf.eq_22 (And.intro @opsOf.eq_23 (And.intro @opsOf.eq_24 (And.intro @opsOf.eq_25 (And.intro @opsOf.eq_26 (And.intro @opsOf.eq_27 (And.intro @opsOf.eq_28 (And.intro @opsOf.eq_29 (And.intro @opsOf.eq_30 (And.intro @opsOf.eq_31 (And.intro @boolV.eq_1 (And.intro @boolV.eq_2 (And.intro @boolV.eq_3 (And.intro @boolV.eq_4 (And.intro @apG.eq_1 (And.intro @apG.eq_2 (And.intro @numd.eq_1 (And.intro @numd.eq_2 (And.intro @prL.eq_1 (And.intro @prL.eq_2 (And.intro @cellsV.eq_1 (And.intro @cellsV.eq_2 @cellsV.eq_3)))))))))))))))))))))))))))))))))))))))
theorem wd3:type_of% (And.intro @isB.eq_1 (And.intro @isB.eq_2 (And.intro @out1.eq_1 (And.intro @fail.eq_1 (And.intro @fillOb.eq_1 (And.intro @fillOb.eq_2 (And.intro @fillL.eq_1 (And.intro @fillL.eq_2 (And.intro @replaceAt.eq_1 (And.intro @rowsV.eq_1 (And.intro @rowsV.eq_2 (And.intro @rowsV.eq_3 (And.intro @rowsV.eq_4 (And.intro @rowsV.eq_5 (And.intro @rowsV.eq_6 (And.intro @newV.eq_1 (And.intro @newV.eq_2 (And.intro @boundV.eq_1 (And.intro @boundV.eq_2 (And.intro @intV.eq_1 (And.intro @intV.eq_2 (And.intro @lcOf.eq_1 (And.intro @lcOf.eq_2 (And.intro @lcA.eq_1 (And.intro @scA.eq_1 (And.intro @Ret.eq_1 (And.intro @Ret.eq_2 (And.intro @allOb.eq_1 (And.intro @allOb.eq_2 (And.intro @rvOut.eq_1 (And.intro @rvOut.eq_2 (And.intro @convB.eq_1 (And.intro @convB.eq_2 (And.intro @convB.eq_3 (And.intro @convB.eq_4 (And.intro @convBs.eq_1 (And.intro @convBs.eq_2 (And.intro @convC.eq_1 (And.intro @convC.eq_2 @convR.eq_1))))))))))))))))))))))))))))))))))))))):=(And.intro @isB.eq_1 (And.intro @isB.eq_2 (And.intro @out1.eq_1 (And.intro @fail.eq_1 (And.intro @fillOb.eq_1 (And.intro @fillOb.eq_2 (And.intro @fillL.eq_1 (And.intro @fillL.eq_2 (And.intro @replaceAt.eq_1 (And.intro @rowsV.eq_1 (And.intro @rowsV.eq_2 (And.intro @rowsV.eq_3 (And.intro @rowsV.eq_4 (And.intro @rowsV.eq_5 (And.intro @rowsV.eq_6 (And.intro @newV.eq_1 (And.intro @newV.eq_2 (And.intro @boundV.eq_1 (And.intro @boundV.eq_2 (And.intro @intV.eq_1 (And.intro @intV.eq_2 (And.intro @lcOf.eq_1 (And.intro @lcOf.eq_2 (And.intro @lcA.eq_1 (And.intro @scA.eq_1 (And.intro @Ret.eq_1 (And.intro @Ret.eq_2 (And.intro @allOb.eq_1 (And.intro @allOb.eq_2 (And.intro @rvOut.eq_1 (And.intro @rvOut.eq_2 (And.intro @convB.eq_1 (And.intro @convB.eq_2 (And.intro @convB.eq_3 (And.intro @convB.eq_4 (And.intro @convBs.eq_1 (And.intro @convBs.eq_2 (And.intro @convC.eq_1 (And.intro @convC.eq_2 @convR.eq_1)))))))))))))))))))))))))))))))))))))))
theorem wd4:type_of% (And.intro @convR.eq_2 (And.intro @conv.eq_1 (And.intro @conv.eq_2 (And.intro @conv.eq_3 (And.intro @conv.eq_4 (And.intro @conv.eq_5 (And.intro @conv.eq_6 (And.intro @conv.eq_7 (And.intro @conv.eq_8 (And.intro @conv.eq_9 (And.intro @conv.eq_10 (And.intro @conv.eq_11 (And.intro @conv.eq_12 (And.intro @unD.eq_1 (And.intro @fnV.eq_1 (And.intro @fnV.eq_2 (And.intro @fnV.eq_3 (And.intro @argsV.eq_1 (And.intro @argsV.eq_2 (And.intro @argsV.eq_3 (And.intro @argsV.eq_4 (And.intro @touchO.eq_1 (And.intro @evO.eq_1 (And.intro @bareI.eq_1 (And.intro @lendIds.eq_1 (And.intro @mpGet.eq_1 (And.intro @mpGet.eq_2 (And.intro @isIf.eq_1 (And.intro @isIf.eq_2 (And.intro @nilI.eq_1 (And.intro @nilI_ifc (And.intro @Va.bo.eq_1 (And.intro @Va.i.eq_1 (And.intro @Va.st.eq_1 (And.intro @Nat.testBit.eq_1 (And.intro @eI.eq_1 (And.intro @eB.eq_1 (And.intro @eS.eq_1 (And.intro @eX.eq_1 @eL.eq_1))))))))))))))))))))))))))))))))))))))):=(And.intro @convR.eq_2 (And.intro @conv.eq_1 (And.intro @conv.eq_2 (And.intro @conv.eq_3 (And.intro @conv.eq_4 (And.intro @conv.eq_5 (And.intro @conv.eq_6 (And.intro @conv.eq_7 (And.intro @conv.eq_8 (And.intro @conv.eq_9 (And.intro @conv.eq_10 (And.intro @conv.eq_11 (And.intro @conv.eq_12 (And.intro @unD.eq_1 (And.intro @fnV.eq_1 (And.intro @fnV.eq_2 (And.intro @fnV.eq_3 (And.intro @argsV.eq_1 (And.intro @argsV.eq_2 (And.intro @argsV.eq_3 (And.intro @argsV.eq_4 (And.intro @touchO.eq_1 (And.intro @evO.eq_1 (And.intro @bareI.eq_1 (And.intro @lendIds.eq_1 (And.intro @mpGet.eq_1 (And.intro @mpGet.eq_2 (And.intro @isIf.eq_1 (And.intro @isIf.eq_2 (And.intro @nilI.eq_1 (And.intro @nilI_ifc (And.intro @Va.bo.eq_1 (And.intro @Va.i.eq_1 (And.intro @Va.st.eq_1 (And.intro @Nat.testBit.eq_1 (And.intro @eI.eq_1 (And.intro @eB.eq_1 (And.intro @eS.eq_1 (And.intro @eX.eq_1 @eL.eq_1)))))))))))))))))))))))))))))))))))))))
theorem wd5:type_of% (And.intro @bAllP.eq_1 @bAllP.eq_2):=(And.intro @bAllP.eq_1 @bAllP.eq_2)
theorem wd:type_of% (And.intro @wd0 (And.intro @wd1 (And.intro @wd2 (And.intro @wd3 (And.intro @wd4 @wd5))))):=(And.intro @wd0 (And.intro @wd1 (And.intro @wd2 (And.intro @wd3 (And.intro @wd4 @wd5)))))
theorem ws0:type_of% (And.intro @semI.eq_1 (And.intro @semI.eq_2 (And.intro @semI.eq_4 (And.intro @semI.eq_6 (And.intro @semI.eq_12 (And.intro @semI.eq_13 (And.intro @semI.eq_14 (And.intro @semI.eq_15 (And.intro @semI.eq_16 (And.intro @semI.eq_23 (And.intro @semI.eq_24 (And.intro @semI.eq_31 (And.intro @semI.eq_38 (And.intro @semI.eq_42 (And.intro @semI.eq_52 (And.intro @semI.eq_54 (And.intro @semI.eq_55 (And.intro @semI.eq_56 (And.intro @se_cvI (And.intro @se_cvC (And.intro @se_len (And.intro @se_slcS (And.intro @cvK.eq_1 (And.intro @cvK.eq_2 (And.intro @idxK_str (And.intro @idxK.eq_2 (And.intro @slcK_str (And.intro @iadrK.eq_4 (And.intro @lenK.eq_1 (And.intro @lenK.eq_2 (And.intro @lenK.eq_3 (And.intro @lenK.eq_4 (And.intro @lenK.eq_5 (And.intro @lenK.eq_6 (And.intro @lenK.eq_7 @semI.eq_57))))))))))))))))))))))))))))))))))):=(And.intro @semI.eq_1 (And.intro @semI.eq_2 (And.intro @semI.eq_4 (And.intro @semI.eq_6 (And.intro @semI.eq_12 (And.intro @semI.eq_13 (And.intro @semI.eq_14 (And.intro @semI.eq_15 (And.intro @semI.eq_16 (And.intro @semI.eq_23 (And.intro @semI.eq_24 (And.intro @semI.eq_31 (And.intro @semI.eq_38 (And.intro @semI.eq_42 (And.intro @semI.eq_52 (And.intro @semI.eq_54 (And.intro @semI.eq_55 (And.intro @semI.eq_56 (And.intro @se_cvI (And.intro @se_cvC (And.intro @se_len (And.intro @se_slcS (And.intro @cvK.eq_1 (And.intro @cvK.eq_2 (And.intro @idxK_str (And.intro @idxK.eq_2 (And.intro @slcK_str (And.intro @iadrK.eq_4 (And.intro @lenK.eq_1 (And.intro @lenK.eq_2 (And.intro @lenK.eq_3 (And.intro @lenK.eq_4 (And.intro @lenK.eq_5 (And.intro @lenK.eq_6 (And.intro @lenK.eq_7 @semI.eq_57)))))))))))))))))))))))))))))))))))
theorem ws:type_of% @ws0:=@ws0
theorem wi0:type_of% (And.intro @refsV.eq_1 (And.intro @refsV.eq_2 (And.intro @refsV.eq_3 (And.intro @refsV.eq_4 (And.intro @refsV.eq_5 (And.intro @refsV.eq_6 (And.intro @refsIn.eq_1 (And.intro @refsIn.eq_2 (And.intro @refsIn.eq_3 (And.intro @refsIn.eq_4 (And.intro @refsIn.eq_5 (And.intro @refsIn.eq_6 (And.intro @refsIn.eq_7 (And.intro @refsIn.eq_8 (And.intro @refsC.eq_1 (And.intro @refsC.eq_2 (And.intro @coT.eq_1 (And.intro @coT.eq_2 (And.intro @coG.eq_1 (And.intro @coG.eq_2 (And.intro @coF.eq_1 (And.intro @coF.eq_2 (And.intro @coE.eq_1 (And.intro @coV_refl (And.intro @coV_s (And.intro @coV_g (And.intro @coL_refl (And.intro @coL.eq_1 (And.intro @coR.eq_1 (And.intro @coR.eq_2 (And.intro @coC.eq_1 @coC.eq_2))))))))))))))))))))))))))))))):=(And.intro @refsV.eq_1 (And.intro @refsV.eq_2 (And.intro @refsV.eq_3 (And.intro @refsV.eq_4 (And.intro @refsV.eq_5 (And.intro @refsV.eq_6 (And.intro @refsIn.eq_1 (And.intro @refsIn.eq_2 (And.intro @refsIn.eq_3 (And.intro @refsIn.eq_4 (And.intro @refsIn.eq_5 (And.intro @refsIn.eq_6 (And.intro @refsIn.eq_7 (And.intro @refsIn.eq_8 (And.intro @refsC.eq_1 (And.intro @refsC.eq_2 (And.intro @coT.eq_1 (And.intro @coT.eq_2 (And.intro @coG.eq_1 (And.intro @coG.eq_2 (And.intro @coF.eq_1 (And.intro @coF.eq_2 (And.intro @coE.eq_1 (And.intro @coV_refl (And.intro @coV_s (And.intro @coV_g (And.intro @coL_refl (And.intro @coL.eq_1 (And.intro @coR.eq_1 (And.intro @coR.eq_2 (And.intro @coC.eq_1 @coC.eq_2)))))))))))))))))))))))))))))))
theorem wi:type_of% @wi0:=@wi0
theorem wl0:type_of% (And.intro @lendOk.eq_1 (And.intro @lendV.eq_1 (And.intro @lendE.eq_1 (And.intro @renV.eq_1 (And.intro @renV.eq_2 (And.intro @renB.eq_1 (And.intro @renB.eq_2 (And.intro @lendL_d (And.intro @lendL_nils (And.intro @lendL_full (And.intro @lendL_nn (And.intro @lendL_own (And.intro @lendL_ptr (And.intro @lendL_clo (And.intro @lendK_d (And.intro @lendK_nils (And.intro @lendK_full (And.intro @lendK_nn (And.intro @lendK_own (And.intro @lendK_ptr (And.intro @lendK_clo (And.intro @lendKR_one (And.intro @er_lendK (And.intro @lendF.eq_1 (And.intro @lendF.eq_2 (And.intro @lendB.eq_1 (And.intro @lendB.eq_2 (And.intro @List.filterMap_nil.{0,0} (And.intro @List.filterMap_cons.{0,0} (And.intro @frz.eq_1 (And.intro @renL_d (And.intro @renL_nils (And.intro @renL_full (And.intro @renL_nn (And.intro @renL_own (And.intro @renL_ptr (And.intro @renL_clo (And.intro @renR_one (And.intro @er_ren @er_lend))))))))))))))))))))))))))))))))))))))):=(And.intro @lendOk.eq_1 (And.intro @lendV.eq_1 (And.intro @lendE.eq_1 (And.intro @renV.eq_1 (And.intro @renV.eq_2 (And.intro @renB.eq_1 (And.intro @renB.eq_2 (And.intro @lendL_d (And.intro @lendL_nils (And.intro @lendL_full (And.intro @lendL_nn (And.intro @lendL_own (And.intro @lendL_ptr (And.intro @lendL_clo (And.intro @lendK_d (And.intro @lendK_nils (And.intro @lendK_full (And.intro @lendK_nn (And.intro @lendK_own (And.intro @lendK_ptr (And.intro @lendK_clo (And.intro @lendKR_one (And.intro @er_lendK (And.intro @lendF.eq_1 (And.intro @lendF.eq_2 (And.intro @lendB.eq_1 (And.intro @lendB.eq_2 (And.intro @List.filterMap_nil.{0,0} (And.intro @List.filterMap_cons.{0,0} (And.intro @frz.eq_1 (And.intro @renL_d (And.intro @renL_nils (And.intro @renL_full (And.intro @renL_nn (And.intro @renL_own (And.intro @renL_ptr (And.intro @renL_clo (And.intro @renR_one (And.intro @er_ren @er_lend)))))))))))))))))))))))))))))))))))))))
theorem wl1:type_of% (And.intro @er_refsP (And.intro @refsR_one (And.intro @mapN.eq_1 (And.intro @mapN.eq_2 (And.intro @lendIn.eq_1 (And.intro @lendIn.eq_2 (And.intro @lendOut.eq_1 (And.intro @lendOut.eq_2 (And.intro @lkE.eq_1 (And.intro @lkE.eq_2 (And.intro @lendA.eq_1 (And.intro @lendA.eq_2 (And.intro @pinsIn.eq_1 (And.intro @pinsIn.eq_2 (And.intro @goneL.eq_1 (And.intro @goneL.eq_2 (And.intro @refsVa.eq_1 (And.intro @refsVa.eq_2 (And.intro @refsB.eq_1 (And.intro @refsB.eq_2 (And.intro @nodup_nil_ (And.intro @nodup_cons_ (And.intro @pins_mem (And.intro @RetH_one (And.intro @RetH_nil (And.intro @RetH_two (And.intro @refsE.eq_1 (And.intro @refsE.eq_2 (And.intro @allE.eq_1 (And.intro @allE.eq_2 (And.intro @tupL.eq_1 (And.intro @lendIds.eq_1 (And.intro @er_len (And.intro @List.map_cons.{0,0} (And.intro @List.map_nil.{0,0} (And.intro @List.cons_append.{0} (And.intro @List.nil_append.{0} (And.intro @List.append_nil.{0} (And.intro @List.all_cons.{0} @List.all_nil.{0}))))))))))))))))))))))))))))))))))))))):=(And.intro @er_refsP (And.intro @refsR_one (And.intro @mapN.eq_1 (And.intro @mapN.eq_2 (And.intro @lendIn.eq_1 (And.intro @lendIn.eq_2 (And.intro @lendOut.eq_1 (And.intro @lendOut.eq_2 (And.intro @lkE.eq_1 (And.intro @lkE.eq_2 (And.intro @lendA.eq_1 (And.intro @lendA.eq_2 (And.intro @pinsIn.eq_1 (And.intro @pinsIn.eq_2 (And.intro @goneL.eq_1 (And.intro @goneL.eq_2 (And.intro @refsVa.eq_1 (And.intro @refsVa.eq_2 (And.intro @refsB.eq_1 (And.intro @refsB.eq_2 (And.intro @nodup_nil_ (And.intro @nodup_cons_ (And.intro @pins_mem (And.intro @RetH_one (And.intro @RetH_nil (And.intro @RetH_two (And.intro @refsE.eq_1 (And.intro @refsE.eq_2 (And.intro @allE.eq_1 (And.intro @allE.eq_2 (And.intro @tupL.eq_1 (And.intro @lendIds.eq_1 (And.intro @er_len (And.intro @List.map_cons.{0,0} (And.intro @List.map_nil.{0,0} (And.intro @List.cons_append.{0} (And.intro @List.nil_append.{0} (And.intro @List.append_nil.{0} (And.intro @List.all_cons.{0} @List.all_nil.{0})))))))))))))))))))))))))))))))))))))))
theorem wl2:type_of% (And.intro @List.forall_mem_cons.{0} (And.intro @true_and (And.intro @and_true (And.intro @and_self (And.intro @List.contains_cons.{0} (And.intro @List.contains_nil.{0} (And.intro @List.length_cons.{0} (And.intro @List.length_nil.{0} (And.intro @refsV.eq_1 (And.intro @refsV.eq_2 (And.intro @refsV.eq_3 (And.intro @refsV.eq_4 (And.intro @refsV.eq_5 (And.intro @refsV.eq_6 (And.intro @refsIn.eq_1 (And.intro @refsIn.eq_2 (And.intro @refsIn.eq_3 (And.intro @refsIn.eq_4 (And.intro @refsIn.eq_5 (And.intro @refsIn.eq_6 (And.intro @refsIn.eq_7 (And.intro @refsIn.eq_8 (And.intro @refsC.eq_1 (And.intro @refsC.eq_2 (And.intro @coT.eq_1 (And.intro @coT.eq_2 (And.intro @coG.eq_1 (And.intro @coG.eq_2 (And.intro @coF.eq_1 (And.intro @coF.eq_2 (And.intro @coE.eq_1 (And.intro @coV_refl (And.intro @coV_s (And.intro @coV_g (And.intro @coL_refl (And.intro @coL.eq_1 (And.intro @coR.eq_1 (And.intro @coR.eq_2 (And.intro @coC.eq_1 @coC.eq_2))))))))))))))))))))))))))))))))))))))):=(And.intro @List.forall_mem_cons.{0} (And.intro @true_and (And.intro @and_true (And.intro @and_self (And.intro @List.contains_cons.{0} (And.intro @List.contains_nil.{0} (And.intro @List.length_cons.{0} (And.intro @List.length_nil.{0} (And.intro @refsV.eq_1 (And.intro @refsV.eq_2 (And.intro @refsV.eq_3 (And.intro @refsV.eq_4 (And.intro @refsV.eq_5 (And.intro @refsV.eq_6 (And.intro @refsIn.eq_1 (And.intro @refsIn.eq_2 (And.intro @refsIn.eq_3 (And.intro @refsIn.eq_4 (And.intro @refsIn.eq_5 (And.intro @refsIn.eq_6 (And.intro @refsIn.eq_7 (And.intro @refsIn.eq_8 (And.intro @refsC.eq_1 (And.intro @refsC.eq_2 (And.intro @coT.eq_1 (And.intro @coT.eq_2 (And.intro @coG.eq_1 (And.intro @coG.eq_2 (And.intro @coF.eq_1 (And.intro @coF.eq_2 (And.intro @coE.eq_1 (And.intro @coV_refl (And.intro @coV_s (And.intro @coV_g (And.intro @coL_refl (And.intro @coL.eq_1 (And.intro @coR.eq_1 (And.intro @coR.eq_2 (And.intro @coC.eq_1 @coC.eq_2)))))))))))))))))))))))))))))))))))))))
theorem wl:type_of% (And.intro @wl0 (And.intro @wl1 @wl2)):=(And.intro @wl0 (And.intro @wl1 @wl2))
theorem wq:type_of% (And.intro @wz (And.intro @wd @ws)):=(And.intro @wz (And.intro @wd @ws))
theorem wa:type_of% (And.intro @semI.eq_3 (And.intro @semI.eq_5 @semI.eq_7)):=(And.intro @semI.eq_3 (And.intro @semI.eq_5 @semI.eq_7))
theorem wj:type_of% (And.intro @semI.eq_10 (And.intro @semI.eq_11 (And.intro @semI.eq_3 (And.intro @semI.eq_5 @semI.eq_7)))):=(And.intro @semI.eq_10 (And.intro @semI.eq_11 (And.intro @semI.eq_3 (And.intro @semI.eq_5 @semI.eq_7))))
theorem wn:type_of% (And.intro @List.length_append.{0} (And.intro @List.length_cons.{0} @List.length_nil.{0})):=(And.intro @List.length_append.{0} (And.intro @List.length_cons.{0} @List.length_nil.{0}))
end Go.Proofs.YtedibjgdangfnaaGreatDoor.V
end

section
namespace Go.Proofs.YtedibjgdangfnaaGreatDoor
set_option linter.unusedVariables false
set_option linter.unusedSimpArgs false
def splitOnB (c:UInt8):List UInt8→List (List UInt8)
  | []=>[[]]
  | x :: l=>if x=c then [] :: splitOnB c l else match splitOnB c l with
    | h :: t=>(x :: h) :: t
    | []=>[[x]]
def allO {α:Type} (f:α→Option Bool):List α→Option Bool
  | []=>some true
  | x :: l=>(f x).bind fun b=>if b then allO f l else some false
def repoOf (f:List UInt8→Option Bool) (s:List UInt8):Option Bool:=if 128 < s.length then some false else allO f (splitOnB 47 s)
theorem splitOnB_ne (c:UInt8) (l:List UInt8):splitOnB c l ≠ []:=by
  cases l with
  | nil=>simp [splitOnB]
  | cons x l=>unfold splitOnB;split <;> (try split) <;> simp
theorem splitOnB_none {c:UInt8} {s:List UInt8} (h:Go.Lib.indexByte s c < 0):splitOnB c s=[s]:=by
  induction s with
  | nil=>rfl
  | cons x l ih =>
    unfold Go.Lib.indexByte at h
    have g:=Go.Lib.indexByte_ge l c
    unfold splitOnB
    by_cases hx:x=c
    · subst hx;simp at h
    · rw [if_neg hx]
      rw [if_neg (by simpa using hx)] at h
      rw [ih (by
        by_cases h1:Go.Lib.indexByte l c = -1
        · omega
        · rw [if_neg (by simpa using h1)] at h;omega)]
theorem splitOnB_some {c:UInt8} {s:List UInt8} (h:¬ Go.Lib.indexByte s c < 0):∃ i:Nat,Go.Lib.indexByte s c=i∧i < s.length∧splitOnB c s=s.take i :: splitOnB c (s.drop (i+1)):=by
  induction s with
  | nil=>exact absurd (by unfold Go.Lib.indexByte;decide) h
  | cons x l ih =>
    unfold Go.Lib.indexByte at h ⊢
    by_cases hx:x=c
    · subst hx
      refine ⟨0,by simp,by simp,?_⟩
      rw [splitOnB,if_pos rfl];rfl
    · rw [if_neg (by simpa using hx)] at h ⊢
      have g:=Go.Lib.indexByte_ge l c
      by_cases h1:Go.Lib.indexByte l c = -1
      · rw [if_pos (by simpa using h1)] at h;exact absurd (by decide) h
      · rw [if_neg (by simpa using h1)] at h ⊢
        obtain ⟨i,h2,h3,h4⟩:=ih (by omega)
        refine ⟨i+1,by omega,by simp;omega,?_⟩
        rw [splitOnB,if_neg hx,h4];rfl
end Go.Proofs.YtedibjgdangfnaaGreatDoor
end

section
namespace Go.Proofs.YtedibjgdangfnaaGreatDoor
set_option linter.unusedVariables false
set_option linter.unusedSimpArgs false
def orU (n v:Int):Int:=bits BinOp.or IntKind.u64 n v
def foldF (f:List UInt8→Option (Int×Bool)):Int→List (List UInt8)→Option (Int×Bool)
  | n,[]=>some (n,false)
  | n,x :: l=>(f x).bind fun r=>if r.2 then some (0,true) else foldF f (orU n r.1) l
def fieldOf (f:List UInt8→Option (Int×Bool)) (s:List UInt8):Option (Int×Bool):=foldF f 0 (splitOnB 44 s)
end Go.Proofs.YtedibjgdangfnaaGreatDoor
end

section
namespace Go.Proofs.YtedibjgdangfnaaGreatDoor.V
open Go Go.RowKit
set_option linter.unusedVariables false
set_option linter.unusedSimpArgs false
set_option maxHeartbeats 1000000
set_option maxRecDepth 20000
abbrev glP:Gl:=fun _=>none
structure api_Rule where
  Id:Int
  From:Int
  Repos:(List Str)
  Tags:(List Str)
  Prefix:Str
  Override:Bool
  Delete:Bool
  On:Bool
  Cron:Str
deriving DecidableEq,Inhabited
def e_api_Rule (x:api_Rule):List Sc:=[(.int .i64 x.Id),(.int .i64 x.From),(.sl (x.Repos.map eS)),(.sl (x.Tags.map eS)),(.str x.Prefix),(.bool x.Override),(.bool x.Delete),(.bool x.On),(.str x.Cron)]
def W_api_Rule (x:api_Rule):Prop:=(Lit.int .i64 x.Id).wf=true∧(Lit.int .i64 x.From).wf=true∧(x.Repos.length≤9223372036854775807∧∀ y0∈x.Repos,y0.length≤9223372036854775807)∧(x.Tags.length≤9223372036854775807∧∀ y0∈x.Tags,y0.length≤9223372036854775807)∧x.Prefix.length≤9223372036854775807∧True∧True∧True∧x.Cron.length≤9223372036854775807
structure cron_bounds where
  low:Int
  high:Int
deriving DecidableEq,Inhabited
def e_cron_bounds (x:cron_bounds):List Sc:=[(.int .i64 x.low),(.int .i64 x.high)]
theorem e_cron_bounds_len (x:cron_bounds):(e_cron_bounds x).length=2:=rfl
structure cron_part where
deriving DecidableEq,Inhabited
def e_cron_part (x:cron_part):List Sc:=[]
structure api_Cron where
  Minutes:Int
  Hours:Int
  Days:Int
  Months:Int
  Week:Int
  AnyDay:Bool
  AnyWeek:Bool
deriving DecidableEq,Inhabited
def e_api_Cron (x:api_Cron):List Sc:=[(.int .u64 x.Minutes),(.int .u64 x.Hours),(.int .u64 x.Days),(.int .u64 x.Months),(.int .u64 x.Week),(.bool x.AnyDay),(.bool x.AnyWeek)]
structure glob_many where
  slash:Bool
deriving DecidableEq,Inhabited
def e_glob_many (x:glob_many):List Sc:=[(.bool x.slash)]
structure api_Ref where
  Repo:Str
  Tag:Str
  Digest:Str
deriving DecidableEq,Inhabited
def e_api_Ref (x:api_Ref):List Sc:=[(.str x.Repo),(.str x.Tag),(.str x.Digest)]
structure rule_test where
  rule:api_Rule
  ref:api_Ref
deriving DecidableEq,Inhabited
def e_rule_test (x:rule_test):List Sc:=[(.int .i64 x.rule.Id),(.int .i64 x.rule.From),(.sl (x.rule.Repos.map eS)),(.sl (x.rule.Tags.map eS)),(.str x.rule.Prefix),(.bool x.rule.Override),(.bool x.rule.Delete),(.bool x.rule.On),(.str x.rule.Cron),(.str x.ref.Repo),(.str x.ref.Tag),(.str x.ref.Digest)]
structure api_Clock where
  Minute:Int
  Hour:Int
  Day:Int
  Month:Int
  Year:Int
  Week:Int
deriving DecidableEq,Inhabited
def e_api_Clock (x:api_Clock):List Sc:=[(.int .i64 x.Minute),(.int .i64 x.Hour),(.int .i64 x.Day),(.int .i64 x.Month),(.int .i64 x.Year),(.int .i64 x.Week)]
def f_strings_Count (s sub:Str):Option Int:=match sub with
  | [c]=>some ((Lib.countByte s c:Nat):Int)
  | _=>none
def f_strings_explode (s:Str) (n:Int):Option (List Str):=none
def f_internal_stringslite_Index (s sub:Str):Option Int:=match sub with
  | [c]=>some (Lib.indexByte s c)
  | _=>none
def f_strings_Trim (s cs:Str):Option Str:=gd (s.length≤140737488355328∧cs.length≤1000∧cs.all (fun b=>decide (b.toNat < 128))=true) <| some (Lib.trimS s cs)
def f_law14_few_l7 (rv:api_Rule):Nat→Int→(List Str)→Option (Int×(List Str))
  | 0,_,_=>none
  | m_ + 1,v30,v28 =>
    if (decide (v30 < ((([]:List Str)++(cut rv.Repos 0 (if 10 < (rv.Repos.length:Int) then 10 else (rv.Repos.length:Int)))).length:Int))) then
      (ix v28 v30).bind fun x =>
      gd (0≤(if 130 < (x.length:Int) then 130 else (x.length:Int))∧(if 130 < (x.length:Int) then 130 else (x.length:Int))≤(x.length:Int)) <|
      (ix v28 v30).bind fun x2 =>
      f_law14_few_l7 rv m_ (IntKind.i64.wrap (v30+1)) (v28.set v30.toNat (cut x 0 (if 130 < (x.length:Int) then 130 else (x.length:Int))))
    else
      some (v30,v28)
def f_law14_few_l13 (rv:api_Rule) (s:Int×(List Str)):Nat→Int→(List Str)→Option (Int×(List Str))
  | 0,_,_=>none
  | m_ + 1,v48,v46 =>
    if (decide (v48 < ((([]:List Str)++(cut rv.Tags 0 (if 10 < (rv.Tags.length:Int) then 10 else (rv.Tags.length:Int)))).length:Int))) then
      (ix v46 v48).bind fun x =>
      gd (0≤(if 130 < (x.length:Int) then 130 else (x.length:Int))∧(if 130 < (x.length:Int) then 130 else (x.length:Int))≤(x.length:Int)) <|
      (ix v46 v48).bind fun x2 =>
      f_law14_few_l13 rv s m_ (IntKind.i64.wrap (v48+1)) (v46.set v48.toNat (cut x 0 (if 130 < (x.length:Int) then 130 else (x.length:Int))))
    else
      some (v48,v46)
def f_law14_few (rv:api_Rule):Option (api_Rule) :=
  gd (0≤(if 10 < (rv.Repos.length:Int) then 10 else (rv.Repos.length:Int))∧(if 10 < (rv.Repos.length:Int) then 10 else (rv.Repos.length:Int))≤(rv.Repos.length:Int)) <|
  gd ((0+(cut rv.Repos 0 (if 10 < (rv.Repos.length:Int) then 10 else (rv.Repos.length:Int))).length) * 16≤140737488355328) <|
  gd (0≤(if 10 < (rv.Tags.length:Int) then 10 else (rv.Tags.length:Int))∧(if 10 < (rv.Tags.length:Int) then 10 else (rv.Tags.length:Int))≤(rv.Tags.length:Int)) <|
  gd ((0+(cut rv.Tags 0 (if 10 < (rv.Tags.length:Int) then 10 else (rv.Tags.length:Int))).length) * 16≤140737488355328) <|
  Option.bind (f_law14_few_l7 rv (((((([]:List Str)++(cut rv.Repos 0 (if 10 < (rv.Repos.length:Int) then 10 else (rv.Repos.length:Int)))).length:Int):Int) - 0).toNat+1) 0 (([]:List Str)++(cut rv.Repos 0 (if 10 < (rv.Repos.length:Int) then 10 else (rv.Repos.length:Int))))) fun s:Int×(List Str) =>
  Option.bind (f_law14_few_l13 rv s (((((([]:List Str)++(cut rv.Tags 0 (if 10 < (rv.Tags.length:Int) then 10 else (rv.Tags.length:Int)))).length:Int):Int) - 0).toNat+1) 0 (([]:List Str)++(cut rv.Tags 0 (if 10 < (rv.Tags.length:Int) then 10 else (rv.Tags.length:Int))))) fun s2:Int×(List Str) =>
  gd (0≤(if 130 < (rv.Prefix.length:Int) then 130 else (rv.Prefix.length:Int))∧(if 130 < (rv.Prefix.length:Int) then 130 else (rv.Prefix.length:Int))≤(rv.Prefix.length:Int)) <|
  gd (0≤(if 205 < (rv.Cron.length:Int) then 205 else (rv.Cron.length:Int))∧(if 205 < (rv.Cron.length:Int) then 205 else (rv.Cron.length:Int))≤(rv.Cron.length:Int)) <|
  some (api_Rule.mk rv.Id rv.From s.2 s2.2 (cut rv.Prefix 0 (if 130 < (rv.Prefix.length:Int) then 130 else (rv.Prefix.length:Int))) rv.Override rv.Delete rv.On (cut rv.Cron 0 (if 205 < (rv.Cron.length:Int) then 205 else (rv.Cron.length:Int))))
def f_strings_Index (s:Str) (substr:Str):Option (Int) :=
  (f_internal_stringslite_Index s substr).bind fun t =>
  some t
def f_strings_genSplit_l17 (s:Str) (sep:Str) (sepSave:Int) (n2:Int):Nat→Str→Int→(List Str)→Option (Str×Int×(List Str))
  | 0,_,_,_=>none
  | m_ + 1,s3,i,a =>
    if (decide (i < (IntKind.i64.wrap (n2 - 1)))) then
      (f_strings_Index s3 sep).bind fun t =>
      if (decide (t < 0)) then
        some (s3,i,a)
      else
        gd (0≤(IntKind.i64.wrap (t+sepSave))∧(IntKind.i64.wrap (t+sepSave))≤(s3.length:Int)) <|
        (ix a i).bind fun x =>
        gd (0≤(IntKind.i64.wrap (t+(sep.length:Int)))∧(IntKind.i64.wrap (t+(sep.length:Int)))≤(s3.length:Int)) <|
        f_strings_genSplit_l17 s sep sepSave n2 m_ (cut s3 (IntKind.i64.wrap (t+(sep.length:Int))) (s3.length:Int)) (IntKind.i64.wrap (i+1)) (a.set i.toNat (cut s3 0 (IntKind.i64.wrap (t+sepSave))))
    else
      some (s3,i,a)
def f_strings_genSplit (s:Str) (sep:Str) (sepSave:Int) (n:Int):Option ((List Str)) :=
  if (n == 0) then
    some ([]:(List Str))
  else
    if (sep == ([]:Str)) then
      (f_strings_explode s n).bind fun t =>
      some t
    else
      Option.bind (
        if (decide (n < 0)) then
          (f_strings_Count s sep).bind fun t =>
          some (IntKind.i64.wrap (t+1))
        else
          some n) fun s2:Int =>
      (some (if (IntKind.i64.wrap ((s.length:Int)+1)) < s2 then (IntKind.i64.wrap ((s.length:Int)+1)) else s2)).bind fun n2 =>
      gd (0≤n2∧n2≤n2∧n2 * 16≤140737488355328∧n2 < 9223372036854775808) <|
      Option.bind (f_strings_genSplit_l17 s sep sepSave n2 ((((IntKind.i64.wrap (n2 - 1)):Int) - 0).toNat+1) s 0 (List.replicate n2.toNat [])) fun s3:Str×Int×(List Str) =>
      (ix s3.2.2 s3.2.1).bind fun x =>
      gd (0≤(IntKind.i64.wrap (s3.2.1+1))∧(IntKind.i64.wrap (s3.2.1+1))≤(s3.2.2.length:Int)) <|
      some (cut (s3.2.2.set s3.2.1.toNat s3.1) 0 (IntKind.i64.wrap (s3.2.1+1)))
def f_strings_Split (s:Str) (sep:Str):Option ((List Str)) :=
  (f_strings_genSplit s sep 0 (-1)).bind fun t =>
  some t
def f_cron_fields:Option ((List cron_bounds)) :=
  gd (5=5) <|
  some ([(cron_bounds.mk 0 59),(cron_bounds.mk 0 23),(cron_bounds.mk 1 31),(cron_bounds.mk 1 12),(cron_bounds.mk 0 6)]:(List cron_bounds))
def f_internal_stringslite_Cut (s:Str) (sep:Str):Option (Str×Str×Bool) :=
  (f_internal_stringslite_Index s sep).bind fun t =>
  if (decide (t≥0)) then
    gd (0≤t∧t≤(s.length:Int)) <|
    gd (0≤(IntKind.i64.wrap (t+(sep.length:Int)))∧(IntKind.i64.wrap (t+(sep.length:Int)))≤(s.length:Int)) <|
    some ((cut s 0 t),(cut s (IntKind.i64.wrap (t+(sep.length:Int))) (s.length:Int)),true)
  else
    some (s,([]:Str),false)
def f_strings_Cut (s:Str) (sep:Str):Option (Str×Str×Bool) :=
  (f_internal_stringslite_Cut s sep).bind fun t =>
  some (t.1,t.2.1,t.2.2)
def f_cron_number_l9 (s:Str) (b:cron_bounds):Nat→Int→Int→Option (Int×Int)
  | 0,_,_=>none
  | m_ + 1,n,v35 =>
    if (decide (v35 < (s.length:Int))) then
      (ix s v35).bind fun c =>
      (some (IntKind.i64.wrap ((IntKind.i64.wrap (10 * n))+(IntKind.i64.wrap (IntKind.u8.wrap ((bn c) - 48)))))).bind fun n2 =>
      f_cron_number_l9 s b m_ n2 (IntKind.i64.wrap (v35+1))
    else
      some (n,v35)
def f_cron_number (s:Str) (b:cron_bounds):Option (Int×Sc) :=
  (gx (!((decide ((s.length:Int) < 1)) || (decide ((s.length:Int) > 2)))) (f_strings_Trim s ([48,49,50,51,52,53,54,55,56,57]:Str)) default).bind fun t =>
  gd (((!(((decide ((s.length:Int) < 1)) || (decide ((s.length:Int) > 2))) || (!(t == ([]:Str))))) && ((s.length:Int) == 2))=true→0 < (s.length:Int)) <|
  if ((((decide ((s.length:Int) < 1)) || (decide ((s.length:Int) > 2))) || (!(t == ([]:Str)))) || (((s.length:Int) == 2) && ((bn (s.getD 0 0)) == 48))) then
    some (0,(.ifc 205 true []))
  else
    Option.bind (f_cron_number_l9 s b ((((s.length:Int):Int) - 0).toNat+1) 0 0) fun s2:Int×Int =>
    if ((decide (s2.1 < b.low)) || (decide (s2.1 > b.high))) then
      some (0,(.ifc 205 true []))
    else
      some (s2.1,(Sc.z Zk.nilIface))
def f_cron_span (s:Str) (b:cron_bounds):Option (cron_bounds×Bool×Sc) :=
  if (s == ([42]:Str)) then
    some (b,true,(Sc.z Zk.nilIface))
  else
    (f_strings_Cut s ([45]:Str)).bind fun t =>
    (f_cron_number t.1 b).bind fun t2 =>
    gd ((!(!t.2.2))=true→isIf t2.2=true) <|
    if ((!t.2.2) || (!(nilI t2.2))) then
      some ((cron_bounds.mk t2.1 t2.1),false,t2.2)
    else
      (f_cron_number t.2.1 b).bind fun t3 =>
      gd (isIf t3.2=true) <|
      if ((nilI t3.2) && (decide (t2.1 > t3.1))) then
        some ((cron_bounds.mk t2.1 t3.1),true,(.ifc 205 true []))
      else
        some ((cron_bounds.mk t2.1 t3.1),true,t3.2)
def f_cron_values_l15 (s:Str) (b:cron_bounds) (t2:cron_bounds×Bool×Sc) (s2:Sc×Int):Nat→Int→Int→Option (Int×Int)
  | 0,_,_=>none
  | m_ + 1,n,v =>
    if (decide (v≤t2.1.high)) then
      gd (0≤v) <|
      (some (IntKind.u64.wrap ((BitVec.ofInt IntKind.u64.bits n ||| BitVec.ofInt IntKind.u64.bits (IntKind.u64.wrap (1 * 2 ^ (min v.toNat IntKind.u64.bits)))).toNat))).bind fun n2 =>
      f_cron_values_l15 s b t2 s2 m_ n2 (IntKind.i64.wrap (v+s2.2))
    else
      some (n,v)
def f_cron_values (s:Str) (b:cron_bounds):Option (Int×Sc) :=
  (f_strings_Cut s ([47]:Str)).bind fun t =>
  (f_cron_span t.1 b).bind fun t2 =>
  Option.bind (
    gd (isIf t2.2.2=true) <|
    if ((nilI t2.2.2) && t.2.2) then
      (f_cron_number t.2.1 (cron_bounds.mk 1 59)).bind fun t3 =>
      if (!t2.2.1) then
        some ((.ifc 205 true []),t3.1)
      else
        some (t3.2,t3.1)
    else
      some (t2.2.2,1)) fun s2:Sc×Int =>
  gd (isIf s2.1=true) <|
  if (!(nilI s2.1)) then
    some (0,s2.1)
  else
    Option.bind (f_cron_values_l15 s b t2 s2 (((t2.1.high:Int) - t2.1.low).toNat+2) 0 t2.1.low) fun s3:Int×Int =>
    some (s3.1,(Sc.z Zk.nilIface))
abbrev tyPart:Nat:=205
def isPart:Sc→Option Bool
  | .z .nilIface=>some false
  | .ifc t true []=>if t=tyPart then some true else none
  | _=>none
def scPart:Bool→Sc
  | false=>.z .nilIface
  | true=>.ifc tyPart true []
def partV (b:cron_bounds) (s:Str):Option (Int×Bool):=(f_cron_values s b).bind fun r=>(isPart r.2).map fun e=>(r.1,e)
def f_cron_field (s:Str) (b:cron_bounds):Option (Int×Sc):=gd (s.length≤140737488355328) <| (fieldOf (partV b) s).map fun r=>(r.1,scPart r.2)
def f_errors_Is (e t:Sc):Option Bool:=if isPart t=some true then isPart e else none
def f_cron_Parse_l13 (s:Str) (t:(List Str)) (t2:(List cron_bounds)):Nat→Int→(List Int)→Option ((Int×(List Int)) ⊕ (api_Cron×Int))
  | 0,_,_=>none
  | m_ + 1,v24,bits =>
    if (decide (v24 < 5)) then
      gd (t2.length=5) <|
      (ix t2 v24).bind fun x =>
      (ix t v24).bind fun x2 =>
      (f_cron_field x2 x).bind fun t3 =>
      (f_errors_Is t3.2 (.ifc 205 true [])).bind fun t4 =>
      if t4 then
        some (.inr ((api_Cron.mk 0 0 0 0 0 false false),6))
      else
        gd (0≤v24∧v24 < 5) <|
        gd (0≤v24∧v24 < (bits.length:Int)) <|
        f_cron_Parse_l13 s t t2 m_ (IntKind.i64.wrap (v24+1)) (bits.set v24.toNat t3.1)
    else
      some (.inl (v24,bits))
def f_cron_Parse (s:Str):Option (api_Cron×Int) :=
  (f_strings_Split s ([32]:Str)).bind fun t =>
  Option.bind (
    if (decide ((s.length:Int) > 200)) then
      some true
    else
      (f_cron_fields).bind fun t2 =>
      some ((t.length:Int) != 5)) fun s2:Bool =>
  if s2 then
    some ((api_Cron.mk 0 0 0 0 0 false false),6)
  else
    (f_cron_fields).bind fun t2 =>
    Option.bind (f_cron_Parse_l13 s t t2 (((5:Int) - 0).toNat+1) 0 (List.replicate 5 0)) fun s3:(Int×(List Int)) ⊕ (api_Cron×Int)=>match s3 with
    | .inr z=>some z
    | .inl s4 =>
      (ix s4.2 0).bind fun x =>
      (ix s4.2 1).bind fun x2 =>
      (ix s4.2 2).bind fun x3 =>
      (ix s4.2 3).bind fun x4 =>
      (ix s4.2 4).bind fun x5 =>
      (ix t 2).bind fun x6 =>
      (ix t 4).bind fun x7 =>
      some ((api_Cron.mk x x2 x3 x4 x5 (x6 == ([42]:Str)) (x7 == ([42]:Str))),0)
def f_slices_IndexFunc_string_string_l7 (s:(List Str)) (f:Str→Option (Bool)):Nat→Int→Option ((Int) ⊕ (Int))
  | 0,_=>none
  | m_ + 1,v8 =>
    if (decide (v8 < (s.length:Int))) then
      (ix s v8).bind fun x =>
      (f x).bind fun b =>
      if b then
        some (.inr v8)
      else
        f_slices_IndexFunc_string_string_l7 s f m_ (IntKind.i64.wrap (v8+1))
    else
      some (.inl v8)
def f_slices_IndexFunc_string_string (s:(List Str)) (f:Str→Option (Bool)):Option (Int) :=
  Option.bind (f_slices_IndexFunc_string_string_l7 s f ((((s.length:Int):Int) - 0).toNat+1) 0) fun s2:(Int) ⊕ (Int)=>match s2 with
  | .inr z=>some z
  | .inl s3 =>
    some (-1)
def f_slices_ContainsFunc_string_string (s:(List Str)) (f:Str→Option (Bool)):Option (Bool) :=
  (f_slices_IndexFunc_string_string s f).bind fun t =>
  some (decide (t≥0))
def f_slices_IndexFunc_byte_byte_l7 (s:(List Int)) (f:Int→Option (Bool)):Nat→Int→Option ((Int) ⊕ (Int))
  | 0,_=>none
  | m_ + 1,v8 =>
    if (decide (v8 < (s.length:Int))) then
      (ix s v8).bind fun x =>
      (f x).bind fun b =>
      if b then
        some (.inr v8)
      else
        f_slices_IndexFunc_byte_byte_l7 s f m_ (IntKind.i64.wrap (v8+1))
    else
      some (.inl v8)
def f_slices_IndexFunc_byte_byte (s:(List Int)) (f:Int→Option (Bool)):Option (Int) :=
  Option.bind (f_slices_IndexFunc_byte_byte_l7 s f ((((s.length:Int):Int) - 0).toNat+1) 0) fun s2:(Int) ⊕ (Int)=>match s2 with
  | .inr z=>some z
  | .inl s3 =>
    some (-1)
def f_slices_ContainsFunc_byte_byte (s:(List Int)) (f:Int→Option (Bool)):Option (Bool) :=
  (f_slices_IndexFunc_byte_byte s f).bind fun t =>
  some (decide (t≥0))
def f_glob_pieces_1 (c:Int):Option (Bool) :=
  some ((decide (c < 33)) || (decide (c > 126)))
def f_internal_stringslite_HasPrefix (s:Str) (prefixv:Str):Option (Bool) :=
  gd ((decide ((s.length:Int)≥(prefixv.length:Int)))=true→0≤(prefixv.length:Int)∧(prefixv.length:Int)≤(s.length:Int)) <|
  some ((decide ((s.length:Int)≥(prefixv.length:Int))) && ((cut s 0 (prefixv.length:Int)) == prefixv))
def f_strings_HasPrefix (s:Str) (prefixv:Str):Option (Bool) :=
  (f_internal_stringslite_HasPrefix s prefixv).bind fun t =>
  some t
def f_strings_Contains (s:Str) (substr:Str):Option (Bool) :=
  (f_strings_Index s substr).bind fun t =>
  some (decide (t≥0))
def f_glob_pieces_l24 (s:Bool):Nat→Str→(List Sc)→Option ((Str×(List Sc)) ⊕ ((List Sc)×Bool))
  | 0,_,_=>none
  | m_ + 1, p2, out =>
    if (!(p2 == ([]:Str))) then
      (ix p2 0).bind fun c =>
      (f_strings_HasPrefix p2 ([42,42]:Str)).bind fun t =>
      if t then
        gd ((out.length+1) * 16≤140737488355328) <|
        gd (2≤(p2.length:Int)) <|
        f_glob_pieces_l24 s m_ (cut p2 2 (p2.length:Int)) (out++([(.ifc 304 true [(.bool true)])]:List Sc))
      else
        if ((bn c) == 42) then
          gd ((out.length+1) * 16≤140737488355328) <|
          gd (1≤(p2.length:Int)) <|
          f_glob_pieces_l24 s m_ (cut p2 1 (p2.length:Int)) (out++([(.ifc 304 true [(.bool false)])]:List Sc))
        else
          if ((bn c) == 63) then
            gd ((out.length+1) * 16≤140737488355328) <|
            gd (1≤(p2.length:Int)) <|
            f_glob_pieces_l24 s m_ (cut p2 1 (p2.length:Int)) (out++([(.ifc 305 true [])]:List Sc))
          else
            if ((bn c) == 123) then
              gd (1≤(p2.length:Int)) <|
              (f_strings_Cut (cut p2 1 (p2.length:Int)) ([125]:Str)).bind fun t2 =>
              (gx (!(!t2.2.2)) (f_strings_Contains t2.1 ([123]:Str)) default).bind fun t3 =>
              if ((!t2.2.2) || t3) then
                some (.inr (([]:(List Sc)),false))
              else
                (f_strings_Split t2.1 ([44]:Str)).bind fun t4 =>
                gd ((out.length+1) * 16≤140737488355328) <|
                gd (0≤(IntKind.i64.wrap ((t2.1.length:Int)+2))∧(IntKind.i64.wrap ((t2.1.length:Int)+2))≤(p2.length:Int)) <|
                f_glob_pieces_l24 s m_ (cut p2 (IntKind.i64.wrap ((t2.1.length:Int)+2)) (p2.length:Int)) (out++([(.ifc 306 false [(.sl (t4.map eS))])]:List Sc))
            else
              if ((bn c) == 125) then
                some (.inr (([]:(List Sc)),false))
              else
                gd ((out.length+1) * 16≤140737488355328) <|
                gd (1≤(p2.length:Int)) <|
                f_glob_pieces_l24 s m_ (cut p2 1 (p2.length:Int)) (out++([(.ifc 307 false [(.int .u8 (bn c))])]:List Sc))
    else
      some (.inl (p2,out))
def f_glob_pieces (p:Str):Option ((List Sc)×Bool) :=
  Option.bind (
    if (p == ([]:Str)) then
      some true
    else
      if (decide ((p.length:Int) > 128)) then
        some true
      else
        (f_slices_ContainsFunc_byte_byte (p.map bn) f_glob_pieces_1).bind fun t =>
        some t) fun s:Bool =>
  if s then
    some (([]:(List Sc)),false)
  else
    Option.bind (f_glob_pieces_l24 s (p.length+1) p []) fun s2:(Str×(List Sc)) ⊕ ((List Sc)×Bool)=>match s2 with
    | .inr z=>some z
    | .inl s3 =>
      some (s3.2,true)
def f_glob_Right (pattern:Str):Option (Bool) :=
  (f_glob_pieces pattern).bind fun t =>
  some t.2
def f_rule_patterns_1 (p:Str):Option (Bool) :=
  (f_glob_Right p).bind fun t =>
  some (!t)
def f_rule_patterns (l:(List Str)):Option (Bool) :=
  (gx (decide ((l.length:Int)≤8)) (f_slices_ContainsFunc_string_string l f_rule_patterns_1) default).bind fun t =>
  some ((decide ((l.length:Int)≤8)) && (!t))
def f_name_small (c:Int):Option (Bool) :=
  some (((decide (c≥97)) && (decide (c≤122))) || ((decide (c≥48)) && (decide (c≤57))))
def f_name_part_l21 (s:Str):Nat→Int→Int→Option ((Int×Int) ⊕ (Bool))
  | 0,_,_=>none
  | m_ + 1, run, v8 =>
    if (decide (v8 < (s.length:Int))) then
      (ix s v8).bind fun c =>
      (f_name_small (bn c)).bind fun t =>
      if t then
        f_name_part_l21 s m_ 0 (IntKind.i64.wrap (v8+1))
      else
        if ((bn c) == 45) then
          gd ((decide (run > 0))=true→0≤(IntKind.i64.wrap (v8 - 1))∧(IntKind.i64.wrap (v8 - 1)) < (s.length:Int)) <|
          if ((decide (run > 0)) && ((bn (s.getD (IntKind.i64.wrap (v8 - 1)).toNat 0)) != 45)) then
            some (.inr false)
          else
            if (v8 == 0) then
              some (.inr false)
            else
              f_name_part_l21 s m_ (IntKind.i64.wrap (run+1)) (IntKind.i64.wrap (v8+1))
        else
          gd ((((bn c) == 95) && (run == 1))=true→0≤(IntKind.i64.wrap (v8 - 1))∧(IntKind.i64.wrap (v8 - 1)) < (s.length:Int)) <|
          if ((((bn c) == 95) && (run == 1)) && ((bn (s.getD (IntKind.i64.wrap (v8 - 1)).toNat 0)) == 95)) then
            if (v8 == 0) then
              some (.inr false)
            else
              f_name_part_l21 s m_ (IntKind.i64.wrap (run+1)) (IntKind.i64.wrap (v8+1))
          else
            if ((bn c) == 95) then
              if (decide (run > 0)) then
                some (.inr false)
              else
                if (v8 == 0) then
                  some (.inr false)
                else
                  f_name_part_l21 s m_ (IntKind.i64.wrap (run+1)) (IntKind.i64.wrap (v8+1))
            else
              if ((bn c) == 46) then
                if (decide (run > 0)) then
                  some (.inr false)
                else
                  if (v8 == 0) then
                    some (.inr false)
                  else
                    f_name_part_l21 s m_ (IntKind.i64.wrap (run+1)) (IntKind.i64.wrap (v8+1))
              else
                some (.inr false)
    else
      some (.inl (run,v8))
def f_name_part (s:Str):Option (Bool) :=
  Option.bind (f_name_part_l21 s ((((s.length:Int):Int) - 0).toNat+1) 0 0) fun s2:(Int×Int) ⊕ (Bool)=>match s2 with
  | .inr z=>some z
  | .inl s3 =>
    some ((!(s == ([]:Str))) && (s3.1 == 0))
def f_name_Repo (s:Str):Option Bool:=repoOf f_name_part s
def f_rule_Right (rv:api_Rule):Option (Bool) :=
  (f_cron_Parse rv.Cron).bind fun t =>
  (gx (((decide (rv.Id≥1)) && (decide (rv.Id≤1048576))) && ((rv.From == 0) || (rv.From == 1))) (f_rule_patterns rv.Repos) default).bind fun t2 =>
  (gx ((((decide (rv.Id≥1)) && (decide (rv.Id≤1048576))) && ((rv.From == 0) || (rv.From == 1))) && t2) (f_rule_patterns rv.Tags) default).bind fun t3 =>
  (gx ((((((decide (rv.Id≥1)) && (decide (rv.Id≤1048576))) && ((rv.From == 0) || (rv.From == 1))) && t2) && t3) && (!(rv.Prefix == ([]:Str)))) (f_name_Repo rv.Prefix) default).bind fun t4 =>
  some (((((((decide (rv.Id≥1)) && (decide (rv.Id≤1048576))) && ((rv.From == 0) || (rv.From == 1))) && t2) && t3) && ((rv.Prefix == ([]:Str)) || t4)) && ((rv.Cron == ([]:Str)) || (t.2 == 0)))
def f_rule_To (rv:api_Rule) (repo:Str):Option (Str×Int) :=
  Option.bind (
    if (!(rv.Prefix == ([]:Str))) then
      gd (rv.Prefix.length+1≤9223372036854775807) <|
      gd ((rv.Prefix++([47]:Str)).length+repo.length≤9223372036854775807) <|
      some ((rv.Prefix++([47]:Str))++repo)
    else
      some repo) fun s:Str =>
  (f_rule_Right rv).bind fun t =>
  if (!t) then
    some (([]:Str),18)
  else
    (f_name_Repo repo).bind fun t2 =>
    (gx (!(!t2)) (f_name_Repo s) default).bind fun t3 =>
    if ((!t2) || (!t3)) then
      some (([]:Str),5)
    else
      some (s,0)
def f_rule_test_on (t:rule_test):Option (Bool) :=
  (gx t.rule.On (f_rule_Right t.rule) default).bind fun t2 =>
  some (t.rule.On && t2)
def f_name_Tag_l8 (s:Str):Nat→Int→Option ((Int) ⊕ (Bool))
  | 0,_=>none
  | m_ + 1,v7 =>
    if (decide (v7 < (s.length:Int))) then
      (ix s v7).bind fun c =>
      (f_name_small (bn c)).bind fun t =>
      if (((t || ((decide ((bn c)≥65)) && (decide ((bn c)≤90)))) || ((bn c) == 95)) || ((decide (v7 > 0)) && (((bn c) == 46) || ((bn c) == 45)))) then
        f_name_Tag_l8 s m_ (IntKind.i64.wrap (v7+1))
      else
        some (.inr false)
    else
      some (.inl v7)
def f_name_Tag (s:Str):Option (Bool) :=
  Option.bind (f_name_Tag_l8 s ((((s.length:Int):Int) - 0).toNat+1) 0) fun s2:(Int) ⊕ (Bool)=>match s2 with
  | .inr z=>some z
  | .inl s3 =>
    some ((!(s == ([]:Str))) && (decide ((s.length:Int)≤128)))
def f_rule_test_named (t:rule_test):Option (Bool) :=
  (f_name_Repo t.ref.Repo).bind fun t2 =>
  (gx t2 (f_name_Tag t.ref.Tag) default).bind fun t3 =>
  some (t2 && t3)
def f_glob_Some_1 (p:Str):Option (Bool) :=
  (f_glob_Right p).bind fun t =>
  some (!t)
def f_glob_many_takes_l8 (mv:glob_many) (s:Str):Nat→Int→(List Int)→Option (Int×(List Int))
  | 0,_,_=>none
  | m_ + 1,v10,out =>
    if (decide (v10 < (s.length:Int))) then
      (ix s v10).bind fun c =>
      if (((bn c) == 47) && (!mv.slash)) then
        some (v10,out)
      else
        gd ((out.length+1) * 8≤140737488355328) <|
        f_glob_many_takes_l8 mv s m_ (IntKind.i64.wrap (v10+1)) (out++([(IntKind.i64.wrap (v10+1))]:List Int))
    else
      some (v10,out)
def f_glob_many_takes (mv:glob_many) (s:Str):Option ((List Int)) :=
  Option.bind (f_glob_many_takes_l8 mv s ((((s.length:Int):Int) - 0).toNat+1) 0 ([0]:List Int)) fun s2:Int×(List Int) =>
  some s2.2
def f_glob_one_takes (p0:cron_part) (s:Str):Option ((List Int)) :=
  gd ((!(s == ([]:Str)))=true→0 < (s.length:Int)) <|
  if ((!(s == ([]:Str))) && ((bn (s.getD 0 0)) != 47)) then
    some ([1]:List Int)
  else
    some ([]:(List Int))
def f_slices_Index_int_int_l7 (s:(List Int)) (v:Int):Nat→Int→Option ((Int) ⊕ (Int))
  | 0,_=>none
  | m_ + 1,v8 =>
    if (decide (v8 < (s.length:Int))) then
      (ix s v8).bind fun x =>
      if (v == x) then
        some (.inr v8)
      else
        f_slices_Index_int_int_l7 s v m_ (IntKind.i64.wrap (v8+1))
    else
      some (.inl v8)
def f_slices_Index_int_int (s:(List Int)) (v:Int):Option (Int) :=
  Option.bind (f_slices_Index_int_int_l7 s v ((((s.length:Int):Int) - 0).toNat+1) 0) fun s2:(Int) ⊕ (Int)=>match s2 with
  | .inr z=>some z
  | .inl s3 =>
    some (-1)
def f_slices_Contains_int_int (s:(List Int)) (v:Int):Option (Bool) :=
  (f_slices_Index_int_int s v).bind fun t =>
  some (decide (t≥0))
def f_glob_words_takes_l8 (w:(List Str)) (s:Str):Nat→Int→(List Int)→Option (Int×(List Int))
  | 0,_,_=>none
  | m_ + 1,v10,out =>
    if (decide (v10 < (w.length:Int))) then
      (ix w v10).bind fun x =>
      (f_strings_HasPrefix s x).bind fun t =>
      (gx t (f_slices_Contains_int_int out (x.length:Int)) default).bind fun t2 =>
      if (t && (!t2)) then
        gd ((out.length+1) * 8≤140737488355328) <|
        f_glob_words_takes_l8 w s m_ (IntKind.i64.wrap (v10+1)) (out++([(x.length:Int)]:List Int))
      else
        f_glob_words_takes_l8 w s m_ (IntKind.i64.wrap (v10+1)) out
    else
      some (v10,out)
def f_glob_words_takes (w:(List Str)) (s:Str):Option ((List Int)) :=
  Option.bind (f_glob_words_takes_l8 w s ((((w.length:Int):Int) - 0).toNat+1) 0 []) fun s2:Int×(List Int) =>
  some s2.2
def f_glob_plain_takes (p:Int) (s:Str):Option ((List Int)) :=
  gd ((!(s == ([]:Str)))=true→0 < (s.length:Int)) <|
  if ((!(s == ([]:Str))) && ((bn (s.getD 0 0)) == p)) then
    some ([1]:List Int)
  else
    some ([]:(List Int))
abbrev tyMany:Nat:=304
abbrev tyOne:Nat:=305
abbrev tyWords:Nat:=306
abbrev tyPlain:Nat:=307
def unS1:List Sc→Option Str
  | [.str l]=>some l
  | _=>none
def unSs:List (List Sc)→Option (List Str)
  | []=>some []
  | r :: l=>(unS1 r).bind fun x=>(unSs l).bind fun y=>some (x :: y)
def m_glob_takes (x:Sc):Bool:=match x with
  | .ifc t _ _=>t == 304 || t == 305 || t == 306 || t == 307
  | _=>false
def f_inv_glob_takes (x:Sc) (s:Str):Option (List Int):=match x with
  | .ifc t true [.bool b]=>if t=304 then f_glob_many_takes (glob_many.mk b) s else none
  | .ifc t true []=>if t=305 then f_glob_one_takes default s else none
  | .ifc t false [.sl rows]=>if t=306 then (unSs rows).bind fun l=>f_glob_words_takes l s else none
  | .ifc t false [.int .u8 c]=>if t=307 then f_glob_plain_takes c s else none
  | _=>none
def f_glob_match_l16 (l:(List Sc)) (s:Str) (v21:Int) (atv:(List Bool)) (x2:Sc) (v31:Int) (t:(List Int)):Nat→Int→(List Bool)→Option (Int×(List Bool))
  | 0,_,_=>none
  | m_ + 1,v47,next2 =>
    if (decide (v47 < (t.length:Int))) then
      (ix t v47).bind fun x4 =>
      (ix next2 (IntKind.i64.wrap (v31+x4))).bind fun x5 =>
      f_glob_match_l16 l s v21 atv x2 v31 t m_ (IntKind.i64.wrap (v47+1)) (next2.set (IntKind.i64.wrap (v31+x4)).toNat true)
    else
      some (v47,next2)
def f_glob_match_l18 (l:(List Sc)) (s:Str) (v21:Int) (atv:(List Bool)) (x2:Sc):Nat→Int→(List Bool)→Option (Int×(List Bool))
  | 0,_,_=>none
  | m_ + 1,v31,next =>
    if (decide (v31 < (atv.length:Int))) then
      (ix atv v31).bind fun x3 =>
      if (!x3) then
        f_glob_match_l18 l s v21 atv x2 m_ (IntKind.i64.wrap (v31+1)) next
      else
        gd (0≤v31∧v31≤(s.length:Int)) <|
        gd (m_glob_takes x2=true) <|
        (f_inv_glob_takes x2 (cut s v31 (s.length:Int))).bind fun t =>
        Option.bind (f_glob_match_l16 l s v21 atv x2 v31 t ((((t.length:Int):Int) - 0).toNat+1) 0 next) fun s2:Int×(List Bool) =>
        f_glob_match_l18 l s v21 atv x2 m_ (IntKind.i64.wrap (v31+1)) s2.2
    else
      some (v31,next)
def f_glob_match_l21 (l:(List Sc)) (s:Str):Nat→Int→(List Bool)→Option (Int×(List Bool))
  | 0,_,_=>none
  | m_ + 1,v21,atv =>
    if (decide (v21 < (l.length:Int))) then
      (ix l v21).bind fun x2 =>
      gd (0≤(IntKind.i64.wrap ((s.length:Int)+1))∧(IntKind.i64.wrap ((s.length:Int)+1))≤(IntKind.i64.wrap ((s.length:Int)+1))∧(IntKind.i64.wrap ((s.length:Int)+1)) * 1≤140737488355328∧(IntKind.i64.wrap ((s.length:Int)+1)) < 9223372036854775808) <|
      Option.bind (f_glob_match_l18 l s v21 atv x2 ((((atv.length:Int):Int) - 0).toNat+1) 0 (List.replicate (IntKind.i64.wrap ((s.length:Int)+1)).toNat false)) fun s2:Int×(List Bool) =>
      f_glob_match_l21 l s m_ (IntKind.i64.wrap (v21+1)) s2.2
    else
      some (v21,atv)
def f_glob_match (l:(List Sc)) (s:Str):Option (Bool) :=
  gd (0≤(IntKind.i64.wrap ((s.length:Int)+1))∧(IntKind.i64.wrap ((s.length:Int)+1))≤(IntKind.i64.wrap ((s.length:Int)+1))∧(IntKind.i64.wrap ((s.length:Int)+1)) * 1≤140737488355328∧(IntKind.i64.wrap ((s.length:Int)+1)) < 9223372036854775808) <|
  (ix (List.replicate (IntKind.i64.wrap ((s.length:Int)+1)).toNat false) 0).bind fun x =>
  Option.bind (f_glob_match_l21 l s ((((l.length:Int):Int) - 0).toNat+1) 0 ((List.replicate (IntKind.i64.wrap ((s.length:Int)+1)).toNat false).set 0 true)) fun s2:Int×(List Bool) =>
  (ix s2.2 (s.length:Int)).bind fun x2 =>
  some x2
def f_glob_Match (pattern:Str) (s:Str):Option (Bool) :=
  (f_glob_pieces pattern).bind fun t =>
  (gx (t.2 && (decide ((s.length:Int)≤200))) (f_glob_match t.1 s) default).bind fun t2 =>
  some ((t.2 && (decide ((s.length:Int)≤200))) && t2)
def f_glob_Some_2 (p:Str) (p1:Str):Option (Bool) :=
  (f_glob_Match p p1).bind fun t =>
  some t
def f_glob_Some (s:Str) (patterns:(List Str)):Option (Bool×Int) :=
  (gx (!(decide ((s.length:Int) > 200))) (f_slices_ContainsFunc_string_string patterns f_glob_Some_1) default).bind fun t =>
  if ((decide ((s.length:Int) > 200)) || t) then
    some (false,1)
  else
    (gx (!((patterns.length:Int) == 0)) (f_slices_ContainsFunc_string_string patterns (fun a0=>f_glob_Some_2 a0 s)) default).bind fun t2 =>
    some ((((patterns.length:Int) == 0) || t2),0)
def f_rule_test_picked (t:rule_test):Option (Bool) :=
  (f_glob_Some t.ref.Repo t.rule.Repos).bind fun t2 =>
  (f_glob_Some t.ref.Tag t.rule.Tags).bind fun t3 =>
  some (t2.1 && t3.1)
def f_rule_Picks (r:api_Rule) (repo tag:Str):Option Bool :=
  (f_rule_test_on (rule_test.mk r (api_Ref.mk repo tag []))).bind fun a =>
  if a then
    (f_rule_test_named (rule_test.mk r (api_Ref.mk repo tag []))).bind fun b =>
    if b then f_rule_test_picked (rule_test.mk r (api_Ref.mk repo tag [])) else some false
  else some false
def f_law14_alive:Option (Bool) :=
  (f_rule_To (api_Rule.mk 1 0 ([]:(List Str)) ([]:(List Str)) ([109]:Str) false false true ([]:Str)) ([108,105,98,47,97]:Str)).bind fun t =>
  (f_rule_Picks (api_Rule.mk 1 0 ([]:(List Str)) ([]:(List Str)) ([109]:Str) false false true ([]:Str)) ([108,105,98,47,97]:Str) ([118,49]:Str)).bind fun t2 =>
  some ((t2 && (t.2 == 0)) && (t.1 == ([109,47,108,105,98,47,97]:Str)))
def f_cron_leap (year:Int):Option (Bool) :=
  some ((((year.tmod 4) == 0) && ((year.tmod 100) != 0)) || ((year.tmod 400) == 0))
def f_cron_days (month:Int) (year:Int):Option (Int) :=
  if (month == 2) then
    (f_cron_leap year).bind fun t =>
    if t then
      some 29
    else
      some 28
  else
    if (month == 4) then
      if (month == 4) then
        some 30
      else
        some 31
    else
      if (month == 6) then
        if (month == 6) then
          some 30
        else
          some 31
      else
        if (month == 9) then
          if (month == 9) then
            some 30
          else
            some 31
        else
          if (month == 11) then
            some 30
          else
            some 31
def f_cron_At_l12 (tick:Int):Nat→Int→Int→Option (Int×Int×Int)
  | 0,_,_=>none
  | m_ + 1,n,c =>
    Option.bind (
      (f_cron_leap c).bind fun t =>
      if t then
        some (IntKind.i64.wrap (365+1))
      else
        some 365) fun s:Int =>
    if (decide (n < s)) then
      some (n,s,c)
    else
      f_cron_At_l12 tick m_ (IntKind.i64.wrap (n - s)) (IntKind.i64.wrap (c+1))
def f_cron_At_l16 (tick:Int) (s:Int×Int×Int):Nat→Int→Int→Option (Int×Int)
  | 0,_,_=>none
  | m_ + 1,n,c =>
    (f_cron_days c s.2.2).bind fun t =>
    if (decide (n≥t)) then
      (f_cron_days c s.2.2).bind fun t2 =>
      f_cron_At_l16 tick s m_ (IntKind.i64.wrap (n - t2)) (IntKind.i64.wrap (c+1))
    else
      some (n,c)
def f_cron_At (tick:Int):Option (api_Clock×Int) :=
  if ((decide (tick < 0)) || (decide (tick > 1099511627776))) then
    some ((api_Clock.mk 0 0 0 0 0 0),1)
  else
    Option.bind (f_cron_At_l12 tick 401 ((IntKind.i64.wrap (tick.tdiv 1440)).tmod 146097) (IntKind.i64.wrap (1970+(IntKind.i64.wrap ((IntKind.i64.wrap ((IntKind.i64.wrap (tick.tdiv 1440)).tdiv 146097)) * 400))))) fun s:Int×Int×Int =>
    Option.bind (f_cron_At_l16 tick s 13 s.1 1) fun s2:Int×Int =>
    some ((api_Clock.mk (tick.tmod 60) (IntKind.i64.wrap ((tick.tmod 1440).tdiv 60)) (IntKind.i64.wrap (s2.1+1)) s2.2 s.2.2 ((IntKind.i64.wrap ((IntKind.i64.wrap (tick.tdiv 1440))+4)).tmod 7)),0)
def f_cron_set (bits:Int) (n:Int):Option (Bool) :=
  gd (0≤n) <|
  some ((IntKind.u64.wrap ((BitVec.ofInt IntKind.u64.bits (bits.fdiv (2 ^ (min n.toNat IntKind.u64.bits))) &&& BitVec.ofInt IntKind.u64.bits 1).toNat)) == 1)
def f_cron_Fires (c:api_Cron) (tick:Int):Option (Bool) :=
  (f_cron_At tick).bind fun t =>
  (gx (!(t.2 != 0)) (f_cron_set c.Minutes t.1.Minute) default).bind fun t2 =>
  (gx (!((t.2 != 0) || (!t2))) (f_cron_set c.Hours t.1.Hour) default).bind fun t3 =>
  (gx (!(((t.2 != 0) || (!t2)) || (!t3))) (f_cron_set c.Months t.1.Month) default).bind fun t4 =>
  if ((((t.2 != 0) || (!t2)) || (!t3)) || (!t4)) then
    some false
  else
    if (c.AnyDay && c.AnyWeek) then
      some true
    else
      if c.AnyDay then
        (f_cron_set c.Week t.1.Week).bind fun t5 =>
        some t5
      else
        if c.AnyWeek then
          (f_cron_set c.Days t.1.Day).bind fun t5 =>
          some t5
        else
          (f_cron_set c.Days t.1.Day).bind fun t5 =>
          (gx (!t5) (f_cron_set c.Week t.1.Week) default).bind fun t6 =>
          some (t5 || t6)
def f_rule_Due (rv:api_Rule) (tick:Int):Option (Bool) :=
  (f_cron_Parse rv.Cron).bind fun t =>
  (f_rule_Right rv).bind fun t2 =>
  (gx ((t2 && rv.On) && (t.2 == 0)) (f_cron_Fires t.1 tick) default).bind fun t3 =>
  some (((t2 && rv.On) && (t.2 == 0)) && t3)
def f_law14_RuleNames (rv:api_Rule) (a:Str) (b:Str) (tag:Str):Option (Bool) :=
  (f_law14_few rv).bind fun t =>
  gd (0≤(if 130 < (a.length:Int) then 130 else (a.length:Int))∧(if 130 < (a.length:Int) then 130 else (a.length:Int))≤(a.length:Int)) <|
  gd (0≤(if 130 < (b.length:Int) then 130 else (b.length:Int))∧(if 130 < (b.length:Int) then 130 else (b.length:Int))≤(b.length:Int)) <|
  gd (0≤(if 130 < (tag.length:Int) then 130 else (tag.length:Int))∧(if 130 < (tag.length:Int) then 130 else (tag.length:Int))≤(tag.length:Int)) <|
  (f_rule_To t (cut a 0 (if 130 < (a.length:Int) then 130 else (a.length:Int)))).bind fun t2 =>
  (f_rule_To t (cut b 0 (if 130 < (b.length:Int) then 130 else (b.length:Int)))).bind fun t3 =>
  (gx (((t2.2 == 0) && (t3.2 == 0)) && (!(!((t2.1 == t3.1) == ((cut a 0 (if 130 < (a.length:Int) then 130 else (a.length:Int))) == (cut b 0 (if 130 < (b.length:Int) then 130 else (b.length:Int)))))))) (f_name_Repo t2.1) default).bind fun t4 =>
  (gx (!(((t2.2 == 0) && (t3.2 == 0)) && ((!((t2.1 == t3.1) == ((cut a 0 (if 130 < (a.length:Int) then 130 else (a.length:Int))) == (cut b 0 (if 130 < (b.length:Int) then 130 else (b.length:Int)))))) || (!t4)))) (f_law14_alive) default).bind fun t5 =>
  if ((((t2.2 == 0) && (t3.2 == 0)) && ((!((t2.1 == t3.1) == ((cut a 0 (if 130 < (a.length:Int) then 130 else (a.length:Int))) == (cut b 0 (if 130 < (b.length:Int) then 130 else (b.length:Int)))))) || (!t4))) || (!t5)) then
    some false
  else
    (f_rule_Right (api_Rule.mk t.Id t.From ([]:(List Str)) ([]:(List Str)) t.Prefix t.Override t.Delete true t.Cron)).bind fun t6 =>
    (gx t6 (f_rule_Picks (api_Rule.mk t.Id t.From ([]:(List Str)) ([]:(List Str)) t.Prefix t.Override t.Delete true t.Cron) (cut a 0 (if 130 < (a.length:Int) then 130 else (a.length:Int))) (cut tag 0 (if 130 < (tag.length:Int) then 130 else (tag.length:Int)))) default).bind fun t7 =>
    (gx t6 (f_name_Repo (cut a 0 (if 130 < (a.length:Int) then 130 else (a.length:Int)))) default).bind fun t8 =>
    (gx (t6 && t8) (f_name_Tag (cut tag 0 (if 130 < (tag.length:Int) then 130 else (tag.length:Int)))) default).bind fun t9 =>
    if (t6 && (!(t7 == (t8 && t9)))) then
      some false
    else
      (f_rule_Picks (api_Rule.mk t.Id t.From ([]:(List Str)) ([]:(List Str)) t.Prefix t.Override t.Delete false t.Cron) (cut a 0 (if 130 < (a.length:Int) then 130 else (a.length:Int))) (cut tag 0 (if 130 < (tag.length:Int) then 130 else (tag.length:Int)))).bind fun t10 =>
      (gx (!t10) (f_rule_Due (api_Rule.mk t.Id t.From ([]:(List Str)) ([]:(List Str)) t.Prefix t.Override t.Delete false t.Cron) 0) default).bind fun t11 =>
      some ((!t10) && (!t11))
end Go.Proofs.YtedibjgdangfnaaGreatDoor.V
end

section
namespace Go.Proofs
open Go.Shelf
def Tryz.lays160_ren:Go.Shelf.Ren:=⟨fun | 160=>237 | 232=>249 | 231=>248 | 227=>250 | 234=>252 | 233=>251 | 236=>254 | 235=>253 | 228=>258 | 271=>260 | 151=>259 | 197=>195 | 120=>262 | 152=>261 | 260=>222 | 137=>263 | 119=>264 | 224=>241 | 225=>240 | 217=>239 | 266=>255 | n=>n,fun | 9=>9 | 4=>4 | 3=>3 | 5=>5 | 117=>349 | 116=>348 | 0=>0 | 124=>352 | 21=>21 | 105=>264 | 46=>321 | 119=>332 | 139=>335 | 138=>334 | n=>n,fun | 3=>1 | 4=>2 | n=>n⟩
theorem Tryz.lays160:Go.Proofs.Lays.n160 Tryz.prog Tryz.lays160_ren:={
  mixed:=by kernel_rfl
  f119:=Tryz.func264.trans (congrArg some (by kernel_rfl))
  f120:=Tryz.func262.trans (congrArg some (by kernel_rfl))
  f137:=Tryz.func263.trans (congrArg some (by kernel_rfl))
  f151:=Tryz.func259.trans (congrArg some (by kernel_rfl))
  f152:=Tryz.func261.trans (congrArg some (by kernel_rfl))
  f160:=Tryz.func237.trans (congrArg some (by kernel_rfl))
  f197:=Tryz.func195.trans (congrArg some (by kernel_rfl))
  f217:=Tryz.func239.trans (congrArg some (by kernel_rfl))
  f224:=Tryz.func241.trans (congrArg some (by kernel_rfl))
  f225:=Tryz.func240.trans (congrArg some (by kernel_rfl))
  f227:=Tryz.func250.trans (congrArg some (by kernel_rfl))
  f228:=Tryz.func258.trans (congrArg some (by kernel_rfl))
  f231:=Tryz.func248.trans (congrArg some (by kernel_rfl))
  f232:=Tryz.func249.trans (congrArg some (by kernel_rfl))
  f233:=Tryz.func251.trans (congrArg some (by kernel_rfl))
  f234:=Tryz.func252.trans (congrArg some (by kernel_rfl))
  f235:=Tryz.func253.trans (congrArg some (by kernel_rfl))
  f236:=Tryz.func254.trans (congrArg some (by kernel_rfl))
  f260:=Tryz.func222.trans (congrArg some (by kernel_rfl))
  f266:=Tryz.func255.trans (congrArg some (by kernel_rfl))
  f271:=Tryz.func260.trans (congrArg some (by kernel_rfl))
  t0:=Tryz.underlying0
  a0:=Tryz.isAgg0
  z0:=Tryz.sizeOf0
  v0:=Tryz.zeroValue0
  t3:=Tryz.underlying3
  a3:=Tryz.isAgg3
  z3:=Tryz.sizeOf3
  v3:=Tryz.zeroValue3
  t4:=Tryz.underlying4
  a4:=Tryz.isAgg4
  z4:=Tryz.sizeOf4
  v4:=Tryz.zeroValue4
  t5:=Tryz.underlying5
  a5:=Tryz.isAgg5
  z5:=Tryz.sizeOf5
  v5:=Tryz.zeroValue5
  t9:=Tryz.underlying9
  a9:=Tryz.isAgg9
  z9:=Tryz.sizeOf9
  v9:=Tryz.zeroValue9
  t21:=Tryz.underlying21
  a21:=Tryz.isAgg21
  z21:=Tryz.sizeOf21
  v21:=Tryz.zeroValue21
  t46:=Tryz.underlying321
  a46:=Tryz.isAgg321
  z46:=Tryz.sizeOf321
  v46:=Tryz.zeroValue321
  t105:=Tryz.underlying264
  a105:=Tryz.isAgg264
  z105:=Tryz.sizeOf264
  v105:=Tryz.zeroValue264
  t116:=Tryz.underlying348
  a116:=Tryz.isAgg348
  z116:=Tryz.sizeOf348
  t117:=Tryz.underlying349
  a117:=Tryz.isAgg349
  z117:=Tryz.sizeOf349
  v117:=Tryz.zeroValue349
  t119:=Tryz.underlying332
  a119:=Tryz.isAgg332
  z119:=Tryz.sizeOf332
  t124:=Tryz.underlying352
  a124:=Tryz.isAgg352
  z124:=Tryz.sizeOf352
  v124:=Tryz.zeroValue352
  t138:=Tryz.underlying334
  a138:=Tryz.isAgg334
  z138:=Tryz.sizeOf334
  v138:=Tryz.zeroValue334
  t139:=Tryz.underlying335
  a139:=Tryz.isAgg335
  z139:=Tryz.sizeOf335
  v139:=Tryz.zeroValue335
  g3:=by kernel_rfl
  g4:=by kernel_rfl }
def Tryz.lays219_ren:Go.Shelf.Ren:=⟨fun | 219=>223 | 217=>239 | 225=>240 | 224=>241 | 267=>242 | 266=>255 | 314=>256 | n=>n,fun | 9=>9 | 3=>3 | 4=>4 | 5=>5 | 46=>321 | 146=>342 | 51=>341 | n=>n,fun | 1=>3 | n=>n⟩
theorem Tryz.lays219:Go.Proofs.Lays.n219 Tryz.prog Tryz.lays219_ren:={
  mixed:=by kernel_rfl
  f217:=Tryz.func239.trans (congrArg some (by kernel_rfl))
  f219:=Tryz.func223.trans (congrArg some (by kernel_rfl))
  f224:=Tryz.func241.trans (congrArg some (by kernel_rfl))
  f225:=Tryz.func240.trans (congrArg some (by kernel_rfl))
  f266:=Tryz.func255.trans (congrArg some (by kernel_rfl))
  f267:=Tryz.func242.trans (congrArg some (by kernel_rfl))
  f314:=Tryz.func256.trans (congrArg some (by kernel_rfl))
  t3:=Tryz.underlying3
  a3:=Tryz.isAgg3
  z3:=Tryz.sizeOf3
  v3:=Tryz.zeroValue3
  t4:=Tryz.underlying4
  a4:=Tryz.isAgg4
  z4:=Tryz.sizeOf4
  v4:=Tryz.zeroValue4
  t5:=Tryz.underlying5
  a5:=Tryz.isAgg5
  z5:=Tryz.sizeOf5
  v5:=Tryz.zeroValue5
  t9:=Tryz.underlying9
  a9:=Tryz.isAgg9
  z9:=Tryz.sizeOf9
  v9:=Tryz.zeroValue9
  t46:=Tryz.underlying321
  a46:=Tryz.isAgg321
  z46:=Tryz.sizeOf321
  v46:=Tryz.zeroValue321
  t51:=Tryz.underlying341
  a51:=Tryz.isAgg341
  z51:=Tryz.sizeOf341
  v51:=Tryz.zeroValue341
  t146:=Tryz.underlying342
  a146:=Tryz.isAgg342
  z146:=Tryz.sizeOf342
  v146:=Tryz.zeroValue342
  g1:=by kernel_rfl }
open Go.RowKit Go.Lib in
theorem Tryz.stringslite_Index_one (s:ByteArray) (c:UInt8) (w:World) :
    Calls Tryz.prog 223 #[.string s,.string ⟨#[c]⟩] w fun e w'=>e=.returned (.int .i64 (Lib.indexByte s.data.toList c))∧w'=w:=Any.stringslite_Index_one Tryz.lays219 s c w
def Tryz.lays138_ren:Go.Shelf.Ren:=⟨fun | 138=>213 | 195=>234 | 218=>235 | 143=>196 | 219=>223 | 217=>239 | 225=>240 | 224=>241 | 267=>242 | 266=>255 | 314=>256 | n=>n,fun | 9=>9 | 3=>3 | 4=>4 | 5=>5 | 0=>0 | 46=>321 | 146=>342 | 51=>341 | n=>n,fun | 1=>3 | n=>n⟩
theorem Tryz.lays138:Go.Proofs.Lays.n138 Tryz.prog Tryz.lays138_ren:={
  mixed:=by kernel_rfl
  f138:=Tryz.func213.trans (congrArg some (by kernel_rfl))
  f143:=Tryz.func196.trans (congrArg some (by kernel_rfl))
  f195:=Tryz.func234.trans (congrArg some (by kernel_rfl))
  f217:=Tryz.func239.trans (congrArg some (by kernel_rfl))
  f218:=Tryz.func235.trans (congrArg some (by kernel_rfl))
  f219:=Tryz.func223.trans (congrArg some (by kernel_rfl))
  f224:=Tryz.func241.trans (congrArg some (by kernel_rfl))
  f225:=Tryz.func240.trans (congrArg some (by kernel_rfl))
  f266:=Tryz.func255.trans (congrArg some (by kernel_rfl))
  f267:=Tryz.func242.trans (congrArg some (by kernel_rfl))
  f314:=Tryz.func256.trans (congrArg some (by kernel_rfl))
  t0:=Tryz.underlying0
  a0:=Tryz.isAgg0
  z0:=Tryz.sizeOf0
  v0:=Tryz.zeroValue0
  t3:=Tryz.underlying3
  a3:=Tryz.isAgg3
  z3:=Tryz.sizeOf3
  v3:=Tryz.zeroValue3
  t4:=Tryz.underlying4
  a4:=Tryz.isAgg4
  z4:=Tryz.sizeOf4
  v4:=Tryz.zeroValue4
  t5:=Tryz.underlying5
  a5:=Tryz.isAgg5
  z5:=Tryz.sizeOf5
  v5:=Tryz.zeroValue5
  t9:=Tryz.underlying9
  a9:=Tryz.isAgg9
  z9:=Tryz.sizeOf9
  v9:=Tryz.zeroValue9
  t46:=Tryz.underlying321
  a46:=Tryz.isAgg321
  z46:=Tryz.sizeOf321
  v46:=Tryz.zeroValue321
  t51:=Tryz.underlying341
  a51:=Tryz.isAgg341
  z51:=Tryz.sizeOf341
  v51:=Tryz.zeroValue341
  t146:=Tryz.underlying342
  a146:=Tryz.isAgg342
  z146:=Tryz.sizeOf342
  v146:=Tryz.zeroValue342
  g1:=by kernel_rfl }
open Go.RowKit Go.Lib in
theorem Tryz.strings_Count_one (s:ByteArray) (c:UInt8) (w:World) :
    Calls Tryz.prog 213 #[.string s,.string ⟨#[c]⟩] w fun e w'=>e=.returned (.int .i64 (Lib.countByte s.data.toList c))∧w'=w:=Any.strings_Count_one Tryz.lays138 s c w
end Go.Proofs
end

section
namespace Go.Proofs.YtedibjgdangfnaaGreatDoor.V
open Go Go.RowKit
set_option linter.unusedVariables false
set_option linter.unusedSimpArgs false
theorem Fun.lawG {P:Program} {gl:Gl} {f:FuncId} {xs:List Vb} {b:Bool} {vs:List Value} {w:World} (h:Fun P gl f (xs.map Va.b) (.bo b)) (hg:GlOk gl w (fun k=>k < w.heap.size)) (hx:AtAll w xs vs):Calls P f vs.toArray w fun e w1=>e=.returned (.bool b)∧Below w.heap.size w w1:=by
  obtain ⟨hl,hg2⟩:=hx.get
  refine (h.2 w (fun k=>k < w.heap.size) vs.toArray (fun _ h=>h) hg ⟨by simpa using hl,fun j x hj => ?_⟩).mono fun e w1 => ?_
  · rw [List.getElem?_map,Option.map_eq_some_iff] at hj
    obtain ⟨y,hj,rfl⟩:=hj
    have:=hg2 j y hj
    show At w y _
    simpa [Array.getD_eq_getD_getElem?,List.getD] using this
  · rintro ⟨u,S1,rfl,_,_,hr,hb⟩
    refine ⟨?_,hb⟩
    cases hr with
    | d _ _ h=>cases h with | bool _=>rfl
end Go.Proofs.YtedibjgdangfnaaGreatDoor.V
end

section
namespace Go.Proofs.YtedibjgdangfnaaGreatDoor.V
open Go Go.RowKit
set_option linter.unusedVariables false
set_option linter.unusedSimpArgs false
structure Kp (S:Nat→Prop) (w w1:World):Prop where
  os:w1.os=w.os
  tape:w1.tape=w.tape
  output:w1.output=w.output
  size:w.heap.size≤w1.heap.size
  block:∀ b,S b→b < w.heap.size→w1.heap[b]? = w.heap[b]?
theorem Kp.refl (S:Nat→Prop) (w:World):Kp S w w:=⟨rfl,rfl,rfl,Nat.le_refl _,fun _ _ _=>rfl⟩
theorem Kp.trans {S:Nat→Prop} {w w1 w2:World} (h:Kp S w w1) (h2:Kp S w1 w2):Kp S w w2 :=
  ⟨h2.os.trans h.os,h2.tape.trans h.tape,h2.output.trans h.output,Nat.le_trans h.size h2.size,fun b hb hl=>(h2.block b hb (Nat.lt_of_lt_of_le hl h.size)).trans (h.block b hb hl)⟩
theorem Kp.mono {S S1:Nat→Prop} {w w1:World} (h:Kp S w w1) (hs:∀ b,S1 b→b < w.heap.size→S b):Kp S1 w w1:=⟨h.os,h.tape,h.output,h.size,fun b hb hl=>h.block b (hs b hb hl) hl⟩
theorem Kp.of_below {S:Nat→Prop} {w w1:World} (h:Below w.heap.size w w1):Kp S w w1:=⟨h.os,h.tape,h.output,h.size,fun b _ hl=>h.block b hl⟩
theorem Kp.below {S:Nat→Prop} {B:Nat} {w w1:World} (h:Kp S w w1) (hs:∀ b,b < B→S b) (hB:B≤w.heap.size):Below B w w1:=⟨h.os,h.tape,h.output,h.size,fun b hb=>h.block b (hs b hb) (Nat.lt_of_lt_of_le hb hB)⟩
theorem Kp.alloc (S:Nat→Prop) (w:World) (o:Obj):Kp S w (w.alloc o):=⟨rfl,rfl,rfl,by simp,fun b _ hl=>Below.heap_alloc w o b hl⟩
theorem Kp.putObj {S:Nat→Prop} (w:World) (l:Nat) (o:Obj) (h:¬ S l):Kp S w (w.putObj l o):=⟨rfl,rfl,rfl,by rw [World.putObj_size];exact Nat.le_refl _,fun b hb _=>World.putObj_heap_other (by rintro rfl;exact h hb)⟩
theorem Kp.setCell {S:Nat→Prop} (w:World) (b o:Nat) (v:Value) (h:¬ S b):Kp S w (w.setCell ⟨b,o,none⟩ v):=by
  refine ⟨rfl,rfl,rfl,by show w.heap.size≤(w.heap.modify _ _).size;rw [Array.size_modify];exact Nat.le_refl _,fun k hk hl => ?_⟩
  exact Below.heap_setCell w ⟨b,o,none⟩ v k (by rintro rfl;exact h hk)
def Hands (P:Program) (k:FuncId) (lb:Array Value) (T:Nat→Prop) (xs:List Str) (enc:Str→Array Value) (w:World):Prop :=
  ∀ (l : Nat) (J Jx:List Str→World→Prop) (W:World),Kp (fun _=>True) w W →
    (∀ pre W W',J pre W→Kp (fun b=>¬ T b) W W'→J pre W') →
    (∀ pre W W',Jx pre W→Kp (fun b=>¬ T b) W W'→Jx pre W') →
    (∀ pre x W,J pre W→pre++[x] <+: xs→YieldAt Fence.wide 0 P l (enc x) W fun e W' =>
      (e=.returned (.bool true)∧J (pre++[x]) W'∧Kp T W W')∨(e=.returned (.bool false)∧Jx (pre++[x]) W')) →
    J [] W →
    Calls P k (#[.func (.yield l) #[] #[]]++lb) W fun e W'=>(∃ v,e=.returned v)∧(J xs W'∨∃ pre,pre <+: xs∧Jx pre W')
def handsPost (B:Nat) (I:List Str→World→Prop) (Ix:Code→List Str→World→Prop) (xs:List Str) (W:World):Exit→Act→World→Prop
  | .normal,_,W'=>Kp (fun b=>B≤b) W W'∧I xs W'
  | .ret,_,W'=>Kp (fun b=>B≤b) W W'∧Ix .ret xs W'
  | .exit id,_,W'=>Kp (fun b=>B≤b) W W'∧Ix (.exit id) xs W'
  | _,_,_=>False
variable {P:Program}
theorem yieldAt_any {m n:Nat} {l:Nat} {args:Array Value} {W:World} {R:Ending→World→Prop} (h:YieldAt Fence.wide m P l args W R):YieldAt Fence.wide n P l args W R:=by
  obtain ⟨fn,tmps,assign,body,h1,h2,h3⟩:=h
  exact ⟨fn,tmps,assign,body,h1,h2,fun c cs _=>h3 c cs (room_wide _)⟩
set_option maxHeartbeats 1000000 in
theorem wp_range {g:Operand} {ps:Array Tmp} {assign body:Code} {Q:Exit→Act→World→Prop} {a:Act} {w:World} {n B:Nat}
    {gf:Nat} {lb:Array Value} (hg:a.eval g=.func (.func gf) #[] lb) (eg:∀ args w,(callFunc gf args).run P w=.ok (.enter gf args) w)
    {T:Nat→Prop} {xs:List Str} {enc:Str→Array Value} (hit:Hands P gf lb T xs enc w) (hT:∀ b,T b→B≤b∧b < w.heap.size) (hps:∀ x,(enc x).size=ps.size)
    (I:List Str→World→Prop) (Ix:Code→List Str→World→Prop)
    (hI:∀ pre W W',I pre W→Kp (fun b=>b < B) W W'→I pre W')
    (hIx:∀ c pre W W',Ix c pre W→Kp (fun b=>b < B) W W'→Ix c pre W')
    (hBw:B≤w.heap.size) (h0:I [] w) (a₁:Str→Act)
    (hassign:∀ (l:Nat) (x:Str) (W:World) (K:Act→World→Prop),K (a₁ x) W →
      assign.wpIn (Fence.wide.inRound l) n P (Exit.then K (fun _ _ _=>False)) { tmps:=(ps.zip (enc x)).foldl (fun t (p,v)=>t.setIfInBounds p v) a.tmps,defers:=[] } W)
    (hbody:∀ (l:Nat) (pre:List Str) (x:Str) (W:World),I pre W→B≤W.heap.size→pre++[x] <+: xs→body.wpIn (Fence.wide.inRound l) n P (handsPost B I Ix (pre++[x]) W) (a₁ x) W)
    (hdone:∀ (D:Nat) (W:World),I xs W→B≤D→W.heap[D]? = some (.deferred (some []))→Q .normal { a with defers:={ target:=.collected D,args := #[] } :: a.defers } W)
    (hstop:∀ (D:Nat) (c:Code) (pre:List Str) (W:World),Ix c pre W→pre <+: xs→B≤D→W.heap[D]? = some (.deferred (some []))→c.wpIn Fence.wide n P Q { a with defers:={ target:=.collected D,args := #[] } :: a.defers } W) :
    (Code.rangeFunc g ps assign body).wpIn Fence.wide n P Q a w:=by
  refine wpIn_rangeFunc ?_
  intro fn hfn
  obtain ⟨rec,hrec⟩:∃ rec:LoopState→Option Code→Loop,rec=fun st pe=>{ state:=st,pending:=pe,fn,tmps:=a.tmps,params:=ps,assign,body,defers:=w.heap.size }:=⟨_,rfl⟩
  obtain ⟨W1,hW1⟩:∃ W1,(w.alloc (.deferred (some []))).alloc (.loop (rec .ready none))=W1:=⟨_,rfl⟩
  have k1:Kp (fun _=>True) w W1:=by rw [← hW1];exact (Kp.alloc _ _ _).trans (Kp.alloc _ _ _)
  have s1:W1.heap.size=w.heap.size+2:=by rw [← hW1];simp
  have l1:W1.heap[w.heap.size+1]? = some (.loop (rec .ready none)):=by
    rw [← hW1];have:=World.alloc_heap_new (w.alloc (.deferred (some []))) (.loop (rec .ready none));rwa [World.size_alloc] at this
  have d1:W1.heap[w.heap.size]? = some (.deferred (some [])):=by
    rw [← hW1];exact (Below.heap_alloc _ _ _ (by simp)).trans (World.alloc_heap_new w _)
  have i1:I [] W1:=hI _ _ _ h0 (k1.mono fun _ _ _=>trivial)
  refine ⟨w.heap.size+1,[{ target:=.collected w.heap.size,args := #[] }],W1,{ target:=.fn (.func gf) lb,args := #[.func (.yield (w.heap.size+1)) #[] #[]] },W1,gf,#[.func (.yield (w.heap.size+1)) #[] #[]]++lb,W1,?_,?_,?_,?_,(fun h=>absurd h (by decide)),?_⟩
  · rw [← hW1,hrec];exact run_enterLoop_outer _ _ _ _ _
  · simp only [resolve,hg]
    simp [go_sem]
  · intro f' hf';trivial
  · simp [invoke,go_sem,eg]
  · rw [callsIn_wide]
    have pb:∀ (W:World) (o:Obj),Kp (fun b=>b < B) W (W.putObj (w.heap.size+1) o):=fun W o=>.putObj _ _ _ (by omega)
    have nT:∀ b,w.heap.size≤b→¬ T b:=fun b hb ht=>by have:=(hT b ht).2;omega
    have sub:∀ b,b < B→¬ T b:=fun b hb ht=>by have:=(hT b ht).1;omega
    refine (hit (w.heap.size+1)
      (fun pre W=>I pre W∧W.heap[w.heap.size+1]? = some (.loop (rec .ready none))∧W.heap[w.heap.size]? = some (.deferred (some [])))
      (fun pre W=>∃ c,Ix c pre W∧W.heap[w.heap.size+1]? = some (.loop (rec .done (some c)))∧W.heap[w.heap.size]? = some (.deferred (some [])))
      W1 k1 ?_ ?_ ?_ ⟨i1,l1,d1⟩).mono ?_
    · rintro pre W W' ⟨h1,h2,h3⟩ hk
      have q2:=(Array.getElem?_eq_some_iff.1 h2).1
      exact ⟨hI _ _ _ h1 (hk.mono fun b hb _=>sub b hb),(hk.block _ (nT _ (by omega)) q2).trans h2,(hk.block _ (nT _ (Nat.le_refl _)) (by omega)).trans h3⟩
    · rintro pre W W' ⟨c,h1,h2,h3⟩ hk
      have q2:=(Array.getElem?_eq_some_iff.1 h2).1
      exact ⟨c,hIx _ _ _ _ h1 (hk.mono fun b hb _=>sub b hb),(hk.block _ (nT _ (by omega)) q2).trans h2,(hk.block _ (nT _ (Nat.le_refl _)) (by omega)).trans h3⟩
    · rintro pre x W ⟨hi,hl,hk⟩ hpre
      have hlt:w.heap.size+1 < W.heap.size:=(Array.getElem?_eq_some_iff.1 hl).1
      have hy:=run_yield (P:=P) (args:=enc x) hl (by rw [hrec];exact hps x)
      rw [hrec] at hy
      refine yieldAt_any (m:=n) ⟨fn,_,assign,body,hy,roundIn_of_wpIn hfn (hassign _ x W _ ⟨_,run_beginRound hl (by rw [hrec]),?_⟩)⟩
      obtain ⟨W2,hW2⟩:∃ W2,W.putObj (w.heap.size+1) (.loop { rec .ready none with state:=.busy })=W2:=⟨_,rfl⟩
      have p2:Kp (fun b=>b ≠ w.heap.size+1) W W2:=by rw [← hW2];exact .putObj _ _ _ (fun h=>h rfl)
      have z2:W2.heap.size=W.heap.size:=by rw [← hW2];exact World.putObj_size
      have l2:W2.heap[w.heap.size+1]? = some (.loop { rec .ready none with state:=.busy }):=by rw [← hW2];exact World.putObj_heap_same hlt
      have d2:W2.heap[w.heap.size]? = some (.deferred (some [])):=(p2.block _ (by omega) (by omega)).trans hk
      have i2:I pre W2:=hI _ _ _ hi (p2.mono fun b hb _=>by omega)
      rw [hW2]
      refine wpIn_mono (hbody _ pre x _ i2 (by omega) hpre) ?_
      have fin:∀ (jump:Option Code) (W3:World),Kp (fun b=>B≤b) W2 W3 →
          (Instr.endRound (w.heap.size+1) jump).run P W3=.ok (.bool jump.isNone) (W3.putObj (w.heap.size+1) (.loop (rec (if jump.isNone then .ready else .done) jump))) ∧
          (W3.putObj (w.heap.size+1) (.loop (rec (if jump.isNone then .ready else .done) jump))).heap[w.heap.size+1]? = some (.loop (rec (if jump.isNone then .ready else .done) jump)) ∧
          (W3.putObj (w.heap.size+1) (.loop (rec (if jump.isNone then .ready else .done) jump))).heap[w.heap.size]? = some (.deferred (some [])) ∧
          Kp T W (W3.putObj (w.heap.size+1) (.loop (rec (if jump.isNone then .ready else .done) jump))):=fun jump W3 hk3=>by
        have hl3:=(hk3.block _ (by omega) (by omega)).trans l2
        have hd3:=(hk3.block _ hBw (by omega)).trans d2
        have:=run_endRound (P:=P) jump hl3
        rw [hrec] at this ⊢
        refine ⟨this,World.putObj_heap_same (Array.getElem?_eq_some_iff.1 hl3).1,(World.putObj_heap_other (by omega)).trans hd3,((p2.mono fun b hb _ => ?_).trans (hk3.mono fun b hb _=>(hT b hb).1)).trans (.putObj _ _ _ fun hb => ?_)⟩
        · have:=(hT b hb).2;omega
        · have:=(hT _ hb).2;omega
      rintro e a3 W3 hp
      cases e with
      | normal =>
        obtain ⟨hk3,hi3⟩:=hp
        obtain ⟨hr,hl4,hk4,ht4⟩:=fin none W3 hk3
        exact ⟨_,_,hr,.inl ⟨rfl,⟨hI _ _ _ hi3 (pb _ _),hl4,hk4⟩,ht4⟩⟩
      | ret =>
        obtain ⟨hk3,hi3⟩:=hp
        obtain ⟨hr,hl4,hk4,ht4⟩:=fin (some .ret) W3 hk3
        exact ⟨_,_,hr,.inr ⟨rfl,.ret,hIx _ _ _ _ hi3 (pb _ _),hl4,hk4⟩⟩
      | exit id =>
        obtain ⟨hk3,hi3⟩:=hp
        obtain ⟨hr,hl4,hk4,ht4⟩:=fin (some (.exit id)) W3 hk3
        exact ⟨_,_,hr,.inr ⟨rfl,.exit id,hIx _ _ _ _ hi3 (pb _ _),hl4,hk4⟩⟩
      | goto t=>exact hp.elim
      | panic ch=>exact hp.elim
      | outgrown=>exact hp.elim
    · rintro e W2 ⟨⟨v,rfl⟩,(⟨hi,hl,hk⟩ | ⟨pre,hp,c,hi,hl,hk⟩)⟩
      · have:=run_endLoop (P:=P) hl (by rw [hrec];simp)
        rw [hrec] at this
        exact ⟨none,_,this,hdone _ _ (hI _ _ _ hi (pb _ _)) hBw ((World.putObj_heap_other (by omega)).trans hk)⟩
      · have:=run_endLoop (P:=P) hl (by rw [hrec];simp)
        rw [hrec] at this
        exact ⟨some c,_,this,hstop _ c pre _ (hIx _ _ _ _ hi (pb _ _)) hp hBw ((World.putObj_heap_other (by omega)).trans hk)⟩
theorem Fun.flatG {gl:Gl} {f:FuncId} {xs:List Va} {y:Va} {v:Value} (hc:callable P f=true) (hy:∀ w S,RepV w S (fun _=>none) (fun _=>none) y v) (h:∀ w (S:Nat→Prop) vs,(∀ k,S k→k < w.heap.size)→GlOk gl w S→RepA w S xs vs→Calls P f vs w fun e w1=>e=.returned v∧Below w.heap.size w w1):Fun P gl f xs y:=by
  refine ⟨hc,fun w S vs hS hgl hA=>(h w S vs hS hgl hA).mono fun e w1 => ?_⟩
  rintro ⟨rfl,hb⟩
  exact ⟨v,S,rfl,fun _ h=>h,fun k hk=>⟨.inl hk,Nat.lt_of_lt_of_le (hS k hk) hb.size⟩,hy _ _,hb⟩
theorem FunO.frozen {gl:Gl} {f:FuncId} {xs:List Va} {st:Nat} {rows:List (List Sc)} (h:FunO P gl f xs st rows):Fun P gl f xs (.b (.s (.d (.sl rows)))):=by
  refine ⟨h.1,fun w S vs hS hgl hA=>(h.2 w S vs hS hgl hA).mono fun e w1 => ?_⟩
  rintro ⟨u,S1,ρ1,rfl,k1,k2,k3,k5,k4⟩
  have hbk:=k3.blk 0 ⟨st,rows.map (fun r=>r.map Lc.d),false⟩ (by simp [updG])
  refine ⟨u,fun k=>S1 k∨ρ1 0=some k,rfl,fun k hk=>.inl (k1 k hk),fun k hk => ?_,?_,k4⟩
  · rcases hk with hk | hk
    · exact k2 k hk
    · exact ⟨.inr (B0.ok_iff.1 (k3.own 0 k hk)),k3.bound hk⟩
  · refine .d _ _ ?_
    cases k5 with
    | own _ _ e0 _ hG0 hn hone hh =>
      simp only [updG,if_true,Option.some.injEq] at hG0
      subst hG0
      obtain ⟨a,c,rfl,hd⟩:=hh (by simp)
      have hrl:∀ r,r∈rows→r.length=st:=fun r hr=>by have:=hbk.1 (r.map Lc.d) (List.mem_map.2 ⟨r,hr,rfl⟩);simpa using this
      rcases hd with ⟨h0,rfl⟩ | ⟨b,arr,ty,fz,h1,rfl,h3,h4,h5⟩
      · obtain rfl:rows=[]:=List.length_eq_zero_iff.1 h0
        exact .sl [] a 0 0 0 0 (fun _=>undef) (by simp) (fun _=>rfl) (fun r hr=>by cases hr) (fun h=>absurd rfl h) (fun j sc h=>by simp at h) (fun j sc h=>by simp at h)
      · rcases hbk.2 with ⟨g1,_⟩ | ⟨b1,arr1,ty1,fz1,g1,g2,g3,g4,g5⟩
        · rw [h1] at g1;cases g1
        · rw [h1] at g1;cases g1
          rw [h4] at g3;cases g3
          have key:∀ (j:Nat) sc,rows.flatten[j]? = some sc→∃ v,arr[j]? = some v∧RepD w1 S1 sc v:=by
            intro j sc hj
            obtain ⟨v,q1,q2⟩:=g5 j (.d sc) (by rw [map_d_flatten,List.getElem?_map,hj];rfl)
            cases q2 with | d _ _ q2=>exact ⟨v,q1,q2⟩
          refine .sl rows _ c st b 0 (fun j=>arr.getD j undef) h3 (fun h=>by cases h) hrl (fun _=>⟨rfl,.inr h1⟩) (fun j sc hj => ?_) (fun j sc hj => ?_)
          · obtain ⟨v,q1,q2⟩:=key j sc hj
            rw [Nat.zero_add]
            simp [World.cell?,h4,q1,Array.getD_eq_getD_getElem?]
          · obtain ⟨v,q1,q2⟩:=key j sc hj
            rw [Array.getD_eq_getD_getElem?,q1]
            exact q2.mono (fun k hk=>.inl hk) (fun _ _=>rfl)
theorem GlOk.later {gl:Gl} {w w1:World} {S:Nat→Prop} (hS:∀ k,S k→k < w.heap.size) (hG:GlOk gl w S) (hb:Below w.heap.size w w1):GlOk gl w1 S:=fun g cs hg=>(hG g cs hg).mono (fun _ h=>h) (fun k hk=>hb.block k (hS k hk))
theorem Fun.boolAt {gl:Gl} {f:FuncId} {xs:List Va} {b:Bool} {w w1:World} {S:Nat→Prop} {vs:Array Value} (h:Fun P gl f xs (.bo b)) (hS:∀ k,S k→k < w.heap.size) (hG:GlOk gl w S) (hb:Below w.heap.size w w1) (hA:RepA w1 S xs vs):Calls P f vs w1 fun e w'=>e=.returned (.bool b)∧Below w1.heap.size w1 w' :=
  (h.2 w1 S vs (fun k hk=>Nat.lt_of_lt_of_le (hS k hk) hb.size) (hG.later hS hb) hA).mono fun e w'=>by
    rintro ⟨u,S1,rfl,_,_,hr,hb⟩
    refine ⟨?_,hb⟩
    cases hr with
    | d _ _ h=>cases h with | bool _=>rfl
theorem repA_str {w:World} {S:Nat→Prop} (x:List UInt8):RepA w S [.b (.s (.d (.str x)))] #[strV x]:=by
  refine ⟨rfl,fun j y hj => ?_⟩
  cases j with
  | zero=>simp only [List.getElem?_cons_zero,Option.some.injEq] at hj;subst hj;exact .d _ _ (.str _)
  | succ j=>simp at hj
theorem repV_two {w:World} {S:Nat→Prop} {x y:Sc} {u v:Value} (h1:RepD w S x u) (h2:RepD w S y v):RepV w S (fun _=>none) (fun _=>none) (.tup [.s (.d x),.s (.d y)]) (.tuple #[u,v]):=by
  refine ⟨_,rfl,rfl,fun j z hj => ?_⟩
  match j,hj with
  | 0,hj=>cases hj;exact .d _ _ h1
  | 1,hj=>cases hj;exact .d _ _ h2
theorem repA_two {w:World} {S:Nat→Prop} {x y:Va} {u v:Value} (h1:RepV w S (fun _=>none) (fun _=>none) x u) (h2:RepV w S (fun _=>none) (fun _=>none) y v):RepA w S [x,y] #[u,v]:=by
  refine ⟨rfl,fun j z hj => ?_⟩
  match j,hj with
  | 0,hj=>cases hj;exact h1
  | 1,hj=>cases hj;exact h2
end Go.Proofs.YtedibjgdangfnaaGreatDoor.V
end

section
namespace Go.Proofs.YtedibjgdangfnaaGreatDoor
open Go.RowKit
set_option linter.unusedVariables false
set_option linter.unusedSimpArgs false
open V
attribute [local go_sem] Oper.semAt_some
theorem cell_of_block {w w1:World} {b:Nat} (h:w1.heap[b]? = w.heap[b]?) (o:Nat):w1.cell? ⟨b,o,none⟩=w.cell? ⟨b,o,none⟩:=World.cell?_of_block (w:=w) h
theorem frozen_of_block {w w1:World} {b:Nat} (h:w1.heap[b]? = w.heap[b]?) (o:Nat):w1.frozen? ⟨b,o,none⟩=w.frozen? ⟨b,o,none⟩:=by simp [World.frozen?,h]
def strLen (w:World) (a:Addr):Nat:=match w.cell? a with
  | some (.string l)=>l.size
  | _=>0
theorem ext_drop (l:List UInt8) (k:Nat):(⟨⟨l⟩⟩:ByteArray).extract k l.length=⟨⟨l.drop k⟩⟩:=by
  apply ByteArray.ext;simp [List.take_of_length_le]
set_option maxHeartbeats 4000000 in
theorem splitSeq_hands (c:UInt8) (s:List UInt8) (bp bs bz:Nat) (w:World) (hlen:s.length≤140737488355328) (hp:w.cell? ⟨bp,0,none⟩=some (strV [c])) (hs:w.cell? ⟨bs,0,none⟩=some (strV s)) (hz:w.cell? ⟨bz,0,none⟩=some (.int .i64 0)) (hf:w.frozen? ⟨bs,0,none⟩=false) (n1:bp ≠ bs) (n2:bz ≠ bs) :
    Hands Tryz.prog 194 #[.pointer (some ⟨bp,0,none⟩),.pointer (some ⟨bs,0,none⟩),.pointer (some ⟨bz,0,none⟩)] (fun b=>b=bp∨b=bs∨b=bz) (splitOnB c s) (fun x => #[strV x]) w:=by
  intro l J Jx W hW hJ hJx hY h0
  have hp0:=(cell_of_block (hW.block bp trivial (cell?_lt hp)) 0).trans hp
  have hs0:=(cell_of_block (hW.block bs trivial (cell?_lt hs)) 0).trans hs
  have hz0:=(cell_of_block (hW.block bz trivial (cell?_lt hz)) 0).trans hz
  have hf0:=(frozen_of_block (hW.block bs trivial (cell?_lt hs)) 0).trans hf
  refine (callsIn_wide (n:=3)).1 ?_
  refine callsIn_of_wp Tryz.func194 rfl trivial ?_ rfl
  simp only [Tryz.ntmps194,List.size_toArray,List.length_cons,List.length_nil,Nat.reduceAdd,Nat.reduceSub,Array.replicate_succ,Array.replicate_zero,List.push_toArray,List.append_toArray,List.nil_append,List.cons_append]
  have hidx:∀ (x:List UInt8) (W:World),Calls Tryz.prog 196 #[.string ⟨⟨x⟩⟩,.string ⟨#[c]⟩] W fun e W'=>e=.returned (.int .i64 (Lib.indexByte x c))∧W'=W:=by
    intro x W
    go_enter Tryz.func196,Tryz.ntmps196
    go_wp2_with (go_at_call 223;refine (Tryz.stringslite_Index_one ⟨⟨x⟩⟩ c W).mono ?_;rintro e W' ⟨rfl,rfl⟩)
    go_ret
    exact ⟨rfl,rfl⟩
  have hsv:∀ x:List UInt8,strV x=.string ⟨⟨x⟩⟩:=fun _=>rfl
  have hsc:strV [c]=.string ⟨#[c]⟩:=rfl
  rw [hsc] at hp0
  rw [hsv] at hs0
  gi_wp2
  gi_loopw [7] (fun i wr=>∃ (pre:List (List UInt8)) (rest:List UInt8),splitOnB c s=pre++splitOnB c rest∧rest.length≤140737488355328∧wr.cell? ⟨bs,0,none⟩=some (.string ⟨⟨rest⟩⟩)∧wr.frozen? ⟨bs,0,none⟩=false∧wr.cell? ⟨bp,0,none⟩=some (.string ⟨#[c]⟩)∧wr.cell? ⟨bz,0,none⟩=some (.int .i64 0)∧J pre wr) (fun i wr=>strLen wr ⟨bs,0,none⟩)
  case atStart =>
    exact ⟨[],s,rfl,hlen,hs0,hf0,hp0,hz0,h0⟩
  case round =>
    obtain ⟨pre,rest,hx,hl,hc1,hc2,hc3,hc4,hJ1⟩:=hrel
    gi_wp2
    refine ⟨trivial,?_⟩
    refine (callsIn_wide.2 (hidx rest wr)).mono ?_
    rintro e W2 ⟨rfl,rfl⟩
    dsimp only
    by_cases hneg:Lib.indexByte rest c < 0
    · have h1:=splitOnB_none hneg
      obtain ⟨fn,tmps,assign,body,hy,hR⟩:=yieldAt_any (n:=2) (hY pre rest W2 hJ1 (by rw [hx,h1];exact List.prefix_refl _))
      rw [hsv] at hy
      gi_wp2
      refine hR.mono ?_
      rintro e W3 (⟨rfl,hJ3,hk3⟩ | ⟨rfl,hJx3⟩)
      · gi_wp2
        go_end0
        exact ⟨⟨_,rfl⟩,.inl (by rw [hx,h1];exact hJ3)⟩
      · gi_wp2
        go_end0
        exact ⟨⟨_,rfl⟩,.inr ⟨_,by rw [hx,h1];exact List.prefix_refl _,hJx3⟩⟩
    · obtain ⟨i,hi,hil,h1⟩:=splitOnB_some hneg
      have hex:(⟨⟨rest⟩⟩:ByteArray).extract 0 i=⟨⟨rest.take i⟩⟩:=by
        apply ByteArray.ext;simp
      obtain ⟨fn,tmps,assign,body,hy,hR⟩:=yieldAt_any (n:=2) (hY pre (rest.take i) W2 hJ1 (by rw [hx,h1];exact ⟨splitOnB c (rest.drop (i+1)),by simp⟩))
      rw [hsv] at hy
      rw [hi] at hneg ⊢
      gi_wp2
      refine hR.mono ?_
      rintro e W3 (⟨rfl,hJ3,hk3⟩ | ⟨rfl,hJx3⟩)
      · have q1:=(cell_of_block (hk3.block bs (.inr (.inl rfl)) (cell?_lt hc1)) 0).trans hc1
        have q2:=(frozen_of_block (hk3.block bs (.inr (.inl rfl)) (cell?_lt hc1)) 0).trans hc2
        have q3:=(cell_of_block (hk3.block bp (.inl rfl) (cell?_lt hc3)) 0).trans hc3
        have q4:=(cell_of_block (hk3.block bz (.inr (.inr rfl)) (cell?_lt hc4)) 0).trans hc4
        gi_wp2
        go_roundw
        case rel =>
          refine ⟨pre++[rest.take i],rest.drop (i+1),by rw [hx,h1];simp,by simp;omega,?_,?_,?_,?_,?_⟩
          · rw [World.cell?_setCell_same' _ _ _ (by rw [q1];rfl),ext_drop]
          · rw [World.frozen?_setCell];exact q2
          · exact (World.cell?_setCell_other _ _ _ _ (by intro e;injection e with e;exact n1 e.symm)).trans q3
          · exact (World.cell?_setCell_other _ _ _ _ (by intro e;injection e with e;exact n2 e.symm)).trans q4
          · exact hJ _ _ _ hJ3 (.setCell _ _ _ _ (by simp))
        case measure =>
          have e1:strLen (W3.setCell ⟨bs,0,none⟩ (.string ((⟨⟨rest⟩⟩:ByteArray).extract (i+1) rest.length))) ⟨bs,0,none⟩=rest.length - (i+1):=by
            rw [strLen,World.cell?_setCell_same' _ _ _ (by rw [q1];rfl),ext_drop]
            show (rest.drop (i+1)).length=_
            simp
          have e2:strLen W2 ⟨bs,0,none⟩=rest.length:=by rw [strLen,hc1];rfl
          omega
      · gi_wp2
        refine bodyPost_ret (results_none rfl _ _ _) rfl ?_
        exact ⟨⟨_,rfl⟩,.inr ⟨_,by rw [hx,h1];exact ⟨splitOnB c (rest.drop (i+1)),by simp⟩,hJx3⟩⟩
end Go.Proofs.YtedibjgdangfnaaGreatDoor
end

section
namespace Go.Proofs.YtedibjgdangfnaaGreatDoor
open Go.RowKit
set_option linter.unusedVariables false
set_option linter.unusedSimpArgs false
open V
attribute [local go_sem] Oper.semAt_some
theorem cs_other {w:World} {a b:Addr} {u v:Value} (hv:w.cell? b=some v) (h:a.block ≠ b.block):(w.setCell a u).cell? b=some v:=by
  rw [World.cell?_setCell_other (a:=a) (b:=b) (h:=fun e=>h (by rw [e]))];exact hv
theorem splitSeq_newC (s:List UInt8) (c:UInt8) (w:World):Calls Tryz.prog 79 #[.string ⟨⟨s⟩⟩,.string ⟨#[c]⟩] w fun e w'=>e=.returned (.func (.func 194) #[] #[.pointer (some ⟨w.heap.size+1,0,none⟩),.pointer (some ⟨w.heap.size,0,none⟩),.pointer (some ⟨w.heap.size+1+1,0,none⟩)]) ∧
    Below w.heap.size w w'∧w'.heap.size=w.heap.size+3∧w'.cell? ⟨w.heap.size+1,0,none⟩=some (strV [c])∧w'.cell? ⟨w.heap.size,0,none⟩=some (strV s)∧w'.cell? ⟨w.heap.size+1+1,0,none⟩=some (.int .i64 0)∧w'.frozen? ⟨w.heap.size,0,none⟩=false:=by
  go_enter Tryz.func79,Tryz.ntmps79
  go_wp2
  go_ret
  have b1:=(((Below.refl w.heap.size w).alloc (Nat.le_refl _) (.cells #[.string ⟨⟨s⟩⟩] 9)).alloc (by simp) (.cells #[.string ⟨#[c]⟩] 9)).alloc (by simp;omega) (.cells #[.int .i64 0] 3)
  refine ⟨rfl,b1,by simp,?_,?_,?_,?_⟩
  · rw [World.cell?_alloc_past _ _ _ (by simp),World.cell?_alloc_at _ _ _ _ (by simp)];rfl
  · rw [World.cell?_alloc_past _ _ _ (by simp;omega),World.cell?_alloc_past _ _ _ (by simp),World.cell?_alloc_at _ _ _ _ (by simp)];rfl
  · rw [World.cell?_alloc_at _ _ _ _ (by simp)];rfl
  · rw [World.frozen?_alloc_past _ _ _ (by simp;omega),World.frozen?_alloc_past _ _ _ (by simp),World.frozen?_alloc_at _ _ _ _ rfl]
def flatDescC:TypeDesc→Bool
  | .struct _=>false
  | .array _ _=>false
  | _=>true
theorem run_loadVar_flatC {P:Program} {w:World} {ty:TypeId} {a:Addr} {v:Value} {d:TypeDesc} (hu:P.underlying ty=some d) (hd:flatDescC d=true) (hc:w.cell? a=some v):(loadVar ty a).run P w=.ok v w:=by
  cases d <;> first | (cases hd;done) | simp [loadVar,isAgg,underlying,hu,hc,Result.andThen,Sem.run_bind]
theorem results_cell2 {P:Program} {w:World} {fn:Func} {p q:Tmp} {ty t2:TypeId} {a b:Addr} {v u:Value} {d d2:TypeDesc} (h:fn.results = #[.cell p ty,.cell q t2]) (tmps:Array Value) (hp:tmps.getD p undef=.pointer (some a)) (hq:tmps.getD q undef=.pointer (some b)) (hu:P.underlying ty=some d) (hu2:P.underlying t2=some d2) (hd:flatDescC d=true) (hd2:flatDescC d2=true) (hc:w.cell? a=some v) (hc2:w.cell? b=some u):(results fn tmps).run P w=.ok (.tuple #[v,u]) w:=by
  have hp':tmps[p]?.getD undef=.pointer (some a):=by simpa using hp
  have hq':tmps[q]?.getD undef=.pointer (some b):=by simpa using hq
  simp [results,h,hp',hq',asAddr,run_loadVar_flatC hu hd hc,run_loadVar_flatC hu2 hd2 hc2,Sem.run_bind,Result.andThen]
def errV:Bool→Value
  | false=>.nilIface
  | true=>.iface 205 (.agg #[])
def preF (f:List UInt8→Option (Int×Bool)):Int→List (List UInt8)→Option Int
  | n,[]=>some n
  | n,x :: l=>(f x).bind fun r=>if r.2 then none else preF f (orU n r.1) l
theorem foldF_pre {f:List UInt8→Option (Int×Bool)}:∀ {pre l:List (List UInt8)} {n m:Int} {y:Int×Bool},preF f n pre=some m→foldF f n (pre++l)=some y→foldF f m l=some y
  | [],l,n,m,y,h,h1=>by cases h;exact h1
  | x :: pre,l,n,m,y,h,h1=>by
    rw [preF] at h
    obtain ⟨r,hr,h⟩:=Option.bind_eq_some_iff.1 h
    rw [List.cons_append,foldF,hr,Option.bind_some] at h1
    split at h
    · cases h
    · rename_i hn
      rw [if_neg hn] at h1
      exact foldF_pre h h1
theorem preF_snoc {f:List UInt8→Option (Int×Bool)}:∀ {pre:List (List UInt8)} {x:List UInt8} {n m v:Int},preF f n pre=some m→f x=some (v,false)→preF f n (pre++[x])=some (orU m v)
  | [],x,n,m,v,h,h1=>by cases h;simp [preF,h1]
  | z :: pre,x,n,m,v,h,h1=>by
    rw [preF] at h
    obtain ⟨r,hr,h⟩:=Option.bind_eq_some_iff.1 h
    rw [List.cons_append,preF,hr,Option.bind_some]
    split at h
    · cases h
    · rename_i hn
      rw [if_neg hn]
      exact preF_snoc h h1
set_option maxHeartbeats 4000000 in
theorem cron_field_spec (f:List UInt8→Option (Int×Bool)) (s:List UInt8) (lo hi:Int) (hlen:s.length≤140737488355328) (y:Int×Bool) (h:fieldOf f s=some y) (w:World) (hf:∀ x r,f x=some r→∀ W:World,Below w.heap.size w W→Calls Tryz.prog 182 #[.string ⟨⟨x⟩⟩,.agg #[.int .i64 lo,.int .i64 hi]] W fun e w'=>e=.returned (.tuple #[.int .u64 r.1,errV r.2])∧Below W.heap.size W w') :
    Calls Tryz.prog 128 #[.string ⟨⟨s⟩⟩,.agg #[.int .i64 lo,.int .i64 hi]] w fun e w'=>e=.returned (.tuple #[.int .u64 y.1,errV y.2])∧Below w.heap.size w w':=by
  refine (callsIn_wide (n:=3)).1 ?_
  refine callsIn_of_wp_marks Tryz.func128 rfl trivial ?_ rfl
  simp only [Tryz.ntmps128,List.size_toArray,List.length_cons,List.length_nil,Nat.reduceAdd,Nat.reduceSub,Array.replicate_succ,Array.replicate_zero,List.push_toArray,List.append_toArray,List.nil_append,List.cons_append]
  gi_wp2
  refine ⟨trivial,?_⟩
  have z0:((((w.alloc (.cells #[.int .i64 lo,.int .i64 hi] 195)).alloc (.cells #[.int .u64 0] 35)).alloc (.cells #[.nilIface] 200)).alloc (.cells #[.int .u64 0] 35)).heap.size=w.heap.size+4:=by simp
  have bw:Below w.heap.size w ((((w.alloc (.cells #[.int .i64 lo,.int .i64 hi] 195)).alloc (.cells #[.int .u64 0] 35)).alloc (.cells #[.nilIface] 200)).alloc (.cells #[.int .u64 0] 35)) :=
    ((((Below.refl w.heap.size w).alloc (Nat.le_refl _) _).alloc (by simp) _).alloc (by simp <;> omega) _).alloc (by simp <;> omega) _
  have k0:∀ o v,(#[.int .i64 lo,.int .i64 hi]:Array Value)[o]? = some v→((((w.alloc (.cells #[.int .i64 lo,.int .i64 hi] 195)).alloc (.cells #[.int .u64 0] 35)).alloc (.cells #[.nilIface] 200)).alloc (.cells #[.int .u64 0] 35)).cell? ⟨w.heap.size,o,none⟩=some v:=by
    intro o v hv
    rw [World.cell?_alloc_past _ _ _ (by simp <;> omega),World.cell?_alloc_past _ _ _ (by simp <;> omega),World.cell?_alloc_past _ _ _ (by simp),World.cell?_alloc_at _ _ _ _ rfl];exact hv
  have k1:((((w.alloc (.cells #[.int .i64 lo,.int .i64 hi] 195)).alloc (.cells #[.int .u64 0] 35)).alloc (.cells #[.nilIface] 200)).alloc (.cells #[.int .u64 0] 35)).cell? ⟨w.heap.size+1,0,none⟩=some (.int .u64 0):=by
    rw [World.cell?_alloc_past _ _ _ (by simp <;> omega),World.cell?_alloc_past _ _ _ (by simp),World.cell?_alloc_at _ _ _ _ (by simp)];rfl
  have k2:((((w.alloc (.cells #[.int .i64 lo,.int .i64 hi] 195)).alloc (.cells #[.int .u64 0] 35)).alloc (.cells #[.nilIface] 200)).alloc (.cells #[.int .u64 0] 35)).cell? ⟨w.heap.size+1+1,0,none⟩=some .nilIface:=by
    rw [World.cell?_alloc_past _ _ _ (by simp),World.cell?_alloc_at _ _ _ _ (by simp)];rfl
  have k3:((((w.alloc (.cells #[.int .i64 lo,.int .i64 hi] 195)).alloc (.cells #[.int .u64 0] 35)).alloc (.cells #[.nilIface] 200)).alloc (.cells #[.int .u64 0] 35)).cell? ⟨w.heap.size+1+1+1,0,none⟩=some (.int .u64 0):=by
    rw [World.cell?_alloc_at _ _ _ _ (by simp)];rfl
  have q1:((((w.alloc (.cells #[.int .i64 lo,.int .i64 hi] 195)).alloc (.cells #[.int .u64 0] 35)).alloc (.cells #[.nilIface] 200)).alloc (.cells #[.int .u64 0] 35)).frozen? ⟨w.heap.size+1,0,none⟩=false:=by
    rw [World.frozen?_alloc_past _ _ _ (by simp <;> omega),World.frozen?_alloc_past _ _ _ (by simp),World.frozen?_alloc_at _ _ _ _ (by simp)]
  have q2:((((w.alloc (.cells #[.int .i64 lo,.int .i64 hi] 195)).alloc (.cells #[.int .u64 0] 35)).alloc (.cells #[.nilIface] 200)).alloc (.cells #[.int .u64 0] 35)).frozen? ⟨w.heap.size+1+1,0,none⟩=false:=by
    rw [World.frozen?_alloc_past _ _ _ (by simp),World.frozen?_alloc_at _ _ _ _ (by simp)]
  have q3:((((w.alloc (.cells #[.int .i64 lo,.int .i64 hi] 195)).alloc (.cells #[.int .u64 0] 35)).alloc (.cells #[.nilIface] 200)).alloc (.cells #[.int .u64 0] 35)).frozen? ⟨w.heap.size+1+1+1,0,none⟩=false:=by
    rw [World.frozen?_alloc_at _ _ _ _ (by simp)]
  generalize ((((w.alloc (.cells #[.int .i64 lo,.int .i64 hi] 195)).alloc (.cells #[.int .u64 0] 35)).alloc (.cells #[.nilIface] 200)).alloc (.cells #[.int .u64 0] 35))=W0 at z0 bw k0 k1 k2 k3 q1 q2 q3 ⊢
  refine (callsIn_wide.2 (splitSeq_newC s 44 W0)).mono ?_
  rintro e W1 ⟨rfl,b1,z1,c1,c2,c3,f1⟩
  dsimp only
  rw [z0] at b1 z1 c1 c2 c3 f1 ⊢
  have r3:Below w.heap.size w W1:=bw.trans (b1.mono (by omega))
  have e0:W1.cell? ⟨w.heap.size,0,none⟩=some (.int .i64 lo):=(b1.cell (p:=⟨w.heap.size,0,none⟩) (by simp)).trans (k0 0 _ rfl)
  have e1:W1.cell? ⟨w.heap.size,1,none⟩=some (.int .i64 hi):=(b1.cell (p:=⟨w.heap.size,1,none⟩) (by simp)).trans (k0 1 _ rfl)
  have g1:W1.cell? ⟨w.heap.size+1,0,none⟩=some (.int .u64 0):=(b1.cell (p:=⟨w.heap.size+1,0,none⟩) (by simp)).trans k1
  have g2:W1.cell? ⟨w.heap.size+1+1,0,none⟩=some .nilIface:=(b1.cell (p:=⟨w.heap.size+1+1,0,none⟩) (by simp <;> omega)).trans k2
  have g3:W1.cell? ⟨w.heap.size+1+1+1,0,none⟩=some (.int .u64 0):=(b1.cell (p:=⟨w.heap.size+1+1+1,0,none⟩) (by simp <;> omega)).trans k3
  have p1:W1.frozen? ⟨w.heap.size+1,0,none⟩=false:=(b1.frozen (p:=⟨w.heap.size+1,0,none⟩) (by simp)).trans q1
  have p2:W1.frozen? ⟨w.heap.size+1+1,0,none⟩=false:=(b1.frozen (p:=⟨w.heap.size+1+1,0,none⟩) (by simp <;> omega)).trans q2
  have p3:W1.frozen? ⟨w.heap.size+1+1+1,0,none⟩=false:=(b1.frozen (p:=⟨w.heap.size+1+1+1,0,none⟩) (by simp <;> omega)).trans q3
  clear k0 k1 k2 k3 q1 q2 q3 z0
  gi_wp2
  refine wp_range (B:=w.heap.size+4) rfl (enters_of Tryz.func194 (by kernel_rfl) rfl) (splitSeq_hands 44 s _ _ _ W1 hlen c1 c2 c3 f1 (by omega) (by omega)) (by rintro b (rfl | rfl | rfl) <;> omega) (fun _=>rfl)
    (fun pre W=>(∃ n,preF f 0 pre=some n∧W.cell? ⟨w.heap.size+1+1+1,0,none⟩=some (.int .u64 n))∧W.cell? ⟨w.heap.size,0,none⟩=some (.int .i64 lo)∧W.cell? ⟨w.heap.size,1,none⟩=some (.int .i64 hi)∧W.cell? ⟨w.heap.size+1,0,none⟩=some (.int .u64 0)∧W.cell? ⟨w.heap.size+1+1,0,none⟩=some .nilIface ∧
      W.frozen? ⟨w.heap.size+1,0,none⟩=false∧W.frozen? ⟨w.heap.size+1+1,0,none⟩=false∧W.frozen? ⟨w.heap.size+1+1+1,0,none⟩=false∧Below w.heap.size w W)
    (fun c pre W=>c=.ret∧(∃ p x n v,pre=p++[x]∧preF f 0 p=some n∧f x=some (v,true))∧W.cell? ⟨w.heap.size+1,0,none⟩=some (.int .u64 0)∧W.cell? ⟨w.heap.size+1+1,0,none⟩=some (errV true)∧Below w.heap.size w W)
    ?_ ?_ (by omega) ⟨⟨0,rfl,g3⟩,e0,e1,g1,g2,p1,p2,p3,r3⟩ (fun x=>{ tmps := #[.string ⟨⟨s⟩⟩,.agg #[.int .i64 lo,.int .i64 hi],undef,.pointer (some ⟨w.heap.size,0,none⟩),.pointer (some ⟨w.heap.size+1,0,none⟩),.pointer (some ⟨w.heap.size+1+1,0,none⟩),.pointer (some ⟨w.heap.size+1+1+1,0,none⟩),.string ⟨⟨x⟩⟩,undef,undef,.string ⟨⟨s⟩⟩,.func (.func 194) #[] #[.pointer (some ⟨w.heap.size+4+1,0,none⟩),.pointer (some ⟨w.heap.size+4,0,none⟩),.pointer (some ⟨w.heap.size+4+1+1,0,none⟩)],.string ⟨⟨x⟩⟩,undef,undef,undef,undef,undef,undef,undef,undef,undef,undef,undef,undef,undef],defers:=[] }) ?assign ?body ?done ?stop
  · rintro pre W W' ⟨⟨n,h0,h1⟩,h2,h3,h4,h5,h6,h7,h8,h9⟩ hk
    have c0:=hk.block w.heap.size (by omega) (cell?_lt h2)
    have c1:=hk.block (w.heap.size+1) (by omega) (cell?_lt h4)
    have c2:=hk.block (w.heap.size+1+1) (by omega) (cell?_lt h5)
    have c3:=hk.block (w.heap.size+1+1+1) (by omega) (cell?_lt h1)
    exact ⟨⟨n,h0,(cell_of_block c3 0).trans h1⟩,(cell_of_block c0 0).trans h2,(cell_of_block c0 1).trans h3,(cell_of_block c1 0).trans h4,(cell_of_block c2 0).trans h5,(frozen_of_block c1 0).trans h6,(frozen_of_block c2 0).trans h7,(frozen_of_block c3 0).trans h8,h9.trans (hk.below (fun b hb=>by omega) h9.size)⟩
  · rintro c pre W W' ⟨h0,h1,h2,h3,h4⟩ hk
    have c1:=hk.block (w.heap.size+1) (by omega) (cell?_lt h2)
    have c2:=hk.block (w.heap.size+1+1) (by omega) (cell?_lt h3)
    exact ⟨h0,h1,(cell_of_block c1 0).trans h2,(cell_of_block c2 0).trans h3,h4.trans (hk.below (fun b hb=>by omega) h4.size)⟩
  case assign =>
    intro l x W K hK
    gi_wp2
    exact hK
  case body =>
    rintro l pre x W ⟨⟨n,h0,h1⟩,h2,h3,h4,h5,h6,h7,h8,h9⟩ hB ⟨t,ht⟩
    have h':=h
    unfold fieldOf at h'
    rw [← ht,List.append_assoc] at h'
    have h10:=foldF_pre h0 h'
    rw [List.singleton_append,foldF] at h10
    obtain ⟨r,hr,h11⟩:=Option.bind_eq_some_iff.1 h10
    gi_wp2
    refine ⟨trivial,?_⟩
    refine (CallsIn.inRound l (callsIn_wide.2 (hf x r hr W h9))).mono ?_
    rintro e W2 ⟨rfl,kk⟩
    have u1:=(kk.cell (p:=⟨w.heap.size+1+1+1,0,none⟩) (by simp <;> omega)).trans h1
    have u2:=(kk.cell (p:=⟨w.heap.size,0,none⟩) (by simp <;> omega)).trans h2
    have u3:=(kk.cell (p:=⟨w.heap.size,1,none⟩) (by simp <;> omega)).trans h3
    have u4:=(kk.cell (p:=⟨w.heap.size+1,0,none⟩) (by simp <;> omega)).trans h4
    have u5:=(kk.cell (p:=⟨w.heap.size+1+1,0,none⟩) (by simp <;> omega)).trans h5
    have u6:=(kk.frozen (p:=⟨w.heap.size+1,0,none⟩) (by simp <;> omega)).trans h6
    have u7:=(kk.frozen (p:=⟨w.heap.size+1+1,0,none⟩) (by simp <;> omega)).trans h7
    have u8:=(kk.frozen (p:=⟨w.heap.size+1+1+1,0,none⟩) (by simp <;> omega)).trans h8
    have u9:=h9.trans (kk.mono (by omega))
    obtain ⟨v,b⟩:=r
    cases b with
    | false =>
      have hpre:=preF_snoc h0 hr
      clear h10 h11 h' ht
      dsimp only [errV]
      gi_wp2
      refine ⟨(Kp.of_below kk).trans (.setCell _ _ _ _ (by omega)),⟨_,hpre,World.cell?_setCell_same' _ _ _ (by rw [u1];rfl)⟩,?_,?_,?_,?_,by rw [World.frozen?_setCell];exact u6,by rw [World.frozen?_setCell];exact u7,by rw [World.frozen?_setCell];exact u8,u9.setCell (p:=⟨w.heap.size+1+1+1,0,none⟩) (by simp <;> omega) _⟩
      · exact cs_other u2 (by simp <;> omega)
      · exact cs_other u3 (by simp <;> omega)
      · exact cs_other u4 (by simp <;> omega)
      · exact cs_other u5 (by simp <;> omega)
    | true =>
      clear h10 h11 h' ht
      dsimp only [errV]
      gi_wp2
      refine ⟨((Kp.of_below kk).trans (.setCell _ _ _ _ (by omega))).trans (.setCell _ _ _ _ (by omega)),rfl,⟨pre,x,n,v,rfl,h0,hr⟩,?_,?_,(u9.setCell (p:=⟨w.heap.size+1,0,none⟩) (by simp <;> omega) _).setCell (p:=⟨w.heap.size+1+1,0,none⟩) (by simp <;> omega) _⟩
      · exact cs_other (World.cell?_setCell_same' _ _ _ (by rw [u4];rfl)) (by simp)
      · exact World.cell?_setCell_same' _ _ _ (by rw [cs_other u5 (by simp)];rfl)
  case done =>
    rintro D W ⟨⟨n,h0,h1⟩,h2,h3,h4,h5,h6,h7,h8,h9⟩ hD hK
    have hy:y=(n,false):=by
      have:=foldF_pre (pre:=splitOnB 44 s) (l:=[]) h0 (by rw [List.append_nil];exact h)
      exact (Option.some.inj this).symm
    subst hy
    clear h
    gi_wp2
    have hK':((W.setCell ⟨w.heap.size+1,0,none⟩ (.int .u64 n)).setCell ⟨w.heap.size+1+1,0,none⟩ .nilIface).heap[D]? = some (.deferred (some [])):=(Below.heap_setCell _ ⟨w.heap.size+1+1,0,none⟩ _ D (by simp <;> omega)).trans ((Below.heap_setCell W ⟨w.heap.size+1,0,none⟩ _ D (by simp <;> omega)).trans hK)
    refine ⟨by simp,.inl ⟨_,_,rfl,run_takeDeferred hK',?_⟩⟩
    refine ⟨_,results_cell2 rfl _ rfl rfl Tryz.underlying35 Tryz.underlying200 rfl rfl ((cell_of_block (World.putObj_heap_other (by omega)) 0).trans (cs_other (World.cell?_setCell_same' _ _ _ (by rw [h4];rfl)) (by simp))) ((cell_of_block (World.putObj_heap_other (by omega)) 0).trans (World.cell?_setCell_same' _ _ _ (by rw [cs_other h5 (by simp)];rfl))),rfl,?_⟩
    exact ((h9.setCell (p:=⟨w.heap.size+1,0,none⟩) (by simp <;> omega) _).setCell (p:=⟨w.heap.size+1+1,0,none⟩) (by simp <;> omega) _).trans ((Kp.putObj (S:=fun b=>b < w.heap.size) _ _ _ (by omega)).below (fun _ h=>h) (by have:=h9.size;simp;omega))
  case stop =>
    rintro D c pre W ⟨rfl,⟨p,x,n,v,rfl,h1,hx⟩,h2,h3,h4⟩ ⟨t,ht⟩ hD hK
    have hy:y=(0,true):=by
      have h':=h
      unfold fieldOf at h'
      rw [← ht,List.append_assoc] at h'
      have h10:=foldF_pre h1 h'
      rw [List.singleton_append,foldF,hx,Option.bind_some] at h10
      exact (Option.some.inj h10).symm
    subst hy
    clear h ht
    gi_wp2
    refine ⟨by simp,.inl ⟨_,_,rfl,run_takeDeferred hK,?_⟩⟩
    refine ⟨_,results_cell2 rfl _ rfl rfl Tryz.underlying35 Tryz.underlying200 rfl rfl ((cell_of_block (World.putObj_heap_other (by omega)) 0).trans h2) ((cell_of_block (World.putObj_heap_other (by omega)) 0).trans h3),rfl,?_⟩
    exact h4.trans ((Kp.putObj (S:=fun b=>b < w.heap.size) _ _ _ (by omega)).below (fun _ h=>h) h4.size)
end Go.Proofs.YtedibjgdangfnaaGreatDoor
end

section
namespace Go.Proofs.YtedibjgdangfnaaGreatDoor
open Go.RowKit
set_option linter.unusedVariables false
set_option linter.unusedSimpArgs false
open Go.Stop Go.Extern
theorem is_nil_part (w:World):Calls Tryz.prog 129 #[.nilIface,.iface 205 (.agg #[])] w fun e w'=>e=.returned (.bool false)∧w'=w:=by
  have hn:=run_eql_iface_nil_left (P:=Tryz.prog) (w:=w) 205 (.agg #[]) Tryz.underlying200
  go_enter Tryz.func129,Tryz.ntmps129
  go_wp2
  go_ret
  exact ⟨rfl,rfl⟩
theorem is_part (w:World):Calls Tryz.prog 129 #[.iface 205 (.agg #[]),.iface 205 (.agg #[])] w fun e w'=>e=.returned (.bool true)∧w'=w:=by
  have h8:=@run_callFunc_extern Tryz.prog 183 _ Extern.ReflectliteType.typeOf Tryz.func183 (by kernel_rfl) (by kernel_rfl) (by kernel_rfl) (by kernel_rfl)
  have tT:∀ (v:Value) (w:World),(Extern.ReflectliteType.typeOf #[.iface 205 v]).run Tryz.prog w=.ok (.iface 293 (.agg #[typeHandle Tryz.prog 205])) w:=by intro v w;kernel_rfl
  have h32:∀ (w:World),(callFunc 289 #[.agg #[typeHandle Tryz.prog 205]]).run Tryz.prog w=.ok (.value (.bool true)) w:=by
    intro w
    refine (@run_callFunc_extern Tryz.prog 289 _ (Extern.ReflectliteType.method fun t=>do Go.Extern.Rtype.noPackHeld "Comparable" t;pure (.bool (← typeInfo t).comparable)) Tryz.func289 (by kernel_rfl) (by kernel_rfl) (by kernel_rfl) (by kernel_rfl) _ w).trans ?_
    kernel_rfl
  have mR:∀ (n:Nat) (v:Value) (w:World),(Go.method (n+1) 293 v "Comparable").run Tryz.prog w=.ok (289,v) w:=by intro n v w;exact V.run_methF (by kernel_rfl) _ (by omega)
  have heq:∀ (w:World),(binOp .eql 200 (.iface 205 (.agg #[])) (.iface 205 (.agg #[]))).run Tryz.prog w=.ok (.bool true) w:=by intro w;kernel_rfl
  generalize typeHandle Tryz.prog 205=H at tT h32
  go_enter Tryz.func129,Tryz.ntmps129
  go_wp2
  refine wp_loop_rounds 1 ?_
  rw [rounds_succ]
  go_wp2
  go_ret
  exact ⟨rfl,rfl⟩
end Go.Proofs.YtedibjgdangfnaaGreatDoor
end

section
namespace Go.Proofs.YtedibjgdangfnaaGreatDoor
open Go.RowKit
set_option linter.unusedVariables false
set_option linter.unusedSimpArgs false
open V
def Says (g:FuncId) (t:Array Value) (w:World) (b:Bool):Prop:=∀ W:World,Below w.heap.size w W→Calls Tryz.prog g #[.agg t] W fun e w'=>e=.returned (.bool b)∧Below W.heap.size W w'
set_option maxHeartbeats 2000000 in
theorem picks_on (w:World) (b:Bool) (t:Array Value) (h:Says 72 t w b) (W:World) (hb:Below w.heap.size w W) :
    Calls Tryz.prog 75 #[.func (.func 72) #[.agg t] #[]] W fun e w'=>e=.returned (.bool (!b))∧Below W.heap.size W w':=by
  go_enter Tryz.func75,Tryz.ntmps75
  go_wp2_with fail
  refine (h W hb).mono ?_
  rintro e W1 ⟨rfl,b1⟩
  go_wp2
  go_ret
  exact ⟨rfl,b1⟩
set_option maxHeartbeats 2000000 in
theorem picks_named (w:World) (b:Bool) (t:Array Value) (h:Says 73 t w b) (W:World) (hb:Below w.heap.size w W) :
    Calls Tryz.prog 75 #[.func (.func 73) #[.agg t] #[]] W fun e w'=>e=.returned (.bool (!b))∧Below W.heap.size W w':=by
  go_enter Tryz.func75,Tryz.ntmps75
  go_wp2_with fail
  refine (h W hb).mono ?_
  rintro e W1 ⟨rfl,b1⟩
  go_wp2
  go_ret
  exact ⟨rfl,b1⟩
set_option maxHeartbeats 2000000 in
theorem picks_picked (w:World) (b:Bool) (t:Array Value) (h:Says 74 t w b) (W:World) (hb:Below w.heap.size w W) :
    Calls Tryz.prog 75 #[.func (.func 74) #[.agg t] #[]] W fun e w'=>e=.returned (.bool (!b))∧Below W.heap.size W w':=by
  go_enter Tryz.func75,Tryz.ntmps75
  go_wp2_with fail
  refine (h W hb).mono ?_
  rintro e W1 ⟨rfl,b1⟩
  go_wp2
  go_ret
  exact ⟨rfl,b1⟩
def idxP (b1 b2 b3:Bool):Int:=if b1 then (if b2 then (if b3 then -1 else 2) else 1) else 0
abbrev fnV (g:FuncId) (t:Array Value):Value:=.func (.func g) #[.agg t] #[]
set_option maxHeartbeats 4000000 in
theorem picks_index (w0:World) (t:Array Value) (b1 b2 b3:Bool) (h1:Says 72 t w0 b1) (h2:b1=true→Says 73 t w0 b2) (h3:b1=true→b2=true→Says 74 t w0 b3)
    (blk:Nat) (w:World) (hb:Below w0.heap.size w0 w) (hlt:blk < w.heap.size) (c0:w.cell? ⟨blk,0,none⟩=some (fnV 72 t)) (c1:w.cell? ⟨blk,1,none⟩=some (fnV 73 t)) (c2:w.cell? ⟨blk,2,none⟩=some (fnV 74 t)) :
    Calls Tryz.prog 133 #[.slice (some ⟨blk,0,none⟩) 3 3,.func (.func 75) #[] #[]] w fun e w'=>e=.returned (.int .i64 (idxP b1 b2 b3))∧Below w.heap.size w w':=by
  go_enter Tryz.func133,Tryz.ntmps133
  go_wp2
  refine wp_loop_rounds 4 ?_
  rw [rounds_succ]
  go_wp2_with fail
  refine (picks_on w0 b1 t h1 w hb).mono ?_
  rintro e W1 ⟨rfl,k1⟩
  have d1:=(k1.cell (p:=⟨blk,1,none⟩) (by simpa using hlt)).trans c1
  have d2:=(k1.cell (p:=⟨blk,2,none⟩) (by simpa using hlt)).trans c2
  have s1:=k1.size
  clear h1
  cases b1 with
  | false =>
    clear h2 h3
    dsimp only [Bool.not_false]
    go_wp2
    go_ret
    exact ⟨rfl,k1⟩
  | true =>
    have g2:=h2 rfl
    have g3:=h3 rfl
    clear h2 h3 c0 c1 c2
    dsimp only [Bool.not_true]
    go_wp2
    rw [rounds_succ]
    go_wp2_with fail
    refine (picks_named w0 b2 t g2 W1 (hb.trans (k1.mono hb.size))).mono ?_
    rintro e W2 ⟨rfl,k2⟩
    have d3:=(k2.cell (p:=⟨blk,2,none⟩) (by show blk < _;omega)).trans d2
    have s2:=k2.size
    have k12:=k1.trans (k2.mono s1)
    clear g2
    cases b2 with
    | false =>
      clear g3
      dsimp only [Bool.not_false]
      go_wp2
      go_ret
      exact ⟨rfl,k12⟩
    | true =>
      have g4:=g3 rfl
      clear g3 d1 d2
      dsimp only [Bool.not_true]
      go_wp2
      rw [rounds_succ]
      go_wp2_with fail
      refine (picks_picked w0 b3 t g4 W2 (hb.trans (k12.mono hb.size))).mono ?_
      rintro e W3 ⟨rfl,k3⟩
      have k123:=k12.trans (k3.mono (by omega))
      clear g4
      cases b3 with
      | false =>
        dsimp only [Bool.not_false]
        go_wp2
        go_ret
        exact ⟨rfl,k123⟩
      | true =>
        dsimp only [Bool.not_true]
        go_wp2
        rw [rounds_succ]
        go_wp2
        go_ret
        exact ⟨rfl,k123⟩
set_option maxHeartbeats 2000000 in
theorem picks_contains (w0:World) (t:Array Value) (b1 b2 b3:Bool) (h1:Says 72 t w0 b1) (h2:b1=true→Says 73 t w0 b2) (h3:b1=true→b2=true→Says 74 t w0 b3)
    (blk:Nat) (w:World) (hb:Below w0.heap.size w0 w) (hlt:blk < w.heap.size) (c0:w.cell? ⟨blk,0,none⟩=some (fnV 72 t)) (c1:w.cell? ⟨blk,1,none⟩=some (fnV 73 t)) (c2:w.cell? ⟨blk,2,none⟩=some (fnV 74 t)) :
    Calls Tryz.prog 71 #[.slice (some ⟨blk,0,none⟩) 3 3,.func (.func 75) #[] #[]] w fun e w'=>e=.returned (.bool (!(b1 && (b2 && b3))))∧Below w.heap.size w w':=by
  have hv:∀ a b c:Bool,decide (0≤idxP a b c)=(!(a && (b && c))):=by intro a b c;cases a <;> cases b <;> cases c <;> rfl
  have hv:=hv b1 b2 b3
  generalize (!(b1 && (b2 && b3)))=r at hv ⊢
  go_enter Tryz.func71,Tryz.ntmps71
  go_wp2_with fail
  refine (picks_index w0 t b1 b2 b3 h1 h2 h3 blk w hb hlt c0 c1 c2).mono ?_
  rintro e W1 ⟨rfl,k1⟩
  clear h1 h2 h3 c0 c1 c2
  generalize idxP b1 b2 b3=i at hv ⊢
  subst hv
  go_wp2
  go_ret
  exact ⟨rfl,k1⟩
abbrev testV (id frm:Int) (A B:Option Addr) (n1 c1 n2 c2:Nat) (p cr repo tag:ByteArray) (o d on:Bool):Array Value := #[.int .i64 id,.int .i64 frm,.slice A n1 c1,.slice B n2 c2,.string p,.bool o,.bool d,.bool on,.string cr,.string repo,.string tag,.string ⟨#[]⟩]
set_option maxHeartbeats 4000000 in
theorem rule_Picks_spec (id frm:Int) (A B:Option Addr) (n1 c1 n2 c2:Nat) (p cr repo tag:ByteArray) (o d on:Bool) (w:World) (b1 b2 b3:Bool)
    (h1:Says 72 (testV id frm A B n1 c1 n2 c2 p cr repo tag o d on) w b1) (h2:b1=true→Says 73 (testV id frm A B n1 c1 n2 c2 p cr repo tag o d on) w b2) (h3:b1=true→b2=true→Says 74 (testV id frm A B n1 c1 n2 c2 p cr repo tag o d on) w b3) :
    Calls Tryz.prog 25 #[.agg #[.int .i64 id,.int .i64 frm,.slice A n1 c1,.slice B n2 c2,.string p,.bool o,.bool d,.bool on,.string cr],.string repo,.string tag] w fun e w'=>e=.returned (.bool (b1 && (b2 && b3)))∧Below w.heap.size w w':=by
  go_enter Tryz.func25,Tryz.ntmps25
  go_wp2_with fail
  refine (picks_contains w (testV id frm A B n1 c1 n2 c2 p cr repo tag o d on) b1 b2 b3 h1 h2 h3 (w.heap.size+1+1) _ (by exact (((Below.refl w.heap.size w).alloc (Nat.le_refl _) _).alloc (by simp) _).alloc (by simp <;> omega) _) (by simp) (by rw [World.cell?_alloc_at _ _ _ _ (by simp)];rfl) (by rw [World.cell?_alloc_at _ _ _ _ (by simp)];rfl) (by rw [World.cell?_alloc_at _ _ _ _ (by simp)];rfl)).mono ?_
  rintro e W1 ⟨rfl,k1⟩
  have k2:Below w.heap.size w W1:=by
    refine Below.trans ?_ (k1.mono (by simp <;> omega))
    exact (((Below.refl w.heap.size w).alloc (Nat.le_refl _) _).alloc (by simp) _).alloc (by simp <;> omega) _
  clear h1 h2 h3 k1
  go_wp2
  go_ret
  exact ⟨by simp,k2⟩
end Go.Proofs.YtedibjgdangfnaaGreatDoor
end

section
namespace Go.Proofs.YtedibjgdangfnaaGreatDoor
open Go.RowKit
set_option linter.unusedVariables false
set_option linter.unusedSimpArgs false
open V
attribute [local go_sem] Oper.semAt_some
theorem splitSeq_new (s:List UInt8) (c:UInt8) (w:World):Calls Tryz.prog 79 #[.string ⟨⟨s⟩⟩,.string ⟨#[c]⟩] w fun e w'=>e=.returned (.func (.func 194) #[] #[.pointer (some ⟨w.heap.size+1,0,none⟩),.pointer (some ⟨w.heap.size,0,none⟩),.pointer (some ⟨w.heap.size+1+1,0,none⟩)]) ∧
    Below w.heap.size w w'∧w'.heap.size=w.heap.size+3∧w'.cell? ⟨w.heap.size+1,0,none⟩=some (strV [c])∧w'.cell? ⟨w.heap.size,0,none⟩=some (strV s)∧w'.cell? ⟨w.heap.size+1+1,0,none⟩=some (.int .i64 0)∧w'.frozen? ⟨w.heap.size,0,none⟩=false:=by
  go_enter Tryz.func79,Tryz.ntmps79
  go_wp2
  go_ret
  have b1:=(((Below.refl w.heap.size w).alloc (Nat.le_refl _) (.cells #[.string ⟨⟨s⟩⟩] 9)).alloc (by simp) (.cells #[.string ⟨#[c]⟩] 9)).alloc (by simp;omega) (.cells #[.int .i64 0] 3)
  refine ⟨rfl,b1,by simp,?_,?_,?_,?_⟩
  · rw [World.cell?_alloc_past _ _ _ (by simp),World.cell?_alloc_at _ _ _ _ (by simp)];rfl
  · rw [World.cell?_alloc_past _ _ _ (by simp;omega),World.cell?_alloc_past _ _ _ (by simp),World.cell?_alloc_at _ _ _ _ (by simp)];rfl
  · rw [World.cell?_alloc_at _ _ _ _ (by simp)];rfl
  · rw [World.frozen?_alloc_past _ _ _ (by simp;omega),World.frozen?_alloc_past _ _ _ (by simp),World.frozen?_alloc_at _ _ _ _ rfl]
theorem allO_pre {α:Type} {f:α→Option Bool}:∀ {pre:List α} {l:List α} {y:Bool},(∀ x∈pre,f x=some true)→allO f (pre++l)=some y→allO f l=some y
  | [],_,_,_,h=>h
  | x :: pre,l,y,h,h1=>by
    rw [List.cons_append,allO,h x (List.mem_cons_self ..)] at h1
    exact allO_pre (fun z hz=>h z (List.mem_cons_of_mem _ hz)) h1
def flatDesc:TypeDesc→Bool
  | .struct _=>false
  | .array _ _=>false
  | _=>true
theorem run_loadVar_flat {P:Program} {w:World} {ty:TypeId} {a:Addr} {v:Value} {d:TypeDesc} (hu:P.underlying ty=some d) (hd:flatDesc d=true) (hc:w.cell? a=some v):(loadVar ty a).run P w=.ok v w:=by
  cases d <;> first | (cases hd;done) | simp [loadVar,isAgg,underlying,hu,hc,Result.andThen,Sem.run_bind]
theorem results_cell1 {P:Program} {w:World} {fn:Func} {p:Tmp} {ty:TypeId} {a:Addr} {v:Value} {d:TypeDesc} (h:fn.results = #[.cell p ty]) (tmps:Array Value) (hp:tmps.getD p undef=.pointer (some a)) (hu:P.underlying ty=some d) (hd:flatDesc d=true) (hc:w.cell? a=some v):(results fn tmps).run P w=.ok v w:=by
  have hp':tmps[p]?.getD undef=.pointer (some a):=by simpa using hp
  simp [results,h,hp',asAddr,run_loadVar_flat hu hd hc]
set_option maxHeartbeats 2000000 in
theorem name_Repo_spec (f:List UInt8→Option Bool) (s:List UInt8) (y:Bool) (h:repoOf f s=some y) (w:World) (hf:∀ x b,f x=some b→∀ W:World,Below w.heap.size w W→Calls Tryz.prog 80 #[.string ⟨⟨x⟩⟩] W fun e w'=>e=.returned (.bool b)∧Below W.heap.size W w'):Calls Tryz.prog 28 #[.string ⟨⟨s⟩⟩] w fun e w'=>e=.returned (.bool y)∧Below w.heap.size w w':=by
  refine (callsIn_wide (n:=3)).1 ?_
  refine callsIn_of_wp_marks Tryz.func28 rfl trivial ?_ rfl
  simp only [Tryz.ntmps28,List.size_toArray,List.length_cons,List.length_nil,Nat.reduceAdd,Nat.reduceSub,Array.replicate_succ,Array.replicate_zero,List.push_toArray,List.append_toArray,List.nil_append,List.cons_append]
  unfold repoOf at h
  by_cases hl:128 < s.length
  · rw [if_pos hl] at h
    obtain rfl:=Option.some.inj h
    have bw:=(Below.refl w.heap.size w).alloc (Nat.le_refl _) (.cells #[.bool false] 4)
    gi_wp2
    exact ⟨_,results_cell1 rfl _ rfl Tryz.underlying4 rfl (by rw [World.cell?_alloc_at _ _ _ _ rfl];rfl),rfl,bw⟩
  · rw [if_neg hl] at h
    have bw:=(Below.refl w.heap.size w).alloc (Nat.le_refl _) (.cells #[.bool false] 4)
    gi_wp2
    refine ⟨trivial,?_⟩
    refine (callsIn_wide.2 (splitSeq_new s 47 _)).mono ?_
    rintro e W1 ⟨rfl,b1,z1,c1,c2,c3,f1⟩
    dsimp only
    simp only [World.size_alloc] at z1 c1 c2 c3 f1 b1 ⊢
    have r1:W1.cell? ⟨w.heap.size,0,none⟩=some (.bool false):=by
      rw [b1.cell (p:=⟨w.heap.size,0,none⟩) (by simp),World.cell?_alloc_at _ _ _ _ (by simp)];rfl
    have r2:W1.frozen? ⟨w.heap.size,0,none⟩=false:=by
      rw [b1.frozen (p:=⟨w.heap.size,0,none⟩) (by simp),World.frozen?_alloc_at _ _ _ _ (by simp)]
    have r3:Below w.heap.size w W1:=bw.trans (b1.mono (by omega))
    gi_wp2
    refine wp_range (B:=w.heap.size+1) rfl (enters_of Tryz.func194 (by kernel_rfl) rfl) (splitSeq_hands 47 s _ _ _ W1 (by omega) c1 c2 c3 f1 (by omega) (by omega)) (by rintro b (rfl | rfl | rfl) <;> omega) (fun _=>rfl)
      (fun pre W=>(∀ x∈pre,f x=some true)∧W.cell? ⟨w.heap.size,0,none⟩=some (.bool false)∧W.frozen? ⟨w.heap.size,0,none⟩=false∧Below w.heap.size w W)
      (fun c pre W=>c=.ret∧(∃ p x,pre=p++[x]∧(∀ x∈p,f x=some true)∧f x=some false)∧W.cell? ⟨w.heap.size,0,none⟩=some (.bool false)∧Below w.heap.size w W)
      ?_ ?_ (by omega) ⟨(fun x hx=>by cases hx),r1,r2,r3⟩ (fun x=>{ tmps := #[.string ⟨⟨s⟩⟩,undef,.pointer (some ⟨w.heap.size,0,none⟩),.string ⟨⟨x⟩⟩,.string ⟨⟨s⟩⟩,.int .i64 s.length,.bool (decide (128 < (s.length:Int))),.string ⟨⟨s⟩⟩,.func (.func 194) #[] #[.pointer (some ⟨w.heap.size+1+1,0,none⟩),.pointer (some ⟨w.heap.size+1,0,none⟩),.pointer (some ⟨w.heap.size+1+1+1,0,none⟩)],.string ⟨⟨x⟩⟩,undef,undef,undef],defers:=[] }) ?assign ?body ?done ?stop
    · rintro pre W W' ⟨h1,h2,h3,h4⟩ hk
      have q:=hk.block w.heap.size (by simp) (cell?_lt h2)
      exact ⟨h1,(cell_of_block q 0).trans h2,(frozen_of_block q 0).trans h3,h4.trans (hk.below (fun b hb=>Nat.lt_succ_of_lt hb) h4.size)⟩
    · rintro c pre W W' ⟨h0,h1,h2,h4⟩ hk
      have q:=hk.block w.heap.size (by simp) (cell?_lt h2)
      exact ⟨h0,h1,(cell_of_block q 0).trans h2,h4.trans (hk.below (fun b hb=>Nat.lt_succ_of_lt hb) h4.size)⟩
    case assign =>
      intro l x W K hK
      gi_wp2
      exact hK
    case body =>
      rintro l pre x W ⟨h1,h2,h3,h4⟩ hB ⟨t,ht⟩
      rw [← ht,List.append_assoc] at h
      have h5:=allO_pre h1 h
      rw [List.singleton_append,allO] at h5
      obtain ⟨b,hb,h6⟩:=Option.bind_eq_some_iff.1 h5
      gi_wp2
      refine ⟨trivial,?_⟩
      refine (CallsIn.inRound l (callsIn_wide.2 (hf x b hb W h4))).mono ?_
      rintro e W2 ⟨rfl,k2⟩
      have g2:=(k2.cell (p:=⟨w.heap.size,0,none⟩) (by simp;omega)).trans h2
      have g3:=(k2.frozen (p:=⟨w.heap.size,0,none⟩) (by simp;omega)).trans h3
      have g4:=h4.trans (k2.mono (by omega))
      cases b with
      | true =>
        gi_wp2
        exact ⟨.of_below k2,fun z hz=>by
          rcases List.mem_append.1 hz with hz | hz
          · exact h1 z hz
          · rw [List.mem_singleton.1 hz];exact hb,g2,g3,g4⟩
      | false =>
        gi_wp2
        exact ⟨(Kp.of_below k2).trans (.setCell _ _ _ _ (by simp)),rfl,⟨pre,x,rfl,h1,hb⟩,World.cell?_setCell_same' _ _ _ (by rw [g2];rfl),g4.setCell (p:=⟨w.heap.size,0,none⟩) (Nat.le_refl _) _⟩
    case done =>
      rintro D W ⟨h1,h2,h3,h4⟩ hD hK
      obtain rfl:y=true:=by
        have:=allO_pre (pre:=splitOnB 47 s) (l:=[]) h1 (by rw [List.append_nil];exact h)
        exact (Option.some.inj this).symm
      gi_wp2
      have hK':(W.setCell ⟨w.heap.size,0,none⟩ (.bool true)).heap[D]? = some (.deferred (some [])):=(Below.heap_setCell W ⟨w.heap.size,0,none⟩ _ D (by simp;omega)).trans hK
      refine ⟨by simp,.inl ⟨_,_,rfl,run_takeDeferred hK',?_⟩⟩
      refine ⟨_,results_cell1 rfl _ rfl Tryz.underlying4 rfl ((cell_of_block (World.putObj_heap_other (by omega)) 0).trans (World.cell?_setCell_same' _ _ _ (by rw [h2];rfl))),rfl,?_⟩
      exact (h4.setCell (p:=⟨w.heap.size,0,none⟩) (Nat.le_refl _) _).trans ((Kp.putObj (S:=fun b=>b < w.heap.size) _ _ _ (by omega)).below (fun _ h=>h) (by have:=h4.size;simp;omega))
    case stop =>
      rintro D c pre W ⟨rfl,⟨p,x,rfl,h1,hx⟩,h2,h4⟩ ⟨t,ht⟩ hD hK
      obtain rfl:y=false:=by
        rw [← ht,List.append_assoc] at h
        have h5:=allO_pre h1 h
        rw [List.singleton_append,allO,hx] at h5
        exact (Option.some.inj h5).symm
      gi_wp2
      refine ⟨by simp,.inl ⟨_,_,rfl,run_takeDeferred hK,?_⟩⟩
      refine ⟨_,results_cell1 rfl _ rfl Tryz.underlying4 rfl ((cell_of_block (World.putObj_heap_other (by omega)) 0).trans h2),rfl,?_⟩
      exact h4.trans ((Kp.putObj (S:=fun b=>b < w.heap.size) _ _ _ (by omega)).below (fun _ h=>h) h4.size)
end Go.Proofs.YtedibjgdangfnaaGreatDoor
end

section
namespace Go.Proofs.YtedibjgdangfnaaGreatDoor.V
open Go Go.RowKit
set_option linter.unusedVariables false
set_option linter.unusedSimpArgs false
set_option maxHeartbeats 1000000
set_option maxRecDepth 20000
theorem f_strings_Count_ok (s sub:Str) (y_:Int) (h:f_strings_Count s sub=some y_):Fun Tryz.prog glP 213 [.b (.s (.d (.str s))),.b (.s (.d (.str sub)))] (.b (.s (.d (.int .i64 y_)))):=by
  unfold f_strings_Count at h
  split at h
  · rename_i c
    obtain rfl:=Option.some.inj h
    refine Fun.flat (by kernel_rfl) (of_int _ _) fun w S vs hA => ?_
    obtain ⟨v,u,rfl,h1,h2⟩:=args2 hA
    obtain rfl:=repv_str (l:=s) h1
    obtain rfl:=repv_str (l:=[c]) h2
    refine (Tryz.strings_Count_one ⟨⟨s⟩⟩ c w).mono fun e w' => ?_
    rintro ⟨rfl,rfl⟩
    exact ⟨rfl,Below.refl _ _⟩
  · cases h
theorem f_strings_explode_ok (s:Str) (n:Int) (y_:List Str) (h:f_strings_explode s n=some y_):Fun Tryz.prog glP 212 [.b (.s (.d (.str s))),.b (.s (.d (.int .i64 n)))] (.b (.s (.d (.sl (y_.map eS))))):=by cases h
theorem f_internal_stringslite_Index_ok (s sub:Str) (y_:Int) (h:f_internal_stringslite_Index s sub=some y_):Fun Tryz.prog glP 223 [.b (.s (.d (.str s))),.b (.s (.d (.str sub)))] (.b (.s (.d (.int .i64 y_)))):=by
  unfold f_internal_stringslite_Index at h
  split at h
  · rename_i c
    obtain rfl:=Option.some.inj h
    refine Fun.flat (by kernel_rfl) (of_int _ _) fun w S vs hA => ?_
    obtain ⟨v,u,rfl,h1,h2⟩:=args2 hA
    obtain rfl:=repv_str (l:=s) h1
    obtain rfl:=repv_str (l:=[c]) h2
    refine (Tryz.stringslite_Index_one ⟨⟨s⟩⟩ c w).mono fun e w' => ?_
    rintro ⟨rfl,rfl⟩
    exact ⟨rfl,Below.refl _ _⟩
  · cases h
theorem f_strings_Trim_ok (s cs:Str) (y_:Str) (h:f_strings_Trim s cs=some y_):Fun Tryz.prog glP 237 [.b (.s (.d (.str s))),.b (.s (.d (.str cs)))] (.b (.s (.d (.str y_)))):=by
  obtain ⟨⟨h0,h1,h2⟩,h⟩:=gd_iff.1 h
  obtain rfl:=Option.some.inj h
  refine Fun.flat (by kernel_rfl) (of_str _) fun w S vs hA => ?_
  obtain ⟨v,u,rfl,e1,e2⟩:=args2 hA
  obtain rfl:=repv_str (l:=s) e1
  obtain rfl:=repv_str (l:=cs) e2
  exact Any.strings_Trim_laid Tryz.lays160 (by kernel_rfl) ⟨⟨s⟩⟩ ⟨⟨cs⟩⟩ w (show s.length≤_ by omega) (show cs.length < _ by omega) (fun j b hj=>of_decide_eq_true (List.all_eq_true.1 h2 b (List.mem_of_getElem? hj)))
theorem we0:type_of% (And.intro @e_cron_bounds.eq_1 @e_cron_part.eq_1):=(And.intro @e_cron_bounds.eq_1 @e_cron_part.eq_1)
theorem we1:type_of% (And.intro @e_cron_part.eq_1 (And.intro @e_cron_bounds.eq_1 @e_api_Cron.eq_1)):=(And.intro @e_cron_part.eq_1 (And.intro @e_cron_bounds.eq_1 @e_api_Cron.eq_1))
theorem we2:type_of% (And.intro @e_glob_many.eq_1 @e_cron_part.eq_1):=(And.intro @e_glob_many.eq_1 @e_cron_part.eq_1)
theorem we3:type_of% (And.intro @e_api_Rule.eq_1 @e_api_Cron.eq_1):=(And.intro @e_api_Rule.eq_1 @e_api_Cron.eq_1)
theorem we4:type_of% (And.intro @e_api_Rule.eq_1 (And.intro @e_api_Ref.eq_1 @e_rule_test.eq_1)):=(And.intro @e_api_Rule.eq_1 (And.intro @e_api_Ref.eq_1 @e_rule_test.eq_1))
theorem we5:type_of% (And.intro @e_api_Clock.eq_1 @e_api_Cron.eq_1):=(And.intro @e_api_Clock.eq_1 @e_api_Cron.eq_1)
def c14r0:List Opn:=[
  ⟨(some 1),none,.box 9 (.t 0)⟩,
  ⟨(some 2),none,.new [(.d (.int .i64 0)),(.d (.int .i64 0)),.nils,.nils,(.d (.str [])),(.d (.bool false)),(.d (.bool false)),(.d (.bool false)),(.d (.str []))]⟩]
def c14r1:List Opn:=[
  ⟨(some 7),none,.bsl 1 []⟩,
  ⟨(some 8),none,.fadr 2 (.t 1)⟩,
  ⟨(some 9),none,.load false 1 (.t 8)⟩,
  ⟨(some 10),none,.fadr 2 (.t 1)⟩,
  ⟨(some 11),none,.load false 1 (.t 10)⟩,
  ⟨(some 12),none,.len (.sl 0) (.t 11)⟩,
  ⟨(some 13),none,.mm false (.t 12) (.c (.s (.d (.int .i64 10))))⟩,
  ⟨(some 14),none,.slc (.sl 1) (.t 9) none (some (.t 13)) none⟩,
  ⟨(some 15),none,.app 1 16 false (.t 7) (.t 14)⟩,
  ⟨(some 16),none,.bsl 1 []⟩,
  ⟨(some 17),none,.fadr 3 (.t 1)⟩,
  ⟨(some 18),none,.load false 1 (.t 17)⟩,
  ⟨(some 19),none,.fadr 3 (.t 1)⟩,
  ⟨(some 20),none,.load false 1 (.t 19)⟩,
  ⟨(some 21),none,.len (.sl 0) (.t 20)⟩,
  ⟨(some 22),none,.mm false (.t 21) (.c (.s (.d (.int .i64 10))))⟩,
  ⟨(some 23),none,.slc (.sl 1) (.t 18) none (some (.t 22)) none⟩,
  ⟨(some 24),none,.app 1 16 false (.t 16) (.t 23)⟩,
  ⟨(some 25),none,.fadr 2 (.t 1)⟩,
  ⟨none,none,.store 1 (.t 25) (.t 15)⟩,
  ⟨(some 26),none,.fadr 3 (.t 1)⟩,
  ⟨none,none,.store 1 (.t 26) (.t 24)⟩]
def c14r2:List Opn:=[
  ⟨(some 27),none,.fadr 2 (.t 1)⟩,
  ⟨(some 28),none,.load false 1 (.t 27)⟩,
  ⟨(some 29),none,.len (.sl 0) (.t 28)⟩,
  ⟨(some 30),none,.mv (.c (.s (.d (.int .i64 0))))⟩]
def c14r3:List Opn:=[
  ⟨(some 31),none,.bin .lss (.t 30) (.t 29)⟩]
def c14r4:List Opn:=[
  ⟨(some 32),none,.mv (.t 30)⟩,
  ⟨(some 33),none,.iadr (.sl 1) (.t 28) (.t 30)⟩,
  ⟨(some 34),none,.load false 1 (.t 33)⟩,
  ⟨(some 3),none,.mv (.t 32)⟩,
  ⟨(some 4),none,.mv (.t 34)⟩]
def c14r5:List Opn:=[
  ⟨(some 35),none,.fadr 2 (.t 1)⟩,
  ⟨(some 36),none,.load false 1 (.t 35)⟩,
  ⟨(some 37),none,.mv (.t 3)⟩,
  ⟨(some 38),none,.mv (.t 4)⟩,
  ⟨(some 39),none,.mv (.t 4)⟩,
  ⟨(some 40),none,.len .str (.t 39)⟩,
  ⟨(some 41),none,.mm false (.t 40) (.c (.s (.d (.int .i64 130))))⟩,
  ⟨(some 42),none,.slc .str (.t 38) none (some (.t 41)) none⟩,
  ⟨(some 43),none,.iadr (.sl 1) (.t 36) (.t 37)⟩,
  ⟨none,none,.store 1 (.t 43) (.t 42)⟩]
def c14r6:List Opn:=[
  ⟨(some 44),none,.bin .add (.t 30) (.c (.s (.d (.int .i64 1))))⟩,
  ⟨(some 30),none,.mv (.t 44)⟩]
def c14l7:C:=.seq (.reg c14r3 none [1,2,28,29,30,31]) (.seq (.cond (.t 31) (.skip) (.exit 0)) (.seq (.blk 1 (.seq (.reg c14r4 none [1,2,3,4,28,29,30]) (.reg c14r5 (some [0,1,0,0,0,16,48,120,255,511]) [1,2,28,29,30]))) (.reg c14r6 none [1,2,28,29,30])))
def c14r7:List Opn:=[
  ⟨(some 45),none,.fadr 3 (.t 1)⟩,
  ⟨(some 46),none,.load false 1 (.t 45)⟩,
  ⟨(some 47),none,.len (.sl 0) (.t 46)⟩,
  ⟨(some 48),none,.mv (.c (.s (.d (.int .i64 0))))⟩]
def c14r8:List Opn:=[
  ⟨(some 49),none,.bin .lss (.t 48) (.t 47)⟩]
def c14r9:List Opn:=[
  ⟨(some 50),none,.mv (.t 48)⟩,
  ⟨(some 51),none,.iadr (.sl 1) (.t 46) (.t 48)⟩,
  ⟨(some 52),none,.load false 1 (.t 51)⟩,
  ⟨(some 5),none,.mv (.t 50)⟩,
  ⟨(some 6),none,.mv (.t 52)⟩]
def c14r10:List Opn:=[
  ⟨(some 53),none,.fadr 3 (.t 1)⟩,
  ⟨(some 54),none,.load false 1 (.t 53)⟩,
  ⟨(some 55),none,.mv (.t 5)⟩,
  ⟨(some 56),none,.mv (.t 6)⟩,
  ⟨(some 57),none,.mv (.t 6)⟩,
  ⟨(some 58),none,.len .str (.t 57)⟩,
  ⟨(some 59),none,.mm false (.t 58) (.c (.s (.d (.int .i64 130))))⟩,
  ⟨(some 60),none,.slc .str (.t 56) none (some (.t 59)) none⟩,
  ⟨(some 61),none,.iadr (.sl 1) (.t 54) (.t 55)⟩,
  ⟨none,none,.store 1 (.t 61) (.t 60)⟩]
def c14r11:List Opn:=[
  ⟨(some 62),none,.bin .add (.t 48) (.c (.s (.d (.int .i64 1))))⟩,
  ⟨(some 48),none,.mv (.t 62)⟩]
def c14l13:C:=.seq (.reg c14r8 none [1,2,46,47,48,49]) (.seq (.cond (.t 49) (.skip) (.exit 2)) (.seq (.blk 3 (.seq (.reg c14r9 none [1,2,5,6,46,47,48]) (.reg c14r10 (some [0,1,0,0,0,16,48,120,255,511]) [1,2,46,47,48]))) (.reg c14r11 none [1,2,46,47,48])))
def c14r12:List Opn:=[
  ⟨(some 63),none,.fadr 4 (.t 1)⟩,
  ⟨(some 64),none,.load false 1 (.t 63)⟩,
  ⟨(some 65),none,.fadr 4 (.t 1)⟩,
  ⟨(some 66),none,.load false 1 (.t 65)⟩,
  ⟨(some 67),none,.len .str (.t 66)⟩,
  ⟨(some 68),none,.mm false (.t 67) (.c (.s (.d (.int .i64 130))))⟩,
  ⟨(some 69),none,.slc .str (.t 64) none (some (.t 68)) none⟩,
  ⟨(some 70),none,.fadr 8 (.t 1)⟩,
  ⟨(some 71),none,.load false 1 (.t 70)⟩,
  ⟨(some 72),none,.fadr 8 (.t 1)⟩,
  ⟨(some 73),none,.load false 1 (.t 72)⟩,
  ⟨(some 74),none,.len .str (.t 73)⟩,
  ⟨(some 75),none,.mm false (.t 74) (.c (.s (.d (.int .i64 205))))⟩,
  ⟨(some 76),none,.slc .str (.t 71) none (some (.t 75)) none⟩,
  ⟨(some 77),none,.fadr 4 (.t 1)⟩,
  ⟨none,none,.store 1 (.t 77) (.t 69)⟩,
  ⟨(some 78),none,.fadr 8 (.t 1)⟩,
  ⟨none,none,.store 1 (.t 78) (.t 76)⟩]
def c14r13:List Opn:=[
  ⟨(some 79),none,.load true 9 (.t 1)⟩,
  ⟨none,none,.store 9 (.t 2) (.t 79)⟩]
def c14:C:=.seq (.reg c14r0 none [1,2]) (.seq (.reg c14r1 (some [0,0,2,0,8,24,56,126,255,0,0,1024,0,4096,12288,28672,64512,131071,15871,524287,1048575,2097151]) [1,2]) (.seq (.seq (.reg c14r2 none [1,2,28,29,30]) (.blk 0 (.loop c14l7))) (.seq (.seq (.reg c14r7 none [1,2,46,47,48]) (.blk 2 (.loop c14l13))) (.seq (.reg c14r12 (some [0,1,0,4,12,28,63,0,128,0,512,1536,3584,8064,2047,18431,65535,131071]) [1,2]) (.seq (.reg c14r13 none [2]) (.ret))))))
def k14:List (Nat×List Nat):=[(13,[2]),(12,[1,2]),(11,[1,2,46,47,48]),(10,[1,2,46,47,48]),(9,[1,2,5,6,46,47,48]),(8,[1,2,46,47,48,49]),(7,[1,2,46,47,48]),(6,[1,2,28,29,30]),(5,[1,2,28,29,30]),(4,[1,2,3,4,28,29,30]),(3,[1,2,28,29,30,31]),(2,[1,2,28,29,30]),(1,[1,2]),(0,[1,2])]
theorem cc14:(Tryz.f14.body).bind (cC Tryz.prog 80 k14)=some c14:=by kernel_rfl
def rv14:List RV:=[.c 2 true 9]
theorem cr14:cRVs Tryz.prog Tryz.f14.results.toList=some rv14:=by kernel_rfl
theorem f_law14_few_l7_ok (rv:api_Rule) (y_:api_Rule) (R_:St→Prop) (hR:(Ret Tryz.prog glP [7,16] rv14 (.b (.agg ((e_api_Rule y_).map Lc.d))))=R_):∀ (m_:Nat) (v30:Int) (v28:(List Str)) (res_:Int×(List Str)) (h:f_law14_few_l7 rv m_ v30 v28=some res_) (k_:List It) (hx:∀ s_:Int×(List Str),res_=s_→W Tryz.prog glP 80 k_ ⟨lkT [(1,.b (.s (.ptr 1 1 0 0))),(2,.b (.s (.ptr 2 1 0 0))),(28,.b (.s (.own 7 s_.2.length))),(29,.b (.s (.d (.int .i64 ((([]:List Str)++(cut rv.Repos 0 (if 10 < (rv.Repos.length:Int) then 10 else (rv.Repos.length:Int)))).length:Int))))),(30,.b (.s (.d (.int .i64 s_.1))))],lkG [(1,⟨9,[[(.d (.int .i64 rv.Id)),(.d (.int .i64 rv.From)),(.own 7 s_.2.length),(.own 16 (([]:List Str)++(cut rv.Tags 0 (if 10 < (rv.Tags.length:Int) then 10 else (rv.Tags.length:Int)))).length),(.d (.str rv.Prefix)),(.d (.bool rv.Override)),(.d (.bool rv.Delete)),(.d (.bool rv.On)),(.d (.str rv.Cron))]],false⟩),(7,⟨1,er eS s_.2,false⟩),(16,⟨1,er eS (([]:List Str)++(cut rv.Tags 0 (if 10 < (rv.Tags.length:Int) then 10 else (rv.Tags.length:Int)))),false⟩),(2,⟨9,[[(.d (.int .i64 0)),(.d (.int .i64 0)),.nils,.nils,(.d (.str ([]:Str))),(.d (.bool false)),(.d (.bool false)),(.d (.bool false)),(.d (.str ([]:Str)))]],false⟩)]⟩ R_),W Tryz.prog glP 80 (.c c14l7 :: .lp c14l7 :: .blk 0 :: k_) ⟨lkT [(1,.b (.s (.ptr 1 1 0 0))),(2,.b (.s (.ptr 2 1 0 0))),(28,.b (.s (.own 7 v28.length))),(29,.b (.s (.d (.int .i64 ((([]:List Str)++(cut rv.Repos 0 (if 10 < (rv.Repos.length:Int) then 10 else (rv.Repos.length:Int)))).length:Int))))),(30,.b (.s (.d (.int .i64 v30))))],lkG [(1,⟨9,[[(.d (.int .i64 rv.Id)),(.d (.int .i64 rv.From)),(.own 7 v28.length),(.own 16 (([]:List Str)++(cut rv.Tags 0 (if 10 < (rv.Tags.length:Int) then 10 else (rv.Tags.length:Int)))).length),(.d (.str rv.Prefix)),(.d (.bool rv.Override)),(.d (.bool rv.Delete)),(.d (.bool rv.On)),(.d (.str rv.Cron))]],false⟩),(7,⟨1,er eS v28,false⟩),(16,⟨1,er eS (([]:List Str)++(cut rv.Tags 0 (if 10 < (rv.Tags.length:Int) then 10 else (rv.Tags.length:Int)))),false⟩),(2,⟨9,[[(.d (.int .i64 0)),(.d (.int .i64 0)),.nils,.nils,(.d (.str ([]:Str))),(.d (.bool false)),(.d (.bool false)),(.d (.bool false)),(.d (.str ([]:Str)))]],false⟩)]⟩ R_:=by
  intro m_;induction m_ with
  | zero=>intro v30 v28 res_ h;rw [f_law14_few_l7.eq_1] at h;cases h
  | succ m_ ih =>
    intro v30 v28 res_ h k_ hx;rw [f_law14_few_l7.eq_2] at h;refine W.cdef c14l7.eq_1 ?_
    refine .seq ?_
    refine Rw.walk ?_
    simp only [wq,seval,c14r3,wj,e_api_Rule]
    refine .seq ?_
    refine .cond (p:=(decide (v30 < ((([]:List Str)++(cut rv.Repos 0 (if 10 < (rv.Repos.length:Int) then 10 else (rv.Repos.length:Int)))).length:Int)))) (by first | rfl | simp only [wq,seval]) (fun h1 => ?_) (fun h1 => ?_)
    · rw [ite_t h1] at h
      refine .skip ?_
      refine .seq ?_
      refine .blk ?_
      refine .seq ?_
      refine Rw.walk ?_
      simp only [wq,seval,c14r4,wj,e_api_Rule]
      obtain ⟨x,e5,h⟩:=Option.bind_eq_some_iff.1 h
      refine Go1.of (sem_iadrO (l:=v28) e5 (by rfl) (by rfl) (by rfl)) ?_
      simp only [wq,seval,c14r4,wj,e_api_Rule,er_get e5]
      refine RwD.walk ?_
      simp only [wq,seval,c14r5,wa,e_api_Rule,er_get e5]
      refine GoD1.of (semI.eq_10 ..) ?_
      simp only [wq,seval,c14r5,wa,e_api_Rule,er_get e5]
      obtain ⟨g6,h⟩:=gd_iff.1 h
      repeat (refine And.intro ?_ ?_; · first | omega | (simp only [wn] at *;omega) | (simp only [List.map_cons,List.map_nil] at *;omega) | (intro q;simp only [wq,seval,q];done))
      obtain ⟨x2,e7,h⟩:=Option.bind_eq_some_iff.1 h
      refine GoD1.of (sem_iadrO (l:=v28) e7 (by rfl) (by rfl) (by rfl)) ?_
      simp only [wq,seval,c14r5,wa,e_api_Rule,er_get e7]
      refine GoD1.of (sem_store (enc:=eS) (l:=v28) (a:=x2) (a':=(cut x 0 (if 130 < (x.length:Int) then 130 else (x.length:Int)))) (v:=.b (.s (.d (.str (cut x 0 (if 130 < (x.length:Int) then 130 else (x.length:Int))))))) (by rfl) (by rfl) (er_get e7) (by rfl) (by trivial) (by rfl) (Nat.le_of_ble_eq_true (by rfl)) (by rfl)) ?_
      simp only [wq,seval,c14r5,wa,e_api_Rule,er_get e7,er_get (ix_set (a2:=(cut x 0 (if 130 < (x.length:Int) then 130 else (x.length:Int)))) e7)]
      refine .eblk ?_
      refine Rw.walk ?_
      simp only [wq,seval,c14r6,wj,e_api_Rule,er_get e7,er_get (ix_set (a2:=(cut x 0 (if 130 < (x.length:Int) then 130 else (x.length:Int)))) e7)]
      refine .lp ?_
      refine .weak (Imp.coA [] _ _ ?_) (ih (IntKind.i64.wrap (v30+1)) (v28.set v30.toNat (cut x 0 (if 130 < (x.length:Int) then 130 else (x.length:Int)))) _ h k_ hx);simp only [wq,seval,wi,er_nil,e_api_Rule]
    · rw [ite_f h1] at h
      refine .exit rfl ?_
      obtain rfl:=Option.some.inj h
      refine .weak (Imp.coA [] _ _ ?_) (hx _ rfl);simp only [wq,seval,wi,er_nil,e_api_Rule]
theorem f_law14_few_l13_ok (rv:api_Rule) (s:Int×(List Str)) (y_:api_Rule) (R_:St→Prop) (hR:(Ret Tryz.prog glP [7,16] rv14 (.b (.agg ((e_api_Rule y_).map Lc.d))))=R_):∀ (m_:Nat) (v48:Int) (v46:(List Str)) (res_:Int×(List Str)) (h:f_law14_few_l13 rv s m_ v48 v46=some res_) (k_:List It) (hx:∀ s_:Int×(List Str),res_=s_→W Tryz.prog glP 80 k_ ⟨lkT [(1,.b (.s (.ptr 1 1 0 0))),(2,.b (.s (.ptr 2 1 0 0))),(46,.b (.s (.own 16 s_.2.length))),(47,.b (.s (.d (.int .i64 ((([]:List Str)++(cut rv.Tags 0 (if 10 < (rv.Tags.length:Int) then 10 else (rv.Tags.length:Int)))).length:Int))))),(48,.b (.s (.d (.int .i64 s_.1))))],lkG [(1,⟨9,[[(.d (.int .i64 rv.Id)),(.d (.int .i64 rv.From)),(.own 7 s.2.length),(.own 16 s_.2.length),(.d (.str rv.Prefix)),(.d (.bool rv.Override)),(.d (.bool rv.Delete)),(.d (.bool rv.On)),(.d (.str rv.Cron))]],false⟩),(7,⟨1,er eS s.2,false⟩),(16,⟨1,er eS s_.2,false⟩),(2,⟨9,[[(.d (.int .i64 0)),(.d (.int .i64 0)),.nils,.nils,(.d (.str ([]:Str))),(.d (.bool false)),(.d (.bool false)),(.d (.bool false)),(.d (.str ([]:Str)))]],false⟩)]⟩ R_),W Tryz.prog glP 80 (.c c14l13 :: .lp c14l13 :: .blk 2 :: k_) ⟨lkT [(1,.b (.s (.ptr 1 1 0 0))),(2,.b (.s (.ptr 2 1 0 0))),(46,.b (.s (.own 16 v46.length))),(47,.b (.s (.d (.int .i64 ((([]:List Str)++(cut rv.Tags 0 (if 10 < (rv.Tags.length:Int) then 10 else (rv.Tags.length:Int)))).length:Int))))),(48,.b (.s (.d (.int .i64 v48))))],lkG [(1,⟨9,[[(.d (.int .i64 rv.Id)),(.d (.int .i64 rv.From)),(.own 7 s.2.length),(.own 16 v46.length),(.d (.str rv.Prefix)),(.d (.bool rv.Override)),(.d (.bool rv.Delete)),(.d (.bool rv.On)),(.d (.str rv.Cron))]],false⟩),(7,⟨1,er eS s.2,false⟩),(16,⟨1,er eS v46,false⟩),(2,⟨9,[[(.d (.int .i64 0)),(.d (.int .i64 0)),.nils,.nils,(.d (.str ([]:Str))),(.d (.bool false)),(.d (.bool false)),(.d (.bool false)),(.d (.str ([]:Str)))]],false⟩)]⟩ R_:=by
  intro m_;induction m_ with
  | zero=>intro v48 v46 res_ h;rw [f_law14_few_l13.eq_1] at h;cases h
  | succ m_ ih =>
    intro v48 v46 res_ h k_ hx;rw [f_law14_few_l13.eq_2] at h;refine W.cdef c14l13.eq_1 ?_
    refine .seq ?_
    refine Rw.walk ?_
    simp only [wq,seval,c14r8,wj,e_api_Rule]
    refine .seq ?_
    refine .cond (p:=(decide (v48 < ((([]:List Str)++(cut rv.Tags 0 (if 10 < (rv.Tags.length:Int) then 10 else (rv.Tags.length:Int)))).length:Int)))) (by first | rfl | simp only [wq,seval]) (fun h1 => ?_) (fun h1 => ?_)
    · rw [ite_t h1] at h
      refine .skip ?_
      refine .seq ?_
      refine .blk ?_
      refine .seq ?_
      refine Rw.walk ?_
      simp only [wq,seval,c14r9,wj,e_api_Rule]
      obtain ⟨x,e8,h⟩:=Option.bind_eq_some_iff.1 h
      refine Go1.of (sem_iadrO (l:=v46) e8 (by rfl) (by rfl) (by rfl)) ?_
      simp only [wq,seval,c14r9,wj,e_api_Rule,er_get e8]
      refine RwD.walk ?_
      simp only [wq,seval,c14r10,wa,e_api_Rule,er_get e8]
      refine GoD1.of (semI.eq_10 ..) ?_
      simp only [wq,seval,c14r10,wa,e_api_Rule,er_get e8]
      obtain ⟨g9,h⟩:=gd_iff.1 h
      repeat (refine And.intro ?_ ?_; · first | omega | (simp only [wn] at *;omega) | (simp only [List.map_cons,List.map_nil] at *;omega) | (intro q;simp only [wq,seval,q];done))
      obtain ⟨x2,e10,h⟩:=Option.bind_eq_some_iff.1 h
      refine GoD1.of (sem_iadrO (l:=v46) e10 (by rfl) (by rfl) (by rfl)) ?_
      simp only [wq,seval,c14r10,wa,e_api_Rule,er_get e10]
      refine GoD1.of (sem_store (enc:=eS) (l:=v46) (a:=x2) (a':=(cut x 0 (if 130 < (x.length:Int) then 130 else (x.length:Int)))) (v:=.b (.s (.d (.str (cut x 0 (if 130 < (x.length:Int) then 130 else (x.length:Int))))))) (by rfl) (by rfl) (er_get e10) (by rfl) (by trivial) (by rfl) (Nat.le_of_ble_eq_true (by rfl)) (by rfl)) ?_
      simp only [wq,seval,c14r10,wa,e_api_Rule,er_get e10,er_get (ix_set (a2:=(cut x 0 (if 130 < (x.length:Int) then 130 else (x.length:Int)))) e10)]
      refine .eblk ?_
      refine Rw.walk ?_
      simp only [wq,seval,c14r11,wj,e_api_Rule,er_get e10,er_get (ix_set (a2:=(cut x 0 (if 130 < (x.length:Int) then 130 else (x.length:Int)))) e10)]
      refine .lp ?_
      refine .weak (Imp.coA [] _ _ ?_) (ih (IntKind.i64.wrap (v48+1)) (v46.set v48.toNat (cut x 0 (if 130 < (x.length:Int) then 130 else (x.length:Int)))) _ h k_ hx);simp only [wq,seval,wi,er_nil,e_api_Rule]
    · rw [ite_f h1] at h
      refine .exit rfl ?_
      obtain rfl:=Option.some.inj h
      refine .weak (Imp.coA [] _ _ ?_) (hx _ rfl);simp only [wq,seval,wi,er_nil,e_api_Rule]
theorem f_law14_few_ok (rv:api_Rule) (y_:api_Rule) (h:f_law14_few rv=some y_):Fun Tryz.prog glP 14 [.b (.agg ((e_api_Rule rv).map Lc.d))] (.b (.agg ((e_api_Rule y_).map Lc.d))):=by
  refine fun_walk [7,16] Tryz.func14 Tryz.ntmps14 cc14 cr14 (by kernel_rfl) (by simp only [List.length_cons,List.length_nil];decide) ?_
  generalize hR:Ret _ _ _ _ _=R_
  simp only [wq,seval,e_api_Rule]
  unfold f_law14_few at h;unfold c14
  refine .seq ?_
  refine Rw.walk ?_
  simp only [wq,seval,c14r0,wj,e_api_Rule]
  refine .seq ?_
  refine RwD.walk ?_
  simp only [wq,seval,c14r1,wj,e_api_Rule]
  refine GoD1.of (sem_bsl (enc:=eS) (m:=([]:List Str)) eS_len (by rfl) (by rfl) (by rfl) trivial) ?_
  simp only [wq,seval,c14r1,wj,e_api_Rule]
  obtain ⟨g1,h⟩:=gd_iff.1 h
  repeat (refine And.intro ?_ ?_; · first | omega | (simp only [wn] at *;omega) | (simp only [List.map_cons,List.map_nil] at *;omega) | (intro q;simp only [wq,seval,q];done))
  refine GoD1.of (sem_slc (p:=0) (q:=(if 10 < (rv.Repos.length:Int) then 10 else (rv.Repos.length:Int))) eS_len (by rfl) (by rfl) (by rfl)) ?_
  simp only [wq,seval,c14r1,wj,e_api_Rule]
  repeat (refine And.intro ?_ ?_; · first | omega | (simp only [wn] at *;omega) | (simp only [List.map_cons,List.map_nil] at *;omega) | (intro q;simp only [wq,seval,q];done))
  obtain ⟨g2,h⟩:=gd_iff.1 h
  refine GoD1.of (sem_app (enc:=eS) (l:=([]:List Str)) (m:=(cut rv.Repos 0 (if 10 < (rv.Repos.length:Int) then 10 else (rv.Repos.length:Int)))) eS_len (by rfl) (by rfl) ((by rfl))) ?_
  simp only [wq,seval,c14r1,wj,e_api_Rule]
  repeat (refine And.intro ?_ ?_; · first | omega | (simp only [wn] at *;omega) | (simp only [List.map_cons,List.map_nil] at *;omega) | (intro q;simp only [wq,seval,q];done))
  refine GoD1.of (sem_bsl (enc:=eS) (m:=([]:List Str)) eS_len (by rfl) (by rfl) (by rfl) trivial) ?_
  simp only [wq,seval,c14r1,wj,e_api_Rule]
  obtain ⟨g3,h⟩:=gd_iff.1 h
  repeat (refine And.intro ?_ ?_; · first | omega | (simp only [wn] at *;omega) | (simp only [List.map_cons,List.map_nil] at *;omega) | (intro q;simp only [wq,seval,q];done))
  refine GoD1.of (sem_slc (p:=0) (q:=(if 10 < (rv.Tags.length:Int) then 10 else (rv.Tags.length:Int))) eS_len (by rfl) (by rfl) (by rfl)) ?_
  simp only [wq,seval,c14r1,wj,e_api_Rule]
  repeat (refine And.intro ?_ ?_; · first | omega | (simp only [wn] at *;omega) | (simp only [List.map_cons,List.map_nil] at *;omega) | (intro q;simp only [wq,seval,q];done))
  obtain ⟨g4,h⟩:=gd_iff.1 h
  refine GoD1.of (sem_app (enc:=eS) (l:=([]:List Str)) (m:=(cut rv.Tags 0 (if 10 < (rv.Tags.length:Int) then 10 else (rv.Tags.length:Int)))) eS_len (by rfl) (by rfl) ((by rfl))) ?_
  simp only [wq,seval,c14r1,wj,e_api_Rule]
  repeat (refine And.intro ?_ ?_; · first | omega | (simp only [wn] at *;omega) | (simp only [List.map_cons,List.map_nil] at *;omega) | (intro q;simp only [wq,seval,q];done))
  refine .seq ?_
  refine .seq ?_
  refine Rw.walk ?_
  simp only [wq,seval,c14r2,wj,e_api_Rule]
  refine .blk ?_
  obtain ⟨s,hf,h⟩:=Option.bind_eq_some_iff.1 h
  refine .loop (.weak (Imp.coA [] _ _ ?_) (f_law14_few_l7_ok rv _ _ hR _ _ _ _ hf _ ?_))
  · simp only [wq,seval,wi,er_nil,e_api_Rule]
  · intro s_ hs;subst hs
    refine .seq ?_
    refine .seq ?_
    refine Rw.walk ?_
    simp only [wq,seval,c14r7,wj,e_api_Rule]
    refine .blk ?_
    obtain ⟨s2,hf,h⟩:=Option.bind_eq_some_iff.1 h
    refine .loop (.weak (Imp.coA [] _ _ ?_) (f_law14_few_l13_ok rv s _ _ hR _ _ _ _ hf _ ?_))
    · simp only [wq,seval,wi,er_nil,e_api_Rule]
    · intro s2_ hs;subst hs
      refine .seq ?_
      refine RwD.walk ?_
      obtain ⟨g11,h⟩:=gd_iff.1 h
      obtain ⟨g12,h⟩:=gd_iff.1 h
      simp only [wq,seval,c14r12,wj,e_api_Rule]
      repeat (refine And.intro ?_ ?_; · first | omega | (simp only [wn] at *;omega) | (simp only [List.map_cons,List.map_nil] at *;omega) | (intro q;simp only [wq,seval,q];done))
      refine .seq ?_
      refine Rw.walk ?_
      simp only [wq,seval,c14r13,wj,e_api_Rule]
      obtain rfl:=Option.some.inj h
      refine .ret ?_
      rw [← hR]
      simp only [wq,seval,rv14,semI.eq_10,e_api_Rule]
def c196r0:List Opn:=[
  ⟨(some 4),none,.mv (.c (.s (.d (.int .i64 0))))⟩]
def c196r1:List Opn:=[
  ⟨(some 5),none,.mv (.t 0)⟩,
  ⟨(some 6),none,.mv (.t 1)⟩,
  ⟨(some 7),none,.call (.fn 223) [(.t 5),(.t 6)]⟩,
  ⟨(some 4),none,.mv (.t 7)⟩]
def c196:C:=.seq (.reg c196r0 none [0,1]) (.seq (.reg c196r1 none [4]) (.ret))
def k196:List (Nat×List Nat):=[(1,[4]),(0,[0,1])]
theorem cc196:(Tryz.f196.body).bind (cC Tryz.prog 8 k196)=some c196:=by kernel_rfl
def rv196:List RV:=[.t 4]
theorem cr196:cRVs Tryz.prog Tryz.f196.results.toList=some rv196:=by kernel_rfl
theorem f_strings_Index_ok (s:Str) (substr:Str) (y_:Int) (h:f_strings_Index s substr=some y_):Fun Tryz.prog glP 196 [.b (.s (.d (.str s))),.b (.s (.d (.str substr)))] (.b (.s (.d (.int .i64 y_)))):=by
  refine fun_walk [] Tryz.func196 Tryz.ntmps196 cc196 cr196 (by kernel_rfl) (by simp only [List.length_cons,List.length_nil];decide) ?_
  generalize hR:Ret _ _ _ _ _=R_
  simp only [wq,seval]
  unfold f_strings_Index at h;unfold c196
  refine .seq ?_
  refine Rw.walk ?_
  simp only [wq,seval,c196r0,wj]
  refine .seq ?_
  refine Rw.walk ?_
  simp only [wq,seval,c196r1,wj]
  obtain ⟨t,e1,h⟩:=Option.bind_eq_some_iff.1 h
  refine call_fun [] false ⟨trivial,trivial,trivial,trivial⟩ rfl ?_ (f_internal_stringslite_Index_ok _ _ _ e1) (fun _=>rfl) (fun i hi=>by cases hi) ?_
  · simp only [wq,seval]
  simp only [wq,seval,c196r1,wj]
  obtain rfl:=Option.some.inj h
  refine .ret ?_
  rw [← hR]
  simp only [wq,seval,rv196]
def c181r0:List Opn:=[
  ⟨(some 8),none,.mv (.c (.s .nils))⟩]
def c181r1:List Opn:=[
  ⟨(some 12),none,.mv (.t 3)⟩,
  ⟨(some 13),none,.bin .eql (.t 12) (.c (.s (.d (.int .i64 0))))⟩]
def c181r2:List Opn:=[
  ⟨(some 8),none,.mv (.c (.s .nils))⟩]
def c181r3:List Opn:=[
  ⟨(some 14),none,.mv (.t 1)⟩,
  ⟨(some 15),none,.bin .eql (.t 14) (.c (.s (.d (.str []))))⟩]
def c181r4:List Opn:=[
  ⟨(some 16),none,.mv (.t 0)⟩,
  ⟨(some 17),none,.mv (.t 3)⟩,
  ⟨(some 18),none,.call (.fn 212) [(.t 16),(.t 17)]⟩,
  ⟨(some 8),none,.mv (.t 18)⟩]
def c181r5:List Opn:=[
  ⟨(some 19),none,.mv (.t 3)⟩,
  ⟨(some 20),none,.bin .lss (.t 19) (.c (.s (.d (.int .i64 0))))⟩]
def c181r6:List Opn:=[
  ⟨(some 21),none,.mv (.t 0)⟩,
  ⟨(some 22),none,.mv (.t 1)⟩,
  ⟨(some 23),none,.call (.fn 213) [(.t 21),(.t 22)]⟩,
  ⟨(some 24),none,.bin .add (.t 23) (.c (.s (.d (.int .i64 1))))⟩,
  ⟨(some 3),none,.mv (.t 24)⟩]
def c181r7:List Opn:=[
  ⟨(some 25),none,.mv (.t 3)⟩,
  ⟨(some 26),none,.mv (.t 0)⟩,
  ⟨(some 27),none,.len .str (.t 26)⟩,
  ⟨(some 28),none,.bin .add (.t 27) (.c (.s (.d (.int .i64 1))))⟩,
  ⟨(some 29),none,.mm false (.t 25) (.t 28)⟩,
  ⟨(some 3),none,.mv (.t 29)⟩]
def c181r8:List Opn:=[
  ⟨(some 30),none,.mv (.t 3)⟩,
  ⟨(some 31),none,.mksl 1 16 [(.d (.str []))] (.t 30) (.t 30)⟩,
  ⟨(some 9),none,.mv (.t 31)⟩]
def c181r9:List Opn:=[
  ⟨(some 32),none,.mv (.t 3)⟩,
  ⟨(some 33),none,.bin .sub (.t 32) (.c (.s (.d (.int .i64 1))))⟩,
  ⟨(some 3),none,.mv (.t 33)⟩]
def c181r10:List Opn:=[
  ⟨(some 10),none,.mv (.c (.s (.d (.int .i64 0))))⟩]
def c181r11:List Opn:=[
  ⟨(some 34),none,.mv (.t 10)⟩,
  ⟨(some 35),none,.mv (.t 3)⟩,
  ⟨(some 36),none,.bin .lss (.t 34) (.t 35)⟩]
def c181r12:List Opn:=[
  ⟨(some 37),none,.mv (.t 0)⟩,
  ⟨(some 38),none,.mv (.t 1)⟩,
  ⟨(some 39),none,.call (.fn 196) [(.t 37),(.t 38)]⟩,
  ⟨(some 11),none,.mv (.t 39)⟩]
def c181r13:List Opn:=[
  ⟨(some 40),none,.mv (.t 11)⟩,
  ⟨(some 41),none,.bin .lss (.t 40) (.c (.s (.d (.int .i64 0))))⟩]
def c181r14:List Opn:=[
  ⟨(some 42),none,.mv (.t 9)⟩,
  ⟨(some 43),none,.mv (.t 10)⟩,
  ⟨(some 44),none,.mv (.t 0)⟩,
  ⟨(some 45),none,.mv (.t 11)⟩,
  ⟨(some 46),none,.mv (.t 2)⟩,
  ⟨(some 47),none,.bin .add (.t 45) (.t 46)⟩,
  ⟨(some 48),none,.slc .str (.t 44) none (some (.t 47)) none⟩,
  ⟨(some 49),none,.iadr (.sl 1) (.t 42) (.t 43)⟩,
  ⟨none,none,.store 1 (.t 49) (.t 48)⟩]
def c181r15:List Opn:=[
  ⟨(some 50),none,.mv (.t 0)⟩,
  ⟨(some 51),none,.mv (.t 11)⟩,
  ⟨(some 52),none,.mv (.t 1)⟩,
  ⟨(some 53),none,.len .str (.t 52)⟩,
  ⟨(some 54),none,.bin .add (.t 51) (.t 53)⟩,
  ⟨(some 55),none,.slc .str (.t 50) (some (.t 54)) none none⟩,
  ⟨(some 0),none,.mv (.t 55)⟩]
def c181r16:List Opn:=[
  ⟨(some 56),none,.mv (.t 10)⟩,
  ⟨(some 57),none,.bin .add (.t 56) (.c (.s (.d (.int .i64 1))))⟩,
  ⟨(some 10),none,.mv (.t 57)⟩]
def c181l17:C:=.seq (.seq (.reg c181r11 none [0,1,2,3,9,10,36]) (.cond (.t 36) (.skip) (.exit 0))) (.blk 1 (.seq (.reg c181r12 none [0,1,2,3,9,10,11]) (.seq (.seq (.reg c181r13 none [0,1,2,3,9,10,11,41]) (.cond (.t 41) (.exit 0) (.skip))) (.seq (.reg c181r14 none [0,1,2,3,9,10,11]) (.seq (.reg c181r15 none [0,1,2,3,9,10]) (.reg c181r16 none [0,1,2,3,9,10]))))))
def c181r17:List Opn:=[
  ⟨(some 58),none,.mv (.t 9)⟩,
  ⟨(some 59),none,.mv (.t 10)⟩,
  ⟨(some 60),none,.mv (.t 0)⟩,
  ⟨(some 61),none,.iadr (.sl 1) (.t 58) (.t 59)⟩,
  ⟨none,none,.store 1 (.t 61) (.t 60)⟩]
def c181r18:List Opn:=[
  ⟨(some 62),none,.mv (.t 9)⟩,
  ⟨(some 63),none,.mv (.t 10)⟩,
  ⟨(some 64),none,.bin .add (.t 63) (.c (.s (.d (.int .i64 1))))⟩,
  ⟨(some 65),none,.slc (.sl 1) (.t 62) none (some (.t 64)) none⟩,
  ⟨(some 8),none,.mv (.t 65)⟩]
def c181:C:=.seq (.reg c181r0 none [0,1,2,3]) (.seq (.seq (.reg c181r1 none [0,1,2,3,13]) (.cond (.t 13) (.seq (.reg c181r2 none [8]) (.ret)) (.skip))) (.seq (.seq (.reg c181r3 none [0,1,2,3,15]) (.cond (.t 15) (.seq (.reg c181r4 none [8]) (.ret)) (.skip))) (.seq (.seq (.reg c181r5 none [0,1,2,3,20]) (.cond (.t 20) (.reg c181r6 none [0,1,2,3]) (.skip))) (.seq (.reg c181r7 none [0,1,2,3]) (.seq (.reg c181r8 none [0,1,2,3,9]) (.seq (.reg c181r9 none [0,1,2,3,9]) (.seq (.reg c181r10 none [0,1,2,3,9,10]) (.seq (.blk 0 (.loop c181l17)) (.seq (.reg c181r17 none [9,10]) (.seq (.reg c181r18 none [8]) (.ret)))))))))))
def k181:List (Nat×List Nat):=[(18,[8]),(17,[9,10]),(16,[0,1,2,3,9,10]),(15,[0,1,2,3,9,10]),(14,[0,1,2,3,9,10,11]),(13,[0,1,2,3,9,10,11,41]),(12,[0,1,2,3,9,10,11]),(11,[0,1,2,3,9,10,36]),(10,[0,1,2,3,9,10]),(9,[0,1,2,3,9]),(8,[0,1,2,3,9]),(7,[0,1,2,3]),(6,[0,1,2,3]),(5,[0,1,2,3,20]),(4,[8]),(3,[0,1,2,3,15]),(2,[8]),(1,[0,1,2,3,13]),(0,[0,1,2,3])]
theorem cc181:(Tryz.f181.body).bind (cC Tryz.prog 66 k181)=some c181:=by kernel_rfl
def rv181:List RV:=[.t 8]
theorem cr181:cRVs Tryz.prog Tryz.f181.results.toList=some rv181:=by kernel_rfl
theorem f_strings_genSplit_l17_ok (s:Str) (sep:Str) (sepSave:Int) (n2:Int) (y_:(List Str)) (R_:St→Prop) (hR:(Ret Tryz.prog glP [] rv181 (.b (.s (.d (.sl (y_.map eS))))))=R_):∀ (m_:Nat) (s3:Str) (i:Int) (a:(List Str)) (res_:Str×Int×(List Str)) (h:f_strings_genSplit_l17 s sep sepSave n2 m_ s3 i a=some res_) (k_:List It) (hx:∀ s_:Str×Int×(List Str),res_=s_→W Tryz.prog glP 66 k_ ⟨lkT [(0,.b (.s (.d (.str s_.1)))),(1,.b (.s (.d (.str sep)))),(2,.b (.s (.d (.int .i64 sepSave)))),(3,.b (.s (.d (.int .i64 (IntKind.i64.wrap (n2 - 1)))))),(9,.b (.s (.own 31 s_.2.2.length))),(10,.b (.s (.d (.int .i64 s_.2.1))))],lkG [(31,⟨1,er eS s_.2.2,false⟩)]⟩ R_),W Tryz.prog glP 66 (.c c181l17 :: .lp c181l17 :: .blk 0 :: k_) ⟨lkT [(0,.b (.s (.d (.str s3)))),(1,.b (.s (.d (.str sep)))),(2,.b (.s (.d (.int .i64 sepSave)))),(3,.b (.s (.d (.int .i64 (IntKind.i64.wrap (n2 - 1)))))),(9,.b (.s (.own 31 a.length))),(10,.b (.s (.d (.int .i64 i))))],lkG [(31,⟨1,er eS a,false⟩)]⟩ R_:=by
  intro m_;induction m_ with
  | zero=>intro s3 i a res_ h;rw [f_strings_genSplit_l17.eq_1] at h;cases h
  | succ m_ ih =>
    intro s3 i a res_ h k_ hx;rw [f_strings_genSplit_l17.eq_2] at h;refine W.cdef c181l17.eq_1 ?_
    refine .seq ?_
    refine .seq ?_
    refine Rw.walk ?_
    simp only [wq,seval,c181r11,wj]
    refine .cond (p:=(decide (i < (IntKind.i64.wrap (n2 - 1))))) (by first | rfl | simp only [wq,seval]) (fun h1 => ?_) (fun h1 => ?_)
    · rw [ite_t h1] at h
      refine .skip ?_
      refine .blk ?_
      refine .seq ?_
      refine Rw.walk ?_
      simp only [wq,seval,c181r12,wj]
      obtain ⟨t,e4,h⟩:=Option.bind_eq_some_iff.1 h
      refine call_fun [] false ⟨trivial,trivial,trivial,trivial⟩ rfl ?_ (f_strings_Index_ok _ _ _ e4) (fun _=>rfl) (fun i hi=>by cases hi) ?_
      · simp only [wq,seval]
      simp only [wq,seval,c181r12,wj]
      refine .seq ?_
      refine .seq ?_
      refine Rw.walk ?_
      simp only [wq,seval,c181r13,wj]
      refine .cond (p:=(decide (t < 0))) (by first | rfl | simp only [wq,seval]) (fun h1 => ?_) (fun h1 => ?_)
      · rw [ite_t h1] at h
        refine .exit rfl ?_
        obtain rfl:=Option.some.inj h
        refine .weak (Imp.coA [] _ _ ?_) (hx _ rfl);simp only [wq,seval,wi,er_nil]
      · rw [ite_f h1] at h
        refine .skip ?_
        refine .seq ?_
        refine Rw.walk ?_
        obtain ⟨g5,h⟩:=gd_iff.1 h
        simp only [wq,seval,c181r14,wa]
        repeat (refine And.intro ?_ ?_; · first | omega | (simp only [wn] at *;omega) | (simp only [List.map_cons,List.map_nil] at *;omega) | (intro q;simp only [wq,seval,q];done))
        obtain ⟨x,e6,h⟩:=Option.bind_eq_some_iff.1 h
        refine Go1.of (sem_iadrO (l:=a) e6 (by rfl) (by rfl) (by rfl)) ?_
        simp only [wq,seval,c181r14,wa,er_get e6]
        refine Go1.of (sem_store (enc:=eS) (l:=a) (a:=x) (a':=(cut s3 0 (IntKind.i64.wrap (t+sepSave)))) (v:=.b (.s (.d (.str (cut s3 0 (IntKind.i64.wrap (t+sepSave))))))) (by rfl) (by rfl) (er_get e6) (by rfl) (by trivial) (by rfl) (Nat.le_of_ble_eq_true (by rfl)) (by rfl)) ?_
        simp only [wq,seval,c181r14,wa,er_get e6,er_get (ix_set (a2:=(cut s3 0 (IntKind.i64.wrap (t+sepSave)))) e6)]
        refine .seq ?_
        refine Rw.walk ?_
        obtain ⟨g7,h⟩:=gd_iff.1 h
        simp only [wq,seval,c181r15,wj,er_get e6,er_get (ix_set (a2:=(cut s3 0 (IntKind.i64.wrap (t+sepSave)))) e6)]
        repeat (refine And.intro ?_ ?_; · first | omega | (simp only [wn] at *;omega) | (simp only [List.map_cons,List.map_nil] at *;omega) | (intro q;simp only [wq,seval,q];done))
        refine Rw.walk ?_
        simp only [wq,seval,c181r16,wj,er_get e6,er_get (ix_set (a2:=(cut s3 0 (IntKind.i64.wrap (t+sepSave)))) e6)]
        refine .eblk ?_
        refine .lp ?_
        refine .weak (Imp.coA [] _ _ ?_) (ih (cut s3 (IntKind.i64.wrap (t+(sep.length:Int))) (s3.length:Int)) (IntKind.i64.wrap (i+1)) (a.set i.toNat (cut s3 0 (IntKind.i64.wrap (t+sepSave)))) _ h k_ hx);simp only [wq,seval,wi,er_nil]
    · rw [ite_f h1] at h
      refine .exit rfl ?_
      obtain rfl:=Option.some.inj h
      refine .weak (Imp.coA [] _ _ ?_) (hx _ rfl);simp only [wq,seval,wi,er_nil]
theorem f_strings_genSplit_ok (s:Str) (sep:Str) (sepSave:Int) (n:Int) (y_:(List Str)) (h:f_strings_genSplit s sep sepSave n=some y_):Fun Tryz.prog glP 181 [.b (.s (.d (.str s))),.b (.s (.d (.str sep))),.b (.s (.d (.int .i64 sepSave))),.b (.s (.d (.int .i64 n)))] (.b (.s (.d (.sl (y_.map eS))))):=by
  refine fun_walk [] Tryz.func181 Tryz.ntmps181 cc181 cr181 (by kernel_rfl) (by simp only [List.length_cons,List.length_nil];decide) ?_
  generalize hR:Ret _ _ _ _ _=R_
  simp only [wq,seval]
  unfold f_strings_genSplit at h;unfold c181
  refine .seq ?_
  refine Rw.walk ?_
  simp only [wq,seval,c181r0,wj]
  refine .seq ?_
  refine .seq ?_
  refine Rw.walk ?_
  simp only [wq,seval,c181r1,wj]
  refine .cond (p:=(n == 0)) (by first | rfl | simp only [wq,seval]) (fun h1 => ?_) (fun h1 => ?_)
  · rw [ite_t h1] at h
    refine .seq ?_
    refine Rw.walk ?_
    simp only [wq,seval,c181r2,wj]
    obtain rfl:=Option.some.inj h
    refine .ret ?_
    rw [← hR]
    simp only [wq,seval,rv181]
  · rw [ite_f h1] at h
    refine .skip ?_
    refine .seq ?_
    refine .seq ?_
    refine Rw.walk ?_
    simp only [wq,seval,c181r3,wj]
    refine .cond (p:=(sep == ([]:Str))) (by first | rfl | simp only [wq,seval]) (fun h1 => ?_) (fun h1 => ?_)
    · rw [ite_t h1] at h
      refine .seq ?_
      refine Rw.walk ?_
      simp only [wq,seval,c181r4,wj]
      obtain ⟨t,e1,h⟩:=Option.bind_eq_some_iff.1 h
      refine call_fun [] true ⟨trivial,trivial,trivial,trivial⟩ rfl ?_ (f_strings_explode_ok _ _ _ e1) (fun h=>by cases h) (fun i hi=>by cases hi) ?_
      · simp only [wq,seval]
      simp only [wq,seval,c181r4,wj]
      obtain rfl:=Option.some.inj h
      refine .ret ?_
      rw [← hR]
      simp only [wq,seval,rv181]
    · rw [ite_f h1] at h
      refine .skip ?_
      refine .seq ?_
      obtain ⟨s2,hf,h⟩:=Option.bind_eq_some_iff.1 h
      refine W.cut1 ⟨lkT [(0,.b (.s (.d (.str s)))),(1,.b (.s (.d (.str sep)))),(2,.b (.s (.d (.int .i64 sepSave)))),(3,.b (.s (.d (.int .i64 s2))))],lkG []⟩ ?_ (fun tail => ?_)
      · skip
        refine .seq ?_
        refine Rw.walk ?_
        simp only [wq,seval,c181r7,wj]
        obtain ⟨n2,e2,h⟩:=Option.bind_eq_some_iff.1 h
        replace e2:=Option.some.inj e2
        first | simp only [e2] | (simp only [wq,seval] at e2;simp only [e2])
        refine .seq ?_
        refine Rw.walk ?_
        simp only [wq,seval,c181r8,wj]
        obtain ⟨g3,h⟩:=gd_iff.1 h
        repeat (refine And.intro ?_ ?_; · first | omega | (simp only [wn] at *;omega) | (simp only [List.map_cons,List.map_nil] at *;omega) | (intro q;simp only [wq,seval,q];done))
        refine Go1.of (sem_mksl (enc:=eS) (z1:=[]) (p:=n2) (q:=n2) (by rfl) (by rfl) (by rfl) (by rfl) (by rfl)) ?_
        simp only [wq,seval,c181r8,wj]
        repeat (refine And.intro ?_ ?_; · first | omega | (simp only [wn] at *;omega) | (simp only [List.map_cons,List.map_nil] at *;omega) | (intro q;simp only [wq,seval,q];done))
        refine .seq ?_
        refine Rw.walk ?_
        simp only [wq,seval,c181r9,wj]
        refine .seq ?_
        refine Rw.walk ?_
        simp only [wq,seval,c181r10,wj]
        refine .seq ?_
        refine .blk ?_
        obtain ⟨s3,hf,h⟩:=Option.bind_eq_some_iff.1 h
        refine .loop (.weak (Imp.coA [] _ _ ?_) (f_strings_genSplit_l17_ok s sep sepSave n2 _ _ hR _ _ _ _ _ hf _ ?_))
        · simp only [wq,seval,wi,er_nil]
        · intro s3_ hs;subst hs
          refine .seq ?_
          refine Rw.walk ?_
          simp only [wq,seval,c181r17,wa]
          obtain ⟨x,e8,h⟩:=Option.bind_eq_some_iff.1 h
          refine Go1.of (sem_iadrO (l:=s3.2.2) e8 (by rfl) (by rfl) (by rfl)) ?_
          simp only [wq,seval,c181r17,wa,er_get e8]
          refine Go1.of (sem_store (enc:=eS) (l:=s3.2.2) (a:=x) (a':=s3.1) (v:=.b (.s (.d (.str s3.1)))) (by rfl) (by rfl) (er_get e8) (by rfl) (by trivial) (by rfl) (Nat.le_of_ble_eq_true (by rfl)) (by rfl)) ?_
          simp only [wq,seval,c181r17,wa,er_get e8,er_get (ix_set (a2:=s3.1) e8)]
          refine .seq ?_
          refine .weak (Imp.coA [31] [(9,.b (.s (.d (.sl ((s3.2.2.set s3.2.1.toNat s3.1).map eS))))),(10,.b (.s (.d (.int .i64 s3.2.1))))] [] ?_) ?_
          · simp only [wq,seval,wi,er_nil]
          refine Rw.walk ?_
          simp only [wq,seval,c181r18,wj,er_get e8,er_get (ix_set (a2:=s3.1) e8)]
          obtain ⟨g9,h⟩:=gd_iff.1 h
          repeat (refine And.intro ?_ ?_; · first | omega | (simp only [wn] at *;omega) | (simp only [List.map_cons,List.map_nil] at *;omega) | (intro q;simp only [wq,seval,q];done))
          refine Go1.of (sem_slc (p:=0) (q:=(IntKind.i64.wrap (s3.2.1+1))) eS_len (by rfl) (by rfl) (by rfl)) ?_
          simp only [wq,seval,c181r18,wj,er_get e8,er_get (ix_set (a2:=s3.1) e8)]
          repeat (refine And.intro ?_ ?_; · first | omega | (simp only [wn] at *;omega) | (simp only [List.map_cons,List.map_nil] at *;omega) | (intro q;simp only [wq,seval,q];done))
          obtain rfl:=Option.some.inj h
          refine .ret ?_
          rw [← hR]
          simp only [wq,seval,rv181,er_get e8,er_get (ix_set (a2:=s3.1) e8)]
      replace h:=hf
      refine .seq ?_
      refine Rw.walk ?_
      simp only [wq,seval,c181r5,wj]
      refine .cond (p:=(decide (n < 0))) (by first | rfl | simp only [wq,seval]) (fun h1 => ?_) (fun h1 => ?_)
      · rw [ite_t h1] at h
        refine Rw.walk ?_
        simp only [wq,seval,c181r6,wj]
        obtain ⟨t,e10,h⟩:=Option.bind_eq_some_iff.1 h
        refine call_fun [] false ⟨trivial,trivial,trivial,trivial⟩ rfl ?_ (f_strings_Count_ok _ _ _ e10) (fun _=>rfl) (fun i hi=>by cases hi) ?_
        · simp only [wq,seval]
        simp only [wq,seval,c181r6,wj]
        obtain rfl:=Option.some.inj h
        refine .weak (Imp.coA [] _ _ ?_) (tail);simp only [wq,seval,wi,er_nil]
      · rw [ite_f h1] at h
        refine .skip ?_
        obtain rfl:=Option.some.inj h
        refine .weak (Imp.coA [] _ _ ?_) (tail);simp only [wq,seval,wi,er_nil]
def c126r0:List Opn:=[
  ⟨(some 4),none,.mv (.c (.s .nils))⟩]
def c126r1:List Opn:=[
  ⟨(some 5),none,.mv (.t 0)⟩,
  ⟨(some 6),none,.mv (.t 1)⟩,
  ⟨(some 7),none,.call (.fn 181) [(.t 5),(.t 6),(.c (.s (.d (.int .i64 0)))),(.c (.s (.d (.int .i64 (-1)))))]⟩,
  ⟨(some 4),none,.mv (.t 7)⟩]
def c126:C:=.seq (.reg c126r0 none [0,1]) (.seq (.reg c126r1 none [4]) (.ret))
def k126:List (Nat×List Nat):=[(1,[4]),(0,[0,1])]
theorem cc126:(Tryz.f126.body).bind (cC Tryz.prog 8 k126)=some c126:=by kernel_rfl
def rv126:List RV:=[.t 4]
theorem cr126:cRVs Tryz.prog Tryz.f126.results.toList=some rv126:=by kernel_rfl
theorem f_strings_Split_ok (s:Str) (sep:Str) (y_:(List Str)) (h:f_strings_Split s sep=some y_):Fun Tryz.prog glP 126 [.b (.s (.d (.str s))),.b (.s (.d (.str sep)))] (.b (.s (.d (.sl (y_.map eS))))):=by
  refine fun_walk [] Tryz.func126 Tryz.ntmps126 cc126 cr126 (by kernel_rfl) (by simp only [List.length_cons,List.length_nil];decide) ?_
  generalize hR:Ret _ _ _ _ _=R_
  simp only [wq,seval]
  unfold f_strings_Split at h;unfold c126
  refine .seq ?_
  refine Rw.walk ?_
  simp only [wq,seval,c126r0,wj]
  refine .seq ?_
  refine Rw.walk ?_
  simp only [wq,seval,c126r1,wj]
  obtain ⟨t,e1,h⟩:=Option.bind_eq_some_iff.1 h
  refine call_fun [] true ⟨trivial,trivial,trivial,trivial,trivial,trivial⟩ rfl ?_ (f_strings_genSplit_ok _ _ _ _ _ e1) (fun h=>by cases h) (fun i hi=>by cases hi) ?_
  · simp only [wq,seval]
  simp only [wq,seval,c126r1,wj]
  obtain rfl:=Option.some.inj h
  refine .ret ?_
  rw [← hR]
  simp only [wq,seval,rv126]
def c127r0:List Opn:=[
  ⟨(some 0),none,.new [(.d (.int .i64 0)),(.d (.int .i64 0)),(.d (.int .i64 0)),(.d (.int .i64 0)),(.d (.int .i64 0)),(.d (.int .i64 0)),(.d (.int .i64 0)),(.d (.int .i64 0)),(.d (.int .i64 0)),(.d (.int .i64 0))]⟩]
def c127r1:List Opn:=[
  ⟨(some 1),none,.build [(.d (.int .i64 0)),(.d (.int .i64 0))] [(0,1,(.c (.s (.d (.int .i64 0))))),(1,1,(.c (.s (.d (.int .i64 59)))))]⟩,
  ⟨(some 2),none,.build [(.d (.int .i64 0)),(.d (.int .i64 0))] [(0,1,(.c (.s (.d (.int .i64 0))))),(1,1,(.c (.s (.d (.int .i64 23)))))]⟩,
  ⟨(some 3),none,.build [(.d (.int .i64 0)),(.d (.int .i64 0))] [(0,1,(.c (.s (.d (.int .i64 1))))),(1,1,(.c (.s (.d (.int .i64 31)))))]⟩,
  ⟨(some 4),none,.build [(.d (.int .i64 0)),(.d (.int .i64 0))] [(0,1,(.c (.s (.d (.int .i64 1))))),(1,1,(.c (.s (.d (.int .i64 12)))))]⟩,
  ⟨(some 5),none,.build [(.d (.int .i64 0)),(.d (.int .i64 0))] [(0,1,(.c (.s (.d (.int .i64 0))))),(1,1,(.c (.s (.d (.int .i64 6)))))]⟩,
  ⟨(some 6),none,.build [(.d (.int .i64 0)),(.d (.int .i64 0)),(.d (.int .i64 0)),(.d (.int .i64 0)),(.d (.int .i64 0)),(.d (.int .i64 0)),(.d (.int .i64 0)),(.d (.int .i64 0)),(.d (.int .i64 0)),(.d (.int .i64 0))] [(0,2,(.t 1)),(2,2,(.t 2)),(4,2,(.t 3)),(6,2,(.t 4)),(8,2,(.t 5))]⟩,
  ⟨none,none,.store 10 (.t 0) (.t 6)⟩]
def c127:C:=.seq (.reg c127r0 none [0]) (.seq (.reg c127r1 none [0]) (.ret))
def k127:List (Nat×List Nat):=[(1,[0]),(0,[0])]
theorem cc127:(Tryz.f127.body).bind (cC Tryz.prog 7 k127)=some c127:=by kernel_rfl
def rv127:List RV:=[.c 0 true 10]
theorem cr127:cRVs Tryz.prog Tryz.f127.results.toList=some rv127:=by kernel_rfl
theorem f_cron_fields_ok (y_:(List cron_bounds)) (h:f_cron_fields=some y_):Fun Tryz.prog glP 127 [] (.b (.agg (ea e_cron_bounds y_))):=by
  refine fun_walk [] Tryz.func127 Tryz.ntmps127 cc127 cr127 (by kernel_rfl) (by simp only [List.length_cons,List.length_nil];decide) ?_
  generalize hR:Ret _ _ _ _ _=R_
  simp only [wq,seval,e_cron_bounds]
  unfold f_cron_fields at h;unfold c127
  refine .seq ?_
  refine Rw.walk ?_
  simp only [wq,seval,c127r0,semI.eq_10,semI.eq_11,e_cron_bounds]
  refine Go1.of (sem_newA (enc:=e_cron_bounds) (l:=(List.replicate 5 default)) (by first | rfl | (simp only [List.length_map,List.length_replicate,List.length_set];rfl)) (by first | rfl | (simp only [List.length_map,List.length_replicate,List.length_set];rfl)) (by first | rfl | (simp only [List.length_map,List.length_replicate,List.length_set];rfl))) ?_
  simp only [wq,seval,c127r0,semI.eq_10,semI.eq_11,e_cron_bounds]
  refine .seq ?_
  refine Rw.walk ?_
  simp only [wq,seval,c127r1,e_cron_bounds]
  refine Go1.of (semI.eq_7 ..) ?_
  simp only [wq,seval,c127r1,e_cron_bounds]
  refine Go1.of (semI.eq_7 ..) ?_
  simp only [wq,seval,c127r1,e_cron_bounds]
  refine Go1.of (semI.eq_7 ..) ?_
  simp only [wq,seval,c127r1,e_cron_bounds]
  refine Go1.of (semI.eq_7 ..) ?_
  simp only [wq,seval,c127r1,e_cron_bounds]
  refine Go1.of (semI.eq_7 ..) ?_
  simp only [wq,seval,c127r1,e_cron_bounds]
  refine Go1.of (sem_buildA (enc:=e_cron_bounds) (l:=([(cron_bounds.mk 0 59),(cron_bounds.mk 0 23),(cron_bounds.mk 1 31),(cron_bounds.mk 1 12),(cron_bounds.mk 0 6)]:(List cron_bounds))) (by simp only [wq,seval,e_cron_bounds]) (by simp only [wq,seval,e_cron_bounds]) (by simp only [wq,seval,ea_nil,ea_cons,e_cron_bounds])) ?_
  simp only [wq,seval,c127r1,e_cron_bounds]
  refine Go1.of (sem_storeW (l:=(List.replicate 5 default)) (m:=([(cron_bounds.mk 0 59),(cron_bounds.mk 0 23),(cron_bounds.mk 1 31),(cron_bounds.mk 1 12),(cron_bounds.mk 0 6)]:(List cron_bounds))) (n0:=5) e_cron_bounds_len (by first | rfl | (simp only [List.length_map,List.length_replicate,List.length_set];rfl)) (by first | rfl | (simp only [List.length_map,List.length_replicate,List.length_set];rfl)) (by first | rfl | (simp only [List.length_map,List.length_replicate,List.length_set];rfl)) (by first | exact trivial | exact Eq.refl _) (by first | rfl | (simp only [List.length_map,List.length_replicate,List.length_set];rfl)) (by first | exact trivial | exact Eq.refl _)) ?_
  simp only [wq,seval,c127r1,e_cron_bounds]
  obtain ⟨gr,h⟩:=gd_iff.1 h
  obtain rfl:=Option.some.inj h
  refine .ret ?_
  rw [← hR]
  exact ret_cellA (n0:=5) e_cron_bounds_len (by rfl) (by rfl) (by rfl) (by first | exact gr | exact Eq.refl _)
def c236r0:List Opn:=[
  ⟨(some 4),none,.mv (.c (.s (.d (.str []))))⟩,
  ⟨(some 5),none,.mv (.c (.s (.d (.str []))))⟩,
  ⟨(some 6),none,.mv (.c (.s (.d (.bool false))))⟩]
def c236r1:List Opn:=[
  ⟨(some 8),none,.mv (.t 0)⟩,
  ⟨(some 9),none,.mv (.t 1)⟩,
  ⟨(some 10),none,.call (.fn 223) [(.t 8),(.t 9)]⟩,
  ⟨(some 7),none,.mv (.t 10)⟩]
def c236r2:List Opn:=[
  ⟨(some 11),none,.mv (.t 7)⟩,
  ⟨(some 12),none,.bin .geq (.t 11) (.c (.s (.d (.int .i64 0))))⟩]
def c236r3:List Opn:=[
  ⟨(some 13),none,.mv (.t 0)⟩,
  ⟨(some 14),none,.mv (.t 7)⟩,
  ⟨(some 15),none,.slc .str (.t 13) none (some (.t 14)) none⟩,
  ⟨(some 16),none,.mv (.t 0)⟩,
  ⟨(some 17),none,.mv (.t 7)⟩,
  ⟨(some 18),none,.mv (.t 1)⟩,
  ⟨(some 19),none,.len .str (.t 18)⟩,
  ⟨(some 20),none,.bin .add (.t 17) (.t 19)⟩,
  ⟨(some 21),none,.slc .str (.t 16) (some (.t 20)) none none⟩,
  ⟨(some 4),none,.mv (.t 15)⟩,
  ⟨(some 5),none,.mv (.t 21)⟩,
  ⟨(some 6),none,.mv (.c (.s (.d (.bool true))))⟩]
def c236r4:List Opn:=[
  ⟨(some 22),none,.mv (.t 0)⟩,
  ⟨(some 4),none,.mv (.t 22)⟩,
  ⟨(some 5),none,.mv (.c (.s (.d (.str []))))⟩,
  ⟨(some 6),none,.mv (.c (.s (.d (.bool false))))⟩]
def c236:C:=.seq (.reg c236r0 none [0,1]) (.seq (.seq (.reg c236r1 none [0,1,7]) (.seq (.reg c236r2 none [0,1,7,12]) (.cond (.t 12) (.seq (.reg c236r3 (some [0,0,3,0,0,0,32,112,248,7,1023,2047]) [4,5,6]) (.ret)) (.skip)))) (.seq (.reg c236r4 none [4,5,6]) (.ret)))
def k236:List (Nat×List Nat):=[(4,[4,5,6]),(3,[4,5,6]),(2,[0,1,7,12]),(1,[0,1,7]),(0,[0,1])]
theorem cc236:(Tryz.f236.body).bind (cC Tryz.prog 23 k236)=some c236:=by kernel_rfl
def rv236:List RV:=[.t 4,.t 5,.t 6]
theorem cr236:cRVs Tryz.prog Tryz.f236.results.toList=some rv236:=by kernel_rfl
theorem f_internal_stringslite_Cut_ok (s:Str) (sep:Str) (y_:Str×Str×Bool) (h:f_internal_stringslite_Cut s sep=some y_):Fun Tryz.prog glP 236 [.b (.s (.d (.str s))),.b (.s (.d (.str sep)))] (.tup [.s (.d (.str y_.1)),.s (.d (.str y_.2.1)),.s (.d (.bool y_.2.2))]):=by
  refine fun_walk [] Tryz.func236 Tryz.ntmps236 cc236 cr236 (by kernel_rfl) (by simp only [List.length_cons,List.length_nil];decide) ?_
  generalize hR:Ret _ _ _ _ _=R_
  simp only [wq,seval]
  unfold f_internal_stringslite_Cut at h;unfold c236
  refine .seq ?_
  refine Rw.walk ?_
  simp only [wq,seval,c236r0,wj]
  refine .seq ?_
  refine .seq ?_
  refine Rw.walk ?_
  simp only [wq,seval,c236r1,wj]
  obtain ⟨t,e1,h⟩:=Option.bind_eq_some_iff.1 h
  refine call_fun [] false ⟨trivial,trivial,trivial,trivial⟩ rfl ?_ (f_internal_stringslite_Index_ok _ _ _ e1) (fun _=>rfl) (fun i hi=>by cases hi) ?_
  · simp only [wq,seval]
  simp only [wq,seval,c236r1,wj]
  refine .seq ?_
  refine Rw.walk ?_
  simp only [wq,seval,c236r2,wj]
  refine .cond (p:=(decide (t≥0))) (by first | rfl | simp only [wq,seval]) (fun h1 => ?_) (fun h1 => ?_)
  · rw [ite_t h1] at h
    refine .seq ?_
    refine RwD.walk ?_
    obtain ⟨g2,h⟩:=gd_iff.1 h
    obtain ⟨g3,h⟩:=gd_iff.1 h
    simp only [wq,seval,c236r3,wj]
    repeat (refine And.intro ?_ ?_; · first | omega | (simp only [wn] at *;omega) | (simp only [List.map_cons,List.map_nil] at *;omega) | (intro q;simp only [wq,seval,q];done))
    obtain rfl:=Option.some.inj h
    refine .ret ?_
    rw [← hR]
    simp only [wq,seval,rv236]
  · rw [ite_f h1] at h
    refine .skip ?_
    refine .seq ?_
    refine Rw.walk ?_
    simp only [wq,seval,c236r4,wj]
    obtain rfl:=Option.some.inj h
    refine .ret ?_
    rw [← hR]
    simp only [wq,seval,rv236]
def c214r0:List Opn:=[
  ⟨(some 4),none,.mv (.c (.s (.d (.str []))))⟩,
  ⟨(some 5),none,.mv (.c (.s (.d (.str []))))⟩,
  ⟨(some 6),none,.mv (.c (.s (.d (.bool false))))⟩]
def c214r1:List Opn:=[
  ⟨(some 7),none,.mv (.t 0)⟩,
  ⟨(some 8),none,.mv (.t 1)⟩,
  ⟨(some 9),none,.call (.fn 236) [(.t 7),(.t 8)]⟩,
  ⟨(some 10),none,.ext (.t 9) 0⟩,
  ⟨(some 11),none,.ext (.t 9) 1⟩,
  ⟨(some 12),none,.ext (.t 9) 2⟩,
  ⟨(some 4),none,.mv (.t 10)⟩,
  ⟨(some 5),none,.mv (.t 11)⟩,
  ⟨(some 6),none,.mv (.t 12)⟩]
def c214:C:=.seq (.reg c214r0 none [0,1]) (.seq (.reg c214r1 none [4,5,6]) (.ret))
def k214:List (Nat×List Nat):=[(1,[4,5,6]),(0,[0,1])]
theorem cc214:(Tryz.f214.body).bind (cC Tryz.prog 13 k214)=some c214:=by kernel_rfl
def rv214:List RV:=[.t 4,.t 5,.t 6]
theorem cr214:cRVs Tryz.prog Tryz.f214.results.toList=some rv214:=by kernel_rfl
theorem f_strings_Cut_ok (s:Str) (sep:Str) (y_:Str×Str×Bool) (h:f_strings_Cut s sep=some y_):Fun Tryz.prog glP 214 [.b (.s (.d (.str s))),.b (.s (.d (.str sep)))] (.tup [.s (.d (.str y_.1)),.s (.d (.str y_.2.1)),.s (.d (.bool y_.2.2))]):=by
  refine fun_walk [] Tryz.func214 Tryz.ntmps214 cc214 cr214 (by kernel_rfl) (by simp only [List.length_cons,List.length_nil];decide) ?_
  generalize hR:Ret _ _ _ _ _=R_
  simp only [wq,seval]
  unfold f_strings_Cut at h;unfold c214
  refine .seq ?_
  refine Rw.walk ?_
  simp only [wq,seval,c214r0,wj]
  refine .seq ?_
  refine Rw.walk ?_
  simp only [wq,seval,c214r1,wj]
  obtain ⟨t,e1,h⟩:=Option.bind_eq_some_iff.1 h
  refine call_fun [] false ⟨trivial,trivial,trivial,trivial⟩ rfl ?_ (f_internal_stringslite_Cut_ok _ _ _ e1) (fun _=>rfl) (fun i hi=>by cases hi) ?_
  · simp only [wq,seval]
  simp only [wq,seval,c214r1,wj]
  obtain rfl:=Option.some.inj h
  refine .ret ?_
  rw [← hR]
  simp only [wq,seval,rv214]
def c216r0:List Opn:=[
  ⟨(some 3),none,.box 2 (.t 1)⟩,
  ⟨(some 4),none,.mv (.c (.s (.d (.int .i64 0))))⟩,
  ⟨(some 5),none,.mv (.c (.s (.d (.z .nilIface))))⟩]
def c216r1:List Opn:=[
  ⟨(some 8),none,.mv (.t 0)⟩,
  ⟨(some 9),none,.len .str (.t 8)⟩,
  ⟨(some 10),none,.bin .lss (.t 9) (.c (.s (.d (.int .i64 1))))⟩,
  ⟨(some 11),none,.mv (.t 10)⟩,
  ⟨(some 12),some (11,false),.mv (.t 0)⟩,
  ⟨(some 13),some (11,false),.len .str (.t 12)⟩,
  ⟨(some 14),some (11,false),.bin .gtr (.t 13) (.c (.s (.d (.int .i64 2))))⟩,
  ⟨(some 15),none,.pick (.t 11) (.c (.s (.d (.bool true)))) (.t 14)⟩,
  ⟨(some 16),none,.mv (.t 15)⟩,
  ⟨(some 17),some (16,false),.mv (.t 0)⟩,
  ⟨(some 18),some (16,false),.call (.fn 237) [(.t 17),(.c (.s (.d (.str [48,49,50,51,52,53,54,55,56,57]))))]⟩,
  ⟨(some 19),some (16,false),.bin .neq (.t 18) (.c (.s (.d (.str []))))⟩,
  ⟨(some 20),none,.pick (.t 16) (.c (.s (.d (.bool true)))) (.t 19)⟩,
  ⟨(some 21),none,.mv (.t 20)⟩,
  ⟨(some 22),some (21,false),.mv (.t 0)⟩,
  ⟨(some 23),some (21,false),.len .str (.t 22)⟩,
  ⟨(some 24),some (21,false),.bin .eql (.t 23) (.c (.s (.d (.int .i64 2))))⟩,
  ⟨(some 25),some (21,false),.mv (.t 24)⟩,
  ⟨(some 26),some (25,true),.mv (.t 0)⟩,
  ⟨(some 27),some (25,true),.idx .str (.t 26) (.c (.s (.d (.int .i64 0))))⟩,
  ⟨(some 28),some (25,true),.bin .eql (.t 27) (.c (.s (.d (.int .u8 48))))⟩,
  ⟨(some 29),some (21,false),.pick (.t 25) (.t 28) (.c (.s (.d (.bool false))))⟩,
  ⟨(some 30),none,.pick (.t 21) (.c (.s (.d (.bool true)))) (.t 29)⟩]
def c216r2:List Opn:=[
  ⟨(some 31),none,.build [] []⟩,
  ⟨(some 32),none,.mkif 205 (.t 31)⟩,
  ⟨(some 4),none,.mv (.c (.s (.d (.int .i64 0))))⟩,
  ⟨(some 5),none,.mv (.t 32)⟩]
def c216r3:List Opn:=[
  ⟨(some 6),none,.mv (.c (.s (.d (.int .i64 0))))⟩]
def c216r4:List Opn:=[
  ⟨(some 33),none,.mv (.t 0)⟩,
  ⟨(some 34),none,.len .str (.t 33)⟩,
  ⟨(some 35),none,.mv (.c (.s (.d (.int .i64 0))))⟩]
def c216r5:List Opn:=[
  ⟨(some 36),none,.bin .lss (.t 35) (.t 34)⟩]
def c216r6:List Opn:=[
  ⟨(some 37),none,.mv (.t 35)⟩,
  ⟨(some 7),none,.mv (.t 37)⟩]
def c216r7:List Opn:=[
  ⟨(some 38),none,.mv (.t 6)⟩,
  ⟨(some 39),none,.bin .mul (.c (.s (.d (.int .i64 10)))) (.t 38)⟩,
  ⟨(some 40),none,.mv (.t 0)⟩,
  ⟨(some 41),none,.mv (.t 7)⟩,
  ⟨(some 42),none,.idx .str (.t 40) (.t 41)⟩,
  ⟨(some 43),none,.bin .sub (.t 42) (.c (.s (.d (.int .u8 48))))⟩,
  ⟨(some 44),none,.cv (.toInt .i64) (.t 43)⟩,
  ⟨(some 45),none,.bin .add (.t 39) (.t 44)⟩,
  ⟨(some 6),none,.mv (.t 45)⟩]
def c216r8:List Opn:=[
  ⟨(some 46),none,.bin .add (.t 35) (.c (.s (.d (.int .i64 1))))⟩,
  ⟨(some 35),none,.mv (.t 46)⟩]
def c216l9:C:=.seq (.reg c216r5 none [0,3,6,34,35,36]) (.seq (.cond (.t 36) (.skip) (.exit 0)) (.seq (.blk 1 (.seq (.reg c216r6 none [0,3,6,7,34,35]) (.reg c216r7 none [0,3,6,34,35]))) (.reg c216r8 none [0,3,6,34,35])))
def c216r9:List Opn:=[
  ⟨(some 47),none,.mv (.t 6)⟩,
  ⟨(some 48),none,.fadr 0 (.t 3)⟩,
  ⟨(some 49),none,.load false 1 (.t 48)⟩,
  ⟨(some 50),none,.bin .lss (.t 47) (.t 49)⟩,
  ⟨(some 51),none,.mv (.t 50)⟩,
  ⟨(some 52),some (51,false),.mv (.t 6)⟩,
  ⟨(some 53),some (51,false),.fadr 1 (.t 3)⟩,
  ⟨(some 54),some (51,false),.load false 1 (.t 53)⟩,
  ⟨(some 55),some (51,false),.bin .gtr (.t 52) (.t 54)⟩,
  ⟨(some 56),none,.pick (.t 51) (.c (.s (.d (.bool true)))) (.t 55)⟩]
def c216r10:List Opn:=[
  ⟨(some 57),none,.build [] []⟩,
  ⟨(some 58),none,.mkif 205 (.t 57)⟩,
  ⟨(some 4),none,.mv (.c (.s (.d (.int .i64 0))))⟩,
  ⟨(some 5),none,.mv (.t 58)⟩]
def c216r11:List Opn:=[
  ⟨(some 59),none,.mv (.t 6)⟩,
  ⟨(some 4),none,.mv (.t 59)⟩,
  ⟨(some 5),none,.mv (.c (.s (.d (.z .nilIface))))⟩]
def c216:C:=.seq (.reg c216r0 none [0,3]) (.seq (.seq (.reg c216r1 none [0,3,30]) (.cond (.t 30) (.seq (.reg c216r2 none [4,5]) (.ret)) (.skip))) (.seq (.reg c216r3 none [0,3,6]) (.seq (.seq (.reg c216r4 none [0,3,6,34,35]) (.blk 0 (.loop c216l9))) (.seq (.seq (.reg c216r9 none [6,56]) (.cond (.t 56) (.seq (.reg c216r10 none [4,5]) (.ret)) (.skip))) (.seq (.reg c216r11 none [4,5]) (.ret))))))
def k216:List (Nat×List Nat):=[(11,[4,5]),(10,[4,5]),(9,[6,56]),(8,[0,3,6,34,35]),(7,[0,3,6,34,35]),(6,[0,3,6,7,34,35]),(5,[0,3,6,34,35,36]),(4,[0,3,6,34,35]),(3,[0,3,6]),(2,[4,5]),(1,[0,3,30]),(0,[0,3])]
theorem cc216:(Tryz.f216.body).bind (cC Tryz.prog 60 k216)=some c216:=by kernel_rfl
def rv216:List RV:=[.t 4,.t 5]
theorem cr216:cRVs Tryz.prog Tryz.f216.results.toList=some rv216:=by kernel_rfl
theorem f_cron_number_l9_ok (s:Str) (b:cron_bounds) (y_:Int×Sc) (R_:St→Prop) (hR:(Ret Tryz.prog glP [] rv216 (.tup [.s (.d (.int .i64 y_.1)),.s (.d y_.2)]))=R_):∀ (m_:Nat) (n:Int) (v35:Int) (res_:Int×Int) (h:f_cron_number_l9 s b m_ n v35=some res_) (k_:List It) (hx:∀ s_:Int×Int,res_=s_→W Tryz.prog glP 60 k_ ⟨lkT [(0,.b (.s (.d (.str s)))),(3,.b (.s (.ptr 3 1 0 0))),(6,.b (.s (.d (.int .i64 s_.1)))),(34,.b (.s (.d (.int .i64 (s.length:Int))))),(35,.b (.s (.d (.int .i64 s_.2))))],lkG [(3,⟨2,[[(.d (.int .i64 b.low)),(.d (.int .i64 b.high))]],false⟩)]⟩ R_),W Tryz.prog glP 60 (.c c216l9 :: .lp c216l9 :: .blk 0 :: k_) ⟨lkT [(0,.b (.s (.d (.str s)))),(3,.b (.s (.ptr 3 1 0 0))),(6,.b (.s (.d (.int .i64 n)))),(34,.b (.s (.d (.int .i64 (s.length:Int))))),(35,.b (.s (.d (.int .i64 v35))))],lkG [(3,⟨2,[[(.d (.int .i64 b.low)),(.d (.int .i64 b.high))]],false⟩)]⟩ R_:=by
  intro m_;induction m_ with
  | zero=>intro n v35 res_ h;rw [f_cron_number_l9.eq_1] at h;cases h
  | succ m_ ih =>
    intro n v35 res_ h k_ hx;rw [f_cron_number_l9.eq_2] at h;refine W.cdef c216l9.eq_1 ?_
    refine .seq ?_
    refine Rw.walk ?_
    simp only [wq,seval,c216r5,wj,we0]
    refine .seq ?_
    refine .cond (p:=(decide (v35 < (s.length:Int)))) (by first | rfl | simp only [wq,seval]) (fun h1 => ?_) (fun h1 => ?_)
    · rw [ite_t h1] at h
      refine .skip ?_
      refine .seq ?_
      refine .blk ?_
      refine .seq ?_
      refine Rw.walk ?_
      simp only [wq,seval,c216r6,wj,we0]
      refine Rw.walk ?_
      simp only [wq,seval,c216r7,wj,we0]
      obtain ⟨c,e3,h⟩:=Option.bind_eq_some_iff.1 h
      refine Go1.of (sem_idx e3 (by rfl) (by rfl)) ?_
      simp only [wq,seval,c216r7,wj,we0]
      obtain ⟨n2,e4,h⟩:=Option.bind_eq_some_iff.1 h
      replace e4:=Option.some.inj e4
      first | simp only [e4] | (simp only [wq,seval,we0] at e4;simp only [e4])
      refine .eblk ?_
      refine Rw.walk ?_
      simp only [wq,seval,c216r8,wj,we0]
      refine .lp ?_
      refine .weak (Imp.coA [] _ _ ?_) (ih n2 (IntKind.i64.wrap (v35+1)) _ h k_ hx);simp only [wq,seval,wi,er_nil,we0]
    · rw [ite_f h1] at h
      refine .exit rfl ?_
      obtain rfl:=Option.some.inj h
      refine .weak (Imp.coA [] _ _ ?_) (hx _ rfl);simp only [wq,seval,wi,er_nil,we0]
theorem f_cron_number_ok (s:Str) (b:cron_bounds) (y_:Int×Sc) (h:f_cron_number s b=some y_):Fun Tryz.prog glP 216 [.b (.s (.d (.str s))),.b (.agg ((e_cron_bounds b).map Lc.d))] (.tup [.s (.d (.int .i64 y_.1)),.s (.d y_.2)]):=by
  refine fun_walk [] Tryz.func216 Tryz.ntmps216 cc216 cr216 (by kernel_rfl) (by simp only [List.length_cons,List.length_nil];decide) ?_
  generalize hR:Ret _ _ _ _ _=R_
  simp only [wq,seval,we0]
  unfold f_cron_number at h;unfold c216
  refine .seq ?_
  refine Rw.walk ?_
  simp only [wq,seval,c216r0,wj,we0]
  refine .seq ?_
  refine .seq ?_
  refine Rw.walk ?_
  simp only [wq,seval,c216r1,wj,we0]
  repeat (refine And.intro ?_ ?_; · first | omega | (simp only [wn] at *;omega) | (simp only [List.map_cons,List.map_nil] at *;omega) | (intro q;simp only [wq,seval,q];done))
  obtain ⟨t,e1,h⟩:=Option.bind_eq_some_iff.1 h
  refine call_funG [] rfl (by simp only [wq,seval]) rfl ?_ (fun q=>(f_strings_Trim_ok _ _ _ (gx_iff e1 (by first | exact q | simpa using q)))) rfl (fun i hi=>by cases hi) ?_
  · simp only [wq,seval,we0]
  simp only [wq,seval,c216r1,wj,we0]
  repeat (refine And.intro ?_ ?_; · first | omega | (simp only [wn] at *;omega) | (simp only [List.map_cons,List.map_nil] at *;omega) | (intro q;simp only [wq,seval,q];done))
  obtain ⟨g2,h⟩:=gd_iff.1 h
  refine Go2.of (se_idxS) ?_
  simp only [wq,seval,c216r1,wj,we0]
  repeat (refine And.intro ?_ ?_; · first | omega | exact g2 | (intro q;first | omega | (have q2:=g2 (by simpa using q);omega) | (have q2:=g2 q;omega) | (have q2:=g2 (by rw [q];rfl);omega) | (have q2:=g2 (by simpa using q);simp only [List.length_append,List.length_cons,List.length_nil] at q2 ⊢;omega)) | (simp only [wn] at *;omega) | (simp only [List.map_cons,List.map_nil] at *;omega) | (intro q;simp only [wq,seval,q];done))
  refine .cond (p:=((((decide ((s.length:Int) < 1)) || (decide ((s.length:Int) > 2))) || (!(t == ([]:Str)))) || (((s.length:Int) == 2) && ((bn (s.getD 0 0)) == 48)))) (by first | rfl | simp only [wq,seval]) (fun h1 => ?_) (fun h1 => ?_)
  · rw [ite_t h1] at h
    refine .seq ?_
    refine Rw.walk ?_
    simp only [wq,seval,c216r2,wj,we0]
    obtain rfl:=Option.some.inj h
    refine .ret ?_
    rw [← hR]
    simp only [wq,seval,rv216,we0]
  · rw [ite_f h1] at h
    refine .skip ?_
    refine .seq ?_
    refine Rw.walk ?_
    simp only [wq,seval,c216r3,wj,we0]
    refine .seq ?_
    refine .seq ?_
    refine Rw.walk ?_
    simp only [wq,seval,c216r4,wj,we0]
    refine .blk ?_
    obtain ⟨s2,hf,h⟩:=Option.bind_eq_some_iff.1 h
    refine .loop (.weak (Imp.coA [] _ _ ?_) (f_cron_number_l9_ok s b _ _ hR _ _ _ _ hf _ ?_))
    · simp only [wq,seval,wi,er_nil,we0]
    · intro s2_ hs;subst hs
      refine .seq ?_
      refine .seq ?_
      refine Rw.walk ?_
      simp only [wq,seval,c216r9,wj,we0]
      refine call_alt (v:=.b (.s (.d (.int .i64 b.high)))) rfl rfl (by simp only [wq,seval]) (fun q=>⟨_,by simp only [wq,seval,semI.eq_10,we0],trivial⟩) ?_
      simp only [wq,seval,c216r9,wj,we0]
      repeat (refine And.intro ?_ ?_; · first | omega | (simp only [wn] at *;omega) | (simp only [List.map_cons,List.map_nil] at *;omega) | (intro q;simp only [wq,seval,q];done))
      refine .cond (p:=((decide (s2.1 < b.low)) || (decide (s2.1 > b.high)))) (by first | rfl | simp only [wq,seval]) (fun h1 => ?_) (fun h1 => ?_)
      · rw [ite_t h1] at h
        refine .seq ?_
        refine Rw.walk ?_
        simp only [wq,seval,c216r10,wj,we0]
        obtain rfl:=Option.some.inj h
        refine .ret ?_
        rw [← hR]
        simp only [wq,seval,rv216,we0]
      · rw [ite_f h1] at h
        refine .skip ?_
        refine .seq ?_
        refine Rw.walk ?_
        simp only [wq,seval,c216r11,wj,we0]
        obtain rfl:=Option.some.inj h
        refine .ret ?_
        rw [← hR]
        simp only [wq,seval,rv216,we0]
def c215r0:List Opn:=[
  ⟨(some 3),none,.box 2 (.t 1)⟩,
  ⟨(some 4),none,.new [(.d (.int .i64 0)),(.d (.int .i64 0))]⟩,
  ⟨(some 5),none,.mv (.c (.s (.d (.bool false))))⟩,
  ⟨(some 6),none,.mv (.c (.s (.d (.z .nilIface))))⟩]
def c215r1:List Opn:=[
  ⟨(some 13),none,.mv (.t 0)⟩,
  ⟨(some 14),none,.bin .eql (.t 13) (.c (.s (.d (.str [42]))))⟩]
def c215r2:List Opn:=[
  ⟨(some 15),none,.load true 2 (.t 3)⟩,
  ⟨none,none,.store 2 (.t 4) (.t 15)⟩,
  ⟨(some 5),none,.mv (.c (.s (.d (.bool true))))⟩,
  ⟨(some 6),none,.mv (.c (.s (.d (.z .nilIface))))⟩]
def c215r3:List Opn:=[
  ⟨(some 17),none,.mv (.t 0)⟩,
  ⟨(some 18),none,.call (.fn 214) [(.t 17),(.c (.s (.d (.str [45]))))]⟩,
  ⟨(some 16),none,.mv (.t 18)⟩,
  ⟨(some 19),none,.ext (.t 16) 0⟩,
  ⟨(some 20),none,.ext (.t 16) 1⟩,
  ⟨(some 21),none,.ext (.t 16) 2⟩,
  ⟨(some 7),none,.mv (.t 19)⟩,
  ⟨(some 8),none,.mv (.t 20)⟩,
  ⟨(some 9),none,.mv (.t 21)⟩]
def c215r4:List Opn:=[
  ⟨(some 23),none,.mv (.t 7)⟩,
  ⟨(some 24),none,.load true 2 (.t 3)⟩,
  ⟨(some 25),none,.call (.fn 216) [(.t 23),(.t 24)]⟩,
  ⟨(some 22),none,.mv (.t 25)⟩,
  ⟨(some 26),none,.ext (.t 22) 0⟩,
  ⟨(some 27),none,.ext (.t 22) 1⟩,
  ⟨(some 10),none,.mv (.t 26)⟩,
  ⟨(some 11),none,.mv (.t 27)⟩]
def c215r5:List Opn:=[
  ⟨(some 28),none,.mv (.t 9)⟩,
  ⟨(some 29),none,.un .not (.t 28)⟩,
  ⟨(some 30),none,.mv (.t 29)⟩,
  ⟨(some 31),some (30,false),.mv (.t 11)⟩,
  ⟨(some 32),some (30,false),.bic .neq (.t 31) (.c (.s (.d (.z .nilIface))))⟩,
  ⟨(some 33),none,.pick (.t 30) (.c (.s (.d (.bool true)))) (.t 32)⟩]
def c215r6:List Opn:=[
  ⟨(some 34),none,.mv (.t 10)⟩,
  ⟨(some 35),none,.mv (.t 10)⟩,
  ⟨(some 36),none,.build [(.d (.int .i64 0)),(.d (.int .i64 0))] [(0,1,(.t 34)),(1,1,(.t 35))]⟩,
  ⟨(some 37),none,.mv (.t 11)⟩,
  ⟨none,none,.store 2 (.t 4) (.t 36)⟩,
  ⟨(some 5),none,.mv (.c (.s (.d (.bool false))))⟩,
  ⟨(some 6),none,.mv (.t 37)⟩]
def c215r7:List Opn:=[
  ⟨(some 39),none,.mv (.t 8)⟩,
  ⟨(some 40),none,.load true 2 (.t 3)⟩,
  ⟨(some 41),none,.call (.fn 216) [(.t 39),(.t 40)]⟩,
  ⟨(some 38),none,.mv (.t 41)⟩,
  ⟨(some 42),none,.ext (.t 38) 0⟩,
  ⟨(some 43),none,.ext (.t 38) 1⟩,
  ⟨(some 12),none,.mv (.t 42)⟩,
  ⟨(some 11),none,.mv (.t 43)⟩]
def c215r8:List Opn:=[
  ⟨(some 44),none,.mv (.t 11)⟩,
  ⟨(some 45),none,.bic .eql (.t 44) (.c (.s (.d (.z .nilIface))))⟩,
  ⟨(some 46),none,.mv (.t 45)⟩,
  ⟨(some 47),some (46,true),.mv (.t 10)⟩,
  ⟨(some 48),some (46,true),.mv (.t 12)⟩,
  ⟨(some 49),some (46,true),.bin .gtr (.t 47) (.t 48)⟩,
  ⟨(some 50),none,.pick (.t 46) (.t 49) (.c (.s (.d (.bool false))))⟩]
def c215r9:List Opn:=[
  ⟨(some 51),none,.build [] []⟩,
  ⟨(some 52),none,.mkif 205 (.t 51)⟩,
  ⟨(some 11),none,.mv (.t 52)⟩]
def c215r10:List Opn:=[
  ⟨(some 53),none,.mv (.t 10)⟩,
  ⟨(some 54),none,.mv (.t 12)⟩,
  ⟨(some 55),none,.build [(.d (.int .i64 0)),(.d (.int .i64 0))] [(0,1,(.t 53)),(1,1,(.t 54))]⟩,
  ⟨(some 56),none,.mv (.t 11)⟩,
  ⟨none,none,.store 2 (.t 4) (.t 55)⟩,
  ⟨(some 5),none,.mv (.c (.s (.d (.bool true))))⟩,
  ⟨(some 6),none,.mv (.t 56)⟩]
def c215:C:=.seq (.reg c215r0 none [0,3,4]) (.seq (.seq (.reg c215r1 none [0,3,4,14]) (.cond (.t 14) (.seq (.reg c215r2 none [4,5,6]) (.ret)) (.skip))) (.seq (.reg c215r3 none [3,4,7,8,9]) (.seq (.reg c215r4 none [3,4,8,9,10,11]) (.seq (.seq (.reg c215r5 none [3,4,8,10,11,33]) (.cond (.t 33) (.seq (.reg c215r6 none [4,5,6]) (.ret)) (.skip))) (.seq (.reg c215r7 none [4,10,11,12]) (.seq (.seq (.reg c215r8 none [4,10,11,12,50]) (.cond (.t 50) (.reg c215r9 none [4,10,11,12]) (.skip))) (.seq (.reg c215r10 none [4,5,6]) (.ret))))))))
def k215:List (Nat×List Nat):=[(10,[4,5,6]),(9,[4,10,11,12]),(8,[4,10,11,12,50]),(7,[4,10,11,12]),(6,[4,5,6]),(5,[3,4,8,10,11,33]),(4,[3,4,8,9,10,11]),(3,[3,4,7,8,9]),(2,[4,5,6]),(1,[0,3,4,14]),(0,[0,3,4])]
theorem cc215:(Tryz.f215.body).bind (cC Tryz.prog 57 k215)=some c215:=by kernel_rfl
def rv215:List RV:=[.c 4 true 2,.t 5,.t 6]
theorem cr215:cRVs Tryz.prog Tryz.f215.results.toList=some rv215:=by kernel_rfl
theorem f_cron_span_ok (s:Str) (b:cron_bounds) (y_:cron_bounds×Bool×Sc) (h:f_cron_span s b=some y_):Fun Tryz.prog glP 215 [.b (.s (.d (.str s))),.b (.agg ((e_cron_bounds b).map Lc.d))] (.tup [.agg ((e_cron_bounds y_.1).map Lc.d),.s (.d (.bool y_.2.1)),.s (.d y_.2.2)]):=by
  refine fun_walk [] Tryz.func215 Tryz.ntmps215 cc215 cr215 (by kernel_rfl) (by simp only [List.length_cons,List.length_nil];decide) ?_
  generalize hR:Ret _ _ _ _ _=R_
  simp only [wq,seval,we0]
  unfold f_cron_span at h;unfold c215
  refine .seq ?_
  refine Rw.walk ?_
  simp only [wq,seval,c215r0,wj,we0]
  refine .seq ?_
  refine .seq ?_
  refine Rw.walk ?_
  simp only [wq,seval,c215r1,wj,we0]
  refine .cond (p:=(s == ([42]:Str))) (by first | rfl | simp only [wq,seval]) (fun h1 => ?_) (fun h1 => ?_)
  · rw [ite_t h1] at h
    refine .seq ?_
    refine Rw.walk ?_
    simp only [wq,seval,c215r2,wj,we0]
    obtain rfl:=Option.some.inj h
    refine .ret ?_
    rw [← hR]
    simp only [wq,seval,rv215,semI.eq_10,we0]
  · rw [ite_f h1] at h
    refine .skip ?_
    refine .seq ?_
    refine Rw.walk ?_
    simp only [wq,seval,c215r3,wj,we0]
    obtain ⟨t,e1,h⟩:=Option.bind_eq_some_iff.1 h
    refine call_fun [] false ⟨trivial,trivial,trivial,trivial⟩ rfl ?_ (f_strings_Cut_ok _ _ _ e1) (fun _=>rfl) (fun i hi=>by cases hi) ?_
    · simp only [wq,seval,we0]
    simp only [wq,seval,c215r3,wj,we0]
    refine .seq ?_
    refine Rw.walk ?_
    simp only [wq,seval,c215r4,wj,we0]
    obtain ⟨t2,e2,h⟩:=Option.bind_eq_some_iff.1 h
    refine call_fun [] true ⟨trivial,trivial,trivial,trivial⟩ rfl ?_ (f_cron_number_ok _ _ _ e2) (fun h=>by cases h) (fun i hi=>by cases hi) ?_
    · simp only [wq,seval,we0]
    simp only [wq,seval,c215r4,wj,we0]
    refine .seq ?_
    refine .seq ?_
    refine Rw.walk ?_
    obtain ⟨g3,h⟩:=gd_iff.1 h
    simp only [wq,seval,c215r5,wj,we0]
    repeat (refine And.intro ?_ ?_; · first | omega | exact g3 | exact g3 | (intro q;first | omega | (have q2:=g3 (by simpa using q);omega) | (have q2:=g3 q;omega) | (have q2:=g3 (by rw [q];rfl);omega) | (have q2:=g3 (by simpa using q);simp only [List.length_append,List.length_cons,List.length_nil] at q2 ⊢;omega)) | (simp only [wn] at *;omega) | (simp only [List.map_cons,List.map_nil] at *;omega) | (intro q;simp only [wq,seval,q];done))
    refine .cond (p:=((!t.2.2) || (!(nilI t2.2)))) (by first | rfl | simp only [wq,seval]) (fun h1 => ?_) (fun h1 => ?_)
    · rw [ite_t h1] at h
      refine .seq ?_
      refine Rw.walk ?_
      simp only [wq,seval,c215r6,wj,we0]
      obtain rfl:=Option.some.inj h
      refine .ret ?_
      rw [← hR]
      simp only [wq,seval,rv215,semI.eq_10,we0]
    · rw [ite_f h1] at h
      refine .skip ?_
      refine .seq ?_
      refine Rw.walk ?_
      simp only [wq,seval,c215r7,wj,we0]
      obtain ⟨t3,e4,h⟩:=Option.bind_eq_some_iff.1 h
      refine call_fun [] true ⟨trivial,trivial,trivial,trivial⟩ rfl ?_ (f_cron_number_ok _ _ _ e4) (fun h=>by cases h) (fun i hi=>by cases hi) ?_
      · simp only [wq,seval,we0]
      simp only [wq,seval,c215r7,wj,we0]
      refine .seq ?_
      refine .seq ?_
      refine Rw.walk ?_
      obtain ⟨g5,h⟩:=gd_iff.1 h
      simp only [wq,seval,c215r8,wj,we0]
      repeat (refine And.intro ?_ ?_; · first | omega | exact g5 | (simp only [wn] at *;omega) | (simp only [List.map_cons,List.map_nil] at *;omega) | (intro q;simp only [wq,seval,q];done))
      refine .cond (p:=((nilI t3.2) && (decide (t2.1 > t3.1)))) (by first | rfl | simp only [wq,seval]) (fun h1 => ?_) (fun h1 => ?_)
      · rw [ite_t h1] at h
        refine Rw.walk ?_
        simp only [wq,seval,c215r9,wj,we0]
        refine .seq ?_
        refine Rw.walk ?_
        simp only [wq,seval,c215r10,wj,we0]
        obtain rfl:=Option.some.inj h
        refine .ret ?_
        rw [← hR]
        simp only [wq,seval,rv215,semI.eq_10,we0]
      · rw [ite_f h1] at h
        refine .skip ?_
        refine .seq ?_
        refine Rw.walk ?_
        simp only [wq,seval,c215r10,wj,we0]
        obtain rfl:=Option.some.inj h
        refine .ret ?_
        rw [← hR]
        simp only [wq,seval,rv215,semI.eq_10,we0]
def c182r0:List Opn:=[
  ⟨(some 3),none,.box 2 (.t 1)⟩,
  ⟨(some 4),none,.mv (.c (.s (.d (.int .u64 0))))⟩,
  ⟨(some 5),none,.mv (.c (.s (.d (.z .nilIface))))⟩]
def c182r1:List Opn:=[
  ⟨(some 16),none,.mv (.t 0)⟩,
  ⟨(some 17),none,.call (.fn 214) [(.t 16),(.c (.s (.d (.str [47]))))]⟩,
  ⟨(some 15),none,.mv (.t 17)⟩,
  ⟨(some 18),none,.ext (.t 15) 0⟩,
  ⟨(some 19),none,.ext (.t 15) 1⟩,
  ⟨(some 20),none,.ext (.t 15) 2⟩,
  ⟨(some 6),none,.mv (.t 18)⟩,
  ⟨(some 7),none,.mv (.t 19)⟩,
  ⟨(some 8),none,.mv (.t 20)⟩]
def c182r2:List Opn:=[
  ⟨(some 22),none,.mv (.t 6)⟩,
  ⟨(some 23),none,.load true 2 (.t 3)⟩,
  ⟨(some 24),none,.call (.fn 215) [(.t 22),(.t 23)]⟩,
  ⟨(some 21),none,.mv (.t 24)⟩,
  ⟨(some 25),none,.ext (.t 21) 0⟩,
  ⟨(some 26),none,.ext (.t 21) 1⟩,
  ⟨(some 27),none,.ext (.t 21) 2⟩,
  ⟨(some 9),none,.new [(.d (.int .i64 0)),(.d (.int .i64 0))]⟩,
  ⟨none,none,.store 2 (.t 9) (.t 25)⟩,
  ⟨(some 10),none,.mv (.t 26)⟩,
  ⟨(some 11),none,.mv (.t 27)⟩]
def c182r3:List Opn:=[
  ⟨(some 12),none,.mv (.c (.s (.d (.int .i64 1))))⟩]
def c182r4:List Opn:=[
  ⟨(some 28),none,.mv (.t 11)⟩,
  ⟨(some 29),none,.bic .eql (.t 28) (.c (.s (.d (.z .nilIface))))⟩,
  ⟨(some 30),none,.mv (.t 29)⟩,
  ⟨(some 31),some (30,true),.mv (.t 8)⟩,
  ⟨(some 32),none,.pick (.t 30) (.t 31) (.c (.s (.d (.bool false))))⟩]
def c182r5:List Opn:=[
  ⟨(some 34),none,.mv (.t 7)⟩,
  ⟨(some 35),none,.build [(.d (.int .i64 0)),(.d (.int .i64 0))] [(0,1,(.c (.s (.d (.int .i64 1))))),(1,1,(.c (.s (.d (.int .i64 59)))))]⟩,
  ⟨(some 36),none,.call (.fn 216) [(.t 34),(.t 35)]⟩,
  ⟨(some 33),none,.mv (.t 36)⟩,
  ⟨(some 37),none,.ext (.t 33) 0⟩,
  ⟨(some 38),none,.ext (.t 33) 1⟩,
  ⟨(some 12),none,.mv (.t 37)⟩,
  ⟨(some 11),none,.mv (.t 38)⟩]
def c182r6:List Opn:=[
  ⟨(some 39),none,.mv (.t 10)⟩,
  ⟨(some 40),none,.un .not (.t 39)⟩]
def c182r7:List Opn:=[
  ⟨(some 41),none,.build [] []⟩,
  ⟨(some 42),none,.mkif 205 (.t 41)⟩,
  ⟨(some 11),none,.mv (.t 42)⟩]
def c182r8:List Opn:=[
  ⟨(some 43),none,.mv (.t 11)⟩,
  ⟨(some 44),none,.bic .neq (.t 43) (.c (.s (.d (.z .nilIface))))⟩]
def c182r9:List Opn:=[
  ⟨(some 45),none,.mv (.t 11)⟩,
  ⟨(some 4),none,.mv (.c (.s (.d (.int .u64 0))))⟩,
  ⟨(some 5),none,.mv (.t 45)⟩]
def c182r10:List Opn:=[
  ⟨(some 13),none,.mv (.c (.s (.d (.int .u64 0))))⟩]
def c182r11:List Opn:=[
  ⟨(some 46),none,.fadr 0 (.t 9)⟩,
  ⟨(some 47),none,.load false 1 (.t 46)⟩,
  ⟨(some 14),none,.mv (.t 47)⟩]
def c182r12:List Opn:=[
  ⟨(some 48),none,.mv (.t 14)⟩,
  ⟨(some 49),none,.fadr 1 (.t 9)⟩,
  ⟨(some 50),none,.load false 1 (.t 49)⟩,
  ⟨(some 51),none,.bin .leq (.t 48) (.t 50)⟩]
def c182r14:List Opn:=[
  ⟨(some 55),none,.mv (.t 13)⟩,
  ⟨(some 56),none,.mv (.t 14)⟩,
  ⟨(some 57),none,.bin .shl (.c (.s (.d (.int .u64 1)))) (.t 56)⟩,
  ⟨(some 58),none,.bin .or (.t 55) (.t 57)⟩,
  ⟨(some 13),none,.mv (.t 58)⟩]
def c182r13:List Opn:=[
  ⟨(some 52),none,.mv (.t 14)⟩,
  ⟨(some 53),none,.mv (.t 12)⟩,
  ⟨(some 54),none,.bin .add (.t 52) (.t 53)⟩,
  ⟨(some 14),none,.mv (.t 54)⟩]
def c182l15:C:=.seq (.seq (.reg c182r12 none [9,12,13,14,51]) (.cond (.t 51) (.skip) (.exit 0))) (.seq (.blk 1 (.reg c182r14 none [9,12,13,14])) (.reg c182r13 none [9,12,13,14]))
def c182r15:List Opn:=[
  ⟨(some 59),none,.mv (.t 13)⟩,
  ⟨(some 4),none,.mv (.t 59)⟩,
  ⟨(some 5),none,.mv (.c (.s (.d (.z .nilIface))))⟩]
def c182:C:=.seq (.reg c182r0 none [0,3]) (.seq (.reg c182r1 none [3,6,7,8]) (.seq (.reg c182r2 none [7,8,9,10,11]) (.seq (.reg c182r3 none [7,8,9,10,11,12]) (.seq (.seq (.reg c182r4 none [7,9,10,11,12,32]) (.cond (.t 32) (.seq (.reg c182r5 none [9,10,11,12]) (.seq (.reg c182r6 none [9,11,12,40]) (.cond (.t 40) (.reg c182r7 none [9,11,12]) (.skip)))) (.skip))) (.seq (.seq (.reg c182r8 none [9,11,12,44]) (.cond (.t 44) (.seq (.reg c182r9 none [4,5]) (.ret)) (.skip))) (.seq (.reg c182r10 none [9,12,13]) (.seq (.seq (.reg c182r11 none [9,12,13,14]) (.blk 0 (.loop c182l15))) (.seq (.reg c182r15 none [4,5]) (.ret)))))))))
def k182:List (Nat×List Nat):=[(15,[4,5]),(13,[9,12,13,14]),(14,[9,12,13,14]),(12,[9,12,13,14,51]),(11,[9,12,13,14]),(10,[9,12,13]),(9,[4,5]),(8,[9,11,12,44]),(7,[9,11,12]),(6,[9,11,12,40]),(5,[9,10,11,12]),(4,[7,9,10,11,12,32]),(3,[7,8,9,10,11,12]),(2,[7,8,9,10,11]),(1,[3,6,7,8]),(0,[0,3])]
theorem cc182:(Tryz.f182.body).bind (cC Tryz.prog 60 k182)=some c182:=by kernel_rfl
def rv182:List RV:=[.t 4,.t 5]
theorem cr182:cRVs Tryz.prog Tryz.f182.results.toList=some rv182:=by kernel_rfl
theorem f_cron_values_l15_ok (s:Str) (b:cron_bounds) (t2:cron_bounds×Bool×Sc) (s2:Sc×Int) (y_:Int×Sc) (R_:St→Prop) (hR:(Ret Tryz.prog glP [] rv182 (.tup [.s (.d (.int .u64 y_.1)),.s (.d y_.2)]))=R_):∀ (m_:Nat) (n:Int) (v:Int) (res_:Int×Int) (h:f_cron_values_l15 s b t2 s2 m_ n v=some res_) (k_:List It) (hx:∀ s_:Int×Int,res_=s_→W Tryz.prog glP 60 k_ ⟨lkT [(9,.b (.s (.ptr 9 1 0 0))),(12,.b (.s (.d (.int .i64 s2.2)))),(13,.b (.s (.d (.int .u64 s_.1)))),(14,.b (.s (.d (.int .i64 s_.2))))],lkG [(9,⟨2,[[(.d (.int .i64 t2.1.low)),(.d (.int .i64 t2.1.high))]],false⟩)]⟩ R_),W Tryz.prog glP 60 (.c c182l15 :: .lp c182l15 :: .blk 0 :: k_) ⟨lkT [(9,.b (.s (.ptr 9 1 0 0))),(12,.b (.s (.d (.int .i64 s2.2)))),(13,.b (.s (.d (.int .u64 n)))),(14,.b (.s (.d (.int .i64 v))))],lkG [(9,⟨2,[[(.d (.int .i64 t2.1.low)),(.d (.int .i64 t2.1.high))]],false⟩)]⟩ R_:=by
  intro m_;induction m_ with
  | zero=>intro n v res_ h;rw [f_cron_values_l15.eq_1] at h;cases h
  | succ m_ ih =>
    intro n v res_ h k_ hx;rw [f_cron_values_l15.eq_2] at h;refine W.cdef c182l15.eq_1 ?_
    refine .seq ?_
    refine .seq ?_
    refine Rw.walk ?_
    simp only [wq,seval,c182r12,wj,we0]
    refine .cond (p:=(decide (v≤t2.1.high))) (by first | rfl | simp only [wq,seval]) (fun h1 => ?_) (fun h1 => ?_)
    · rw [ite_t h1] at h
      refine .skip ?_
      refine .seq ?_
      refine .blk ?_
      refine Rw.walk ?_
      obtain ⟨g4,h⟩:=gd_iff.1 h
      simp only [wq,seval,c182r14,wj,we0]
      repeat (refine And.intro ?_ ?_; · first | omega | (simp only [wn] at *;omega) | (simp only [List.map_cons,List.map_nil] at *;omega) | (intro q;simp only [wq,seval,q];done))
      obtain ⟨n2,e5,h⟩:=Option.bind_eq_some_iff.1 h
      replace e5:=Option.some.inj e5
      first | simp only [e5] | (simp only [wq,seval,we0] at e5;simp only [e5])
      refine .eblk ?_
      refine Rw.walk ?_
      simp only [wq,seval,c182r13,wj,we0]
      refine .lp ?_
      refine .weak (Imp.coA [] _ _ ?_) (ih n2 (IntKind.i64.wrap (v+s2.2)) _ h k_ hx);simp only [wq,seval,wi,er_nil,we0]
    · rw [ite_f h1] at h
      refine .exit rfl ?_
      obtain rfl:=Option.some.inj h
      refine .weak (Imp.coA [] _ _ ?_) (hx _ rfl);simp only [wq,seval,wi,er_nil,we0]
theorem f_cron_values_ok (s:Str) (b:cron_bounds) (y_:Int×Sc) (h:f_cron_values s b=some y_):Fun Tryz.prog glP 182 [.b (.s (.d (.str s))),.b (.agg ((e_cron_bounds b).map Lc.d))] (.tup [.s (.d (.int .u64 y_.1)),.s (.d y_.2)]):=by
  refine fun_walk [] Tryz.func182 Tryz.ntmps182 cc182 cr182 (by kernel_rfl) (by simp only [List.length_cons,List.length_nil];decide) ?_
  generalize hR:Ret _ _ _ _ _=R_
  simp only [wq,seval,we0]
  unfold f_cron_values at h;unfold c182
  refine .seq ?_
  refine Rw.walk ?_
  simp only [wq,seval,c182r0,wj,we0]
  refine .seq ?_
  refine Rw.walk ?_
  simp only [wq,seval,c182r1,wj,we0]
  obtain ⟨t,e1,h⟩:=Option.bind_eq_some_iff.1 h
  refine call_fun [] false ⟨trivial,trivial,trivial,trivial⟩ rfl ?_ (f_strings_Cut_ok _ _ _ e1) (fun _=>rfl) (fun i hi=>by cases hi) ?_
  · simp only [wq,seval,we0]
  simp only [wq,seval,c182r1,wj,we0]
  refine .seq ?_
  refine Rw.walk ?_
  simp only [wq,seval,c182r2,wj,we0]
  obtain ⟨t2,e2,h⟩:=Option.bind_eq_some_iff.1 h
  refine call_fun [] true ⟨trivial,trivial,trivial,trivial⟩ rfl ?_ (f_cron_span_ok _ _ _ e2) (fun h=>by cases h) (fun i hi=>by cases hi) ?_
  · simp only [wq,seval,we0]
  simp only [wq,seval,c182r2,wj,we0]
  refine .seq ?_
  refine Rw.walk ?_
  simp only [wq,seval,c182r3,wj,we0]
  refine .seq ?_
  obtain ⟨s2,hf,h⟩:=Option.bind_eq_some_iff.1 h
  refine W.cut1 ⟨lkT [(9,.b (.s (.ptr 9 1 0 0))),(11,.b (.s (.d s2.1))),(12,.b (.s (.d (.int .i64 s2.2))))],lkG [(9,⟨2,[[(.d (.int .i64 t2.1.low)),(.d (.int .i64 t2.1.high))]],false⟩)]⟩ ?_ (fun tail => ?_)
  · skip
    refine .seq ?_
    refine .seq ?_
    refine Rw.walk ?_
    obtain ⟨g3,h⟩:=gd_iff.1 h
    simp only [wq,seval,c182r8,wj,we0]
    repeat (refine And.intro ?_ ?_; · first | omega | exact g3 | (simp only [wn] at *;omega) | (simp only [List.map_cons,List.map_nil] at *;omega) | (intro q;simp only [wq,seval,q];done))
    refine .cond (p:=(!(nilI s2.1))) (by first | rfl | simp only [wq,seval]) (fun h1 => ?_) (fun h1 => ?_)
    · rw [ite_t h1] at h
      refine .seq ?_
      refine Rw.walk ?_
      simp only [wq,seval,c182r9,wj,we0]
      obtain rfl:=Option.some.inj h
      refine .ret ?_
      rw [← hR]
      simp only [wq,seval,rv182,we0]
    · rw [ite_f h1] at h
      refine .skip ?_
      refine .seq ?_
      refine Rw.walk ?_
      simp only [wq,seval,c182r10,wj,we0]
      refine .seq ?_
      refine .seq ?_
      refine Rw.walk ?_
      simp only [wq,seval,c182r11,wj,we0]
      refine .blk ?_
      obtain ⟨s3,hf,h⟩:=Option.bind_eq_some_iff.1 h
      refine .loop (.weak (Imp.coA [] _ _ ?_) (f_cron_values_l15_ok s b t2 s2 _ _ hR _ _ _ _ hf _ ?_))
      · simp only [wq,seval,wi,er_nil,we0]
      · intro s3_ hs;subst hs
        refine .seq ?_
        refine Rw.walk ?_
        simp only [wq,seval,c182r15,wj,we0]
        obtain rfl:=Option.some.inj h
        refine .ret ?_
        rw [← hR]
        simp only [wq,seval,rv182,we0]
  replace h:=hf
  refine .seq ?_
  refine Rw.walk ?_
  obtain ⟨g6,h⟩:=gd_iff.1 h
  simp only [wq,seval,c182r4,wj,we0]
  repeat (refine And.intro ?_ ?_; · first | omega | exact g6 | (simp only [wn] at *;omega) | (simp only [List.map_cons,List.map_nil] at *;omega) | (intro q;simp only [wq,seval,q];done))
  refine .cond (p:=((nilI t2.2.2) && t.2.2)) (by first | rfl | simp only [wq,seval]) (fun h1 => ?_) (fun h1 => ?_)
  · rw [ite_t h1] at h
    refine .seq ?_
    refine Rw.walk ?_
    simp only [wq,seval,c182r5,wj,we0]
    obtain ⟨t3,e7,h⟩:=Option.bind_eq_some_iff.1 h
    refine call_fun [] true ⟨trivial,trivial,trivial,trivial⟩ rfl ?_ (f_cron_number_ok _ _ _ e7) (fun h=>by cases h) (fun i hi=>by cases hi) ?_
    · simp only [wq,seval,we0]
    simp only [wq,seval,c182r5,wj,we0]
    refine .seq ?_
    refine Rw.walk ?_
    simp only [wq,seval,c182r6,wj,we0]
    refine .cond (p:=(!t2.2.1)) (by first | rfl | simp only [wq,seval]) (fun h1 => ?_) (fun h1 => ?_)
    · rw [ite_t h1] at h
      refine Rw.walk ?_
      simp only [wq,seval,c182r7,wj,we0]
      obtain rfl:=Option.some.inj h
      refine .weak (Imp.coA [] _ _ ?_) (tail);simp only [wq,seval,wi,er_nil,we0]
    · rw [ite_f h1] at h
      refine .skip ?_
      obtain rfl:=Option.some.inj h
      refine .weak (Imp.coA [] _ _ ?_) (tail);simp only [wq,seval,wi,er_nil,we0]
  · rw [ite_f h1] at h
    refine .skip ?_
    obtain rfl:=Option.some.inj h
    refine .weak (Imp.coA [] _ _ ?_) (tail);simp only [wq,seval,wi,er_nil,we0]
theorem isPart_eq {x:Sc} {b:Bool} (h:isPart x=some b):x=scPart b:=by
  unfold isPart at h
  split at h
  · cases h;rfl
  · split at h
    · rename_i ht;cases h;rw [ht];rfl
    · cases h
  · cases h
theorem repD_part {w:World} {S:Nat→Prop} {b:Bool} {u:Value} (h:RepD w S (scPart b) u):u=errV b:=by
  cases b with
  | false=>cases h;rfl
  | true =>
    cases h with
    | ifa _ _ vs hl _ =>
      obtain ⟨vs⟩:=vs
      cases vs with
      | nil=>rfl
      | cons _ _=>cases hl
theorem part_rep {w:World} {S:Nat→Prop} (b:Bool):RepD w S (scPart b) (errV b):=by
  cases b with
  | false=>exact .z .nilIface
  | true=>exact .ifa _ _ #[] rfl fun j sc hj=>by cases hj
theorem f_cron_field_ok (s:Str) (b:cron_bounds) (y_:Int×Sc) (h:f_cron_field s b=some y_):Fun Tryz.prog glP 128 [.b (.s (.d (.str s))),.b (.agg ((e_cron_bounds b).map Lc.d))] (.tup [.s (.d (.int .u64 y_.1)),.s (.d y_.2)]):=by
  obtain ⟨hN,h⟩:=gd_iff.1 h
  obtain ⟨r,hr,rfl⟩:=Option.map_eq_some_iff.1 h
  refine Fun.flatG (v:=.tuple #[.int .u64 r.1,errV r.2]) (by kernel_rfl) (fun w S=>repV_two (.int _ _) (part_rep _)) fun w S vs hS hG hA => ?_
  obtain ⟨v,u,rfl,h1,h2⟩:=args2 hA
  obtain rfl:=repv_str (l:=s) h1
  obtain ⟨us,rfl,hl,h2⟩:=h2
  obtain ⟨us⟩:=us
  match us,hl with
  | [a, c], _ =>
    have ha:=h2 0 _ rfl
    have hc:=h2 1 _ rfl
    cases ha with
    | d _ _ ha => cases hc with
      | d _ _ hc =>
        cases ha;cases hc
        refine cron_field_spec (partV b) s b.low b.high hN r hr w fun x q hq W hb => ?_
        obtain ⟨z,hz,hq⟩:=Option.bind_eq_some_iff.1 hq
        obtain ⟨e,he,rfl⟩:=Option.map_eq_some_iff.1 hq
        have hf:=f_cron_values_ok x b z hz
        refine (hf.2 W S _ (fun k hk=>Nat.lt_of_lt_of_le (hS k hk) hb.size) (hG.later hS hb) (repA_two (.d _ _ (.str _)) ⟨_,rfl,rfl,fun j lc hj => ?_⟩)).mono fun e' w' => ?_
        · match j,hj with
          | 0,hj=>cases hj;exact .d _ _ (.int _ _)
          | 1,hj=>cases hj;exact .d _ _ (.int _ _)
        · rintro ⟨u,S1,rfl,_,_,hr,hb⟩
          refine ⟨?_,hb⟩
          obtain ⟨vs,rfl,hl,hr⟩:=hr
          obtain ⟨vs⟩:=vs
          match vs,hl with
          | [a, b],_ =>
            have h1:=hr 0 _ rfl
            have h2:=hr 1 _ rfl
            cases h1 with
            | d _ _ h1=>cases h2 with
              | d _ _ h2 =>
                rw [isPart_eq he] at h2
                cases h1
                obtain rfl:=repD_part h2
                rfl
theorem f_errors_Is_ok (e t:Sc) (y_:Bool) (h:f_errors_Is e t=some y_):Fun Tryz.prog glP 129 [.b (.s (.d e)),.b (.s (.d t))] (.b (.s (.d (.bool y_)))):=by
  unfold f_errors_Is at h
  split at h
  · rename_i ht
    obtain rfl:=isPart_eq ht
    obtain rfl:=isPart_eq h
    refine Fun.flatG (by kernel_rfl) (of_bool _) fun w S vs hS hG hA => ?_
    obtain ⟨v,u,rfl,h1,h2⟩:=args2 hA
    cases h1 with
    | d _ _ h1=>cases h2 with
      | d _ _ h2 =>
        obtain rfl:=repD_part h1
        obtain rfl:=repD_part h2
        cases y_ with
        | false=>exact (is_nil_part w).mono fun e w'=>by rintro ⟨rfl,rfl⟩;exact ⟨rfl,Below.refl _ _⟩
        | true=>exact (is_part w).mono fun e w'=>by rintro ⟨rfl,rfl⟩;exact ⟨rfl,Below.refl _ _⟩
  · cases h
def c69r0:List Opn:=[
  ⟨(some 2),none,.new [(.d (.int .u64 0)),(.d (.int .u64 0)),(.d (.int .u64 0)),(.d (.int .u64 0)),(.d (.int .u64 0)),(.d (.bool false)),(.d (.bool false))]⟩,
  ⟨(some 3),none,.mv (.c (.s (.d (.int .i64 0))))⟩]
def c69r1:List Opn:=[
  ⟨(some 10),none,.mv (.t 0)⟩,
  ⟨(some 11),none,.call (.fn 126) [(.t 10),(.c (.s (.d (.str [32]))))]⟩,
  ⟨(some 4),none,.mv (.t 11)⟩]
def c69r2:List Opn:=[
  ⟨(some 12),none,.mv (.t 0)⟩,
  ⟨(some 13),none,.len .str (.t 12)⟩,
  ⟨(some 14),none,.bin .gtr (.t 13) (.c (.s (.d (.int .i64 200))))⟩,
  ⟨(some 15),none,.mv (.t 14)⟩,
  ⟨(some 16),some (15,false),.mv (.t 4)⟩,
  ⟨(some 17),some (15,false),.len (.sl 0) (.t 16)⟩,
  ⟨(some 18),some (15,false),.call (.fn 127) []⟩,
  ⟨(some 19),some (15,false),.mv (.c (.s (.d (.int .i64 5))))⟩,
  ⟨(some 20),some (15,false),.bin .neq (.t 17) (.t 19)⟩,
  ⟨(some 21),none,.pick (.t 15) (.c (.s (.d (.bool true)))) (.t 20)⟩]
def c69r3:List Opn:=[
  ⟨(some 22),none,.build [(.d (.int .u64 0)),(.d (.int .u64 0)),(.d (.int .u64 0)),(.d (.int .u64 0)),(.d (.int .u64 0)),(.d (.bool false)),(.d (.bool false))] []⟩,
  ⟨none,none,.store 7 (.t 2) (.t 22)⟩,
  ⟨(some 3),none,.mv (.c (.s (.d (.int .i64 6))))⟩]
def c69r4:List Opn:=[
  ⟨(some 5),none,.new [(.d (.int .u64 0)),(.d (.int .u64 0)),(.d (.int .u64 0)),(.d (.int .u64 0)),(.d (.int .u64 0))]⟩]
def c69r5:List Opn:=[
  ⟨(some 23),none,.call (.fn 127) []⟩,
  ⟨(some 24),none,.mv (.c (.s (.d (.int .i64 0))))⟩]
def c69r6:List Opn:=[
  ⟨(some 25),none,.bin .lss (.t 24) (.c (.s (.d (.int .i64 5))))⟩]
def c69r7:List Opn:=[
  ⟨(some 26),none,.mv (.t 24)⟩,
  ⟨(some 27),none,.idx (.arr 5 2 true) (.t 23) (.t 24)⟩,
  ⟨(some 7),none,.new [(.d (.int .i64 0)),(.d (.int .i64 0))]⟩,
  ⟨(some 6),none,.mv (.t 26)⟩,
  ⟨none,none,.store 2 (.t 7) (.t 27)⟩]
def c69r8:List Opn:=[
  ⟨(some 29),none,.mv (.t 4)⟩,
  ⟨(some 30),none,.mv (.t 6)⟩,
  ⟨(some 31),none,.iadr (.sl 1) (.t 29) (.t 30)⟩,
  ⟨(some 32),none,.load false 1 (.t 31)⟩,
  ⟨(some 33),none,.load true 2 (.t 7)⟩,
  ⟨(some 34),none,.call (.fn 128) [(.t 32),(.t 33)]⟩,
  ⟨(some 28),none,.mv (.t 34)⟩,
  ⟨(some 35),none,.ext (.t 28) 0⟩,
  ⟨(some 36),none,.ext (.t 28) 1⟩,
  ⟨(some 8),none,.mv (.t 35)⟩,
  ⟨(some 9),none,.mv (.t 36)⟩]
def c69r9:List Opn:=[
  ⟨(some 37),none,.mv (.t 9)⟩,
  ⟨(some 38),none,.build [] []⟩,
  ⟨(some 39),none,.mkif 205 (.t 38)⟩,
  ⟨(some 40),none,.call (.fn 129) [(.t 37),(.t 39)]⟩]
def c69r10:List Opn:=[
  ⟨(some 41),none,.build [(.d (.int .u64 0)),(.d (.int .u64 0)),(.d (.int .u64 0)),(.d (.int .u64 0)),(.d (.int .u64 0)),(.d (.bool false)),(.d (.bool false))] []⟩,
  ⟨none,none,.store 7 (.t 2) (.t 41)⟩,
  ⟨(some 3),none,.mv (.c (.s (.d (.int .i64 6))))⟩]
def c69r11:List Opn:=[
  ⟨(some 42),none,.mv (.t 6)⟩,
  ⟨(some 43),none,.mv (.t 8)⟩,
  ⟨(some 44),none,.iadr (.ptr 5 1) (.t 5) (.t 42)⟩,
  ⟨none,none,.store 1 (.t 44) (.t 43)⟩]
def c69r12:List Opn:=[
  ⟨(some 45),none,.bin .add (.t 24) (.c (.s (.d (.int .i64 1))))⟩,
  ⟨(some 24),none,.mv (.t 45)⟩]
def c69l13:C:=.seq (.reg c69r6 none [2,4,5,23,24,25]) (.seq (.cond (.t 25) (.skip) (.exit 0)) (.seq (.blk 1 (.seq (.reg c69r7 none [2,4,5,6,7,23,24]) (.seq (.reg c69r8 (some [0,0,3,7,0,31,63,127,127,255,1023]) [2,4,5,6,8,9,23,24]) (.seq (.seq (.reg c69r9 none [2,4,5,6,8,23,24,40]) (.cond (.t 40) (.seq (.reg c69r10 none [2,3]) (.ret)) (.skip))) (.reg c69r11 none [2,4,5,23,24]))))) (.reg c69r12 none [2,4,5,23,24])))
def c69r13:List Opn:=[
  ⟨(some 46),none,.iadr (.ptr 5 1) (.t 5) (.c (.s (.d (.int .i64 0))))⟩,
  ⟨(some 47),none,.load false 1 (.t 46)⟩,
  ⟨(some 48),none,.iadr (.ptr 5 1) (.t 5) (.c (.s (.d (.int .i64 1))))⟩,
  ⟨(some 49),none,.load false 1 (.t 48)⟩,
  ⟨(some 50),none,.iadr (.ptr 5 1) (.t 5) (.c (.s (.d (.int .i64 2))))⟩,
  ⟨(some 51),none,.load false 1 (.t 50)⟩,
  ⟨(some 52),none,.iadr (.ptr 5 1) (.t 5) (.c (.s (.d (.int .i64 3))))⟩,
  ⟨(some 53),none,.load false 1 (.t 52)⟩,
  ⟨(some 54),none,.iadr (.ptr 5 1) (.t 5) (.c (.s (.d (.int .i64 4))))⟩,
  ⟨(some 55),none,.load false 1 (.t 54)⟩,
  ⟨(some 56),none,.mv (.t 4)⟩,
  ⟨(some 57),none,.iadr (.sl 1) (.t 56) (.c (.s (.d (.int .i64 2))))⟩,
  ⟨(some 58),none,.load false 1 (.t 57)⟩,
  ⟨(some 59),none,.bin .eql (.t 58) (.c (.s (.d (.str [42]))))⟩,
  ⟨(some 60),none,.mv (.t 4)⟩,
  ⟨(some 61),none,.iadr (.sl 1) (.t 60) (.c (.s (.d (.int .i64 4))))⟩,
  ⟨(some 62),none,.load false 1 (.t 61)⟩,
  ⟨(some 63),none,.bin .eql (.t 62) (.c (.s (.d (.str [42]))))⟩,
  ⟨(some 64),none,.build [(.d (.int .u64 0)),(.d (.int .u64 0)),(.d (.int .u64 0)),(.d (.int .u64 0)),(.d (.int .u64 0)),(.d (.bool false)),(.d (.bool false))] [(0,1,(.t 47)),(1,1,(.t 49)),(2,1,(.t 51)),(3,1,(.t 53)),(4,1,(.t 55)),(5,1,(.t 59)),(6,1,(.t 63))]⟩,
  ⟨none,none,.store 7 (.t 2) (.t 64)⟩,
  ⟨(some 3),none,.mv (.c (.s (.d (.int .i64 0))))⟩]
def c69:C:=.seq (.reg c69r0 none [0,2]) (.seq (.reg c69r1 none [0,2,4]) (.seq (.seq (.reg c69r2 none [2,4,21]) (.cond (.t 21) (.seq (.reg c69r3 none [2,3]) (.ret)) (.skip))) (.seq (.reg c69r4 none [2,4,5]) (.seq (.seq (.reg c69r5 none [2,4,5,23,24]) (.blk 0 (.loop c69l13))) (.seq (.reg c69r13 (some [0,1,0,4,0,16,0,64,0,256,0,1024,3072,7168,0,16384,49152,114688,262143,524287,1048575]) [2,3]) (.ret))))))
def k69:List (Nat×List Nat):=[(13,[2,3]),(12,[2,4,5,23,24]),(11,[2,4,5,23,24]),(10,[2,3]),(9,[2,4,5,6,8,23,24,40]),(8,[2,4,5,6,8,9,23,24]),(7,[2,4,5,6,7,23,24]),(6,[2,4,5,23,24,25]),(5,[2,4,5,23,24]),(4,[2,4,5]),(3,[2,3]),(2,[2,4,21]),(1,[0,2,4]),(0,[0,2])]
theorem cc69:(Tryz.f69.body).bind (cC Tryz.prog 65 k69)=some c69:=by kernel_rfl
def rv69:List RV:=[.c 2 true 7,.t 3]
theorem cr69:cRVs Tryz.prog Tryz.f69.results.toList=some rv69:=by kernel_rfl
theorem f_cron_Parse_l13_ok (s:Str) (t:(List Str)) (t2:(List cron_bounds)) (y_:api_Cron×Int) (R_:St→Prop) (hR:(Ret Tryz.prog glP [] rv69 (.tup [.agg ((e_api_Cron y_.1).map Lc.d),.s (.d (.int .i64 y_.2))]))=R_):∀ (m_:Nat) (v24:Int) (bits:(List Int)) (res_:(Int×(List Int)) ⊕ (api_Cron×Int)) (h:f_cron_Parse_l13 s t t2 m_ v24 bits=some res_) (k_:List It) (hx:∀ s_:Int×(List Int),res_=.inl s_→W Tryz.prog glP 65 k_ ⟨lkT [(2,.b (.s (.ptr 2 1 0 0))),(4,.b (.s (.d (.sl (t.map eS))))),(5,.b (.s (.ptr 5 1 0 0))),(23,.b (.agg (ea e_cron_bounds t2))),(24,.b (.s (.d (.int .i64 s_.1))))],lkG [(2,⟨7,[[(.d (.int .u64 0)),(.d (.int .u64 0)),(.d (.int .u64 0)),(.d (.int .u64 0)),(.d (.int .u64 0)),(.d (.bool false)),(.d (.bool false))]],false⟩),(5,⟨5,[ea (eI .u64) s_.2],false⟩)]⟩ R_) (hr:∀ z_:api_Cron×Int,res_=.inr z_→z_=y_),W Tryz.prog glP 65 (.c c69l13 :: .lp c69l13 :: .blk 0 :: k_) ⟨lkT [(2,.b (.s (.ptr 2 1 0 0))),(4,.b (.s (.d (.sl (t.map eS))))),(5,.b (.s (.ptr 5 1 0 0))),(23,.b (.agg (ea e_cron_bounds t2))),(24,.b (.s (.d (.int .i64 v24))))],lkG [(2,⟨7,[[(.d (.int .u64 0)),(.d (.int .u64 0)),(.d (.int .u64 0)),(.d (.int .u64 0)),(.d (.int .u64 0)),(.d (.bool false)),(.d (.bool false))]],false⟩),(5,⟨5,[ea (eI .u64) bits],false⟩)]⟩ R_:=by
  intro m_;induction m_ with
  | zero=>intro v24 bits res_ h;rw [f_cron_Parse_l13.eq_1] at h;cases h
  | succ m_ ih =>
    intro v24 bits res_ h k_ hx hr;rw [f_cron_Parse_l13.eq_2] at h;refine W.cdef c69l13.eq_1 ?_
    refine .seq ?_
    refine Rw.walk ?_
    simp only [wq,seval,c69r6,wj,we1]
    refine .seq ?_
    refine .cond (p:=(decide (v24 < 5))) (by first | rfl | simp only [wq,seval]) (fun h1 => ?_) (fun h1 => ?_)
    · rw [ite_t h1] at h
      refine .skip ?_
      refine .seq ?_
      refine .blk ?_
      refine .seq ?_
      refine Rw.walk ?_
      simp only [wq,seval,c69r7,wj,we1]
      obtain ⟨g3,h⟩:=gd_iff.1 h
      obtain ⟨x,e4,h⟩:=Option.bind_eq_some_iff.1 h
      refine Go1.of (sem_idxA (by rfl) e_cron_bounds_len e4 (by decide) (by rfl) (by rfl)) ?_
      simp only [wq,seval,c69r7,wj,we1]
      repeat (refine And.intro ?_ ?_; · first | omega | (simp only [wn] at *;omega) | (simp only [List.map_cons,List.map_nil] at *;omega) | (intro q;simp only [wq,seval,q];done))
      refine .seq ?_
      refine RwD.walk ?_
      simp only [wq,seval,c69r8,wj,we1]
      obtain ⟨x2,e5,h⟩:=Option.bind_eq_some_iff.1 h
      refine GoD1.of (sem_iadr eS_len e5 (by rfl) (by rfl)) ?_
      simp only [wq,seval,c69r8,wj,we1]
      obtain ⟨t3,e6,h⟩:=Option.bind_eq_some_iff.1 h
      refine call_fun [] true ⟨trivial,trivial,trivial,trivial⟩ rfl ?_ (f_cron_field_ok _ _ _ e6) (fun h=>by cases h) (fun i hi=>by cases hi) ?_
      · simp only [wq,seval,we1]
      simp only [wq,seval,c69r8,wj,we1]
      refine .seq ?_
      refine .seq ?_
      refine Rw.walk ?_
      simp only [wq,seval,c69r9,wj,we1]
      obtain ⟨t4,e7,h⟩:=Option.bind_eq_some_iff.1 h
      refine call_fun [] false ⟨trivial,trivial,trivial,trivial⟩ rfl ?_ (f_errors_Is_ok _ _ _ e7) (fun _=>rfl) (fun i hi=>by cases hi) ?_
      · simp only [wq,seval,we1]
      simp only [wq,seval,c69r9,wj,we1]
      refine .cond (p:=t4) (by first | rfl | simp only [wq,seval]) (fun h1 => ?_) (fun h1 => ?_)
      · rw [ite_t h1] at h
        refine .seq ?_
        refine Rw.walk ?_
        simp only [wq,seval,c69r10,wj,we1]
        obtain rfl:=Option.some.inj h;obtain rfl:=hr _ rfl
        refine .ret ?_
        rw [← hR]
        simp only [wq,seval,rv69,semI.eq_10,we1]
      · rw [ite_f h1] at h
        refine .skip ?_
        refine Rw.walk ?_
        simp only [wq,seval,c69r11,wa,we1]
        obtain ⟨g8,h⟩:=gd_iff.1 h
        refine Go1.of (sem_iadrA (by rfl) (by rfl) (by rfl)) ?_
        simp only [wq,seval,c69r11,wa,we1]
        repeat (refine And.intro ?_ ?_; · first | omega | (simp only [wn] at *;omega) | (simp only [List.map_cons,List.map_nil] at *;omega) | (intro q;simp only [wq,seval,q];done))
        obtain ⟨g9,h⟩:=gd_iff.1 h
        refine Go1.of (sem_storeA (enc:=(eI .u64)) (a':=t3.1) (i:=v24) (eI_len _) (by rfl) (by rfl) (by omega) (by omega) (by rfl) (by trivial) (by rfl)) ?_
        simp only [wq,seval,c69r11,wa,we1]
        refine .eblk ?_
        refine Rw.walk ?_
        simp only [wq,seval,c69r12,wj,we1]
        refine .lp ?_
        refine .weak (Imp.coA [] _ _ ?_) (ih (IntKind.i64.wrap (v24+1)) (bits.set v24.toNat t3.1) _ h k_ hx hr);simp only [wq,seval,wi,er_nil,we1]
    · rw [ite_f h1] at h
      refine .exit rfl ?_
      obtain rfl:=Option.some.inj h
      refine .weak (Imp.coA [] _ _ ?_) (hx _ rfl);simp only [wq,seval,wi,er_nil,we1]
theorem f_cron_Parse_ok (s:Str) (y_:api_Cron×Int) (h:f_cron_Parse s=some y_):Fun Tryz.prog glP 69 [.b (.s (.d (.str s)))] (.tup [.agg ((e_api_Cron y_.1).map Lc.d),.s (.d (.int .i64 y_.2))]):=by
  refine fun_walk [] Tryz.func69 Tryz.ntmps69 cc69 cr69 (by kernel_rfl) (by simp only [List.length_cons,List.length_nil];decide) ?_
  generalize hR:Ret _ _ _ _ _=R_
  simp only [wq,seval,we1]
  unfold f_cron_Parse at h;unfold c69
  refine .seq ?_
  refine Rw.walk ?_
  simp only [wq,seval,c69r0,wj,we1]
  refine .seq ?_
  refine Rw.walk ?_
  simp only [wq,seval,c69r1,wj,we1]
  obtain ⟨t,e1,h⟩:=Option.bind_eq_some_iff.1 h
  refine call_fun [] true ⟨trivial,trivial,trivial,trivial⟩ rfl ?_ (f_strings_Split_ok _ _ _ e1) (fun h=>by cases h) (fun i hi=>by cases hi) ?_
  · simp only [wq,seval,we1]
  simp only [wq,seval,c69r1,wj,we1]
  refine .seq ?_
  refine .seq ?_
  obtain ⟨s2,hf,h⟩:=Option.bind_eq_some_iff.1 h
  refine W.cut1 ⟨lkT [(2,.b (.s (.ptr 2 1 0 0))),(4,.b (.s (.d (.sl (t.map eS))))),(21,.b (.s (.d (.bool s2))))],lkG [(2,⟨7,[[(.d (.int .u64 0)),(.d (.int .u64 0)),(.d (.int .u64 0)),(.d (.int .u64 0)),(.d (.int .u64 0)),(.d (.bool false)),(.d (.bool false))]],false⟩)]⟩ ?_ (fun tail => ?_)
  · skip
    refine .cond (p:=s2) (by first | rfl | simp only [wq,seval]) (fun h1 => ?_) (fun h1 => ?_)
    · rw [ite_t h1] at h
      refine .seq ?_
      refine Rw.walk ?_
      simp only [wq,seval,c69r3,wj,we1]
      obtain rfl:=Option.some.inj h
      refine .ret ?_
      rw [← hR]
      simp only [wq,seval,rv69,semI.eq_10,we1]
    · rw [ite_f h1] at h
      refine .skip ?_
      refine .seq ?_
      refine Rw.walk ?_
      simp only [wq,seval,c69r4,semI.eq_10,semI.eq_11,we1]
      refine Go1.of (sem_newA (enc:=(eI .u64)) (l:=(List.replicate 5 0)) (by first | rfl | (simp only [List.length_map,List.length_replicate,List.length_set];rfl)) (by first | rfl | (simp only [List.length_map,List.length_replicate,List.length_set];rfl)) (by first | rfl | (simp only [List.length_map,List.length_replicate,List.length_set];rfl))) ?_
      simp only [wq,seval,c69r4,semI.eq_10,semI.eq_11,we1]
      refine .seq ?_
      refine .seq ?_
      refine Rw.walk ?_
      simp only [wq,seval,c69r5,wj,we1]
      obtain ⟨t2,e2,h⟩:=Option.bind_eq_some_iff.1 h
      refine call_fun [] true ⟨trivial,trivial⟩ rfl ?_ (f_cron_fields_ok _ e2) (fun h=>by cases h) (fun i hi=>by cases hi) ?_
      · simp only [wq,seval,we1]
      simp only [wq,seval,c69r5,wj,we1]
      refine .blk ?_
      obtain ⟨s3,hf,h⟩:=Option.bind_eq_some_iff.1 h
      refine .loop (.weak (Imp.coA [] _ _ ?_) (f_cron_Parse_l13_ok s t t2 _ _ hR _ _ _ _ hf _ ?_ ?_))
      · simp only [wq,seval,wi,er_nil,we1]
      · intro s4 hs;subst hs;dsimp only at h
        refine .seq ?_
        refine RwD.walk ?_
        simp only [wq,seval,c69r13,wa,we1]
        refine GoD1.of (sem_iadrA (by rfl) (by rfl) (by rfl)) ?_
        simp only [wq,seval,c69r13,wa,we1]
        repeat (refine And.intro ?_ ?_; · first | omega | (simp only [wn] at *;omega) | (simp only [List.map_cons,List.map_nil] at *;omega) | (intro q;simp only [wq,seval,q];done))
        obtain ⟨x,e10,h⟩:=Option.bind_eq_some_iff.1 h
        refine GoD1.of (sem_loadA1 (eI_len _) e10 (by rfl) (by rfl) (by rfl)) ?_
        simp only [wq,seval,c69r13,wa,we1]
        refine GoD1.of (sem_iadrA (by rfl) (by rfl) (by rfl)) ?_
        simp only [wq,seval,c69r13,wa,we1]
        repeat (refine And.intro ?_ ?_; · first | omega | (simp only [wn] at *;omega) | (simp only [List.map_cons,List.map_nil] at *;omega) | (intro q;simp only [wq,seval,q];done))
        obtain ⟨x2,e11,h⟩:=Option.bind_eq_some_iff.1 h
        refine GoD1.of (sem_loadA1 (eI_len _) e11 (by rfl) (by rfl) (by rfl)) ?_
        simp only [wq,seval,c69r13,wa,we1]
        refine GoD1.of (sem_iadrA (by rfl) (by rfl) (by rfl)) ?_
        simp only [wq,seval,c69r13,wa,we1]
        repeat (refine And.intro ?_ ?_; · first | omega | (simp only [wn] at *;omega) | (simp only [List.map_cons,List.map_nil] at *;omega) | (intro q;simp only [wq,seval,q];done))
        obtain ⟨x3,e12,h⟩:=Option.bind_eq_some_iff.1 h
        refine GoD1.of (sem_loadA1 (eI_len _) e12 (by rfl) (by rfl) (by rfl)) ?_
        simp only [wq,seval,c69r13,wa,we1]
        refine GoD1.of (sem_iadrA (by rfl) (by rfl) (by rfl)) ?_
        simp only [wq,seval,c69r13,wa,we1]
        repeat (refine And.intro ?_ ?_; · first | omega | (simp only [wn] at *;omega) | (simp only [List.map_cons,List.map_nil] at *;omega) | (intro q;simp only [wq,seval,q];done))
        obtain ⟨x4,e13,h⟩:=Option.bind_eq_some_iff.1 h
        refine GoD1.of (sem_loadA1 (eI_len _) e13 (by rfl) (by rfl) (by rfl)) ?_
        simp only [wq,seval,c69r13,wa,we1]
        refine GoD1.of (sem_iadrA (by rfl) (by rfl) (by rfl)) ?_
        simp only [wq,seval,c69r13,wa,we1]
        repeat (refine And.intro ?_ ?_; · first | omega | (simp only [wn] at *;omega) | (simp only [List.map_cons,List.map_nil] at *;omega) | (intro q;simp only [wq,seval,q];done))
        obtain ⟨x5,e14,h⟩:=Option.bind_eq_some_iff.1 h
        refine GoD1.of (sem_loadA1 (eI_len _) e14 (by rfl) (by rfl) (by rfl)) ?_
        simp only [wq,seval,c69r13,wa,we1]
        obtain ⟨x6,e15,h⟩:=Option.bind_eq_some_iff.1 h
        refine GoD1.of (sem_iadr eS_len e15 (by rfl) (by rfl)) ?_
        simp only [wq,seval,c69r13,wa,we1]
        refine GoD1.of (semI.eq_10 ..) ?_
        simp only [wq,seval,c69r13,wa,we1]
        obtain ⟨x7,e16,h⟩:=Option.bind_eq_some_iff.1 h
        refine GoD1.of (sem_iadr eS_len e16 (by rfl) (by rfl)) ?_
        simp only [wq,seval,c69r13,wa,we1]
        refine GoD1.of (semI.eq_10 ..) ?_
        simp only [wq,seval,c69r13,wa,we1]
        refine GoD1.of (semI.eq_11 ..) ?_
        simp only [wq,seval,c69r13,wa,we1]
        obtain rfl:=Option.some.inj h
        refine .ret ?_
        rw [← hR]
        simp only [wq,seval,rv69,semI.eq_10,we1]
      · intro z hz;subst hz;dsimp only at h
        exact Option.some.inj h
  replace h:=hf
  refine Rs.walk ?_
  simp only [wq,seval,c69r2,wj,we1]
  cases q4:(decide ((s.length:Int) > 200))
  case' false =>
    rw [ite_f q4] at h
    simp only [wq,seval,q4,wj,we1]
    obtain ⟨t2,e17,h⟩:=Option.bind_eq_some_iff.1 h
    refine call_funT [] true rfl rfl (by simp only [wq,seval]) rfl ?_ (f_cron_fields_ok _ e17) (fun h=>by cases h) (fun i hi=>by cases hi) ?_
    · simp only [wq,seval,we1]
    simp only [wq,seval,q4,wj,we1]
    repeat (refine And.intro ?_ ?_; · first | omega | (simp only [wn] at *;omega) | (simp only [List.map_cons,List.map_nil] at *;omega) | (intro q;simp only [wq,seval,q];done))
    obtain rfl:=Option.some.inj h
    refine .weak (Imp.coA [] _ _ ?_) (tail);simp only [wq,seval,wi,er_nil,we1]
  case' true =>
    rw [ite_t q4] at h
    simp only [wq,seval,q4,wj,we1]
    repeat (refine And.intro ?_ ?_; · first | omega | (simp only [wn] at *;omega) | (simp only [List.map_cons,List.map_nil] at *;omega) | (intro q;simp only [wq,seval,q];done))
    obtain rfl:=Option.some.inj h
    refine .weak (Imp.coA [] _ _ ?_) (tail);simp only [wq,seval,wi,er_nil,we1]
def c185r0:List Opn:=[
  ⟨(some 4),none,.mv (.c (.s (.d (.int .i64 0))))⟩]
def c185r1:List Opn:=[
  ⟨(some 6),none,.mv (.t 0)⟩,
  ⟨(some 7),none,.len (.sl 0) (.t 6)⟩,
  ⟨(some 8),none,.mv (.c (.s (.d (.int .i64 0))))⟩]
def c185r2:List Opn:=[
  ⟨(some 9),none,.bin .lss (.t 8) (.t 7)⟩]
def c185r3:List Opn:=[
  ⟨(some 10),none,.mv (.t 8)⟩,
  ⟨(some 5),none,.mv (.t 10)⟩]
def c185r4:List Opn:=[
  ⟨(some 11),none,.mv (.t 1)⟩,
  ⟨(some 12),none,.mv (.t 0)⟩,
  ⟨(some 13),none,.mv (.t 5)⟩,
  ⟨(some 14),none,.iadr (.sl 1) (.t 12) (.t 13)⟩,
  ⟨(some 15),none,.load false 1 (.t 14)⟩,
  ⟨(some 16),none,.call (.t 11) [(.t 15)]⟩]
def c185r5:List Opn:=[
  ⟨(some 17),none,.mv (.t 5)⟩,
  ⟨(some 4),none,.mv (.t 17)⟩]
def c185r6:List Opn:=[
  ⟨(some 18),none,.bin .add (.t 8) (.c (.s (.d (.int .i64 1))))⟩,
  ⟨(some 8),none,.mv (.t 18)⟩]
def c185l7:C:=.seq (.reg c185r2 none [0,1,7,8,9]) (.seq (.cond (.t 9) (.skip) (.exit 0)) (.seq (.blk 1 (.seq (.reg c185r3 none [0,1,5,7,8]) (.seq (.reg c185r4 none [0,1,5,7,8,16]) (.cond (.t 16) (.seq (.reg c185r5 none [4]) (.ret)) (.skip))))) (.reg c185r6 none [0,1,7,8])))
def c185r7:List Opn:=[
  ⟨(some 4),none,.mv (.c (.s (.d (.int .i64 (-1)))))⟩]
def c185:C:=.seq (.reg c185r0 none [0,1]) (.seq (.seq (.reg c185r1 none [0,1,7,8]) (.blk 0 (.loop c185l7))) (.seq (.reg c185r7 none [4]) (.ret)))
def k185:List (Nat×List Nat):=[(7,[4]),(6,[0,1,7,8]),(5,[4]),(4,[0,1,5,7,8,16]),(3,[0,1,5,7,8]),(2,[0,1,7,8,9]),(1,[0,1,7,8]),(0,[0,1])]
theorem cc185:(Tryz.f185.body).bind (cC Tryz.prog 19 k185)=some c185:=by kernel_rfl
def rv185:List RV:=[.t 4]
theorem cr185:cRVs Tryz.prog Tryz.f185.results.toList=some rv185:=by kernel_rfl
theorem f_slices_IndexFunc_string_string_l7_ok (s:(List Str)) (f_f:FuncId) (f_c:List Sc) (f:Str→Option (Bool)) (f_h:∀ (a0:Str) (r:Bool),f a0=some r→Fun Tryz.prog glP f_f (.b (.s (.d (.str a0))) :: f_c.map fun x=>.b (.s (.d x))) (.b (.s (.d (.bool r))))) (y_:Int) (R_:St→Prop) (hR:(Ret Tryz.prog glP [] rv185 (.b (.s (.d (.int .i64 y_)))))=R_):∀ (m_:Nat) (v8:Int) (res_:(Int) ⊕ (Int)) (h:f_slices_IndexFunc_string_string_l7 s f m_ v8=some res_) (k_:List It) (hx:∀ s_:Int,res_=.inl s_→W Tryz.prog glP 19 k_ ⟨lkT [(0,.b (.s (.d (.sl (s.map eS))))),(1,.b (.s (.d (.clo f_f f_c)))),(7,.b (.s (.d (.int .i64 (s.length:Int))))),(8,.b (.s (.d (.int .i64 s_))))],lkG []⟩ R_) (hr:∀ z_:Int,res_=.inr z_→z_=y_),W Tryz.prog glP 19 (.c c185l7 :: .lp c185l7 :: .blk 0 :: k_) ⟨lkT [(0,.b (.s (.d (.sl (s.map eS))))),(1,.b (.s (.d (.clo f_f f_c)))),(7,.b (.s (.d (.int .i64 (s.length:Int))))),(8,.b (.s (.d (.int .i64 v8))))],lkG []⟩ R_:=by
  intro m_;induction m_ with
  | zero=>intro v8 res_ h;rw [f_slices_IndexFunc_string_string_l7.eq_1] at h;cases h
  | succ m_ ih =>
    intro v8 res_ h k_ hx hr;rw [f_slices_IndexFunc_string_string_l7.eq_2] at h;refine W.cdef c185l7.eq_1 ?_
    refine .seq ?_
    refine Rw.walk ?_
    simp only [wq,seval,c185r2,wj]
    refine .seq ?_
    refine .cond (p:=(decide (v8 < (s.length:Int)))) (by first | rfl | simp only [wq,seval]) (fun h1 => ?_) (fun h1 => ?_)
    · rw [ite_t h1] at h
      refine .skip ?_
      refine .seq ?_
      refine .blk ?_
      refine .seq ?_
      refine Rw.walk ?_
      simp only [wq,seval,c185r3,wj]
      refine .seq ?_
      refine Rw.walk ?_
      simp only [wq,seval,c185r4,wj]
      obtain ⟨x,e1,h⟩:=Option.bind_eq_some_iff.1 h
      refine Go1.of (sem_iadr eS_len e1 (by rfl) (by rfl)) ?_
      simp only [wq,seval,c185r4,wj]
      obtain ⟨b,e2,h⟩:=Option.bind_eq_some_iff.1 h
      refine call_fun [] false ⟨trivial,trivial,trivial⟩ rfl ?_ (f_h _ _ e2) (fun _=>rfl) (fun i hi=>by cases hi) ?_
      · simp only [wq,seval]
      simp only [wq,seval,c185r4,wj]
      refine .cond (p:=b) (by first | rfl | simp only [wq,seval]) (fun h1 => ?_) (fun h1 => ?_)
      · rw [ite_t h1] at h
        refine .seq ?_
        refine Rw.walk ?_
        simp only [wq,seval,c185r5,wj]
        obtain rfl:=Option.some.inj h;obtain rfl:=hr _ rfl
        refine .ret ?_
        rw [← hR]
        simp only [wq,seval,rv185]
      · rw [ite_f h1] at h
        refine .skip ?_
        refine .eblk ?_
        refine Rw.walk ?_
        simp only [wq,seval,c185r6,wj]
        refine .lp ?_
        refine .weak (Imp.coA [] _ _ ?_) (ih (IntKind.i64.wrap (v8+1)) _ h k_ hx hr);simp only [wq,seval,wi,er_nil]
    · rw [ite_f h1] at h
      refine .exit rfl ?_
      obtain rfl:=Option.some.inj h
      refine .weak (Imp.coA [] _ _ ?_) (hx _ rfl);simp only [wq,seval,wi,er_nil]
theorem f_slices_IndexFunc_string_string_ok (s:(List Str)) (f_f:FuncId) (f_c:List Sc) (f:Str→Option (Bool)) (f_h:∀ (a0:Str) (r:Bool),f a0=some r→Fun Tryz.prog glP f_f (.b (.s (.d (.str a0))) :: f_c.map fun x=>.b (.s (.d x))) (.b (.s (.d (.bool r))))) (y_:Int) (h:f_slices_IndexFunc_string_string s f=some y_):Fun Tryz.prog glP 185 [.b (.s (.d (.sl (s.map eS)))),.b (.s (.d (.clo f_f f_c)))] (.b (.s (.d (.int .i64 y_)))):=by
  refine fun_walk [] Tryz.func185 Tryz.ntmps185 cc185 cr185 (by kernel_rfl) (by simp only [List.length_cons,List.length_nil];decide) ?_
  generalize hR:Ret _ _ _ _ _=R_
  simp only [wq,seval]
  unfold f_slices_IndexFunc_string_string at h;unfold c185
  refine .seq ?_
  refine Rw.walk ?_
  simp only [wq,seval,c185r0,wj]
  refine .seq ?_
  refine .seq ?_
  refine Rw.walk ?_
  simp only [wq,seval,c185r1,wj]
  refine .blk ?_
  obtain ⟨s2,hf,h⟩:=Option.bind_eq_some_iff.1 h
  refine .loop (.weak (Imp.coA [] _ _ ?_) (f_slices_IndexFunc_string_string_l7_ok s f_f f_c f f_h _ _ hR _ _ _ hf _ ?_ ?_))
  · simp only [wq,seval,wi,er_nil]
  · intro s3 hs;subst hs;dsimp only at h
    refine .seq ?_
    refine Rw.walk ?_
    simp only [wq,seval,c185r7,wj]
    obtain rfl:=Option.some.inj h
    refine .ret ?_
    rw [← hR]
    simp only [wq,seval,rv185]
  · intro z hz;subst hz;dsimp only at h
    exact Option.some.inj h
def c130r0:List Opn:=[
  ⟨(some 4),none,.mv (.c (.s (.d (.bool false))))⟩]
def c130r1:List Opn:=[
  ⟨(some 5),none,.mv (.t 0)⟩,
  ⟨(some 6),none,.mv (.t 1)⟩,
  ⟨(some 7),none,.call (.fn 185) [(.t 5),(.t 6)]⟩,
  ⟨(some 8),none,.bin .geq (.t 7) (.c (.s (.d (.int .i64 0))))⟩,
  ⟨(some 4),none,.mv (.t 8)⟩]
def c130:C:=.seq (.reg c130r0 none [0,1]) (.seq (.reg c130r1 none [4]) (.ret))
def k130:List (Nat×List Nat):=[(1,[4]),(0,[0,1])]
theorem cc130:(Tryz.f130.body).bind (cC Tryz.prog 9 k130)=some c130:=by kernel_rfl
def rv130:List RV:=[.t 4]
theorem cr130:cRVs Tryz.prog Tryz.f130.results.toList=some rv130:=by kernel_rfl
theorem f_slices_ContainsFunc_string_string_ok (s:(List Str)) (f_f:FuncId) (f_c:List Sc) (f:Str→Option (Bool)) (f_h:∀ (a0:Str) (r:Bool),f a0=some r→Fun Tryz.prog glP f_f (.b (.s (.d (.str a0))) :: f_c.map fun x=>.b (.s (.d x))) (.b (.s (.d (.bool r))))) (y_:Bool) (h:f_slices_ContainsFunc_string_string s f=some y_):Fun Tryz.prog glP 130 [.b (.s (.d (.sl (s.map eS)))),.b (.s (.d (.clo f_f f_c)))] (.b (.s (.d (.bool y_)))):=by
  refine fun_walk [] Tryz.func130 Tryz.ntmps130 cc130 cr130 (by kernel_rfl) (by simp only [List.length_cons,List.length_nil];decide) ?_
  generalize hR:Ret _ _ _ _ _=R_
  simp only [wq,seval]
  unfold f_slices_ContainsFunc_string_string at h;unfold c130
  refine .seq ?_
  refine Rw.walk ?_
  simp only [wq,seval,c130r0,wj]
  refine .seq ?_
  refine Rw.walk ?_
  simp only [wq,seval,c130r1,wj]
  obtain ⟨t,e1,h⟩:=Option.bind_eq_some_iff.1 h
  refine call_fun [] false ⟨trivial,trivial,trivial,trivial⟩ rfl ?_ (f_slices_IndexFunc_string_string_ok _ f_f f_c f f_h _ e1) (fun _=>rfl) (fun i hi=>by cases hi) ?_
  · simp only [wq,seval]
  simp only [wq,seval,c130r1,wj]
  obtain rfl:=Option.some.inj h
  refine .ret ?_
  rw [← hR]
  simp only [wq,seval,rv130]
def c238r0:List Opn:=[
  ⟨(some 4),none,.mv (.c (.s (.d (.int .i64 0))))⟩]
def c238r1:List Opn:=[
  ⟨(some 6),none,.mv (.t 0)⟩,
  ⟨(some 7),none,.len (.sl 0) (.t 6)⟩,
  ⟨(some 8),none,.mv (.c (.s (.d (.int .i64 0))))⟩]
def c238r2:List Opn:=[
  ⟨(some 9),none,.bin .lss (.t 8) (.t 7)⟩]
def c238r3:List Opn:=[
  ⟨(some 10),none,.mv (.t 8)⟩,
  ⟨(some 5),none,.mv (.t 10)⟩]
def c238r4:List Opn:=[
  ⟨(some 11),none,.mv (.t 1)⟩,
  ⟨(some 12),none,.mv (.t 0)⟩,
  ⟨(some 13),none,.mv (.t 5)⟩,
  ⟨(some 14),none,.iadr (.sl 1) (.t 12) (.t 13)⟩,
  ⟨(some 15),none,.load false 1 (.t 14)⟩,
  ⟨(some 16),none,.call (.t 11) [(.t 15)]⟩]
def c238r5:List Opn:=[
  ⟨(some 17),none,.mv (.t 5)⟩,
  ⟨(some 4),none,.mv (.t 17)⟩]
def c238r6:List Opn:=[
  ⟨(some 18),none,.bin .add (.t 8) (.c (.s (.d (.int .i64 1))))⟩,
  ⟨(some 8),none,.mv (.t 18)⟩]
def c238l7:C:=.seq (.reg c238r2 none [0,1,7,8,9]) (.seq (.cond (.t 9) (.skip) (.exit 0)) (.seq (.blk 1 (.seq (.reg c238r3 none [0,1,5,7,8]) (.seq (.reg c238r4 none [0,1,5,7,8,16]) (.cond (.t 16) (.seq (.reg c238r5 none [4]) (.ret)) (.skip))))) (.reg c238r6 none [0,1,7,8])))
def c238r7:List Opn:=[
  ⟨(some 4),none,.mv (.c (.s (.d (.int .i64 (-1)))))⟩]
def c238:C:=.seq (.reg c238r0 none [0,1]) (.seq (.seq (.reg c238r1 none [0,1,7,8]) (.blk 0 (.loop c238l7))) (.seq (.reg c238r7 none [4]) (.ret)))
def k238:List (Nat×List Nat):=[(7,[4]),(6,[0,1,7,8]),(5,[4]),(4,[0,1,5,7,8,16]),(3,[0,1,5,7,8]),(2,[0,1,7,8,9]),(1,[0,1,7,8]),(0,[0,1])]
theorem cc238:(Tryz.f238.body).bind (cC Tryz.prog 19 k238)=some c238:=by kernel_rfl
def rv238:List RV:=[.t 4]
theorem cr238:cRVs Tryz.prog Tryz.f238.results.toList=some rv238:=by kernel_rfl
theorem f_slices_IndexFunc_byte_byte_l7_ok (s:(List Int)) (f_f:FuncId) (f_c:List Sc) (f:Int→Option (Bool)) (f_h:∀ (a0:Int) (r:Bool),f a0=some r→Fun Tryz.prog glP f_f (.b (.s (.d (.int .u8 a0))) :: f_c.map fun x=>.b (.s (.d x))) (.b (.s (.d (.bool r))))) (y_:Int) (R_:St→Prop) (hR:(Ret Tryz.prog glP [] rv238 (.b (.s (.d (.int .i64 y_)))))=R_):∀ (m_:Nat) (v8:Int) (res_:(Int) ⊕ (Int)) (h:f_slices_IndexFunc_byte_byte_l7 s f m_ v8=some res_) (k_:List It) (hx:∀ s_:Int,res_=.inl s_→W Tryz.prog glP 19 k_ ⟨lkT [(0,.b (.s (.d (.sl (s.map (eI .u8)))))),(1,.b (.s (.d (.clo f_f f_c)))),(7,.b (.s (.d (.int .i64 (s.length:Int))))),(8,.b (.s (.d (.int .i64 s_))))],lkG []⟩ R_) (hr:∀ z_:Int,res_=.inr z_→z_=y_),W Tryz.prog glP 19 (.c c238l7 :: .lp c238l7 :: .blk 0 :: k_) ⟨lkT [(0,.b (.s (.d (.sl (s.map (eI .u8)))))),(1,.b (.s (.d (.clo f_f f_c)))),(7,.b (.s (.d (.int .i64 (s.length:Int))))),(8,.b (.s (.d (.int .i64 v8))))],lkG []⟩ R_:=by
  intro m_;induction m_ with
  | zero=>intro v8 res_ h;rw [f_slices_IndexFunc_byte_byte_l7.eq_1] at h;cases h
  | succ m_ ih =>
    intro v8 res_ h k_ hx hr;rw [f_slices_IndexFunc_byte_byte_l7.eq_2] at h;refine W.cdef c238l7.eq_1 ?_
    refine .seq ?_
    refine Rw.walk ?_
    simp only [wq,seval,c238r2,wj]
    refine .seq ?_
    refine .cond (p:=(decide (v8 < (s.length:Int)))) (by first | rfl | simp only [wq,seval]) (fun h1 => ?_) (fun h1 => ?_)
    · rw [ite_t h1] at h
      refine .skip ?_
      refine .seq ?_
      refine .blk ?_
      refine .seq ?_
      refine Rw.walk ?_
      simp only [wq,seval,c238r3,wj]
      refine .seq ?_
      refine Rw.walk ?_
      simp only [wq,seval,c238r4,wj]
      obtain ⟨x,e1,h⟩:=Option.bind_eq_some_iff.1 h
      refine Go1.of (sem_iadr (eI_len _) e1 (by rfl) (by rfl)) ?_
      simp only [wq,seval,c238r4,wj]
      obtain ⟨b,e2,h⟩:=Option.bind_eq_some_iff.1 h
      refine call_fun [] false ⟨trivial,trivial,trivial⟩ rfl ?_ (f_h _ _ e2) (fun _=>rfl) (fun i hi=>by cases hi) ?_
      · simp only [wq,seval]
      simp only [wq,seval,c238r4,wj]
      refine .cond (p:=b) (by first | rfl | simp only [wq,seval]) (fun h1 => ?_) (fun h1 => ?_)
      · rw [ite_t h1] at h
        refine .seq ?_
        refine Rw.walk ?_
        simp only [wq,seval,c238r5,wj]
        obtain rfl:=Option.some.inj h;obtain rfl:=hr _ rfl
        refine .ret ?_
        rw [← hR]
        simp only [wq,seval,rv238]
      · rw [ite_f h1] at h
        refine .skip ?_
        refine .eblk ?_
        refine Rw.walk ?_
        simp only [wq,seval,c238r6,wj]
        refine .lp ?_
        refine .weak (Imp.coA [] _ _ ?_) (ih (IntKind.i64.wrap (v8+1)) _ h k_ hx hr);simp only [wq,seval,wi,er_nil]
    · rw [ite_f h1] at h
      refine .exit rfl ?_
      obtain rfl:=Option.some.inj h
      refine .weak (Imp.coA [] _ _ ?_) (hx _ rfl);simp only [wq,seval,wi,er_nil]
theorem f_slices_IndexFunc_byte_byte_ok (s:(List Int)) (f_f:FuncId) (f_c:List Sc) (f:Int→Option (Bool)) (f_h:∀ (a0:Int) (r:Bool),f a0=some r→Fun Tryz.prog glP f_f (.b (.s (.d (.int .u8 a0))) :: f_c.map fun x=>.b (.s (.d x))) (.b (.s (.d (.bool r))))) (y_:Int) (h:f_slices_IndexFunc_byte_byte s f=some y_):Fun Tryz.prog glP 238 [.b (.s (.d (.sl (s.map (eI .u8))))),.b (.s (.d (.clo f_f f_c)))] (.b (.s (.d (.int .i64 y_)))):=by
  refine fun_walk [] Tryz.func238 Tryz.ntmps238 cc238 cr238 (by kernel_rfl) (by simp only [List.length_cons,List.length_nil];decide) ?_
  generalize hR:Ret _ _ _ _ _=R_
  simp only [wq,seval]
  unfold f_slices_IndexFunc_byte_byte at h;unfold c238
  refine .seq ?_
  refine Rw.walk ?_
  simp only [wq,seval,c238r0,wj]
  refine .seq ?_
  refine .seq ?_
  refine Rw.walk ?_
  simp only [wq,seval,c238r1,wj]
  refine .blk ?_
  obtain ⟨s2,hf,h⟩:=Option.bind_eq_some_iff.1 h
  refine .loop (.weak (Imp.coA [] _ _ ?_) (f_slices_IndexFunc_byte_byte_l7_ok s f_f f_c f f_h _ _ hR _ _ _ hf _ ?_ ?_))
  · simp only [wq,seval,wi,er_nil]
  · intro s3 hs;subst hs;dsimp only at h
    refine .seq ?_
    refine Rw.walk ?_
    simp only [wq,seval,c238r7,wj]
    obtain rfl:=Option.some.inj h
    refine .ret ?_
    rw [← hR]
    simp only [wq,seval,rv238]
  · intro z hz;subst hz;dsimp only at h
    exact Option.some.inj h
def c217r0:List Opn:=[
  ⟨(some 4),none,.mv (.c (.s (.d (.bool false))))⟩]
def c217r1:List Opn:=[
  ⟨(some 5),none,.mv (.t 0)⟩,
  ⟨(some 6),none,.mv (.t 1)⟩,
  ⟨(some 7),none,.call (.fn 238) [(.t 5),(.t 6)]⟩,
  ⟨(some 8),none,.bin .geq (.t 7) (.c (.s (.d (.int .i64 0))))⟩,
  ⟨(some 4),none,.mv (.t 8)⟩]
def c217:C:=.seq (.reg c217r0 none [0,1]) (.seq (.reg c217r1 none [4]) (.ret))
def k217:List (Nat×List Nat):=[(1,[4]),(0,[0,1])]
theorem cc217:(Tryz.f217.body).bind (cC Tryz.prog 9 k217)=some c217:=by kernel_rfl
def rv217:List RV:=[.t 4]
theorem cr217:cRVs Tryz.prog Tryz.f217.results.toList=some rv217:=by kernel_rfl
theorem f_slices_ContainsFunc_byte_byte_ok (s:(List Int)) (f_f:FuncId) (f_c:List Sc) (f:Int→Option (Bool)) (f_h:∀ (a0:Int) (r:Bool),f a0=some r→Fun Tryz.prog glP f_f (.b (.s (.d (.int .u8 a0))) :: f_c.map fun x=>.b (.s (.d x))) (.b (.s (.d (.bool r))))) (y_:Bool) (h:f_slices_ContainsFunc_byte_byte s f=some y_):Fun Tryz.prog glP 217 [.b (.s (.d (.sl (s.map (eI .u8))))),.b (.s (.d (.clo f_f f_c)))] (.b (.s (.d (.bool y_)))):=by
  refine fun_walk [] Tryz.func217 Tryz.ntmps217 cc217 cr217 (by kernel_rfl) (by simp only [List.length_cons,List.length_nil];decide) ?_
  generalize hR:Ret _ _ _ _ _=R_
  simp only [wq,seval]
  unfold f_slices_ContainsFunc_byte_byte at h;unfold c217
  refine .seq ?_
  refine Rw.walk ?_
  simp only [wq,seval,c217r0,wj]
  refine .seq ?_
  refine Rw.walk ?_
  simp only [wq,seval,c217r1,wj]
  obtain ⟨t,e1,h⟩:=Option.bind_eq_some_iff.1 h
  refine call_fun [] false ⟨trivial,trivial,trivial,trivial⟩ rfl ?_ (f_slices_IndexFunc_byte_byte_ok _ f_f f_c f f_h _ e1) (fun _=>rfl) (fun i hi=>by cases hi) ?_
  · simp only [wq,seval]
  simp only [wq,seval,c217r1,wj]
  obtain rfl:=Option.some.inj h
  refine .ret ?_
  rw [← hR]
  simp only [wq,seval,rv217]
def c218r0:List Opn:=[
  ⟨(some 2),none,.mv (.c (.s (.d (.bool false))))⟩]
def c218r1:List Opn:=[
  ⟨(some 3),none,.mv (.t 0)⟩,
  ⟨(some 4),none,.bin .lss (.t 3) (.c (.s (.d (.int .u8 33))))⟩,
  ⟨(some 5),none,.mv (.t 4)⟩,
  ⟨(some 6),some (5,false),.mv (.t 0)⟩,
  ⟨(some 7),some (5,false),.bin .gtr (.t 6) (.c (.s (.d (.int .u8 126))))⟩,
  ⟨(some 8),none,.pick (.t 5) (.c (.s (.d (.bool true)))) (.t 7)⟩,
  ⟨(some 2),none,.mv (.t 8)⟩]
def c218:C:=.seq (.reg c218r0 none [0]) (.seq (.reg c218r1 none [2]) (.ret))
def k218:List (Nat×List Nat):=[(1,[2]),(0,[0])]
theorem cc218:(Tryz.f218.body).bind (cC Tryz.prog 9 k218)=some c218:=by kernel_rfl
def rv218:List RV:=[.t 2]
theorem cr218:cRVs Tryz.prog Tryz.f218.results.toList=some rv218:=by kernel_rfl
theorem f_glob_pieces_1_ok (c:Int) (y_:Bool) (h:f_glob_pieces_1 c=some y_):Fun Tryz.prog glP 218 [.b (.s (.d (.int .u8 c)))] (.b (.s (.d (.bool y_)))):=by
  refine fun_walk [] Tryz.func218 Tryz.ntmps218 cc218 cr218 (by kernel_rfl) (by simp only [List.length_cons,List.length_nil];decide) ?_
  generalize hR:Ret _ _ _ _ _=R_
  simp only [wq,seval]
  unfold f_glob_pieces_1 at h;unfold c218
  refine .seq ?_
  refine Rw.walk ?_
  simp only [wq,seval,c218r0,wj]
  refine .seq ?_
  refine Rw.walk ?_
  simp only [wq,seval,c218r1,wj]
  repeat (refine And.intro ?_ ?_; · first | omega | (simp only [wn] at *;omega) | (simp only [List.map_cons,List.map_nil] at *;omega) | (intro q;simp only [wq,seval,q];done))
  obtain rfl:=Option.some.inj h
  refine .ret ?_
  rw [← hR]
  simp only [wq,seval,rv218]
def c224r0:List Opn:=[
  ⟨(some 4),none,.mv (.c (.s (.d (.bool false))))⟩]
def c224r1:List Opn:=[
  ⟨(some 5),none,.mv (.t 0)⟩,
  ⟨(some 6),none,.len .str (.t 5)⟩,
  ⟨(some 7),none,.mv (.t 1)⟩,
  ⟨(some 8),none,.len .str (.t 7)⟩,
  ⟨(some 9),none,.bin .geq (.t 6) (.t 8)⟩,
  ⟨(some 10),none,.mv (.t 9)⟩,
  ⟨(some 11),some (10,true),.mv (.t 0)⟩,
  ⟨(some 12),some (10,true),.mv (.t 1)⟩,
  ⟨(some 13),some (10,true),.len .str (.t 12)⟩,
  ⟨(some 14),some (10,true),.slc .str (.t 11) none (some (.t 13)) none⟩,
  ⟨(some 15),some (10,true),.mv (.t 1)⟩,
  ⟨(some 16),some (10,true),.bin .eql (.t 14) (.t 15)⟩,
  ⟨(some 17),none,.pick (.t 10) (.t 16) (.c (.s (.d (.bool false))))⟩,
  ⟨(some 4),none,.mv (.t 17)⟩]
def c224:C:=.seq (.reg c224r0 none [0,1]) (.seq (.reg c224r1 none [4]) (.ret))
def k224:List (Nat×List Nat):=[(1,[4]),(0,[0,1])]
theorem cc224:(Tryz.f224.body).bind (cC Tryz.prog 18 k224)=some c224:=by kernel_rfl
def rv224:List RV:=[.t 4]
theorem cr224:cRVs Tryz.prog Tryz.f224.results.toList=some rv224:=by kernel_rfl
theorem f_internal_stringslite_HasPrefix_ok (s:Str) (prefixv:Str) (y_:Bool) (h:f_internal_stringslite_HasPrefix s prefixv=some y_):Fun Tryz.prog glP 224 [.b (.s (.d (.str s))),.b (.s (.d (.str prefixv)))] (.b (.s (.d (.bool y_)))):=by
  refine fun_walk [] Tryz.func224 Tryz.ntmps224 cc224 cr224 (by kernel_rfl) (by simp only [List.length_cons,List.length_nil];decide) ?_
  generalize hR:Ret _ _ _ _ _=R_
  simp only [wq,seval]
  unfold f_internal_stringslite_HasPrefix at h;unfold c224
  refine .seq ?_
  refine Rw.walk ?_
  simp only [wq,seval,c224r0,wj]
  refine .seq ?_
  refine Rw.walk ?_
  obtain ⟨g1,h⟩:=gd_iff.1 h
  simp only [wq,seval,c224r1,wj]
  repeat (refine And.intro ?_ ?_; · first | omega | exact g1 | (intro q;first | omega | (have q2:=g1 (by simpa using q);omega) | (have q2:=g1 q;omega) | (have q2:=g1 (by rw [q];rfl);omega) | (have q2:=g1 (by simpa using q);simp only [List.length_append,List.length_cons,List.length_nil] at q2 ⊢;omega)) | (simp only [wn] at *;omega) | (simp only [List.map_cons,List.map_nil] at *;omega) | (intro q;simp only [wq,seval,q];done))
  obtain rfl:=Option.some.inj h
  refine .ret ?_
  rw [← hR]
  simp only [wq,seval,rv224]
def c219r0:List Opn:=[
  ⟨(some 4),none,.mv (.c (.s (.d (.bool false))))⟩]
def c219r1:List Opn:=[
  ⟨(some 5),none,.mv (.t 0)⟩,
  ⟨(some 6),none,.mv (.t 1)⟩,
  ⟨(some 7),none,.call (.fn 224) [(.t 5),(.t 6)]⟩,
  ⟨(some 4),none,.mv (.t 7)⟩]
def c219:C:=.seq (.reg c219r0 none [0,1]) (.seq (.reg c219r1 none [4]) (.ret))
def k219:List (Nat×List Nat):=[(1,[4]),(0,[0,1])]
theorem cc219:(Tryz.f219.body).bind (cC Tryz.prog 8 k219)=some c219:=by kernel_rfl
def rv219:List RV:=[.t 4]
theorem cr219:cRVs Tryz.prog Tryz.f219.results.toList=some rv219:=by kernel_rfl
theorem f_strings_HasPrefix_ok (s:Str) (prefixv:Str) (y_:Bool) (h:f_strings_HasPrefix s prefixv=some y_):Fun Tryz.prog glP 219 [.b (.s (.d (.str s))),.b (.s (.d (.str prefixv)))] (.b (.s (.d (.bool y_)))):=by
  refine fun_walk [] Tryz.func219 Tryz.ntmps219 cc219 cr219 (by kernel_rfl) (by simp only [List.length_cons,List.length_nil];decide) ?_
  generalize hR:Ret _ _ _ _ _=R_
  simp only [wq,seval]
  unfold f_strings_HasPrefix at h;unfold c219
  refine .seq ?_
  refine Rw.walk ?_
  simp only [wq,seval,c219r0,wj]
  refine .seq ?_
  refine Rw.walk ?_
  simp only [wq,seval,c219r1,wj]
  obtain ⟨t,e1,h⟩:=Option.bind_eq_some_iff.1 h
  refine call_fun [] false ⟨trivial,trivial,trivial,trivial⟩ rfl ?_ (f_internal_stringslite_HasPrefix_ok _ _ _ e1) (fun _=>rfl) (fun i hi=>by cases hi) ?_
  · simp only [wq,seval]
  simp only [wq,seval,c219r1,wj]
  obtain rfl:=Option.some.inj h
  refine .ret ?_
  rw [← hR]
  simp only [wq,seval,rv219]
def c220r0:List Opn:=[
  ⟨(some 4),none,.mv (.c (.s (.d (.bool false))))⟩]
def c220r1:List Opn:=[
  ⟨(some 5),none,.mv (.t 0)⟩,
  ⟨(some 6),none,.mv (.t 1)⟩,
  ⟨(some 7),none,.call (.fn 196) [(.t 5),(.t 6)]⟩,
  ⟨(some 8),none,.bin .geq (.t 7) (.c (.s (.d (.int .i64 0))))⟩,
  ⟨(some 4),none,.mv (.t 8)⟩]
def c220:C:=.seq (.reg c220r0 none [0,1]) (.seq (.reg c220r1 none [4]) (.ret))
def k220:List (Nat×List Nat):=[(1,[4]),(0,[0,1])]
theorem cc220:(Tryz.f220.body).bind (cC Tryz.prog 9 k220)=some c220:=by kernel_rfl
def rv220:List RV:=[.t 4]
theorem cr220:cRVs Tryz.prog Tryz.f220.results.toList=some rv220:=by kernel_rfl
theorem f_strings_Contains_ok (s:Str) (substr:Str) (y_:Bool) (h:f_strings_Contains s substr=some y_):Fun Tryz.prog glP 220 [.b (.s (.d (.str s))),.b (.s (.d (.str substr)))] (.b (.s (.d (.bool y_)))):=by
  refine fun_walk [] Tryz.func220 Tryz.ntmps220 cc220 cr220 (by kernel_rfl) (by simp only [List.length_cons,List.length_nil];decide) ?_
  generalize hR:Ret _ _ _ _ _=R_
  simp only [wq,seval]
  unfold f_strings_Contains at h;unfold c220
  refine .seq ?_
  refine Rw.walk ?_
  simp only [wq,seval,c220r0,wj]
  refine .seq ?_
  refine Rw.walk ?_
  simp only [wq,seval,c220r1,wj]
  obtain ⟨t,e1,h⟩:=Option.bind_eq_some_iff.1 h
  refine call_fun [] false ⟨trivial,trivial,trivial,trivial⟩ rfl ?_ (f_strings_Index_ok _ _ _ e1) (fun _=>rfl) (fun i hi=>by cases hi) ?_
  · simp only [wq,seval]
  simp only [wq,seval,c220r1,wj]
  obtain rfl:=Option.some.inj h
  refine .ret ?_
  rw [← hR]
  simp only [wq,seval,rv220]
end Go.Proofs.YtedibjgdangfnaaGreatDoor.V
end
