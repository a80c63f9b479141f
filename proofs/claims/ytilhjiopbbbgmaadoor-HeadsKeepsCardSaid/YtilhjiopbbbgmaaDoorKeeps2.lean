/- Proved: HeadsKeeps of chapter 14, as a tied card: for every description and state the law's body answers true: what is handed in stays, what is answered is new memory. This is part 2 of 6 of that proof (first the abstract machine and its soundness, then the walks, the plain law, the card): no condition beyond the statement's own. -/
import Derived.Test.YtilhjiopbbbgmaaDoorKeeps1
import Derived.Shelf.Strings.Builder1
import Derived.Shelf.LaysM
import Derived.Shelf.Strconv.Itoa3
import Derived.Shelf.Spec.SlicesGrow
import Derived.Shelf.SlicesE.Clone
import Derived.Shelf.SlSortCmp.WholeK
import Derived.Test.YtilhjiopbbbgmaaDoorProg
import Derived.Lib.ItoaNum
import Derived.WalkKit
import Derived.WalkSpells
import Derived.WalkLawsBesides
import Derived.Deep.LoopGhost
import Derived.Shelf.Strings.BuilderK
import Derived.Laws.Rows

/- What a step of the abstract machine is made simple by: bound together, so that a walk names few words. -/
namespace Go.Proofs.YtilhjiopbbbgmaaDoor
open Go Go.RowKit Am

theorem kS0 : type_of% (And.intro (And.intro (And.intro (And.intro (And.intro @ExpAll.eq_1 @ExpAll.eq_2) (And.intro @Exp.eq_1 (And.intro @Exp.eq_2 @Exp.eq_3))) (And.intro (And.intro @Exp.eq_4 @Exp.eq_5) (And.intro @List.take_zero.{0} (And.intro @List.take_succ_cons.{0} @List.drop_zero.{0})))) (And.intro (And.intro (And.intro @List.drop_succ_cons.{0} @List.length_cons.{0}) (And.intro @List.length_nil.{0} (And.intro @List.length_append.{0} @Int.toNat_natCast))) (And.intro (And.intro @Nat.lt_add_one @Nat.zero_lt_succ) (And.intro @Nat.add_zero (And.intro @Nat.mul_one @Nat.one_mul))))) (And.intro (And.intro (And.intro (And.intro @Int.natCast_nonneg @Int.ofNat_lt) (And.intro @SV.okR.eq_1 (And.intro @SV.okR.eq_2 @SV.okR.eq_3))) (And.intro (And.intro @SV.okR.eq_4 @SV.okR.eq_5) (And.intro @SV.okR.eq_6 (And.intro @SV.plain.eq_1 @SV.plain.eq_2)))) (And.intro (And.intro (And.intro @SV.plain.eq_3 @SV.plain.eq_4) (And.intro @List.all_cons.{0} (And.intro @List.all_nil.{0} @Bool.and_true))) (And.intro (And.intro @want_some @want_none) (And.intro @want_ite (And.intro @want_map @List.getElem?_toArray.{0})))))) := (And.intro (And.intro (And.intro (And.intro (And.intro @ExpAll.eq_1 @ExpAll.eq_2) (And.intro @Exp.eq_1 (And.intro @Exp.eq_2 @Exp.eq_3))) (And.intro (And.intro @Exp.eq_4 @Exp.eq_5) (And.intro @List.take_zero.{0} (And.intro @List.take_succ_cons.{0} @List.drop_zero.{0})))) (And.intro (And.intro (And.intro @List.drop_succ_cons.{0} @List.length_cons.{0}) (And.intro @List.length_nil.{0} (And.intro @List.length_append.{0} @Int.toNat_natCast))) (And.intro (And.intro @Nat.lt_add_one @Nat.zero_lt_succ) (And.intro @Nat.add_zero (And.intro @Nat.mul_one @Nat.one_mul))))) (And.intro (And.intro (And.intro (And.intro @Int.natCast_nonneg @Int.ofNat_lt) (And.intro @SV.okR.eq_1 (And.intro @SV.okR.eq_2 @SV.okR.eq_3))) (And.intro (And.intro @SV.okR.eq_4 @SV.okR.eq_5) (And.intro @SV.okR.eq_6 (And.intro @SV.plain.eq_1 @SV.plain.eq_2)))) (And.intro (And.intro (And.intro @SV.plain.eq_3 @SV.plain.eq_4) (And.intro @List.all_cons.{0} (And.intro @List.all_nil.{0} @Bool.and_true))) (And.intro (And.intro @want_some @want_none) (And.intro @want_ite (And.intro @want_map @List.getElem?_toArray.{0}))))))
theorem kS1 : type_of% (And.intro (And.intro (And.intro (And.intro (And.intro @List.getElem?_cons_zero.{0} @List.getElem?_cons_succ.{0}) (And.intro @List.replicate_zero.{0} (And.intro @List.replicate_succ.{0} @List.flatten_nil.{0}))) (And.intro (And.intro @List.flatten_cons.{0} @List.append_nil.{0}) (And.intro @List.nil_append.{0} (And.intro @List.cons_append.{0} @and_true)))) (And.intro (And.intro (And.intro @true_and @Nat.zero_mul) (And.intro @Nat.mul_zero (And.intro @Nat.zero_le @maxLen.eq_1))) (And.intro (And.intro @AStep.eq_1 @awanted.eq_1) (And.intro @AOp.eq_1 (And.intro @acomp.eq_1 @acomp.eq_2))))) (And.intro (And.intro (And.intro (And.intro @acomp.eq_3 @acomp.eq_4) (And.intro @acomp.eq_5 (And.intro @acomp.eq_6 @acomp.eq_7))) (And.intro (And.intro @acomp.eq_8 @acomp.eq_9) (And.intro @acomp.eq_10 (And.intro @acomp.eq_11 @acomp.eq_12)))) (And.intro (And.intro (And.intro @acomp.eq_13 @acomp.eq_14) (And.intro @acomp.eq_15 (And.intro @acomp.eq_16 @acomp.eq_17))) (And.intro (And.intro @acomp.eq_18 @acomp.eq_19) (And.intro @acomp.eq_20 (And.intro @acomp.eq_21 @acomp.eq_22)))))) := (And.intro (And.intro (And.intro (And.intro (And.intro @List.getElem?_cons_zero.{0} @List.getElem?_cons_succ.{0}) (And.intro @List.replicate_zero.{0} (And.intro @List.replicate_succ.{0} @List.flatten_nil.{0}))) (And.intro (And.intro @List.flatten_cons.{0} @List.append_nil.{0}) (And.intro @List.nil_append.{0} (And.intro @List.cons_append.{0} @and_true)))) (And.intro (And.intro (And.intro @true_and @Nat.zero_mul) (And.intro @Nat.mul_zero (And.intro @Nat.zero_le @maxLen.eq_1))) (And.intro (And.intro @AStep.eq_1 @awanted.eq_1) (And.intro @AOp.eq_1 (And.intro @acomp.eq_1 @acomp.eq_2))))) (And.intro (And.intro (And.intro (And.intro @acomp.eq_3 @acomp.eq_4) (And.intro @acomp.eq_5 (And.intro @acomp.eq_6 @acomp.eq_7))) (And.intro (And.intro @acomp.eq_8 @acomp.eq_9) (And.intro @acomp.eq_10 (And.intro @acomp.eq_11 @acomp.eq_12)))) (And.intro (And.intro (And.intro @acomp.eq_13 @acomp.eq_14) (And.intro @acomp.eq_15 (And.intro @acomp.eq_16 @acomp.eq_17))) (And.intro (And.intro @acomp.eq_18 @acomp.eq_19) (And.intro @acomp.eq_20 (And.intro @acomp.eq_21 @acomp.eq_22))))))
theorem kS2 : type_of% (And.intro (And.intro (And.intro (And.intro (And.intro @acomp.eq_23 @acallee.eq_1) (And.intro @abuiltin.eq_1 (And.intro @abuiltin.eq_2 @abuiltin.eq_3))) (And.intro (And.intro @abuiltin.eq_4 @abuiltin.eq_5) (And.intro @abuiltin.eq_6 (And.intro @abinOp.eq_1 @abinOp.eq_2)))) (And.intro (And.intro (And.intro @abinOp.eq_3 @abinOp.eq_4) (And.intro @abinOp.eq_5 (And.intro @abinOp.eq_6 @abinOp.eq_7))) (And.intro (And.intro @abin.eq_1 @abin.eq_2) (And.intro @abin.eq_3 (And.intro @abin.eq_4 @abin.eq_5))))) (And.intro (And.intro (And.intro (And.intro @abin.eq_6 @abin.eq_7) (And.intro @abin.eq_8 (And.intro @abin.eq_9 @abin.eq_10))) (And.intro (And.intro @abin.eq_11 @abin.eq_12) (And.intro @abin.eq_13 (And.intro @abin.eq_14 @abin.eq_15)))) (And.intro (And.intro (And.intro @abin.eq_16 @abin.eq_17) (And.intro @cxD.eq_1 (And.intro @Cx.at.eq_1 @Cx.ev.eq_1))) (And.intro (And.intro @Cx.ev.eq_2 @Cx.ev.eq_3) (And.intro @Cx.ev.eq_4 (And.intro @constOf.eq_1 @constOf.eq_2)))))) := (And.intro (And.intro (And.intro (And.intro (And.intro @acomp.eq_23 @acallee.eq_1) (And.intro @abuiltin.eq_1 (And.intro @abuiltin.eq_2 @abuiltin.eq_3))) (And.intro (And.intro @abuiltin.eq_4 @abuiltin.eq_5) (And.intro @abuiltin.eq_6 (And.intro @abinOp.eq_1 @abinOp.eq_2)))) (And.intro (And.intro (And.intro @abinOp.eq_3 @abinOp.eq_4) (And.intro @abinOp.eq_5 (And.intro @abinOp.eq_6 @abinOp.eq_7))) (And.intro (And.intro @abin.eq_1 @abin.eq_2) (And.intro @abin.eq_3 (And.intro @abin.eq_4 @abin.eq_5))))) (And.intro (And.intro (And.intro (And.intro @abin.eq_6 @abin.eq_7) (And.intro @abin.eq_8 (And.intro @abin.eq_9 @abin.eq_10))) (And.intro (And.intro @abin.eq_11 @abin.eq_12) (And.intro @abin.eq_13 (And.intro @abin.eq_14 @abin.eq_15)))) (And.intro (And.intro (And.intro @abin.eq_16 @abin.eq_17) (And.intro @cxD.eq_1 (And.intro @Cx.at.eq_1 @Cx.ev.eq_1))) (And.intro (And.intro @Cx.ev.eq_2 @Cx.ev.eq_3) (And.intro @Cx.ev.eq_4 (And.intro @constOf.eq_1 @constOf.eq_2))))))
theorem kS3 : type_of% (And.intro (And.intro (And.intro (And.intro (And.intro @constOf.eq_3 @constOf.eq_4) (And.intro @cellOf.eq_1 (And.intro @cellOf.eq_2 @evOr.eq_1))) (And.intro (And.intro @evOr.eq_2 @SV.sl?.eq_1) (And.intro @SV.sl?.eq_2 (And.intro @SV.sl?.eq_3 @SV.sl?.eq_4)))) (And.intro (And.intro (And.intro @SV.cells?.eq_1 @SV.cells?.eq_2) (And.intro @SV.cells?.eq_3 (And.intro @SV.cells?.eq_4 @SV.cells?.eq_5))) (And.intro (And.intro @SV.down.eq_1 @SV.down.eq_2) (And.intro @SV.down.eq_3 (And.intro @SV.down.eq_4 @SV.down.eq_5))))) (And.intro (And.intro (And.intro (And.intro @SV.downs.eq_1 @SV.downs.eq_2) (And.intro @rawNil.eq_1 (And.intro @SV.raw.eq_1 @SV.raw.eq_2))) (And.intro (And.intro @SV.raw.eq_3 @SV.raws.eq_1) (And.intro @SV.raws.eq_2 (And.intro @loaded.eq_1 @loaded.eq_2)))) (And.intro (And.intro (And.intro @afill.eq_1 @afill.eq_2) (And.intro @Cx.place.eq_1 (And.intro @SV.on.eq_1 @SV.on.eq_2))) (And.intro (And.intro @SV.on.eq_3 @Eff.to.eq_1) (And.intro @Eff.to.eq_2 (And.intro @Eff.to.eq_3 @Eff.to.eq_4)))))) := (And.intro (And.intro (And.intro (And.intro (And.intro @constOf.eq_3 @constOf.eq_4) (And.intro @cellOf.eq_1 (And.intro @cellOf.eq_2 @evOr.eq_1))) (And.intro (And.intro @evOr.eq_2 @SV.sl?.eq_1) (And.intro @SV.sl?.eq_2 (And.intro @SV.sl?.eq_3 @SV.sl?.eq_4)))) (And.intro (And.intro (And.intro @SV.cells?.eq_1 @SV.cells?.eq_2) (And.intro @SV.cells?.eq_3 (And.intro @SV.cells?.eq_4 @SV.cells?.eq_5))) (And.intro (And.intro @SV.down.eq_1 @SV.down.eq_2) (And.intro @SV.down.eq_3 (And.intro @SV.down.eq_4 @SV.down.eq_5))))) (And.intro (And.intro (And.intro (And.intro @SV.downs.eq_1 @SV.downs.eq_2) (And.intro @rawNil.eq_1 (And.intro @SV.raw.eq_1 @SV.raw.eq_2))) (And.intro (And.intro @SV.raw.eq_3 @SV.raws.eq_1) (And.intro @SV.raws.eq_2 (And.intro @loaded.eq_1 @loaded.eq_2)))) (And.intro (And.intro (And.intro @afill.eq_1 @afill.eq_2) (And.intro @Cx.place.eq_1 (And.intro @SV.on.eq_1 @SV.on.eq_2))) (And.intro (And.intro @SV.on.eq_3 @Eff.to.eq_1) (And.intro @Eff.to.eq_2 (And.intro @Eff.to.eq_3 @Eff.to.eq_4))))))
theorem kS4 : type_of% (And.intro (And.intro (And.intro (And.intro (And.intro @Eff.to.eq_5 @Eff.to.eq_6) (And.intro @AF.put.eq_1 (And.intro @AF.put.eq_2 @AF.ret.eq_1))) (And.intro (And.intro @AF.ret.eq_2 @AF.ret.eq_3) (And.intro @AF.init.eq_1 (And.intro @initT.eq_1 @initT.eq_2)))) (And.intro (And.intro (And.intro @Nat.zero_add @upd_same) (And.intro @upd_ne (And.intro @updO_same @updO_ne))) (And.intro (And.intro @kill.eq_1 @kill.eq_2) (And.intro @Option.map_some.{0, 0} (And.intro @Option.map_none.{0, 0} @Option.bind_some.{0, 0}))))) (And.intro (And.intro (And.intro (And.intro @Option.bind_none.{0, 0} @ne_eq.{1}) (And.intro @not_false_eq_true (And.intro @not_true_eq_false @if_true.{0}))) (And.intro (And.intro @if_true.{1} @if_false.{0}) (And.intro @if_false.{1} (And.intro @ite_true.{0} @ite_true.{1})))) (And.intro (And.intro (And.intro @ite_false.{0} @ite_false.{1}) (And.intro @List.map_cons.{0, 0} (And.intro @List.map_nil.{0, 0} @Bool.false_eq_true))) (And.intro (And.intro @succ_beq @succ_pos') (And.intro @len4 (And.intro @Int.le_refl @BEq.rfl.{0})))))) := (And.intro (And.intro (And.intro (And.intro (And.intro @Eff.to.eq_5 @Eff.to.eq_6) (And.intro @AF.put.eq_1 (And.intro @AF.put.eq_2 @AF.ret.eq_1))) (And.intro (And.intro @AF.ret.eq_2 @AF.ret.eq_3) (And.intro @AF.init.eq_1 (And.intro @initT.eq_1 @initT.eq_2)))) (And.intro (And.intro (And.intro @Nat.zero_add @upd_same) (And.intro @upd_ne (And.intro @updO_same @updO_ne))) (And.intro (And.intro @kill.eq_1 @kill.eq_2) (And.intro @Option.map_some.{0, 0} (And.intro @Option.map_none.{0, 0} @Option.bind_some.{0, 0}))))) (And.intro (And.intro (And.intro (And.intro @Option.bind_none.{0, 0} @ne_eq.{1}) (And.intro @not_false_eq_true (And.intro @not_true_eq_false @if_true.{0}))) (And.intro (And.intro @if_true.{1} @if_false.{0}) (And.intro @if_false.{1} (And.intro @ite_true.{0} @ite_true.{1})))) (And.intro (And.intro (And.intro @ite_false.{0} @ite_false.{1}) (And.intro @List.map_cons.{0, 0} (And.intro @List.map_nil.{0, 0} @Bool.false_eq_true))) (And.intro (And.intro @succ_beq @succ_pos') (And.intro @len4 (And.intro @Int.le_refl @BEq.rfl.{0}))))))
theorem kS5 : type_of% (And.intro (And.intro (And.intro (And.intro (And.intro @Nat.le_refl @tab3) (And.intro @tab4 (And.intro @tab5 @tab9))) (And.intro (And.intro @tab22 @tab23) (And.intro @tab24 (And.intro @tab25 @tab26)))) (And.intro (And.intro (And.intro @tab31 @tab33) (And.intro @tab36 (And.intro @tab37 @tab39))) (And.intro (And.intro @tab40 @tab41) (And.intro @tab44 (And.intro @tab45 @tab46))))) (And.intro (And.intro (And.intro (And.intro @tab53 @tab54) (And.intro @tab61 (And.intro @tab80 @tab87))) (And.intro (And.intro @tab88 @tab97) (And.intro @tab102 (And.intro @tab106 @ti3.eq_1)))) (And.intro (And.intro (And.intro @ti4.eq_1 @ti5.eq_1) (And.intro @ti9.eq_1 (And.intro @ti22.eq_1 @ti23.eq_1))) (And.intro (And.intro @ti24.eq_1 @ti25.eq_1) (And.intro @ti26.eq_1 (And.intro @ti31.eq_1 @ti33.eq_1)))))) := (And.intro (And.intro (And.intro (And.intro (And.intro @Nat.le_refl @tab3) (And.intro @tab4 (And.intro @tab5 @tab9))) (And.intro (And.intro @tab22 @tab23) (And.intro @tab24 (And.intro @tab25 @tab26)))) (And.intro (And.intro (And.intro @tab31 @tab33) (And.intro @tab36 (And.intro @tab37 @tab39))) (And.intro (And.intro @tab40 @tab41) (And.intro @tab44 (And.intro @tab45 @tab46))))) (And.intro (And.intro (And.intro (And.intro @tab53 @tab54) (And.intro @tab61 (And.intro @tab80 @tab87))) (And.intro (And.intro @tab88 @tab97) (And.intro @tab102 (And.intro @tab106 @ti3.eq_1)))) (And.intro (And.intro (And.intro @ti4.eq_1 @ti5.eq_1) (And.intro @ti9.eq_1 (And.intro @ti22.eq_1 @ti23.eq_1))) (And.intro (And.intro @ti24.eq_1 @ti25.eq_1) (And.intro @ti26.eq_1 (And.intro @ti31.eq_1 @ti33.eq_1))))))
theorem kS6 : type_of% (And.intro (And.intro (And.intro (And.intro @ti36.eq_1 @ti37.eq_1) (And.intro @ti39.eq_1 @ti40.eq_1)) (And.intro (And.intro @ti41.eq_1 @ti44.eq_1) (And.intro @ti45.eq_1 @ti46.eq_1))) (And.intro (And.intro (And.intro @ti53.eq_1 @ti54.eq_1) (And.intro @ti61.eq_1 @ti80.eq_1)) (And.intro (And.intro @ti87.eq_1 @ti88.eq_1) (And.intro @ti97.eq_1 (And.intro @ti102.eq_1 @ti106.eq_1))))) := (And.intro (And.intro (And.intro (And.intro @ti36.eq_1 @ti37.eq_1) (And.intro @ti39.eq_1 @ti40.eq_1)) (And.intro (And.intro @ti41.eq_1 @ti44.eq_1) (And.intro @ti45.eq_1 @ti46.eq_1))) (And.intro (And.intro (And.intro @ti53.eq_1 @ti54.eq_1) (And.intro @ti61.eq_1 @ti80.eq_1)) (And.intro (And.intro @ti87.eq_1 @ti88.eq_1) (And.intro @ti97.eq_1 (And.intro @ti102.eq_1 @ti106.eq_1)))))
theorem kW0 : type_of% (And.intro (And.intro (And.intro @AWp.eq_1 @AWp.eq_2) (And.intro @AWp.eq_3 (And.intro @AWp.eq_4 @AWp.eq_5))) (And.intro (And.intro @AWp.eq_6 (And.intro @AWp.eq_7 @AWp.eq_8)) (And.intro @AWp.eq_9 (And.intro @AOps.eq_1 @AOps.eq_2)))) := (And.intro (And.intro (And.intro @AWp.eq_1 @AWp.eq_2) (And.intro @AWp.eq_3 (And.intro @AWp.eq_4 @AWp.eq_5))) (And.intro (And.intro @AWp.eq_6 (And.intro @AWp.eq_7 @AWp.eq_8)) (And.intro @AWp.eq_9 (And.intro @AOps.eq_1 @AOps.eq_2))))
theorem kS : type_of% (And.intro (And.intro kS0 (And.intro kS1 kS2)) (And.intro (And.intro kS3 kS4) (And.intro kS5 kS6))) := (And.intro (And.intro kS0 (And.intro kS1 kS2)) (And.intro (And.intro kS3 kS4) (And.intro kS5 kS6)))
theorem Q1 : type_of% @awq_seq := @awq_seq
theorem Q2 : type_of% @awq_block := @awq_block
theorem Q3 : type_of% @awq_region := @awq_region
theorem Q4 : type_of% @aops_cons := @aops_cons
theorem Q5 : type_of% @aops_nil := @aops_nil
theorem Q6 : type_of% @ite_t := @ite_t
theorem Q7 : type_of% @ite_f := @ite_f
theorem Q8 : type_of% @awp_condT := @awp_condT
theorem Q9 : type_of% @awp_condF := @awp_condF
theorem Qa : type_of% @awp_skip := @awp_skip
theorem Qb : type_of% @awp_ret := @awp_ret
theorem Qc : type_of% @awp_exit := @awp_exit

end Go.Proofs.YtilhjiopbbbgmaaDoor

/- Functions on states: ahead, numbers, Compare, Same. -/
namespace Go.Proofs.YtilhjiopbbbgmaaDoor
open Nat renaming reduceSub → R1, reduceMul → R2, reduceLeDiff → R3, reducePow → R4, reduceBEq → R5, reduceAdd → R6, reduceEqDiff → R7
open Int renaming reduceToNat → R9
open Go Go.RowKit Am
set_option linter.unusedVariables false
set_option linter.unusedSimpArgs false

structure It where
  k : Int
  n : Int
  lo : Int
  hi : Int
  deriving DecidableEq, Inhabited

def It.c (x : It) : List C := [.v (.int .i64 x.k), .v (.int .i64 x.n), .v (.int .i64 x.lo), .v (.int .i64 x.hi)]
def itsC (s : List It) : List C := s.flatMap It.c
abbrev stC (s : List It) : C := .sl s.length (itsC s)

theorem itsC_length (s : List It) : (itsC s).length = s.length * 4 := by
  induction s with
  | nil => rfl
  | cons x s ih => simp [itsC, It.c] at ih ⊢; omega

theorem itsC_append (s t : List It) : itsC (s ++ t) = itsC s ++ itsC t := by simp [itsC]

theorem ahead_ret (gl : Gl) (l s : List It) (h : (l.length + s.length) * 32 ≤ 140737488355328) :
    Ret Tryd.prog gl 42 [.c (stC l), .c (stC s)] (.tok 40 4 (l.length + s.length) (itsC (l ++ s))) := by
  refine ret_of (cx := cxD gl 0) (cxD_ok gl 0) (n := 10) (rs := [4]) Tryd.func42 (by kernel_rfl) rfl (by kernel_rfl) rfl (by simp) (by simp) ?_
  refine awp_seq fun K hK => ?_
  (refine awp_region (by kernel_rfl) ?_; simp only [kS, AWp, AOps, R1, R2, R3, R4, R5, R6, R7, reduceCtorEq, R9])
  refine hK _ ?_; clear hK K
  refine awp_seq fun K hK => ?_
  (refine awp_region (by kernel_rfl) ?_; simp only [kS, AWp, AOps, R1, R2, R3, R4, R5, R6, R7, reduceCtorEq, R9, itsC_length])
  refine ⟨by omega, by omega, hK _ ?_⟩
  simp only [AWp, ExpAll, Exp, upd_same, updO_same]
  exact .inr ⟨40, 4, rfl, by simp [itsC_length]; omega, by rw [itsC_append]⟩

theorem itsC_drop0 (s : List It) (i : Nat) (h : i ≤ s.length) : (itsC s).drop (i * 4) = itsC (s.drop i) := by
  have e : itsC s = itsC (s.take i) ++ itsC (s.drop i) := by rw [← itsC_append, List.take_append_drop]
  rw [e, List.drop_append_of_le_length (by rw [itsC_length]; simp; omega), List.drop_eq_nil_of_le (by rw [itsC_length]; simp; omega)]
  rfl

theorem itsC_drop (s : List It) (i : Nat) (h : i < s.length) : (itsC s).drop (i * 4) = .v (.int .i64 s[i].k) :: .v (.int .i64 s[i].n) :: .v (.int .i64 s[i].lo) :: .v (.int .i64 s[i].hi) :: itsC (s.drop (i + 1)) := by
  rw [itsC_drop0 s i (by omega), List.drop_eq_getElem_cons h]
  rfl

def intsC (l : List Int) : List C := l.map fun n => .v (.int .i64 n)
theorem intsC_length (l : List Int) : (intsC l).length = l.length := by simp [intsC]

def nums (s : List It) : List Int := (s.length : Int) :: s.flatMap fun x => [x.k, x.n, x.lo, x.hi]

theorem nums_length (s : List It) : (nums s).length = 1 + 4 * s.length := by
  induction s with
  | nil => rfl
  | cons x s ih => simp [nums] at ih ⊢; omega

theorem numbers_ret (gl : Gl) (s : List It) (h : s.length ≤ 1000000) :
    Ret Tryd.prog gl 51 [.c (stC s)] (.c (.sl (1 + 4 * s.length) (intsC (nums s)))) := by
  refine ret_of (cx := cxD gl 0) (cxD_ok gl 0) (n := 38) (rs := [2]) Tryd.func51 (by kernel_rfl) rfl (by kernel_rfl) rfl (by simp) (by simp) ?_
  refine awp_seq fun K hK => ?_
  (refine awp_region (by kernel_rfl) ?_; simp only [kS, AWp, AOps, R1, R2, R3, R4, R5, R6, R7, reduceCtorEq, R9])
  refine hK _ ?_; clear hK K
  refine awp_seq fun K hK => ?_
  (refine awp_region (by kernel_rfl) ?_; simp only [kS, AWp, AOps, R1, R2, R3, R4, R5, R6, R7, reduceCtorEq, R9])
  refine hK _ ?_; clear hK K
  refine awp_seq fun K1 hK1 => ?_
  refine awp_seq fun K hK => ?_
  (refine awp_region (by kernel_rfl) ?_; simp only [kS, AWp, AOps, R1, R2, R3, R4, R5, R6, R7, reduceCtorEq, R9])
  refine hK _ ?_; clear hK K
  refine awp_block (awp_loop (fun n f => ∃ i, i ≤ s.length ∧ n = s.length - i ∧ f.t 0 = .c (stC s) ∧ f.t 4 = .c (.v (.int .i64 (i : Int))) ∧
    ∃ d t, f.t 3 = .tok d t (1 + 4 * i) (intsC ((s.length : Int) :: (s.take i).flatMap fun x => [x.k, x.n, x.lo, x.hi])) ∧ f.ob d t = .live 3 1 ∧ t ≤ f.k) s.length ?_ ?_)
  · refine ⟨0, Nat.zero_le _, rfl, by simp only [kS, AWp, AOps, R1, R2, R3, R4, R5, R6, R7, reduceCtorEq, R9], by simp only [kS, AWp, AOps, R1, R2, R3, R4, R5, R6, R7, reduceCtorEq, R9]; rfl, 7, 2, by simp only [kS, AWp, AOps, R1, R2, R3, R4, R5, R6, R7, reduceCtorEq, R9]; rfl, by simp only [kS, AWp, AOps, R1, R2, R3, R4, R5, R6, R7, reduceCtorEq, R9], by simp only [kS, AWp, AOps, R1, R2, R3, R4, R5, R6, R7, reduceCtorEq, R9]⟩
  rintro n f ⟨i, hi, rfl, h0, h4, d, t, h3, hob, ht⟩
  refine awp_seq fun K2 hK2 => ?_
  refine awp_seq fun K3 hK3 => ?_
  (refine awp_region (by kernel_rfl) ?_; simp only [kS, AWp, AOps, R1, R2, R3, R4, R5, R6, R7, reduceCtorEq, R9, h0, h4])
  refine hK3 _ ?_; clear hK3 K3
  refine awp_cond (t := decide ((i : Int) < (s.length : Int))) (by simp only [kS, AWp, AOps, R1, R2, R3, R4, R5, R6, R7, reduceCtorEq, R9]) (fun hc => ?_) (fun hc => ?_)
  · have hlt : i < s.length := by simpa using hc
    refine hK2 _ ?_; clear hK2 K2
    refine awp_seq fun K3 hK3 => ?_
    refine awp_block ?_
    have t2 : t ≠ f.k + 1 + 1 := by omega
    have hl : (intsC ((s.length : Int) :: (s.take i).flatMap fun x => [x.k, x.n, x.lo, x.hi])).length = 1 + 4 * i := by
      have := nums_length (s.take i)
      simp [nums] at this
      simp [intsC_length, this]; omega
    (refine awp_region (by kernel_rfl) ?_; simp only [kS, AWp, AOps, R1, R2, R3, R4, R5, R6, R7, reduceCtorEq, R9, h0, h3, h4, hob, itsC_drop s i hlt, itsC_length, hl, t2, and_false, Nat.le_refl, hlt])
    refine ⟨by omega, hK3 _ ?_⟩
    clear hK3 K3
    (refine awp_region (by kernel_rfl) ?_; simp only [kS, AWp, AOps, R1, R2, R3, R4, R5, R6, R7, reduceCtorEq, R9, h0, h3, h4, hob])
    refine ⟨s.length - (i + 1), by omega, i + 1, by omega, rfl, ?_, 36, f.k + 1 + 1, ?_, by simp only [kS, AWp, AOps, R1, R2, R3, R4, R5, R6, R7, reduceCtorEq, R9], by omega⟩
    · rw [wrap_i64 (by omega) (by omega)]; rfl
    · have e : s.take (i + 1) = s.take i ++ [s[i]] := by rw [List.take_succ_eq_append_getElem hlt]
      simp only [SV.tok.injEq, true_and]
      refine ⟨by omega, ?_⟩
      rw [e]
      simp only [intsC, List.map_cons, List.map_append, List.flatMap_append, List.flatMap_cons, List.flatMap_nil, List.append_nil, List.cons_append, List.map_nil, List.nil_append]
  · have hge : i = s.length := by
      have : ¬ ((i : Int) < (s.length : Int)) := by simpa using hc
      omega
    subst hge
    simp only [AWp, if_true]
    refine hK1 _ ?_
    refine awp_seq fun K hK => ?_
    (refine awp_region (by kernel_rfl) ?_; simp only [kS, AWp, AOps, R1, R2, R3, R4, R5, R6, R7, reduceCtorEq, R9, h0, h3, h4, hob])
    refine hK _ ?_
    simp only [AWp, ExpAll, Exp, upd_same]
    left
    simp [nums]

end Go.Proofs.YtilhjiopbbbgmaaDoor

/- The library's contracts, laid at this seat's program: which of the program's numbers stand for which of theirs; each body is compared by the kernel. (Printed by a scratch copy of the shelf's own command, then plain.) -/
namespace Go.Proofs.YtilhjiopbbbgmaaDoor
open Go Go.Proofs Go.Shelf
def lays166_ren : Go.Shelf.Ren := ⟨fun | 166 => 66 | 240 => 83 | 276 => 91 | n => n, fun | 70 => 105 | 9 => 9 | 3 => 3 | 75 => 110 | 0 => 0 | 72 => 108 | 37 => 106 | 4 => 4 | 164 => 136 | 80 => 115 | 5 => 5 | n => n, fun | n => n⟩
theorem lays166 : Go.Proofs.Lays.n166 Tryd.prog lays166_ren where
  mixed := by kernel_rfl
  f166 := Tryd.func66.trans (congrArg some (by kernel_rfl))
  f240 := Tryd.func83.trans (congrArg some (by kernel_rfl))
  f276 := Tryd.func91.trans (congrArg some (by kernel_rfl))
  t0 := Tryd.underlying0
  a0 := Tryd.isAgg0
  z0 := Tryd.sizeOf0
  v0 := Tryd.zeroValue0
  t3 := Tryd.underlying3
  a3 := Tryd.isAgg3
  z3 := Tryd.sizeOf3
  v3 := Tryd.zeroValue3
  t4 := Tryd.underlying4
  a4 := Tryd.isAgg4
  z4 := Tryd.sizeOf4
  v4 := Tryd.zeroValue4
  t9 := Tryd.underlying9
  a9 := Tryd.isAgg9
  z9 := Tryd.sizeOf9
  v9 := Tryd.zeroValue9
  t20 := Tryd.underlying20
  a20 := Tryd.isAgg20
  z20 := Tryd.sizeOf20
  v20 := Tryd.zeroValue20
  t37 := Tryd.underlying106
  a37 := Tryd.isAgg106
  z37 := Tryd.sizeOf106
  v37 := Tryd.zeroValue106
  t70 := Tryd.underlying105
  a70 := Tryd.isAgg105
  z70 := Tryd.sizeOf105
  v70 := Tryd.zeroValue105
  t72 := Tryd.underlying108
  a72 := Tryd.isAgg108
  z72 := Tryd.sizeOf108
  v72 := Tryd.zeroValue108
  t75 := Tryd.underlying110
  a75 := Tryd.isAgg110
  z75 := Tryd.sizeOf110
  v75 := Tryd.zeroValue110
  t164 := Tryd.underlying136
  a164 := Tryd.isAgg136
  z164 := Tryd.sizeOf136
  v164 := Tryd.zeroValue136
def lays167_ren : Go.Shelf.Ren := ⟨fun | 167 => 68 | 240 => 83 | 276 => 91 | n => n, fun | 70 => 105 | 5 => 5 | 75 => 110 | 0 => 0 | 72 => 108 | 37 => 106 | 4 => 4 | 164 => 136 | 80 => 115 | 9 => 9 | n => n, fun | n => n⟩
theorem lays167 : Go.Proofs.Lays.n167 Tryd.prog lays167_ren where
  mixed := by kernel_rfl
  f167 := Tryd.func68.trans (congrArg some (by kernel_rfl))
  f240 := Tryd.func83.trans (congrArg some (by kernel_rfl))
  f276 := Tryd.func91.trans (congrArg some (by kernel_rfl))
  t0 := Tryd.underlying0
  a0 := Tryd.isAgg0
  z0 := Tryd.sizeOf0
  v0 := Tryd.zeroValue0
  t4 := Tryd.underlying4
  a4 := Tryd.isAgg4
  z4 := Tryd.sizeOf4
  v4 := Tryd.zeroValue4
  t5 := Tryd.underlying5
  a5 := Tryd.isAgg5
  z5 := Tryd.sizeOf5
  v5 := Tryd.zeroValue5
  t9 := Tryd.underlying9
  a9 := Tryd.isAgg9
  z9 := Tryd.sizeOf9
  v9 := Tryd.zeroValue9
  t20 := Tryd.underlying20
  a20 := Tryd.isAgg20
  z20 := Tryd.sizeOf20
  v20 := Tryd.zeroValue20
  t37 := Tryd.underlying106
  a37 := Tryd.isAgg106
  z37 := Tryd.sizeOf106
  v37 := Tryd.zeroValue106
  t70 := Tryd.underlying105
  a70 := Tryd.isAgg105
  z70 := Tryd.sizeOf105
  v70 := Tryd.zeroValue105
  t72 := Tryd.underlying108
  a72 := Tryd.isAgg108
  z72 := Tryd.sizeOf108
  v72 := Tryd.zeroValue108
  t75 := Tryd.underlying110
  a75 := Tryd.isAgg110
  z75 := Tryd.sizeOf110
  v75 := Tryd.zeroValue110
  t164 := Tryd.underlying136
  a164 := Tryd.isAgg136
  z164 := Tryd.sizeOf136
  v164 := Tryd.zeroValue136
def lays169_ren : Go.Shelf.Ren := ⟨fun | 169 => 69 | n => n, fun | 70 => 105 | 9 => 9 | 0 => 0 | 72 => 108 | 37 => 106 | 127 => 129 | 3 => 3 | 5 => 5 | n => n, fun | n => n⟩
theorem lays169 : Go.Proofs.Lays.n169 Tryd.prog lays169_ren where
  mixed := by kernel_rfl
  f169 := Tryd.func69.trans (congrArg some (by kernel_rfl))
  t0 := Tryd.underlying0
  a0 := Tryd.isAgg0
  z0 := Tryd.sizeOf0
  v0 := Tryd.zeroValue0
  t3 := Tryd.underlying3
  a3 := Tryd.isAgg3
  z3 := Tryd.sizeOf3
  v3 := Tryd.zeroValue3
  t9 := Tryd.underlying9
  a9 := Tryd.isAgg9
  z9 := Tryd.sizeOf9
  v9 := Tryd.zeroValue9
  t37 := Tryd.underlying106
  a37 := Tryd.isAgg106
  z37 := Tryd.sizeOf106
  v37 := Tryd.zeroValue106
  t70 := Tryd.underlying105
  a70 := Tryd.isAgg105
  z70 := Tryd.sizeOf105
  v70 := Tryd.zeroValue105
  t72 := Tryd.underlying108
  a72 := Tryd.isAgg108
  z72 := Tryd.sizeOf108
  v72 := Tryd.zeroValue108
  t127 := Tryd.underlying129
  a127 := Tryd.isAgg129
  z127 := Tryd.sizeOf129
  v127 := Tryd.zeroValue129
def laysM171_ren : Go.Shelf.Ren := ⟨fun | 171 => 67 | 243 => 84 | 246 => 92 | 283 => 95 | 284 => 96 | 285 => 97 | 286 => 98 | 129 => 81 | 317 => 99 | 318 => 100 | 319 => 101 | 320 => 102 | 337 => 103 | 338 => 104 | n => n, fun | 3 => 3 | 9 => 9 | 2 => 2 | 4 => 4 | 171 => 143 | 0 => 0 | 53 => 44 | 37 => 106 | 5 => 5 | 173 => 145 | 212 => 149 | 51 => 126 | 20 => 20 | 213 => 150 | 46 => 97 | 232 => 151 | 233 => 152 | n => n, fun | 17 => 2 | 18 => 3 | 19 => 4 | n => n⟩
theorem laysM171 : Go.Proofs.LaysM.n171 Tryd.prog laysM171_ren where
  mixed := by kernel_rfl
  f129 := Tryd.func81.trans (congrArg some (by kernel_rfl))
  f171 := Tryd.func67.trans (congrArg some (by kernel_rfl))
  f243 := Tryd.func84.trans (congrArg some (by kernel_rfl))
  f246 := Tryd.func92.trans (congrArg some (by kernel_rfl))
  f283 := Tryd.func95.trans (congrArg some (by kernel_rfl))
  f284 := Tryd.func96.trans (congrArg some (by kernel_rfl))
  f285 := Tryd.func97.trans (congrArg some (by kernel_rfl))
  f286 := Tryd.func98.trans (congrArg some (by kernel_rfl))
  f317 := Tryd.func99.trans (congrArg some (by kernel_rfl))
  f318 := Tryd.func100.trans (congrArg some (by kernel_rfl))
  f319 := Tryd.func101.trans (congrArg some (by kernel_rfl))
  f320 := Tryd.func102.trans (congrArg some (by kernel_rfl))
  f337 := Tryd.func103.trans (congrArg some (by kernel_rfl))
  f338 := Tryd.func104.trans (congrArg some (by kernel_rfl))
  t0 := Tryd.underlying0
  a0 := Tryd.isAgg0
  z0 := Tryd.sizeOf0
  v0 := Tryd.zeroValue0
  t2 := Tryd.underlying2
  a2 := Tryd.isAgg2
  z2 := Tryd.sizeOf2
  v2 := Tryd.zeroValue2
  t3 := Tryd.underlying3
  a3 := Tryd.isAgg3
  z3 := Tryd.sizeOf3
  v3 := Tryd.zeroValue3
  t4 := Tryd.underlying4
  a4 := Tryd.isAgg4
  z4 := Tryd.sizeOf4
  v4 := Tryd.zeroValue4
  t5 := Tryd.underlying5
  a5 := Tryd.isAgg5
  z5 := Tryd.sizeOf5
  v5 := Tryd.zeroValue5
  t9 := Tryd.underlying9
  a9 := Tryd.isAgg9
  z9 := Tryd.sizeOf9
  v9 := Tryd.zeroValue9
  t20 := Tryd.underlying20
  a20 := Tryd.isAgg20
  z20 := Tryd.sizeOf20
  v20 := Tryd.zeroValue20
  t37 := Tryd.underlying106
  a37 := Tryd.isAgg106
  z37 := Tryd.sizeOf106
  v37 := Tryd.zeroValue106
  t46 := Tryd.underlying97
  a46 := Tryd.isAgg97
  z46 := Tryd.sizeOf97
  v46 := Tryd.zeroValue97
  t51 := Tryd.underlying126
  a51 := Tryd.isAgg126
  z51 := Tryd.sizeOf126
  v51 := Tryd.zeroValue126
  t53 := Tryd.underlying44
  a53 := Tryd.isAgg44
  z53 := Tryd.sizeOf44
  v53 := Tryd.zeroValue44
  t171 := Tryd.underlying143
  a171 := Tryd.isAgg143
  z171 := Tryd.sizeOf143
  v171 := Tryd.zeroValue143
  t173 := Tryd.underlying145
  a173 := Tryd.isAgg145
  z173 := Tryd.sizeOf145
  v173 := Tryd.zeroValue145
  t212 := Tryd.underlying149
  a212 := Tryd.isAgg149
  z212 := Tryd.sizeOf149
  v212 := Tryd.zeroValue149
  t213 := Tryd.underlying150
  a213 := Tryd.isAgg150
  z213 := Tryd.sizeOf150
  t232 := Tryd.underlying151
  a232 := Tryd.isAgg151
  z232 := Tryd.sizeOf151
  v232 := Tryd.zeroValue151
  t233 := Tryd.underlying152
  a233 := Tryd.isAgg152
  z233 := Tryd.sizeOf152
  v233 := Tryd.zeroValue152
  g17 := by kernel_rfl
  g18 := by kernel_rfl
  g19 := by kernel_rfl
  i0 := by kernel_rfl
  i2 := by kernel_rfl
  i3 := by kernel_rfl
  i4 := by kernel_rfl
  i5 := by kernel_rfl
  i9 := by kernel_rfl
  i20 := by kernel_rfl
  i37 := by kernel_rfl
  i46 := by kernel_rfl
  i51 := by kernel_rfl
  i53 := by kernel_rfl
  i171 := by kernel_rfl
  i173 := by kernel_rfl
  i212 := by kernel_rfl
  i232 := by kernel_rfl
  i233 := by kernel_rfl
  m17 := by kernel_rfl
  m18 := by kernel_rfl
  m19 := by kernel_rfl
def grow70_ren : Go.Shelf.Ren := ⟨fun | 4 => 70 | n => n, fun | 22 => 26 | 25 => 40 | 3 => 3 | 4 => 4 | 9 => 9 | 20 => 20 | 0 => 0 | n => n, fun | n => n⟩
theorem grow70 : Go.Proofs.Lays8.n4 Tryd.prog grow70_ren where
  mixed := by kernel_rfl
  f4 := ⟨ "slices.Grow[scantling/api.State,scantling/api.Item]", by decide, Tryd.func70.trans (congrArg some (by kernel_rfl))⟩
  t0 := Tryd.underlying0
  a0 := Tryd.isAgg0
  z0 := Tryd.sizeOf0
  v0 := Tryd.zeroValue0
  t3 := Tryd.underlying3
  a3 := Tryd.isAgg3
  z3 := Tryd.sizeOf3
  v3 := Tryd.zeroValue3
  t4 := Tryd.underlying4
  a4 := Tryd.isAgg4
  z4 := Tryd.sizeOf4
  v4 := Tryd.zeroValue4
  t9 := Tryd.underlying9
  a9 := Tryd.isAgg9
  z9 := Tryd.sizeOf9
  v9 := Tryd.zeroValue9
  t20 := Tryd.underlying20
  a20 := Tryd.isAgg20
  z20 := Tryd.sizeOf20
  v20 := Tryd.zeroValue20
  t22 := Tryd.underlying26
  a22 := Tryd.isAgg26
  z22 := Tryd.sizeOf26
  v22 := Tryd.zeroValue26
def clone57_ren : Go.Shelf.Ren := ⟨fun | 41 => 57 | n => n, fun | 22 => 26 | 23 => 40 | 4 => 4 | n => n, fun | n => n⟩
theorem clone57 : Go.Proofs.SlLaysE0.n41 Tryd.prog clone57_ren where
  mixed := by kernel_rfl
  f41 := ⟨ "slices.Clone[scantling/api.State,scantling/api.Item]", by decide, Tryd.func57.trans (congrArg some (by kernel_rfl))⟩
  t4 := Tryd.underlying4
  a4 := Tryd.isAgg4
  z4 := Tryd.sizeOf4
  v4 := Tryd.zeroValue4
  t22 := Tryd.underlying26
  a22 := Tryd.isAgg26
  z22 := Tryd.sizeOf26
  v22 := Tryd.zeroValue26
def sort36_ren : Go.Shelf.Ren := ⟨fun | 6 => 36 | 15 => 59 | 14 => 58 | 28 => 80 | 29 => 81 | 20 => 72 | 21 => 73 | 22 => 74 | 23 => 75 | 24 => 76 | 25 => 77 | 26 => 78 | 27 => 79 | 46 => 86 | 47 => 87 | 48 => 88 | 49 => 89 | 50 => 90 | 57 => 94 | n => n, fun | 22 => 31 | 24 => 37 | 25 => 69 | 3 => 3 | 39 => 97 | 0 => 0 | 53 => 126 | 55 => 44 | 4 => 4 | 46 => 120 | 45 => 119 | 50 => 58 | 5 => 5 | 9 => 9 | 66 => 130 | 70 => 134 | 76 => 140 | 77 => 141 | n => n, fun | n => n⟩
theorem sort36 : Go.Proofs.SlLaysF0.n6 Tryd.prog sort36_ren where
  mixed := by kernel_rfl
  f6 := ⟨ "slices.SortFunc[[]scantling/api.Branch,scantling/api.Branch]", by decide, Tryd.func36.trans (congrArg some (by kernel_rfl))⟩
  f14 := ⟨ "slices.pdqsortCmpFunc[scantling/api.Branch]", by decide, Tryd.func58.trans (congrArg some (by kernel_rfl))⟩
  f15 := Tryd.func59.trans (congrArg some (by kernel_rfl))
  f20 := ⟨ "slices.insertionSortCmpFunc[scantling/api.Branch]", by decide, Tryd.func72.trans (congrArg some (by kernel_rfl))⟩
  f21 := ⟨ "slices.heapSortCmpFunc[scantling/api.Branch]", by decide, Tryd.func73.trans (congrArg some (by kernel_rfl))⟩
  f22 := ⟨ "slices.breakPatternsCmpFunc[scantling/api.Branch]", by decide, Tryd.func74.trans (congrArg some (by kernel_rfl))⟩
  f23 := ⟨ "slices.choosePivotCmpFunc[scantling/api.Branch]", by decide, Tryd.func75.trans (congrArg some (by kernel_rfl))⟩
  f24 := ⟨ "slices.reverseRangeCmpFunc[scantling/api.Branch]", by decide, Tryd.func76.trans (congrArg some (by kernel_rfl))⟩
  f25 := ⟨ "slices.partialInsertionSortCmpFunc[scantling/api.Branch]", by decide, Tryd.func77.trans (congrArg some (by kernel_rfl))⟩
  f26 := ⟨ "slices.partitionEqualCmpFunc[scantling/api.Branch]", by decide, Tryd.func78.trans (congrArg some (by kernel_rfl))⟩
  f27 := ⟨ "slices.partitionCmpFunc[scantling/api.Branch]", by decide, Tryd.func79.trans (congrArg some (by kernel_rfl))⟩
  f28 := Tryd.func80.trans (congrArg some (by kernel_rfl))
  f29 := Tryd.func81.trans (congrArg some (by kernel_rfl))
  f46 := ⟨ "slices.siftDownCmpFunc[scantling/api.Branch]", by decide, Tryd.func86.trans (congrArg some (by kernel_rfl))⟩
  f47 := Tryd.func87.trans (congrArg some (by kernel_rfl))
  f48 := Tryd.func88.trans (congrArg some (by kernel_rfl))
  f49 := ⟨ "slices.medianAdjacentCmpFunc[scantling/api.Branch]", by decide, Tryd.func89.trans (congrArg some (by kernel_rfl))⟩
  f50 := ⟨ "slices.medianCmpFunc[scantling/api.Branch]", by decide, Tryd.func90.trans (congrArg some (by kernel_rfl))⟩
  f57 := ⟨ "slices.order2CmpFunc[scantling/api.Branch]", by decide, Tryd.func94.trans (congrArg some (by kernel_rfl))⟩
  t0 := Tryd.underlying0
  a0 := Tryd.isAgg0
  z0 := Tryd.sizeOf0
  v0 := Tryd.zeroValue0
  t3 := Tryd.underlying3
  a3 := Tryd.isAgg3
  z3 := Tryd.sizeOf3
  v3 := Tryd.zeroValue3
  t4 := Tryd.underlying4
  a4 := Tryd.isAgg4
  z4 := Tryd.sizeOf4
  v4 := Tryd.zeroValue4
  t5 := Tryd.underlying5
  a5 := Tryd.isAgg5
  z5 := Tryd.sizeOf5
  v5 := Tryd.zeroValue5
  t9 := Tryd.underlying9
  a9 := Tryd.isAgg9
  z9 := Tryd.sizeOf9
  v9 := Tryd.zeroValue9
  t22 := Tryd.underlying31
  a22 := Tryd.isAgg31
  z22 := Tryd.sizeOf31
  v22 := Tryd.zeroValue31
  t25 := Tryd.underlying69
  a25 := Tryd.isAgg69
  z25 := Tryd.sizeOf69
  v25 := Tryd.zeroValue69
  t39 := Tryd.underlying97
  a39 := Tryd.isAgg97
  z39 := Tryd.sizeOf97
  v39 := Tryd.zeroValue97
  t45 := Tryd.underlying119
  a45 := Tryd.isAgg119
  z45 := Tryd.sizeOf119
  v45 := Tryd.zeroValue119
  t46 := Tryd.underlying120
  a46 := Tryd.isAgg120
  z46 := Tryd.sizeOf120
  v46 := Tryd.zeroValue120
  t50 := Tryd.underlying58
  a50 := Tryd.isAgg58
  z50 := Tryd.sizeOf58
  v50 := Tryd.zeroValue58
  t53 := Tryd.underlying126
  a53 := Tryd.isAgg126
  z53 := Tryd.sizeOf126
  v53 := Tryd.zeroValue126
  t55 := Tryd.underlying44
  a55 := Tryd.isAgg44
  z55 := Tryd.sizeOf44
  v55 := Tryd.zeroValue44
  t66 := Tryd.underlying130
  a66 := Tryd.isAgg130
  z66 := Tryd.sizeOf130
  v66 := Tryd.zeroValue130
  t70 := Tryd.underlying134
  a70 := Tryd.isAgg134
  z70 := Tryd.sizeOf134
  v70 := Tryd.zeroValue134
  t76 := Tryd.underlying140
  a76 := Tryd.isAgg140
  z76 := Tryd.sizeOf140
  v76 := Tryd.zeroValue140
  t77 := Tryd.underlying141
  a77 := Tryd.isAgg141
  z77 := Tryd.sizeOf141
  v77 := Tryd.zeroValue141
end Go.Proofs.YtilhjiopbbbgmaaDoor

/- Grow and Clone of the library at items, as contracts of the abstract machine. -/
namespace Go.Proofs.YtilhjiopbbbgmaaDoor
open Go Go.RowKit Am Go.Shelf
set_option linter.unusedVariables false
set_option linter.unusedSimpArgs false

theorem info40 : (Tryd.prog.info? 40).map (fun i => (i.zero, i.size, i.bytes)) = some (some (.agg #[.int .i64 0, .int .i64 0, .int .i64 0, .int .i64 0]), 4, 32) := by kernel_rfl

theorem callF {f : FuncId} {fn : Func} {c : Code} (hf : Tryd.prog.funcs[f]? = some fn) (hname : (fn.name == "runtime.NumGoroutine") = false) (hb : fn.body = some c) (vs : Array Value) (w : World) :
    (callFunc f vs).run Tryd.prog w = .ok (.enter f vs) w := by
  have h1 : fn.name ≠ "runtime.NumGoroutine" := by simpa using hname
  simp [callFunc, hf, h1, hb, mark]

theorem grow70_ret (gl : Gl) (n : Nat) (hn : n * 32 ≤ 140737488355328) : Ret Tryd.prog gl 70 [.nil, .c (.v (.int .i64 (n : Int)))] (.tok 40 4 0 []) := by
  refine ⟨callF Tryd.func70 (by kernel_rfl) rfl, fun w G vs hG hgl hrep => ?_⟩
  obtain ⟨i0, hi0, hz0, hs0, hb0⟩ := info_parts info40
  have hvs : vs = #[.slice none 0 0, .int .i64 n] := by
    obtain ⟨l⟩ := vs
    match l, hrep with
    | [a, b], h =>
      obtain ⟨h1, h2, _⟩ := h
      simp only [RepT] at h1
      obtain ⟨h2, _⟩ := h2
      rw [h1, h2]
  subst hvs
  by_cases h0 : n = 0
  · subst h0
    refine (Any8.slices_Grow_room grow70 none 0 0 0 w (by omega) (by omega) (by omega) (by omega)).mono ?_
    rintro e w' ⟨rfl, rfl⟩
    exact ⟨_, rfl, Below.refl _ _, fun _ => Nat.le_refl _, G, fun _ _ h => h, fun _ _ h => .inl h, hG, [], ⟨rfl, .inl ⟨rfl, rfl⟩⟩, trivial, fun b hb => by simp [Value.ownBlock] at hb⟩
  · have hcon := Any8.slices_Grow_grow grow70 i0 _ hi0 hz0 (by omega) none 0 0 n [] w (by omega) (by omega) (by rw [hb0]; omega) (by omega) (by simp) (fun _ => rfl) (fun a h => by cases h)
    refine hcon.mono ?_
    rintro e w' ⟨rfl, rfl⟩
    have et : grow70_ren.t 25 = 40 := rfl
    rw [et]
    have hge := grownCap_ge w (0 + n) 0 40
    have hle := grownCap_le_maxLen w (0 + n) 0 40 (by simp only [maxLen]; omega)
    refine ⟨_, rfl, ?_, fun _ => Nat.le_succ _, G, fun _ _ h => h, fun _ _ h => .inl h, fun b o h => by have := hG b o h; simp; omega, [], ⟨rfl, .inr ⟨w.heap.size, _, _, rfl, Nat.le_refl _, heap_alloc_new w.drew _, by omega, hle, ?_, ?_⟩⟩, trivial, ?_⟩
    · exact (Below.trans (Below.refl _ w) ⟨rfl, rfl, rfl, Nat.le_refl _, fun _ _ => rfl⟩ : Below w.heap.size w w.drew).alloc (Nat.le_refl _) _
    · simp only [Array.size_append, List.size_toArray, List.length_nil, size_zeroCells, hz0]
      simp only [Nat.zero_add] at hge hle
      simp [Value.cells]
      omega
    · simp
    · intro b hb o _ hg
      have := hG b o hg
      simp [Value.ownBlock] at hb
      omega

/-- Clone: the same items, in memory of the call's own (or none). -/
theorem clone57_ret (gl : Gl) (hdr : ¬ gl.dr) (s : List It) (hs : s.length * 32 ≤ 140737488355328) : Ret Tryd.prog gl 57 [.c (stC s)] (.c (stC s)) := by
  refine ⟨callF Tryd.func57 (by kernel_rfl) rfl, fun w G vs hG hgl hrep => ?_⟩
  obtain ⟨i0, hi0, hz0, hs0, hb0⟩ := info_parts info40
  obtain ⟨v, hvs, hv⟩ : ∃ v, vs = #[v] ∧ RepC w G (stC s) v := by
    obtain ⟨l⟩ := vs
    match l, hrep with
    | [a], h => exact ⟨a, rfl, h.1⟩
  subst hvs
  simp only [RepC] at hv
  obtain ⟨a, cap, rfl, hcap, hv⟩ := hv
  cases a with
  | none =>
    refine (AnyE.slices_Clone_nil clone57 s.length cap w).mono ?_
    rintro e w' ⟨rfl, rfl⟩
    have h0 : s = [] := by
      rcases hv with h | ⟨b, o, h, _⟩
      · cases s with
        | nil => rfl
        | cons x s => simp [itsC, It.c] at h
      · cases h
    subst h0
    exact ⟨_, rfl, Below.refl _ _, fun h => absurd h hdr, G, fun _ _ h => h, fun _ _ h => .inl h, hG, by simp only [RepR, RepC]; exact ⟨none, 0, rfl, Nat.le_refl _, .inl rfl⟩⟩
  | some ad =>
    by_cases h0 : s = []
    · subst h0
      have happ : ∀ (b' : Nat) (w' : World), (Builtin.append_ #[26, 26] 26 #[.slice (some ⟨b', 0, none⟩) 0 0, .slice (some ad) 0 cap]).run Tryd.prog w' = .ok (.slice (some ⟨b', 0, none⟩) 0 0) w' := fun b' w' => by
        have hi := hi0
        simp [Builtin.append_, run_underlying Tryd.underlying26, sizeOf, typeInfo, hi, Builtin.lenOf, run_firstCells_zero, storeCells]
      have q := fun (w : World) (c : Nat) => Lib.run_eql_slice_nil (P := Tryd.prog) w 26 40 (some ad) 0 c 0 0 Tryd.underlying26
      clear hv hrep
      go_enter Tryd.func57, Tryd.ntmps57
      go_wp2
      go_ret
      exact ⟨_, rfl, (Below.refl _ w).alloc (Nat.le_refl _) _, fun h => absurd h hdr, G, fun _ _ h => h, fun _ _ h => .inl h, fun b o h => by have := hG b o h; simp; omega, by
        simp only [RepR, RepC]
        exact ⟨some ⟨w.heap.size, 0, none⟩, 0, rfl, Nat.le_refl _, .inl rfl⟩⟩
    · obtain ⟨b, o, rfl, hm⟩ : ∃ b o, ad = ⟨b, o, none⟩ ∧ RepM w G (itsC s) b o := by
        rcases hv with h | ⟨b, o, h, hm⟩
        · cases s with
          | nil => exact absurd rfl h0
          | cons x s => simp [itsC, It.c] at h
        · cases h; exact ⟨b, o, rfl, hm⟩
      obtain ⟨ys, hl, hy⟩ := hm.vals
      have hlen : ys.length = s.length * 4 := by rw [← hl.length, itsC_length]
      refine (AnyE.slices_Clone clone57 i0 _ 4 32 hi0 hz0 hs0 hb0 rfl (by decide) Tryd.sizeOf40 b o s.length cap ys w hlen (by simp only [maxLen]; omega) (by omega) hy hl.one).mono ?_
      rintro e w' ⟨v', rfl, hown, hne, hbel⟩
      have st : Settled w w' G (fun b o => G b o ∨ (v'.ownBlock = some b ∧ o < s.length * 4)) := ⟨fun _ _ h => .inl h, fun b o h => hbel.cell (p := ⟨b, o, none⟩) (hG b o h), fun b h => frz_same (hbel.block b (hG b 0 (h 0)))⟩
      refine ⟨_, rfl, hbel, fun h => absurd h hdr, fun b o => G b o ∨ (v'.ownBlock = some b ∧ o < s.length * 4), fun _ _ h => .inl h, fun b o h => h.imp id (fun h => (hown.lt b h.1).1), fun b o h => ?_, ?_⟩
      · rcases h with h | h
        · exact Nat.lt_of_lt_of_le (hG b o h) hbel.size
        · exact (hown.lt b h.1).2
      · exact RepC_own hown (RepL.mono st _ _ hl) (fun b hb j hj => .inr ⟨hb, hj⟩)

end Go.Proofs.YtilhjiopbbbgmaaDoor

/- A state's key, as bytes: two states that are not the same have two keys. -/
namespace Go.Proofs.YtilhjiopbbbgmaaDoor
open Go Go.RowKit Am
set_option linter.unusedVariables false
set_option linter.unusedSimpArgs false

theorem digit_ne (r : Nat) (h : r < 10) : UInt8.ofNat (48 + r) ≠ 32 ∧ UInt8.ofNat (48 + r) ≠ 45 := by
  have : r = 0 ∨ r = 1 ∨ r = 2 ∨ r = 3 ∨ r = 4 ∨ r = 5 ∨ r = 6 ∨ r = 7 ∨ r = 8 ∨ r = 9 := by omega
  rcases this with rfl | rfl | rfl | rfl | rfl | rfl | rfl | rfl | rfl | rfl <;> decide
theorem digit_inj (r q : Nat) (h : r < 10) (hq : q < 10) (e : UInt8.ofNat (48 + r) = UInt8.ofNat (48 + q)) : r = q := by
  have e' := congrArg UInt8.toNat e
  simp only [UInt8.toNat_ofNat'] at e'
  omega

theorem dec_ne (u : Nat) : ∀ b ∈ Lib.decDigits u, b ≠ 32 ∧ b ≠ 45 := by
  induction u using Nat.strongRecOn with
  | _ u ih =>
    intro b hb
    rw [Lib.decDigits] at hb
    split at hb
    · simp only [List.mem_singleton] at hb
      subst hb
      exact digit_ne u (by omega)
    · rcases List.mem_append.1 hb with hb | hb
      · exact ih (u / 10) (by omega) b hb
      · simp only [List.mem_singleton] at hb
        subst hb
        exact digit_ne _ (by omega)
theorem dec_len (u : Nat) : 1 ≤ (Lib.decDigits u).length := by
  rw [Lib.decDigits]
  split
  · simp
  · simp
theorem dec_inj (u : Nat) : ∀ v, Lib.decDigits u = Lib.decDigits v → u = v := by
  induction u using Nat.strongRecOn with
  | _ u ih =>
    intro v h
    have l1 := dec_len (u / 10)
    have l2 := dec_len (v / 10)
    rw [Lib.decDigits.eq_def u, Lib.decDigits.eq_def v] at h
    split at h <;> split at h
    · simp only [List.cons.injEq, and_true] at h
      exact digit_inj u v (by omega) (by omega) h
    · have := congrArg List.length h
      simp only [List.length_append, List.length_cons, List.length_nil] at this
      omega
    · have := congrArg List.length h
      simp only [List.length_append, List.length_cons, List.length_nil] at this
      omega
    · have h3 := List.append_inj' h rfl
      have h4 := ih (u / 10) (by omega) (v / 10) h3.1
      have h5 := h3.2
      simp only [List.cons.injEq, and_true] at h5
      have h6 := digit_inj _ _ (by omega) (by omega) h5
      omega

theorem itoa_ne (n : Int) : ∀ b ∈ Lib.itoa n, b ≠ 32 := by
  intro b hb
  simp only [Lib.itoa] at hb
  split at hb
  · rcases List.mem_cons.1 hb with rfl | hb
    · decide
    · exact (dec_ne _ b hb).1
  · exact (dec_ne _ b hb).1
theorem itoa_inj (n m : Int) (h : Lib.itoa n = Lib.itoa m) : n = m := by
  simp only [Lib.itoa] at h
  split at h <;> split at h
  · simp only [List.cons.injEq, true_and] at h
    have := dec_inj _ _ h
    omega
  · have h3 := dec_ne m.toNat 45 (by rw [← h]; simp)
    exact absurd rfl h3.2
  · have h3 := dec_ne n.toNat 45 (by rw [h]; simp)
    exact absurd rfl h3.2
  · have := dec_inj _ _ h
    omega

/-- Numbers, each with a space behind it. -/
def keyL : List Int → List UInt8
  | [] => []
  | n :: l => Lib.itoa n ++ 32 :: keyL l

theorem split_space : ∀ (a b c d : List UInt8), (∀ x ∈ a, x ≠ 32) → (∀ x ∈ b, x ≠ 32) → a ++ 32 :: c = b ++ 32 :: d → a = b ∧ c = d
  | [], [], c, d, _, _, h => by simpa using h
  | [], y :: b, c, d, _, hb, h => by
    simp only [List.nil_append, List.cons_append, List.cons.injEq] at h
    exact absurd h.1.symm (hb y (by simp))
  | x :: a, [], c, d, ha, _, h => by
    simp only [List.nil_append, List.cons_append, List.cons.injEq] at h
    exact absurd h.1 (ha x (by simp))
  | x :: a, y :: b, c, d, ha, hb, h => by
    simp only [List.cons_append, List.cons.injEq] at h
    have := split_space a b c d (fun z hz => ha z (by simp [hz])) (fun z hz => hb z (by simp [hz])) h.2
    exact ⟨by rw [h.1, this.1], this.2⟩

theorem keyL_inj : ∀ (a b : List Int), keyL a = keyL b → a = b
  | [], [], _ => rfl
  | [], n :: l, h => by
    have := congrArg List.length h
    simp [keyL] at this
  | n :: l, [], h => by
    have := congrArg List.length h
    simp [keyL] at this
  | n :: l, m :: k, h => by
    simp only [keyL] at h
    obtain ⟨h1, h2⟩ := split_space _ _ _ _ (itoa_ne n) (itoa_ne m) h
    rw [itoa_inj n m h1, keyL_inj l k h2]

theorem keyL_append : ∀ (a b : List Int), keyL (a ++ b) = keyL a ++ keyL b
  | [], b => rfl
  | n :: a, b => by simp only [List.cons_append, keyL, keyL_append a b, List.append_assoc]

def flS (s : List It) : List Int := s.flatMap fun x => [x.k, x.n, x.lo, x.hi]
theorem flS_inj : ∀ a b : List It, flS a = flS b → a = b
  | [], [], _ => rfl
  | [], _ :: _, h => by simp [flS] at h
  | _ :: _, [], h => by simp [flS] at h
  | x :: a, y :: b, h => by
    simp only [flS, List.flatMap_cons, List.cons_append, List.nil_append, List.cons.injEq] at h
    obtain ⟨h1, h2, h3, h4, h5⟩ := h
    rw [flS_inj a b h5]
    cases x; cases y
    simp_all

/-- A state's key. -/
def keyS (s : List It) : List UInt8 := keyL (flS s)
theorem keyS_inj {a b : List It} (h : keyS a = keyS b) : a = b := flS_inj a b (keyL_inj _ _ h)

theorem decDigits_le (u : Nat) : ∀ k, u < 10 ^ k → 1 ≤ k → (Lib.decDigits u).length ≤ k := by
  induction u using Nat.strongRecOn with
  | _ u ih =>
    intro k hk h1
    rw [Lib.decDigits]
    split
    · simpa using h1
    · cases k with
      | zero => omega
      | succ k =>
        rw [Nat.pow_succ] at hk
        have hk1 : 1 ≤ k := by
          cases k with
          | zero => simp at hk; omega
          | succ k => omega
        have := ih (u / 10) (by omega) k (by omega) hk1
        simp
        omega
theorem itoa_le (n : Int) (h1 : -9223372036854775808 ≤ n) (h2 : n ≤ 9223372036854775807) : (Lib.itoa n).length ≤ 20 := by
  simp only [Lib.itoa]
  split
  · have := decDigits_le n.natAbs 19 (by omega) (by omega)
    simp
    omega
  · have := decDigits_le n.toNat 19 (by omega) (by omega)
    omega
theorem keyL_le : ∀ (l : List Int), (∀ n ∈ l, -9223372036854775808 ≤ n ∧ n ≤ 9223372036854775807) → (keyL l).length ≤ 21 * l.length
  | [], _ => by simp [keyL]
  | n :: l, h => by
    have h1 := itoa_le n (h n (by simp)).1 (h n (by simp)).2
    have h2 := keyL_le l fun m hm => h m (by simp [hm])
    simp only [keyL, List.length_append, List.length_cons]
    omega

end Go.Proofs.YtilhjiopbbbgmaaDoor

/- A state's key: the program's own words, walked. -/
namespace Go.Proofs.YtilhjiopbbbgmaaDoor
open Go Go.RowKit Am Go.Shelf Go.Lib
set_option linter.unusedVariables false
set_option linter.unusedSimpArgs false

theorem extra166 : Builder.Extra Tryd.prog lays166_ren where
  sizeBuilder := by kernel_rfl
  liesBuilder := by kernel_rfl
  t5 := Tryd.underlying5
  a5 := Tryd.isAgg5
  z5 := Tryd.sizeOf5
  v5 := Tryd.zeroValue5
  infoByte := by kernel_rfl
  cellsByte := by kernel_rfl
  sizeByte := by kernel_rfl
  neB5 := by decide
theorem extra167 : Builder.Extra Tryd.prog lays167_ren where
  sizeBuilder := by kernel_rfl
  liesBuilder := by kernel_rfl
  t5 := Tryd.underlying5
  a5 := Tryd.isAgg5
  z5 := Tryd.sizeOf5
  v5 := Tryd.zeroValue5
  infoByte := by kernel_rfl
  cellsByte := by kernel_rfl
  sizeByte := by kernel_rfl
  neB5 := by decide
theorem extra169 : Builder.Extra Tryd.prog lays169_ren where
  sizeBuilder := by kernel_rfl
  liesBuilder := by kernel_rfl
  t5 := Tryd.underlying5
  a5 := Tryd.isAgg5
  z5 := Tryd.sizeOf5
  v5 := Tryd.zeroValue5
  infoByte := by kernel_rfl
  cellsByte := by kernel_rfl
  sizeByte := by kernel_rfl
  neB5 := by decide

theorem c_ws (B b : Nat) (bs : List Value) (s : ByteArray) (w : World) (h : Lib.IsBuilderF 108 5 B b bs w) (hlen : bs.length + s.size ≤ 140737488355328) (hBw : B ≤ w.heap.size) :
    Calls Tryd.prog 66 #[.pointer (some ⟨b, 0, none⟩), .string s] w fun e w' => e = .returned (.tuple #[.int .i64 s.size, .nilIface]) ∧ (Lib.BuilderAtF 108 5 B b (.pointer (some ⟨b, 0, none⟩)) (bs ++ Lib.strCells s) w' ∧ Below B w w' ∧ Lib.OthersKept 5 (some b) w w') :=
  Any.Builder_WriteString_k lays166 extra166 B b bs s w h hlen hBw
theorem c_wb (B b : Nat) (bs : List Value) (c : Int) (w : World) (h : Lib.IsBuilderF 108 5 B b bs w) (hlen : bs.length + 1 ≤ 140737488355328) (hBw : B ≤ w.heap.size) :
    Calls Tryd.prog 68 #[.pointer (some ⟨b, 0, none⟩), .int .u8 c] w fun e w' => e = .returned .nilIface ∧ (Lib.BuilderAtF 108 5 B b (.pointer (some ⟨b, 0, none⟩)) (bs ++ [.int .u8 c]) w' ∧ Below B w w' ∧ Lib.OthersKept 5 (some b) w w') :=
  Any.Builder_WriteByte_k lays167 extra167 B b bs c w h hlen hBw
theorem c_str (B b : Nat) (l : List UInt8) (w : World) (h : Lib.IsBuilderF 108 5 B b (Lib.byteCells l) w) (hBw : B ≤ w.heap.size) :
    Calls Tryd.prog 69 #[.pointer (some ⟨b, 0, none⟩)] w fun e w' => e = .returned (.string ⟨l.toArray⟩) ∧ (Lib.IsBuilderF 108 5 B b (Lib.byteCells l) w' ∧ Below B w w' ∧ Lib.OthersKept 5 (some b) w w') :=
  Any.Builder_String_any_k lays169 extra169 B b l w h hBw
theorem c_itoa (n : Int) (h0 : -9223372036854775808 ≤ n) (h1 : n ≤ 9223372036854775807) (w : World) (htab : Lib.TabIs Tryd.prog w "internal/strconv.uint64pow10" .u64 Lib.pow10Tab) :
    Calls Tryd.prog 67 #[.int .i64 n] w fun e w' => e = .returned (.string ⟨(Lib.itoa n).toArray⟩) ∧ ∃ k os, w' = Go.Sort.grow (w.drewN k) os := Any.strconv_Itoa laysM171 n h0 h1 w htab

/-- Numbers that fit. -/
def i64 (n : Int) : Prop := -9223372036854775808 ≤ n ∧ n ≤ 9223372036854775807
def itOk (x : It) : Prop := i64 x.k ∧ i64 x.n ∧ i64 x.lo ∧ i64 x.hi

abbrev PowTab (w : World) : Prop := Lib.TabIs Tryd.prog w "internal/strconv.uint64pow10" .u64 Lib.pow10Tab

theorem bldF_kept {B b : Nat} {bs : List Value} {w w' : World} (h : Lib.IsBuilderF 108 5 B b bs w) (hg : ∀ i, i < w.heap.size → w'.heap[i]? = w.heap[i]?) : Lib.IsBuilderF 108 5 B b bs w' := by
  have at_ : ∀ p, Lib.BuilderAtF 108 5 B b p bs w → Lib.BuilderAtF 108 5 B b p bs w' := by
    rintro p ⟨hB, v, hb, ⟨h1, h2⟩, hne⟩
    refine ⟨hB, v, by rw [hg b (Array.getElem?_eq_some_iff.1 hb).1]; exact hb, ⟨h1, ?_⟩, hne⟩
    rcases h2 with h2 | ⟨g, cap, cur, fz, e1, e2, e3, e4⟩
    · exact .inl h2
    · exact .inr ⟨g, cap, cur, fz, e1, e2, by rw [hg g (Array.getElem?_eq_some_iff.1 e3).1]; exact e3, e4⟩
  exact h.imp (at_ _) (at_ _)

theorem grow_old (w : World) (q : Nat) (os : Array Obj) {i : Nat} (hi : i < w.heap.size) : (Go.Sort.grow (w.drewN q) os).heap[i]? = w.heap[i]? := by
  show (w.heap ++ os)[i]? = w.heap[i]?
  rw [Array.getElem?_append_left hi]
theorem grow_below (B : Nat) (w : World) (q : Nat) (os : Array Obj) (h : B ≤ w.heap.size) : Below B w (Go.Sort.grow (w.drewN q) os) :=
  ⟨rfl, rfl, rfl, by show w.heap.size ≤ (w.heap ++ os).size; simp, fun k hk => grow_old w q os (by omega)⟩

theorem tabPow {w w' : World} (h : PowTab w) (hb : ∀ i, i < w.heap.size → w'.heap[i]? = w.heap[i]?) : PowTab w' := by
  have hgn : Tryd.prog.globalNamed "internal/strconv.uint64pow10" = some 2 := by kernel_rfl
  unfold PowTab Lib.TabIs World.var? at h ⊢
  rw [hgn] at h ⊢
  simp only [Option.bind_some] at h ⊢
  have hlt : 2 < w.heap.size := by
    rcases Nat.lt_or_ge 2 w.heap.size with h' | h'
    · exact h'
    · rw [Array.getElem?_eq_none h'] at h; cases h
  rw [hb 2 hlt]
  exact h

theorem strCells_mk (l : List UInt8) : Lib.strCells ⟨l.toArray⟩ = Lib.byteCells l := by simp [Lib.strCells, Lib.byteCells]
theorem byteCells_append (a b : List UInt8) : Lib.byteCells (a ++ b) = Lib.byteCells a ++ Lib.byteCells b := by simp [Lib.byteCells]

theorem keyS_le {s : List It} {n : Nat} (h : ∀ x ∈ s, itOk x) (hn : s.length ≤ n) : (keyS s).length ≤ 21 * (4 * n) := by
  have hl : ∀ t : List It, (flS t).length = 4 * t.length := fun t => by
    induction t with
    | nil => rfl
    | cons x t ih => simp [flS] at ih ⊢; omega
  have h1 := keyL_le (flS s) (fun m hm => by
    simp only [flS, List.mem_flatMap] at hm
    obtain ⟨x, hx, hm⟩ := hm
    obtain ⟨a, b, c, d⟩ := h x hx
    simp only [List.mem_cons, List.not_mem_nil, or_false] at hm
    rcases hm with rfl | rfl | rfl | rfl <;> assumption)
  rw [hl] at h1
  simp only [keyS]
  omega

set_option maxHeartbeats 4000000 in
set_option maxRecDepth 1000000 in
theorem key48 (s : List It) (b o cap : Nat) (w : World) (hn : s.length ≤ 1000000) (hok : ∀ x ∈ s, itOk x) (htab : PowTab w)
    (hc : ∀ (k : Nat) (h : k < s.length), w.cell? ⟨b, o + k * 4, none⟩ = some (.int .i64 s[k].k) ∧ w.cell? ⟨b, o + k * 4 + 1, none⟩ = some (.int .i64 s[k].n) ∧ w.cell? ⟨b, o + k * 4 + 2, none⟩ = some (.int .i64 s[k].lo) ∧ w.cell? ⟨b, o + k * 4 + 3, none⟩ = some (.int .i64 s[k].hi)) :
    Calls Tryd.prog 48 #[.slice (some ⟨b, o, none⟩) s.length cap] w fun e w' => e = .returned (.string ⟨(keyS s).toArray⟩) ∧ Below w.heap.size w w' := by
  have HC : Aside (∀ (k : Nat) (h : k < s.length), w.cell? ⟨b, o + k * 4, none⟩ = some (.int .i64 s[k].k) ∧ w.cell? ⟨b, o + k * 4 + 1, none⟩ = some (.int .i64 s[k].n) ∧ w.cell? ⟨b, o + k * 4 + 2, none⟩ = some (.int .i64 s[k].lo) ∧ w.cell? ⟨b, o + k * 4 + 3, none⟩ = some (.int .i64 s[k].hi)) := hc
  clear hc
  go_enter Tryd.func48, Tryd.ntmps48
  go_wp2
  have hB0 : Lib.IsBuilderF 108 5 w.heap.size w.heap.size (Lib.byteCells (keyS (s.take 0))) (w.alloc (.cells #[.pointer none, .slice none 0 0] 108)) :=
    Lib.IsBuilderF.of (.inl ⟨Nat.le_refl _, .slice none 0 0, heap_alloc_new w _, ⟨rfl, .inl ⟨rfl, rfl⟩⟩, by simp [Value.ownBlock]⟩)
  go_loopg [10] s.length (fun g s10 wx => ∃ k : Nat, k + g = s.length ∧ s10 = .int .i64 k ∧ Lib.IsBuilderF 108 5 w.heap.size w.heap.size (Lib.byteCells (keyS (s.take k))) wx ∧ Below w.heap.size w wx ∧ w.heap.size < wx.heap.size)
  case atStart => exact ⟨0, by omega, rfl, hB0, (Below.refl _ _).alloc (Nat.le_refl _) _, by simp⟩
  case round =>
    obtain ⟨k, hkg, rfl, hB, hbel, hsz⟩ := hrel
    clear hB0
    cases gk with
    | zero =>
      have hkz : ¬ ((k : Int) < (s.length : Int)) := by omega
      have hk : s.take k = s := by rw [List.take_of_length_le (by omega)]
      rw [hk] at hB
      go_wp2_with (go_at_call 69; refine (c_str _ _ _ _ hB (by omega)).mono ?_; rintro e w' ⟨rfl, _, hb, _⟩)
      go_ret
      exact ⟨rfl, hbel.trans hb⟩
    | succ g =>
      have hlt : k < s.length := by omega
      have hkz : (k : Int) < (s.length : Int) := by omega
      obtain ⟨c0, c1, c2, c3⟩ := HC.out k hlt
      have lt : ∀ {p : Addr} {v : Value}, w.cell? p = some v → p.block < w.heap.size := fun {p v} h => by
        rcases Nat.lt_or_ge p.block w.heap.size with h' | h'
        · exact h'
        · simp [World.cell?, Array.getElem?_eq_none h'] at h
      have d0 := (hbel.cell (lt c0)).trans c0
      have d1 := (hbel.cell (lt c1)).trans c1
      have d2 := (hbel.cell (lt c2)).trans c2
      have d3 := (hbel.cell (lt c3)).trans c3
      obtain ⟨i1, i2, i3, i4⟩ := hok s[k] (List.getElem_mem hlt)
      obtain ⟨x, hx⟩ : ∃ x, s[k] = x := ⟨_, rfl⟩
      rw [hx] at d0 d1 d2 d3 i1 i2 i3 i4
      obtain ⟨xk, xn, xl, xh⟩ := x
      simp only at d0 d1 d2 d3 i1 i2 i3 i4
      clear c0 c1 c2 c3
      go_wp2
      have hpre : (keyS (s.take k)).length ≤ 21 * (4 * s.length) := keyS_le (fun x hx => hok x (List.mem_of_mem_take hx)) (by simp; omega)
      have hS : keyS (s.take (k + 1)) = keyS (s.take k) ++ keyL [xk, xn, xl, xh] := by
        rw [List.take_succ_eq_append_getElem hlt, hx]
        simp only [keyS, flS, List.flatMap_append, keyL_append]
        rfl
      generalize keyS (s.take k) = pre at *
      obtain ⟨M, hM⟩ : ∃ M, M = wr.heap.size + 1 := ⟨_, rfl⟩
      have hMB : w.heap.size < M := by have := hbel.size; omega
      rw [← hM]
      go_loopg [24] 4 (fun g2 s24 wy => ∃ j : Nat, j + g2 = 4 ∧ s24 = .int .i64 j ∧ Lib.IsBuilderF 108 5 w.heap.size w.heap.size (Lib.byteCells (pre ++ keyL ([xk, xn, xl, xh].take j))) wy ∧ Below w.heap.size w wy ∧ w.heap.size < wy.heap.size ∧
        wy.heap[M]? = some (.cells #[.int .i64 xk, .int .i64 xn, .int .i64 xl, .int .i64 xh] 3 (0, 0)))
      case atStart =>
        refine ⟨0, by omega, rfl, ?_, (hbel.alloc hbel.size _).alloc (Nat.le_trans hbel.size (by simp)) _, by simp; omega, ?_⟩
        · rw [List.take_zero, keyL, List.append_nil]
          exact bldF_kept (bldF_kept hB fun i hi => alloc_old _ _ hi) fun i hi => alloc_old _ _ hi
        · have := heap_alloc_new (wr.alloc (.cells #[.int .i64 xk, .int .i64 xn, .int .i64 xl, .int .i64 xh] 40)) (.cells #[.int .i64 xk, .int .i64 xn, .int .i64 xl, .int .i64 xh] 3)
          rw [World.size_alloc] at this
          rw [hM]; exact this
      case round =>
        obtain ⟨j, hj, rfl, hB2, hbel2, hsz2, hrow⟩ := hrel
        clear hM
        cases gk with
        | zero =>
          have hjz : ¬ ((j : Int) < 4) := by omega
          go_wp2
          go_roundg g
          case measure => omega
          case rel =>
            refine ⟨k + 1, by omega, by first | rfl | simp, ?_, hbel2, hsz2⟩
            rw [hS]
            rw [List.take_of_length_le (by simp; omega)] at hB2
            exact hB2
        | succ g2 =>
          have hjz : (j : Int) < 4 := by omega
          obtain ⟨nj, hnj, hnr⟩ : ∃ nj, [xk, xn, xl, xh][j]? = some nj ∧ i64 nj := by
            have : j = 0 ∨ j = 1 ∨ j = 2 ∨ j = 3 := by omega
            rcases this with rfl | rfl | rfl | rfl
            · exact ⟨_, rfl, i1⟩
            · exact ⟨_, rfl, i2⟩
            · exact ⟨_, rfl, i3⟩
            · exact ⟨_, rfl, i4⟩
          have hcell : wr.cell? ⟨M, j, none⟩ = some (.int .i64 nj) := by
            simp only [World.cell?, hrow]
            have : j = 0 ∨ j = 1 ∨ j = 2 ∨ j = 3 := by omega
            rcases this with rfl | rfl | rfl | rfl <;> (simp at hnj; simp [hnj])
          have hK : keyL ([xk, xn, xl, xh].take (j + 1)) = keyL ([xk, xn, xl, xh].take j) ++ (Lib.itoa nj ++ [32]) := by
            rw [List.take_add_one, hnj]
            simp only [Option.toList, keyL_append, keyL]
          have hil := itoa_le nj hnr.1 hnr.2
          have hkl : (keyL ([xk, xn, xl, xh].take j)).length ≤ 84 := by
            refine Nat.le_trans (keyL_le _ fun m hm => ?_) ?_
            · have hm := List.mem_of_mem_take hm
              simp only [List.mem_cons, List.not_mem_nil, or_false] at hm
              rcases hm with rfl | rfl | rfl | rfl
              · exact i1
              · exact i2
              · exact i3
              · exact i4
            · simp; omega
          have htabx : PowTab wr := tabPow htab fun i hi => hbel2.block i hi
          have hBg : ∀ q os, Lib.IsBuilderF 108 5 w.heap.size w.heap.size (Lib.byteCells (pre ++ keyL ([xk, xn, xl, xh].take j))) (Go.Sort.grow (wr.drewN q) os) := fun q os => bldF_kept hB2 fun i hi => grow_old wr q os hi
          have hgs : ∀ q os, w.heap.size ≤ (Go.Sort.grow (wr.drewN q) os).heap.size := fun q os => Nat.le_trans hbel2.size (grow_below 0 wr q os (by omega)).size
          generalize hT : keyL ([xk, xn, xl, xh].take j) = tj at *
          go_wp2_with (first
            | (go_at_call 67; refine (c_itoa nj hnr.1 hnr.2 _ htabx).mono ?_; rintro e w1 ⟨rfl, q, os, rfl⟩)
            | (go_at_call 66; refine (c_ws w.heap.size w.heap.size _ _ _ (hBg q os) ?_ (hgs q os)).mono ?_; rotate_left; rintro e w2 ⟨rfl, hB4, hb4, hk4⟩)
            | (go_at_call 68; refine (c_wb w.heap.size w.heap.size _ _ _ (.inr hB4) ?_ ?_).mono ?_; rotate_left; rotate_left; rintro e w3 ⟨rfl, hB5, hb5, hk5⟩))
          · go_roundg g2
            case measure => omega
            case rel =>
              have hb3 := ((hbel2.trans (grow_below w.heap.size wr q os hbel2.size)).trans hb4).trans hb5
              refine ⟨j + 1, by omega, by first | rfl | simp, .inr ?_, hb3, ?_, ?_⟩
              · rw [hK, ← List.append_assoc, ← List.append_assoc, byteCells_append, byteCells_append, ← strCells_mk (Lib.itoa nj)]
                exact hB5
              · have := hb4.size; have := hb5.size
                have := (grow_below w.heap.size wr q os hbel2.size).size
                omega
              · have h1 : (Go.Sort.grow (wr.drewN q) os).heap[M]? = some (.cells #[.int .i64 xk, .int .i64 xn, .int .i64 xl, .int .i64 xh] 3 (0, 0)) := by
                  rw [grow_old wr q os (Array.getElem?_eq_some_iff.1 hrow).1]; exact hrow
                have hne : some M ≠ some w.heap.size := fun e => by cases e; omega
                exact hk5 M _ (hk4 M _ h1 hne (fun c fz e => by cases e)) hne (fun c fz e => by cases e)
          · simp only [List.length_append, Lib.byteCells_length, strCells_mk, List.length_cons, List.length_nil]
            omega
          · have := hb4.size
            exact Nat.le_trans (hgs q os) this
          · simp only [List.length_append, Lib.byteCells_length, ByteArray.size, List.size_toArray]
            omega

set_option maxHeartbeats 4000000 in
theorem key48_nil (a : Option Addr) (cap : Nat) (w : World) :
    Calls Tryd.prog 48 #[.slice a 0 cap] w fun e w' => e = .returned (.string ⟨#[]⟩) ∧ Below w.heap.size w w' := by
  go_enter Tryd.func48, Tryd.ntmps48
  go_wp2
  have hB0 : Lib.IsBuilderF 108 5 w.heap.size w.heap.size (Lib.byteCells []) (w.alloc (.cells #[.pointer none, .slice none 0 0] 108)) :=
    Lib.IsBuilderF.of (.inl ⟨Nat.le_refl _, .slice none 0 0, heap_alloc_new w _, ⟨rfl, .inl ⟨rfl, rfl⟩⟩, by simp [Value.ownBlock]⟩)
  go_loopg [10] 0 (fun g s10 wx => s10 = .int .i64 0 ∧ Lib.IsBuilderF 108 5 w.heap.size w.heap.size (Lib.byteCells []) wx ∧ Below w.heap.size w wx ∧ w.heap.size < wx.heap.size)
  case atStart => exact ⟨rfl, hB0, (Below.refl _ _).alloc (Nat.le_refl _) _, by simp⟩
  case round =>
    obtain ⟨rfl, hB, hbel, hsz⟩ := hrel
    go_wp2_with (go_at_call 69; refine (c_str _ _ _ _ hB (by omega)).mono ?_; rintro e w' ⟨rfl, _, hb, _⟩)
    go_ret
    exact ⟨rfl, hbel.trans hb⟩

/-- The key, of whatever lies as the state. -/
theorem key48_c (s : List It) (v : Value) (w : World) (G : Am.Good) (hG : ∀ b o, G b o → b < w.heap.size) (hn : s.length ≤ 1000000) (hok : ∀ x ∈ s, itOk x) (htab : PowTab w) (hv : RepC w G (stC s) v) :
    Calls Tryd.prog 48 #[v] w fun e w' => e = .returned (.string ⟨(keyS s).toArray⟩) ∧ Below w.heap.size w w' := by
  simp only [RepC] at hv
  obtain ⟨a, cap, rfl, hcap, hv⟩ := hv
  rcases hv with h0 | ⟨b, o, rfl, hm⟩
  · have hs : s = [] := by
      cases s with
      | nil => rfl
      | cons x s => simp [itsC, It.c] at h0
    subst hs
    exact key48_nil a cap w
  · refine key48 s b o cap w hn hok htab fun k hk => ?_
    obtain ⟨ys, hl, hy⟩ := hm.vals
    have hd := RepL.drop (k * 4) hl
    rw [itsC_drop s k hk] at hd
    have key : ∀ j y, (ys.drop (k * 4))[j]? = some y → w.cell? ⟨b, o + k * 4 + j, none⟩ = some y := fun j y h => by
      rw [List.getElem?_drop] at h
      rw [Nat.add_assoc]
      exact hy _ _ h
    match hys : ys.drop (k * 4), hd with
    | y0 :: y1 :: y2 :: y3 :: r, hd =>
      rw [hys] at key
      simp only [RepL, RepC] at hd
      obtain ⟨⟨rfl, _⟩, ⟨rfl, _⟩, ⟨rfl, _⟩, ⟨rfl, _⟩, _⟩ := hd
      exact ⟨key 0 _ rfl, key 1 _ rfl, key 2 _ rfl, key 3 _ rfl⟩

end Go.Proofs.YtilhjiopbbbgmaaDoor

/- Functions on states: Compare, Same; on branches: Same, Add. -/
namespace Go.Proofs.YtilhjiopbbbgmaaDoor
open Nat renaming reduceSub → R1, reduceMul → R2, reduceLeDiff → R3, reducePow → R4, reduceBEq → R5, reduceAdd → R6, reduceEqDiff → R7
open Int renaming reduceToNat → R9
open Go Go.RowKit Am
set_option linter.unusedVariables false
set_option linter.unusedSimpArgs false

def cmpL : List Int → List Int → Int
  | x :: xs, y :: ys => if x < y then -1 else if y < x then 1 else cmpL xs ys
  | _, _ => 0

def scmp (a b : List It) : Int := cmpL (nums a) (nums b)

theorem cmpL_val : ∀ (a b : List Int), cmpL a b = -1 ∨ cmpL a b = 0 ∨ cmpL a b = 1
  | [], _ => by simp [cmpL]
  | _ :: _, [] => by simp [cmpL]
  | x :: xs, y :: ys => by
    simp only [cmpL]
    split
    · simp
    · split
      · simp
      · exact cmpL_val xs ys

theorem intsC_drop (l : List Int) (i : Nat) (h : i < l.length) : (intsC l).drop i = .v (.int .i64 l[i]) :: intsC (l.drop (i + 1)) := by
  simp only [intsC, ← List.map_drop, List.drop_eq_getElem_cons h, List.map_cons]

theorem cmpL_drop (a b : List Int) (i : Nat) (h1 : i < a.length) (h2 : i < b.length) :
    cmpL (a.drop i) (b.drop i) = if a[i] < b[i] then -1 else if b[i] < a[i] then 1 else cmpL (a.drop (i + 1)) (b.drop (i + 1)) := by
  rw [List.drop_eq_getElem_cons h1, List.drop_eq_getElem_cons h2]
  rfl

theorem cmpL_end (a b : List Int) (i : Nat) (h : a.length ≤ i ∨ b.length ≤ i) : cmpL (a.drop i) (b.drop i) = 0 := by
  rcases h with h | h
  · rw [List.drop_eq_nil_of_le h]; cases b.drop i <;> rfl
  · rw [List.drop_eq_nil_of_le h]; cases a.drop i <;> rfl

abbrev iv (n : Int) : SV := .c (.v (.int .i64 n))
abbrev bv (b : Bool) : SV := .c (.v (.bool b))

theorem compare_ret (gl : Gl) (a b : List It) (ha : a.length ≤ 1000000) (hb : b.length ≤ 1000000) : Ret Tryd.prog gl 27 [.c (stC a), .c (stC b)] (iv (scmp a b)) := by
  have n1 := numbers_ret gl a ha
  have n2 := numbers_ret gl b hb
  have hx : (nums a).length ≤ 4000001 := by rw [nums_length]; omega
  have hy : (nums b).length ≤ 4000001 := by rw [nums_length]; omega
  rw [← nums_length] at n1 n2
  show Ret _ gl 27 _ (iv (cmpL (nums a) (nums b)))
  generalize nums a = x at n1 hx ⊢
  generalize nums b = y at n2 hy ⊢
  refine ret_of (cx := cxD gl 0) (cxD_ok gl 0) (n := 42) (rs := [4]) Tryd.func27 (by kernel_rfl) rfl (by kernel_rfl) rfl (by simp) (by simp) ?_
  repeat (first | (refine awp_seq fun K hK => ?_) | (refine hK _ ?_; clear hK K) | (refine awp_block ?_) | (refine awp_region (by kernel_rfl) ?_; simp only [kS, AWp, AOps, R1, R2, R3, R4, R5, R6, R7, reduceCtorEq, R9]) | (refine awp_condT ?_ ?_; focus (simp only [kS, AWp, AOps, R1, R2, R3, R4, R5, R6, R7, reduceCtorEq, R9]; done)) | (refine awp_condF ?_ ?_; focus (simp only [kS, AWp, AOps, R1, R2, R3, R4, R5, R6, R7, reduceCtorEq, R9]; done)) | (refine awp_skip ?_) | (refine awp_ret ?_; simp only [kS, AWp, AOps, R1, R2, R3, R4, R5, R6, R7, reduceCtorEq, R9]) | (refine awp_exit ?_; simp only [kS, AWp, AOps, R1, R2, R3, R4, R5, R6, R7, reduceCtorEq, R9]) | (refine And.intro (by (first | assumption | omega)) ?_))
  refine ⟨_, n1, rfl, ?_⟩
  simp only [kS, AWp, AOps, R1, R2, R3, R4, R5, R6, R7, reduceCtorEq, R9]
  repeat (first | (refine awp_seq fun K hK => ?_) | (refine hK _ ?_; clear hK K) | (refine awp_block ?_) | (refine awp_region (by kernel_rfl) ?_; simp only [kS, AWp, AOps, R1, R2, R3, R4, R5, R6, R7, reduceCtorEq, R9]) | (refine awp_condT ?_ ?_; focus (simp only [kS, AWp, AOps, R1, R2, R3, R4, R5, R6, R7, reduceCtorEq, R9]; done)) | (refine awp_condF ?_ ?_; focus (simp only [kS, AWp, AOps, R1, R2, R3, R4, R5, R6, R7, reduceCtorEq, R9]; done)) | (refine awp_skip ?_) | (refine awp_ret ?_; simp only [kS, AWp, AOps, R1, R2, R3, R4, R5, R6, R7, reduceCtorEq, R9]) | (refine awp_exit ?_; simp only [kS, AWp, AOps, R1, R2, R3, R4, R5, R6, R7, reduceCtorEq, R9]) | (refine And.intro (by (first | assumption | omega)) ?_))
  refine ⟨_, n2, rfl, ?_⟩
  simp only [kS, AWp, AOps, R1, R2, R3, R4, R5, R6, R7, reduceCtorEq, R9]
  repeat (first | (refine awp_seq fun K hK => ?_) | (refine hK _ ?_; clear hK K) | (refine awp_block ?_) | (refine awp_region (by kernel_rfl) ?_; simp only [kS, AWp, AOps, R1, R2, R3, R4, R5, R6, R7, reduceCtorEq, R9]) | (refine awp_condT ?_ ?_; focus (simp only [kS, AWp, AOps, R1, R2, R3, R4, R5, R6, R7, reduceCtorEq, R9]; done)) | (refine awp_condF ?_ ?_; focus (simp only [kS, AWp, AOps, R1, R2, R3, R4, R5, R6, R7, reduceCtorEq, R9]; done)) | (refine awp_skip ?_) | (refine awp_ret ?_; simp only [kS, AWp, AOps, R1, R2, R3, R4, R5, R6, R7, reduceCtorEq, R9]) | (refine awp_exit ?_; simp only [kS, AWp, AOps, R1, R2, R3, R4, R5, R6, R7, reduceCtorEq, R9]) | (refine And.intro (by (first | assumption | omega)) ?_))
  refine awp_loop (fun n f => ∃ i, i ≤ x.length ∧ n = x.length - i ∧ f.t 5 = .c (.sl x.length (intsC x)) ∧ f.t 6 = .c (.sl y.length (intsC y)) ∧ f.t 7 = iv (i : Int) ∧ cmpL (x.drop i) (y.drop i) = cmpL x y) x.length ?_ ?_
  · exact ⟨0, by omega, rfl, by simp only [kS, AWp, AOps, R1, R2, R3, R4, R5, R6, R7, reduceCtorEq, R9], by simp only [kS, AWp, AOps, R1, R2, R3, R4, R5, R6, R7, reduceCtorEq, R9], by simp only [kS, AWp, AOps, R1, R2, R3, R4, R5, R6, R7, reduceCtorEq, R9]; rfl, rfl⟩
  rintro n f ⟨i, hi, rfl, h5, h6, h7, hc⟩
  have stop : (x.length ≤ i ∨ y.length ≤ i) → cmpL x y = 0 := fun h => by rw [← hc]; exact cmpL_end x y i h
  refine awp_seq fun K hK => ?_
  refine awp_seq fun K hK => ?_
  by_cases h1 : i < x.length
  · by_cases h2 : i < y.length
    · (refine awp_region (by kernel_rfl) ?_; simp only [kS, AWp, AOps, R1, R2, R3, R4, R5, R6, R7, reduceCtorEq, R9, h5, h6, h7, h1, h2, decide_true, BEq.rfl])
      (refine hK _ ?_; clear hK K)
      refine awp_cond (t := true) (by simp only [kS, AWp, AOps, R1, R2, R3, R4, R5, R6, R7, reduceCtorEq, R9]) (fun _ => ?_) (fun h => by cases h)
      refine awp_skip ?_
      (refine hK _ ?_; clear hK K)
      have e1 := intsC_drop x i h1
      have e2 := intsC_drop y i h2
      have hc' := hc
      rw [cmpL_drop x y i h1 h2] at hc'
      repeat (first | (refine awp_seq fun K hK => ?_) | (refine hK _ ?_; clear hK K) | (refine awp_block ?_) | (refine awp_region (by kernel_rfl) ?_; simp only [kS, AWp, AOps, R1, R2, R3, R4, R5, R6, R7, reduceCtorEq, R9, h5, h6, h7, e1, e2, h1, h2, intsC_length, Nat.le_refl]) | (refine awp_condT ?_ ?_; focus (simp only [kS, AWp, AOps, R1, R2, R3, R4, R5, R6, R7, reduceCtorEq, R9, h5, h6, h7, e1, e2, h1, h2, intsC_length, Nat.le_refl]; done)) | (refine awp_condF ?_ ?_; focus (simp only [kS, AWp, AOps, R1, R2, R3, R4, R5, R6, R7, reduceCtorEq, R9, h5, h6, h7, e1, e2, h1, h2, intsC_length, Nat.le_refl]; done)) | (refine awp_skip ?_) | (refine awp_ret ?_; simp only [kS, AWp, AOps, R1, R2, R3, R4, R5, R6, R7, reduceCtorEq, R9, h5, h6, h7, e1, e2, h1, h2, intsC_length, Nat.le_refl]) | (refine awp_exit ?_; simp only [kS, AWp, AOps, R1, R2, R3, R4, R5, R6, R7, reduceCtorEq, R9, h5, h6, h7, e1, e2, h1, h2, intsC_length, Nat.le_refl]) | (refine And.intro (by (first | assumption | omega)) ?_))
      refine awp_cond (t := decide (x[i] < y[i])) (by simp only [kS, AWp, AOps, R1, R2, R3, R4, R5, R6, R7, reduceCtorEq, R9]) (fun h => ?_) (fun h => ?_)
      · have hlt : x[i] < y[i] := by simpa using h
        rw [if_pos hlt] at hc'
        repeat (first | (refine awp_seq fun K hK => ?_) | (refine hK _ ?_; clear hK K) | (refine awp_block ?_) | (refine awp_region (by kernel_rfl) ?_; simp only [kS, AWp, AOps, R1, R2, R3, R4, R5, R6, R7, reduceCtorEq, R9]) | (refine awp_condT ?_ ?_; focus (simp only [kS, AWp, AOps, R1, R2, R3, R4, R5, R6, R7, reduceCtorEq, R9]; done)) | (refine awp_condF ?_ ?_; focus (simp only [kS, AWp, AOps, R1, R2, R3, R4, R5, R6, R7, reduceCtorEq, R9]; done)) | (refine awp_skip ?_) | (refine awp_ret ?_; simp only [kS, AWp, AOps, R1, R2, R3, R4, R5, R6, R7, reduceCtorEq, R9]) | (refine awp_exit ?_; simp only [kS, AWp, AOps, R1, R2, R3, R4, R5, R6, R7, reduceCtorEq, R9]) | (refine And.intro (by (first | assumption | omega)) ?_))
        rw [hc']
      · have hlt : ¬ x[i] < y[i] := by simpa using h
        rw [if_neg hlt] at hc'
        repeat (first | (refine awp_seq fun K hK => ?_) | (refine hK _ ?_; clear hK K) | (refine awp_block ?_) | (refine awp_region (by kernel_rfl) ?_; simp only [kS, AWp, AOps, R1, R2, R3, R4, R5, R6, R7, reduceCtorEq, R9, h5, h6, h7, e1, e2, h1, h2, intsC_length, Nat.le_refl]) | (refine awp_condT ?_ ?_; focus (simp only [kS, AWp, AOps, R1, R2, R3, R4, R5, R6, R7, reduceCtorEq, R9, h5, h6, h7, e1, e2, h1, h2, intsC_length, Nat.le_refl]; done)) | (refine awp_condF ?_ ?_; focus (simp only [kS, AWp, AOps, R1, R2, R3, R4, R5, R6, R7, reduceCtorEq, R9, h5, h6, h7, e1, e2, h1, h2, intsC_length, Nat.le_refl]; done)) | (refine awp_skip ?_) | (refine awp_ret ?_; simp only [kS, AWp, AOps, R1, R2, R3, R4, R5, R6, R7, reduceCtorEq, R9, h5, h6, h7, e1, e2, h1, h2, intsC_length, Nat.le_refl]) | (refine awp_exit ?_; simp only [kS, AWp, AOps, R1, R2, R3, R4, R5, R6, R7, reduceCtorEq, R9, h5, h6, h7, e1, e2, h1, h2, intsC_length, Nat.le_refl]) | (refine And.intro (by (first | assumption | omega)) ?_))
        refine awp_cond (t := decide (y[i] < x[i])) (by simp only [kS, AWp, AOps, R1, R2, R3, R4, R5, R6, R7, reduceCtorEq, R9]) (fun h => ?_) (fun h => ?_)
        · have hlt : y[i] < x[i] := by simpa using h
          rw [if_pos hlt] at hc'
          repeat (first | (refine awp_seq fun K hK => ?_) | (refine hK _ ?_; clear hK K) | (refine awp_block ?_) | (refine awp_region (by kernel_rfl) ?_; simp only [kS, AWp, AOps, R1, R2, R3, R4, R5, R6, R7, reduceCtorEq, R9]) | (refine awp_condT ?_ ?_; focus (simp only [kS, AWp, AOps, R1, R2, R3, R4, R5, R6, R7, reduceCtorEq, R9]; done)) | (refine awp_condF ?_ ?_; focus (simp only [kS, AWp, AOps, R1, R2, R3, R4, R5, R6, R7, reduceCtorEq, R9]; done)) | (refine awp_skip ?_) | (refine awp_ret ?_; simp only [kS, AWp, AOps, R1, R2, R3, R4, R5, R6, R7, reduceCtorEq, R9]) | (refine awp_exit ?_; simp only [kS, AWp, AOps, R1, R2, R3, R4, R5, R6, R7, reduceCtorEq, R9]) | (refine And.intro (by (first | assumption | omega)) ?_))
          rw [hc']
        · have hlt : ¬ y[i] < x[i] := by simpa using h
          rw [if_neg hlt] at hc'
          repeat (first | (refine awp_seq fun K hK => ?_) | (refine hK _ ?_; clear hK K) | (refine awp_block ?_) | (refine awp_region (by kernel_rfl) ?_; simp only [kS, AWp, AOps, R1, R2, R3, R4, R5, R6, R7, reduceCtorEq, R9, h5, h6, h7]) | (refine awp_condT ?_ ?_; focus (simp only [kS, AWp, AOps, R1, R2, R3, R4, R5, R6, R7, reduceCtorEq, R9, h5, h6, h7]; done)) | (refine awp_condF ?_ ?_; focus (simp only [kS, AWp, AOps, R1, R2, R3, R4, R5, R6, R7, reduceCtorEq, R9, h5, h6, h7]; done)) | (refine awp_skip ?_) | (refine awp_ret ?_; simp only [kS, AWp, AOps, R1, R2, R3, R4, R5, R6, R7, reduceCtorEq, R9, h5, h6, h7]) | (refine awp_exit ?_; simp only [kS, AWp, AOps, R1, R2, R3, R4, R5, R6, R7, reduceCtorEq, R9, h5, h6, h7]) | (refine And.intro (by (first | assumption | omega)) ?_))
          refine ⟨x.length - (i + 1), by omega, i + 1, by omega, rfl, ?_, hc'⟩
          rw [wrap_i64 (by omega) (by omega)]; rfl
    · (refine awp_region (by kernel_rfl) ?_; simp only [kS, AWp, AOps, R1, R2, R3, R4, R5, R6, R7, reduceCtorEq, R9, h5, h6, h7, h1, h2, decide_true, decide_false, BEq.rfl])
      (refine hK _ ?_; clear hK K)
      refine awp_cond (t := false) (by simp only [kS, AWp, AOps, R1, R2, R3, R4, R5, R6, R7, reduceCtorEq, R9]) (fun h => by cases h) (fun _ => ?_)
      refine awp_exit ?_
      simp only [kS, AWp, AOps, R1, R2, R3, R4, R5, R6, R7, reduceCtorEq, R9]
      clear hK K
      repeat (first | (refine awp_seq fun K hK => ?_) | (refine hK _ ?_; clear hK K) | (refine awp_block ?_) | (refine awp_region (by kernel_rfl) ?_; simp only [kS, AWp, AOps, R1, R2, R3, R4, R5, R6, R7, reduceCtorEq, R9]) | (refine awp_condT ?_ ?_; focus (simp only [kS, AWp, AOps, R1, R2, R3, R4, R5, R6, R7, reduceCtorEq, R9]; done)) | (refine awp_condF ?_ ?_; focus (simp only [kS, AWp, AOps, R1, R2, R3, R4, R5, R6, R7, reduceCtorEq, R9]; done)) | (refine awp_skip ?_) | (refine awp_ret ?_; simp only [kS, AWp, AOps, R1, R2, R3, R4, R5, R6, R7, reduceCtorEq, R9]) | (refine awp_exit ?_; simp only [kS, AWp, AOps, R1, R2, R3, R4, R5, R6, R7, reduceCtorEq, R9]) | (refine And.intro (by (first | assumption | omega)) ?_))
      rw [stop (.inr (by omega))]
  · (refine awp_region (by kernel_rfl) ?_; simp only [kS, AWp, AOps, R1, R2, R3, R4, R5, R6, R7, reduceCtorEq, R9, h5, h6, h7, h1, decide_true, decide_false, BEq.rfl])
    (refine hK _ ?_; clear hK K)
    refine awp_cond (t := false) (by simp only [kS, AWp, AOps, R1, R2, R3, R4, R5, R6, R7, reduceCtorEq, R9]) (fun h => by cases h) (fun _ => ?_)
    refine awp_exit ?_
    simp only [kS, AWp, AOps, R1, R2, R3, R4, R5, R6, R7, reduceCtorEq, R9]
    clear hK K
    repeat (first | (refine awp_seq fun K hK => ?_) | (refine hK _ ?_; clear hK K) | (refine awp_block ?_) | (refine awp_region (by kernel_rfl) ?_; simp only [kS, AWp, AOps, R1, R2, R3, R4, R5, R6, R7, reduceCtorEq, R9]) | (refine awp_condT ?_ ?_; focus (simp only [kS, AWp, AOps, R1, R2, R3, R4, R5, R6, R7, reduceCtorEq, R9]; done)) | (refine awp_condF ?_ ?_; focus (simp only [kS, AWp, AOps, R1, R2, R3, R4, R5, R6, R7, reduceCtorEq, R9]; done)) | (refine awp_skip ?_) | (refine awp_ret ?_; simp only [kS, AWp, AOps, R1, R2, R3, R4, R5, R6, R7, reduceCtorEq, R9]) | (refine awp_exit ?_; simp only [kS, AWp, AOps, R1, R2, R3, R4, R5, R6, R7, reduceCtorEq, R9]) | (refine And.intro (by (first | assumption | omega)) ?_))
    rw [stop (.inl (by omega))]

theorem same13_ret (gl : Gl) (a b : List It) (ha : a.length ≤ 1000000) (hb : b.length ≤ 1000000) : Ret Tryd.prog gl 19 [.c (stC a), .c (stC b)] (bv (scmp a b == 0)) := by
  refine ret_of (cx := cxD gl 0) (cxD_ok gl 0) (n := 9) (rs := [4]) Tryd.func19 (by kernel_rfl) rfl (by kernel_rfl) rfl (by simp) (by simp) ?_
  repeat (first | (refine awp_seq fun K hK => ?_) | (refine hK _ ?_; clear hK K) | (refine awp_block ?_) | (refine awp_region (by kernel_rfl) ?_; simp only [kS, AWp, AOps, R1, R2, R3, R4, R5, R6, R7, reduceCtorEq, R9]) | (refine awp_condT ?_ ?_; focus (simp only [kS, AWp, AOps, R1, R2, R3, R4, R5, R6, R7, reduceCtorEq, R9]; done)) | (refine awp_condF ?_ ?_; focus (simp only [kS, AWp, AOps, R1, R2, R3, R4, R5, R6, R7, reduceCtorEq, R9]; done)) | (refine awp_skip ?_) | (refine awp_ret ?_; simp only [kS, AWp, AOps, R1, R2, R3, R4, R5, R6, R7, reduceCtorEq, R9]) | (refine awp_exit ?_; simp only [kS, AWp, AOps, R1, R2, R3, R4, R5, R6, R7, reduceCtorEq, R9]) | (refine And.intro (by (first | assumption | omega)) ?_))
  refine ⟨_, compare_ret gl a b ha hb, rfl, ?_⟩
  simp only [kS, AWp, AOps, R1, R2, R3, R4, R5, R6, R7, reduceCtorEq, R9]
  repeat (first | (refine awp_seq fun K hK => ?_) | (refine hK _ ?_; clear hK K) | (refine awp_block ?_) | (refine awp_region (by kernel_rfl) ?_; simp only [kS, AWp, AOps, R1, R2, R3, R4, R5, R6, R7, reduceCtorEq, R9]) | (refine awp_condT ?_ ?_; focus (simp only [kS, AWp, AOps, R1, R2, R3, R4, R5, R6, R7, reduceCtorEq, R9]; done)) | (refine awp_condF ?_ ?_; focus (simp only [kS, AWp, AOps, R1, R2, R3, R4, R5, R6, R7, reduceCtorEq, R9]; done)) | (refine awp_skip ?_) | (refine awp_ret ?_; simp only [kS, AWp, AOps, R1, R2, R3, R4, R5, R6, R7, reduceCtorEq, R9]) | (refine awp_exit ?_; simp only [kS, AWp, AOps, R1, R2, R3, R4, R5, R6, R7, reduceCtorEq, R9]) | (refine And.intro (by (first | assumption | omega)) ?_))

structure Br where
  to : List It
  many : Int
  deriving DecidableEq, Inhabited

def Br.c (b : Br) : List C := [stC b.to, .v (.int .i64 b.many)]
def bsC (l : List Br) : List C := l.flatMap Br.c
abbrev brC (l : List Br) : C := .sl l.length (bsC l)

theorem bsC_length (s : List Br) : (bsC s).length = s.length * 2 := by
  induction s with
  | nil => rfl
  | cons x s ih => simp [bsC, Br.c] at ih ⊢; omega
theorem bsC_append (s t : List Br) : bsC (s ++ t) = bsC s ++ bsC t := by simp [bsC]
theorem bsC_drop0 (s : List Br) (i : Nat) (h : i ≤ s.length) : (bsC s).drop (i * 2) = bsC (s.drop i) := by
  have e : bsC s = bsC (s.take i) ++ bsC (s.drop i) := by rw [← bsC_append, List.take_append_drop]
  rw [e, List.drop_append_of_le_length (by rw [bsC_length]; simp; omega), List.drop_eq_nil_of_le (by rw [bsC_length]; simp; omega)]
  rfl
theorem bsC_drop (s : List Br) (i : Nat) (h : i < s.length) : (bsC s).drop (i * 2) = stC s[i].to :: .v (.int .i64 s[i].many) :: bsC (s.drop (i + 1)) := by
  rw [bsC_drop0 s i (by omega), List.drop_eq_getElem_cons h]
  rfl

def addB : List Br → List It → Int → Bool → List Br
  | [], s, m, done => if done then [] else [⟨s, m⟩]
  | b :: l, s, m, done =>
    if scmp s b.to = 0 then ⟨s, if b.many + m < 2 then b.many + m else 2⟩ :: addB l s m true
    else if scmp s b.to < 0 ∧ done = false then ⟨s, m⟩ :: b :: addB l s m true
    else b :: addB l s m done

end Go.Proofs.YtilhjiopbbbgmaaDoor

/- Functions on descriptions: Ready, Open. -/
namespace Go.Proofs.YtilhjiopbbbgmaaDoor
open Nat renaming reduceSub → R1, reduceMul → R2, reduceLeDiff → R3, reducePow → R4, reduceBEq → R5, reduceAdd → R6, reduceEqDiff → R7
open Int renaming reduceToNat → R9
open Go Go.RowKit Am
set_option linter.unusedVariables false
set_option linter.unusedSimpArgs false
set_option maxHeartbeats 4000000
attribute [local irreducible] AWp AOps

structure Nd where
  k : Int
  a : Int
  b : Int
  lo : Int
  hi : Int
  c0 : Int
  c1 : Int
  c2 : Int
  c3 : Int
  s : ByteArray
  deriving Inhabited

def Nd.c (x : Nd) : List C := [.v (.int .i64 x.k), .v (.int .i64 x.a), .v (.int .i64 x.b), .v (.int .i64 x.lo), .v (.int .i64 x.hi), .v (.int .u64 x.c0), .v (.int .u64 x.c1), .v (.int .u64 x.c2), .v (.int .u64 x.c3), .v (.string x.s)]
def ndsC (l : List Nd) : List C := l.flatMap Nd.c
def dC (l : List Nd) : List C := [.sl l.length (ndsC l)]

theorem dC_length (l : List Nd) : (dC l).length = 1 := rfl
theorem dC_take (l : List Nd) : (dC l).take 1 = dC l := rfl
theorem dC_drop (l : List Nd) : (dC l).drop 0 = dC l := rfl
theorem ndsC_length (s : List Nd) : (ndsC s).length = s.length * 10 := by
  induction s with
  | nil => rfl
  | cons x s ih => simp [ndsC, Nd.c] at ih ⊢; omega
theorem ndsC_append (s t : List Nd) : ndsC (s ++ t) = ndsC s ++ ndsC t := by simp [ndsC]
theorem ndsC_drop0 (s : List Nd) (i : Nat) (h : i ≤ s.length) : (ndsC s).drop (i * 10) = ndsC (s.drop i) := by
  have e : ndsC s = ndsC (s.take i) ++ ndsC (s.drop i) := by rw [← ndsC_append, List.take_append_drop]
  rw [e, List.drop_append_of_le_length (by rw [ndsC_length]; simp; omega), List.drop_eq_nil_of_le (by rw [ndsC_length]; simp; omega)]
  rfl
theorem ndsC_drop (s : List Nd) (i : Nat) (h : i < s.length) : (ndsC s).drop (i * 10) = .v (.int .i64 s[i].k) :: .v (.int .i64 s[i].a) :: .v (.int .i64 s[i].b) :: .v (.int .i64 s[i].lo) :: .v (.int .i64 s[i].hi) ::
    .v (.int .u64 s[i].c0) :: .v (.int .u64 s[i].c1) :: .v (.int .u64 s[i].c2) :: .v (.int .u64 s[i].c3) :: .v (.string s[i].s) :: ndsC (s.drop (i + 1)) := by
  rw [ndsC_drop0 s i (by omega), List.drop_eq_getElem_cons h]
  rfl

def nd (d : List Nd) (i : Int) : Nd := d.getD i.toNat default
theorem nd_get (d : List Nd) (i : Nat) (h : i < d.length) : nd d (i : Int) = d[i] := by simp [nd, h]

def rdy (d : List Nd) : List It → Bool
  | [] => true
  | x :: _ => x.k == 3 || (x.k == 4 || (x.k == 1 && ((nd d x.n).k == 2 || ((nd d x.n).k == 8 || (nd d x.n).k == 9))))

def inR (d : List Nd) (x : It) : Prop := 0 ≤ x.n ∧ x.n < d.length

theorem itsC_cons (x : It) (s : List It) : itsC (x :: s) = .v (.int .i64 x.k) :: .v (.int .i64 x.n) :: .v (.int .i64 x.lo) :: .v (.int .i64 x.hi) :: itsC s := rfl
theorem ready_ret (gl : Gl) (d : List Nd) (s : List It) (h : ∀ x ∈ s, inR d x) : Ret Tryd.prog gl 13 [.agg (dC d), .c (stC s)] (bv (rdy d s)) := by
  refine retq (rs := [4]) 49 Tryd.func13 (by kernel_rfl) rfl (by kernel_rfl) rfl (by simp) (by simp) fun Z hN hX hR => ?_
  cases s with
  | nil =>
    repeat (first | ((first | refine Q1 ?_ | refine Q2 ?_); intro Z hN hX hR) | refine Q3 (by kernel_rfl) fun K hK => ?_ | ((first | refine Q4 fun R hJ => ?_ | with_reducible change ExpAll _ _ _); simp only [kS, R1, R2, R3, R4, R5, R6, R7, reduceCtorEq, R9]) | (refine hJ _ ?_; clear hJ R) | refine Q5 ?_ | (refine hK _ ?_; clear hK K) | ((first | refine hN _ ?_ | refine hX _ _ ?_ | refine hR _ ?_); clear hN hX hR Z) | refine Q6 rfl ?_ | refine Q7 (by decide) ?_ | (refine Q8 ?_ ?_; focus (simp only [kS, R1, R2, R3, R4, R5, R6, R7, reduceCtorEq, R9]; done)) | (refine Q9 ?_ ?_; focus (simp only [kS, R1, R2, R3, R4, R5, R6, R7, reduceCtorEq, R9]; done)) | refine Qa ?_ | refine Qb ?_ | refine Qc ?_ | refine And.intro (by first | assumption | omega) ?_)
    rfl
  | cons x s =>
    obtain ⟨h1, h2⟩ := h x (by simp)
    obtain ⟨k, n, lo, hi⟩ := x
    obtain ⟨m, rfl⟩ : ∃ m : Nat, n = m := ⟨n.toNat, by simp at h1; omega⟩
    have hm : m < d.length := by simpa using h2
    simp only [dC]
    have e := ndsC_drop d m hm
    have e' := nd_get d m hm
    cases h3 : (k == 3)
    · cases h4 : (k == 4)
      · repeat (first | ((first | refine Q1 ?_ | refine Q2 ?_); intro Z hN hX hR) | refine Q3 (by kernel_rfl) fun K hK => ?_ | ((first | refine Q4 fun R hJ => ?_ | with_reducible change ExpAll _ _ _); simp only [kS, R1, R2, R3, R4, R5, R6, R7, reduceCtorEq, R9, itsC_cons, itsC_length, h3, h4, e, hm, ndsC_length]) | (refine hJ _ ?_; clear hJ R) | refine Q5 ?_ | (refine hK _ ?_; clear hK K) | ((first | refine hN _ ?_ | refine hX _ _ ?_ | refine hR _ ?_); clear hN hX hR Z) | refine Q6 rfl ?_ | refine Q7 (by decide) ?_ | (refine Q8 ?_ ?_; focus (simp only [kS, R1, R2, R3, R4, R5, R6, R7, reduceCtorEq, R9, itsC_cons, itsC_length, h3, h4, e, hm, ndsC_length]; done)) | (refine Q9 ?_ ?_; focus (simp only [kS, R1, R2, R3, R4, R5, R6, R7, reduceCtorEq, R9, itsC_cons, itsC_length, h3, h4, e, hm, ndsC_length]; done)) | refine Qa ?_ | refine Qb ?_ | refine Qc ?_ | refine And.intro (by first | assumption | omega) ?_)
        cases h1 : (k == 1)
        · repeat (first | ((first | refine Q1 ?_ | refine Q2 ?_); intro Z hN hX hR) | refine Q3 (by kernel_rfl) fun K hK => ?_ | ((first | refine Q4 fun R hJ => ?_ | with_reducible change ExpAll _ _ _); simp only [kS, R1, R2, R3, R4, R5, R6, R7, reduceCtorEq, R9, itsC_cons, itsC_length, h1]) | (refine hJ _ ?_; clear hJ R) | refine Q5 ?_ | (refine hK _ ?_; clear hK K) | ((first | refine hN _ ?_ | refine hX _ _ ?_ | refine hR _ ?_); clear hN hX hR Z) | refine Q6 rfl ?_ | refine Q7 (by decide) ?_ | (refine Q8 ?_ ?_; focus (simp only [kS, R1, R2, R3, R4, R5, R6, R7, reduceCtorEq, R9, itsC_cons, itsC_length, h1]; done)) | (refine Q9 ?_ ?_; focus (simp only [kS, R1, R2, R3, R4, R5, R6, R7, reduceCtorEq, R9, itsC_cons, itsC_length, h1]; done)) | refine Qa ?_ | refine Qb ?_ | refine Qc ?_ | refine And.intro (by first | assumption | omega) ?_)
          simp only [rdy, h3, h4, h1, Bool.false_and, Bool.false_or]
        · cases g2 : (d[m].k == 2)
          · cases g8 : (d[m].k == 8)
            · repeat (first | ((first | refine Q1 ?_ | refine Q2 ?_); intro Z hN hX hR) | refine Q3 (by kernel_rfl) fun K hK => ?_ | ((first | refine Q4 fun R hJ => ?_ | with_reducible change ExpAll _ _ _); simp only [kS, R1, R2, R3, R4, R5, R6, R7, reduceCtorEq, R9, itsC_cons, itsC_length, h1, g2, g8]) | (refine hJ _ ?_; clear hJ R) | refine Q5 ?_ | (refine hK _ ?_; clear hK K) | ((first | refine hN _ ?_ | refine hX _ _ ?_ | refine hR _ ?_); clear hN hX hR Z) | refine Q6 rfl ?_ | refine Q7 (by decide) ?_ | (refine Q8 ?_ ?_; focus (simp only [kS, R1, R2, R3, R4, R5, R6, R7, reduceCtorEq, R9, itsC_cons, itsC_length, h1, g2, g8]; done)) | (refine Q9 ?_ ?_; focus (simp only [kS, R1, R2, R3, R4, R5, R6, R7, reduceCtorEq, R9, itsC_cons, itsC_length, h1, g2, g8]; done)) | refine Qa ?_ | refine Qb ?_ | refine Qc ?_ | refine And.intro (by first | assumption | omega) ?_)
              simp only [rdy, e', h3, h4, h1, g2, g8, Bool.true_and, Bool.false_or]
            · repeat (first | ((first | refine Q1 ?_ | refine Q2 ?_); intro Z hN hX hR) | refine Q3 (by kernel_rfl) fun K hK => ?_ | ((first | refine Q4 fun R hJ => ?_ | with_reducible change ExpAll _ _ _); simp only [kS, R1, R2, R3, R4, R5, R6, R7, reduceCtorEq, R9, itsC_cons, itsC_length, h1, g2, g8]) | (refine hJ _ ?_; clear hJ R) | refine Q5 ?_ | (refine hK _ ?_; clear hK K) | ((first | refine hN _ ?_ | refine hX _ _ ?_ | refine hR _ ?_); clear hN hX hR Z) | refine Q6 rfl ?_ | refine Q7 (by decide) ?_ | (refine Q8 ?_ ?_; focus (simp only [kS, R1, R2, R3, R4, R5, R6, R7, reduceCtorEq, R9, itsC_cons, itsC_length, h1, g2, g8]; done)) | (refine Q9 ?_ ?_; focus (simp only [kS, R1, R2, R3, R4, R5, R6, R7, reduceCtorEq, R9, itsC_cons, itsC_length, h1, g2, g8]; done)) | refine Qa ?_ | refine Qb ?_ | refine Qc ?_ | refine And.intro (by first | assumption | omega) ?_)
              simp only [rdy, e', h3, h4, h1, g2, g8, Bool.true_and, Bool.false_or, Bool.true_or]
          · repeat (first | ((first | refine Q1 ?_ | refine Q2 ?_); intro Z hN hX hR) | refine Q3 (by kernel_rfl) fun K hK => ?_ | ((first | refine Q4 fun R hJ => ?_ | with_reducible change ExpAll _ _ _); simp only [kS, R1, R2, R3, R4, R5, R6, R7, reduceCtorEq, R9, itsC_cons, itsC_length, h1, g2]) | (refine hJ _ ?_; clear hJ R) | refine Q5 ?_ | (refine hK _ ?_; clear hK K) | ((first | refine hN _ ?_ | refine hX _ _ ?_ | refine hR _ ?_); clear hN hX hR Z) | refine Q6 rfl ?_ | refine Q7 (by decide) ?_ | (refine Q8 ?_ ?_; focus (simp only [kS, R1, R2, R3, R4, R5, R6, R7, reduceCtorEq, R9, itsC_cons, itsC_length, h1, g2]; done)) | (refine Q9 ?_ ?_; focus (simp only [kS, R1, R2, R3, R4, R5, R6, R7, reduceCtorEq, R9, itsC_cons, itsC_length, h1, g2]; done)) | refine Qa ?_ | refine Qb ?_ | refine Qc ?_ | refine And.intro (by first | assumption | omega) ?_)
            simp only [rdy, e', h3, h4, h1, g2, Bool.true_and, Bool.false_or, Bool.true_or]
      · repeat (first | ((first | refine Q1 ?_ | refine Q2 ?_); intro Z hN hX hR) | refine Q3 (by kernel_rfl) fun K hK => ?_ | ((first | refine Q4 fun R hJ => ?_ | with_reducible change ExpAll _ _ _); simp only [kS, R1, R2, R3, R4, R5, R6, R7, reduceCtorEq, R9, itsC_cons, itsC_length, h3, h4]) | (refine hJ _ ?_; clear hJ R) | refine Q5 ?_ | (refine hK _ ?_; clear hK K) | ((first | refine hN _ ?_ | refine hX _ _ ?_ | refine hR _ ?_); clear hN hX hR Z) | refine Q6 rfl ?_ | refine Q7 (by decide) ?_ | (refine Q8 ?_ ?_; focus (simp only [kS, R1, R2, R3, R4, R5, R6, R7, reduceCtorEq, R9, itsC_cons, itsC_length, h3, h4]; done)) | (refine Q9 ?_ ?_; focus (simp only [kS, R1, R2, R3, R4, R5, R6, R7, reduceCtorEq, R9, itsC_cons, itsC_length, h3, h4]; done)) | refine Qa ?_ | refine Qb ?_ | refine Qc ?_ | refine And.intro (by first | assumption | omega) ?_)
        simp only [rdy, h3, h4, Bool.true_or, Bool.or_true]
    · repeat (first | ((first | refine Q1 ?_ | refine Q2 ?_); intro Z hN hX hR) | refine Q3 (by kernel_rfl) fun K hK => ?_ | ((first | refine Q4 fun R hJ => ?_ | with_reducible change ExpAll _ _ _); simp only [kS, R1, R2, R3, R4, R5, R6, R7, reduceCtorEq, R9, itsC_cons, itsC_length, h3]) | (refine hJ _ ?_; clear hJ R) | refine Q5 ?_ | (refine hK _ ?_; clear hK K) | ((first | refine hN _ ?_ | refine hX _ _ ?_ | refine hR _ ?_); clear hN hX hR Z) | refine Q6 rfl ?_ | refine Q7 (by decide) ?_ | (refine Q8 ?_ ?_; focus (simp only [kS, R1, R2, R3, R4, R5, R6, R7, reduceCtorEq, R9, itsC_cons, itsC_length, h3]; done)) | (refine Q9 ?_ ?_; focus (simp only [kS, R1, R2, R3, R4, R5, R6, R7, reduceCtorEq, R9, itsC_cons, itsC_length, h3]; done)) | refine Qa ?_ | refine Qb ?_ | refine Qc ?_ | refine And.intro (by first | assumption | omega) ?_)
      simp only [rdy, h3, Bool.true_or]

end Go.Proofs.YtilhjiopbbbgmaaDoor

/- What a state opens to: the document's Open. -/
namespace Go.Proofs.YtilhjiopbbbgmaaDoor
open Nat renaming reduceSub → R1, reduceMul → R2, reduceLeDiff → R3, reducePow → R4, reduceBEq → R5, reduceAdd → R6, reduceEqDiff → R7
open Int renaming reduceToNat → R9
open Go Go.RowKit Am
set_option linter.unusedVariables false
set_option linter.unusedSimpArgs false
set_option maxHeartbeats 4000000
attribute [local irreducible] AWp AOps

def openS (d : List Nd) : List It → List (List It)
  | [] => []
  | x :: rest =>
    if (x.k == 5) = true then (if (x.lo == 0) = true then [rest] else [])
    else if (x.k == 2) = true then (if (x.lo == 0) = true then [rest] else []) ++ (if 0 < x.hi then [⟨1, (nd d x.n).a, 0, 0⟩ :: ⟨2, x.n, if 0 < x.lo - 1 then x.lo - 1 else 0, x.hi - 1⟩ :: rest] else [])
    else if ((nd d x.n).k == 1) = true then [rest]
    else if ((nd d x.n).k == 3) = true then [⟨3, x.n, 0, 0⟩ :: rest]
    else if ((nd d x.n).k == 4) = true then [⟨1, (nd d x.n).a, 0, 0⟩ :: ⟨1, (nd d x.n).b, 0, 0⟩ :: rest]
    else if ((nd d x.n).k == 5) = true then [⟨1, (nd d x.n).a, 0, 0⟩ :: rest, ⟨1, (nd d x.n).b, 0, 0⟩ :: rest]
    else if ((nd d x.n).k == 6) = true then [rest, ⟨1, (nd d x.n).a, 0, 0⟩ :: x :: rest]
    else if ((nd d x.n).k == 7) = true then [⟨2, x.n, (nd d x.n).lo, (nd d x.n).hi⟩ :: rest]
    else []

def ssC (l : List (List It)) : List C := l.map fun s => stC s
abbrev ssS (l : List (List It)) : C := .sl l.length (ssC l)

def smIt (d : List Nd) (x : It) : Prop := inR d x ∧ 0 ≤ x.lo ∧ x.lo ≤ 1000000 ∧ x.hi ≤ 1000000

theorem open_ret (gl : Gl) (d : List Nd) (x : It) (s : List It) (h : smIt d x) (hs : s.length ≤ 1000000) : Ret Tryd.prog gl 18 [.agg (dC d), .c (stC (x :: s))] (.c (ssS (openS d (x :: s)))) := by
  refine retq (rs := [4]) 143 Tryd.func18 (by kernel_rfl) rfl (by kernel_rfl) rfl (by simp) (by simp) fun Z hN hX hR => ?_
  obtain ⟨k, n, lo, hi⟩ := x
  obtain ⟨⟨i1, i2⟩, l1, l2, l3⟩ := h
  simp only at i1 i2 l1 l2 l3
  obtain ⟨m, rfl⟩ : ∃ m : Nat, n = m := ⟨n.toNat, by omega⟩
  have hm : m < d.length := by omega
  have e := ndsC_drop d m hm
  have e' := nd_get d m hm
  have hl := ndsC_length d
  have hi' := itsC_length s
  have et : (itsC s).take (s.length * 4) = itsC s := List.take_of_length_le (by omega)
  have hlt : (m : Int) < d.length := by omega
  simp only [dC]
  repeat (first | ((first | refine Q1 ?_ | refine Q2 ?_); intro Z hN hX hR) | refine Q3 (by kernel_rfl) fun K hK => ?_ | ((first | refine Q4 fun R hJ => ?_ | with_reducible change ExpAll _ _ _); simp only [kS, R1, R2, R3, R4, R5, R6, R7, reduceCtorEq, R9, e, hl, hm, hlt, itsC_cons, hi']) | (refine hJ _ ?_; clear hJ R) | refine Q5 ?_ | (refine hK _ ?_; clear hK K) | ((first | refine hN _ ?_ | refine hX _ _ ?_ | refine hR _ ?_); clear hN hX hR Z) | refine Q6 rfl ?_ | refine Q7 (by decide) ?_ | (refine Q8 ?_ ?_; focus (simp only [kS, R1, R2, R3, R4, R5, R6, R7, reduceCtorEq, R9, e, hl, hm, hlt, itsC_cons, hi']; done)) | (refine Q9 ?_ ?_; focus (simp only [kS, R1, R2, R3, R4, R5, R6, R7, reduceCtorEq, R9, e, hl, hm, hlt, itsC_cons, hi']; done)) | refine Qa ?_ | refine Qb ?_ | refine Qc ?_ | refine And.intro (by first | assumption | omega) ?_)
  cases k5 : (k == 5)
  · cases k2 : (k == 2)
    · cases g1 : (d[m].k == 1)
      · cases g3 : (d[m].k == 3)
        · cases g4 : (d[m].k == 4)
          · cases g5 : (d[m].k == 5)
            · cases g6 : (d[m].k == 6)
              · cases g7 : (d[m].k == 7)
                · repeat (first | ((first | refine Q1 ?_ | refine Q2 ?_); intro Z hN hX hR) | refine Q3 (by kernel_rfl) fun K hK => ?_ | ((first | refine Q4 fun R hJ => ?_ | with_reducible change ExpAll _ _ _); simp only [kS, R1, R2, R3, R4, R5, R6, R7, reduceCtorEq, R9, k5, k2, g1, g3, g4, g5, g6, g7, hi', et, Nat.add_one_sub_one, tk1, tk2, tk3, tk4, tk5, tk6, tk7, tk8, and_false, false_and]) | (refine hJ _ ?_; clear hJ R) | refine Q5 ?_ | (refine hK _ ?_; clear hK K) | ((first | refine hN _ ?_ | refine hX _ _ ?_ | refine hR _ ?_); clear hN hX hR Z) | refine Q6 rfl ?_ | refine Q7 (by decide) ?_ | (refine Q8 ?_ ?_; focus (simp only [kS, R1, R2, R3, R4, R5, R6, R7, reduceCtorEq, R9, k5, k2, g1, g3, g4, g5, g6, g7, hi', et, Nat.add_one_sub_one, tk1, tk2, tk3, tk4, tk5, tk6, tk7, tk8, and_false, false_and]; done)) | (refine Q9 ?_ ?_; focus (simp only [kS, R1, R2, R3, R4, R5, R6, R7, reduceCtorEq, R9, k5, k2, g1, g3, g4, g5, g6, g7, hi', et, Nat.add_one_sub_one, tk1, tk2, tk3, tk4, tk5, tk6, tk7, tk8, and_false, false_and]; done)) | refine Qa ?_ | refine Qb ?_ | refine Qc ?_ | refine And.intro (by first | assumption | omega) ?_)
                  simp only [openS, e', k5, k2, g1, g3, g4, g5, g6, g7, Bool.false_eq_true, if_false, if_true, List.nil_append, List.cons_append, List.append_nil]
                  exact .inr rfl
                · repeat (first | ((first | refine Q1 ?_ | refine Q2 ?_); intro Z hN hX hR) | refine Q3 (by kernel_rfl) fun K hK => ?_ | ((first | refine Q4 fun R hJ => ?_ | with_reducible change ExpAll _ _ _); simp only [kS, R1, R2, R3, R4, R5, R6, R7, reduceCtorEq, R9, k5, k2, g1, g3, g4, g5, g6, g7, hi', et, Nat.add_one_sub_one, tk1, tk2, tk3, tk4, tk5, tk6, tk7, tk8, and_false, false_and]) | (refine hJ _ ?_; clear hJ R) | refine Q5 ?_ | (refine hK _ ?_; clear hK K) | ((first | refine hN _ ?_ | refine hX _ _ ?_ | refine hR _ ?_); clear hN hX hR Z) | refine Q6 rfl ?_ | refine Q7 (by decide) ?_ | (refine Q8 ?_ ?_; focus (simp only [kS, R1, R2, R3, R4, R5, R6, R7, reduceCtorEq, R9, k5, k2, g1, g3, g4, g5, g6, g7, hi', et, Nat.add_one_sub_one, tk1, tk2, tk3, tk4, tk5, tk6, tk7, tk8, and_false, false_and]; done)) | (refine Q9 ?_ ?_; focus (simp only [kS, R1, R2, R3, R4, R5, R6, R7, reduceCtorEq, R9, k5, k2, g1, g3, g4, g5, g6, g7, hi', et, Nat.add_one_sub_one, tk1, tk2, tk3, tk4, tk5, tk6, tk7, tk8, and_false, false_and]; done)) | refine Qa ?_ | refine Qb ?_ | refine Qc ?_ | refine And.intro (by first | assumption | omega) ?_)
                  refine ⟨_, ahead_ret gl [⟨2, m, d[m].lo, d[m].hi⟩] s (by simp; omega), rfl, ?_⟩
                  simp only [kS, R1, R2, R3, R4, R5, R6, R7, reduceCtorEq, R9, k5, k2, g1, g3, g4, g5, g6, g7, hi', et, Nat.add_one_sub_one, tk1, tk2, tk3, tk4, tk5, tk6, tk7, tk8, and_false, false_and]
                  repeat (first | ((first | refine Q1 ?_ | refine Q2 ?_); intro Z hN hX hR) | refine Q3 (by kernel_rfl) fun K hK => ?_ | ((first | refine Q4 fun R hJ => ?_ | with_reducible change ExpAll _ _ _); simp only [kS, R1, R2, R3, R4, R5, R6, R7, reduceCtorEq, R9, k5, k2, g1, g3, g4, g5, g6, g7, hi', et, Nat.add_one_sub_one, tk1, tk2, tk3, tk4, tk5, tk6, tk7, tk8, and_false, false_and]) | (refine hJ _ ?_; clear hJ R) | refine Q5 ?_ | (refine hK _ ?_; clear hK K) | ((first | refine hN _ ?_ | refine hX _ _ ?_ | refine hR _ ?_); clear hN hX hR Z) | refine Q6 rfl ?_ | refine Q7 (by decide) ?_ | (refine Q8 ?_ ?_; focus (simp only [kS, R1, R2, R3, R4, R5, R6, R7, reduceCtorEq, R9, k5, k2, g1, g3, g4, g5, g6, g7, hi', et, Nat.add_one_sub_one, tk1, tk2, tk3, tk4, tk5, tk6, tk7, tk8, and_false, false_and]; done)) | (refine Q9 ?_ ?_; focus (simp only [kS, R1, R2, R3, R4, R5, R6, R7, reduceCtorEq, R9, k5, k2, g1, g3, g4, g5, g6, g7, hi', et, Nat.add_one_sub_one, tk1, tk2, tk3, tk4, tk5, tk6, tk7, tk8, and_false, false_and]; done)) | refine Qa ?_ | refine Qb ?_ | refine Qc ?_ | refine And.intro (by first | assumption | omega) ?_)
                  simp only [openS, e', k5, k2, g1, g3, g4, g5, g6, g7, Bool.false_eq_true, if_false, if_true, List.nil_append, List.cons_append, List.append_nil]
                  exact .inl (by simp only [ssS, ssC, List.map_cons, List.map_nil, List.length_cons, List.length_nil, Nat.add_comm 1, Nat.add_comm 2] <;> rfl)
              · repeat (first | ((first | refine Q1 ?_ | refine Q2 ?_); intro Z hN hX hR) | refine Q3 (by kernel_rfl) fun K hK => ?_ | ((first | refine Q4 fun R hJ => ?_ | with_reducible change ExpAll _ _ _); simp only [kS, R1, R2, R3, R4, R5, R6, R7, reduceCtorEq, R9, k5, k2, g1, g3, g4, g5, g6, hi', et, Nat.add_one_sub_one, tk1, tk2, tk3, tk4, tk5, tk6, tk7, tk8, and_false, false_and]) | (refine hJ _ ?_; clear hJ R) | refine Q5 ?_ | (refine hK _ ?_; clear hK K) | ((first | refine hN _ ?_ | refine hX _ _ ?_ | refine hR _ ?_); clear hN hX hR Z) | refine Q6 rfl ?_ | refine Q7 (by decide) ?_ | (refine Q8 ?_ ?_; focus (simp only [kS, R1, R2, R3, R4, R5, R6, R7, reduceCtorEq, R9, k5, k2, g1, g3, g4, g5, g6, hi', et, Nat.add_one_sub_one, tk1, tk2, tk3, tk4, tk5, tk6, tk7, tk8, and_false, false_and]; done)) | (refine Q9 ?_ ?_; focus (simp only [kS, R1, R2, R3, R4, R5, R6, R7, reduceCtorEq, R9, k5, k2, g1, g3, g4, g5, g6, hi', et, Nat.add_one_sub_one, tk1, tk2, tk3, tk4, tk5, tk6, tk7, tk8, and_false, false_and]; done)) | refine Qa ?_ | refine Qb ?_ | refine Qc ?_ | refine And.intro (by first | assumption | omega) ?_)
                refine ⟨_, ahead_ret gl [] s (by simp; omega), rfl, ?_⟩
                simp only [kS, R1, R2, R3, R4, R5, R6, R7, reduceCtorEq, R9, k5, k2, g1, g3, g4, g5, g6, hi', et, Nat.add_one_sub_one, tk1, tk2, tk3, tk4, tk5, tk6, tk7, tk8, and_false, false_and]
                repeat (first | ((first | refine Q1 ?_ | refine Q2 ?_); intro Z hN hX hR) | refine Q3 (by kernel_rfl) fun K hK => ?_ | ((first | refine Q4 fun R hJ => ?_ | with_reducible change ExpAll _ _ _); simp only [kS, R1, R2, R3, R4, R5, R6, R7, reduceCtorEq, R9, k5, k2, g1, g3, g4, g5, g6, hi', et, Nat.add_one_sub_one, tk1, tk2, tk3, tk4, tk5, tk6, tk7, tk8, and_false, false_and]) | (refine hJ _ ?_; clear hJ R) | refine Q5 ?_ | (refine hK _ ?_; clear hK K) | ((first | refine hN _ ?_ | refine hX _ _ ?_ | refine hR _ ?_); clear hN hX hR Z) | refine Q6 rfl ?_ | refine Q7 (by decide) ?_ | (refine Q8 ?_ ?_; focus (simp only [kS, R1, R2, R3, R4, R5, R6, R7, reduceCtorEq, R9, k5, k2, g1, g3, g4, g5, g6, hi', et, Nat.add_one_sub_one, tk1, tk2, tk3, tk4, tk5, tk6, tk7, tk8, and_false, false_and]; done)) | (refine Q9 ?_ ?_; focus (simp only [kS, R1, R2, R3, R4, R5, R6, R7, reduceCtorEq, R9, k5, k2, g1, g3, g4, g5, g6, hi', et, Nat.add_one_sub_one, tk1, tk2, tk3, tk4, tk5, tk6, tk7, tk8, and_false, false_and]; done)) | refine Qa ?_ | refine Qb ?_ | refine Qc ?_ | refine And.intro (by first | assumption | omega) ?_)
                refine ⟨_, ahead_ret gl [⟨1, d[m].a, 0, 0⟩, ⟨k, m, lo, hi⟩] s (by simp; omega), rfl, ?_⟩
                simp only [kS, R1, R2, R3, R4, R5, R6, R7, reduceCtorEq, R9, k5, k2, g1, g3, g4, g5, g6, hi', et, Nat.add_one_sub_one, tk1, tk2, tk3, tk4, tk5, tk6, tk7, tk8, and_false, false_and]
                repeat (first | ((first | refine Q1 ?_ | refine Q2 ?_); intro Z hN hX hR) | refine Q3 (by kernel_rfl) fun K hK => ?_ | ((first | refine Q4 fun R hJ => ?_ | with_reducible change ExpAll _ _ _); simp only [kS, R1, R2, R3, R4, R5, R6, R7, reduceCtorEq, R9, k5, k2, g1, g3, g4, g5, g6, hi', et, Nat.add_one_sub_one, tk1, tk2, tk3, tk4, tk5, tk6, tk7, tk8, and_false, false_and]) | (refine hJ _ ?_; clear hJ R) | refine Q5 ?_ | (refine hK _ ?_; clear hK K) | ((first | refine hN _ ?_ | refine hX _ _ ?_ | refine hR _ ?_); clear hN hX hR Z) | refine Q6 rfl ?_ | refine Q7 (by decide) ?_ | (refine Q8 ?_ ?_; focus (simp only [kS, R1, R2, R3, R4, R5, R6, R7, reduceCtorEq, R9, k5, k2, g1, g3, g4, g5, g6, hi', et, Nat.add_one_sub_one, tk1, tk2, tk3, tk4, tk5, tk6, tk7, tk8, and_false, false_and]; done)) | (refine Q9 ?_ ?_; focus (simp only [kS, R1, R2, R3, R4, R5, R6, R7, reduceCtorEq, R9, k5, k2, g1, g3, g4, g5, g6, hi', et, Nat.add_one_sub_one, tk1, tk2, tk3, tk4, tk5, tk6, tk7, tk8, and_false, false_and]; done)) | refine Qa ?_ | refine Qb ?_ | refine Qc ?_ | refine And.intro (by first | assumption | omega) ?_)
                simp only [openS, e', k5, k2, g1, g3, g4, g5, g6, Bool.false_eq_true, if_false, if_true, List.nil_append, List.cons_append, List.append_nil]
                exact .inl (by simp only [ssS, ssC, List.map_cons, List.map_nil, List.length_cons, List.length_nil, Nat.add_comm 1, Nat.add_comm 2] <;> rfl)
            · repeat (first | ((first | refine Q1 ?_ | refine Q2 ?_); intro Z hN hX hR) | refine Q3 (by kernel_rfl) fun K hK => ?_ | ((first | refine Q4 fun R hJ => ?_ | with_reducible change ExpAll _ _ _); simp only [kS, R1, R2, R3, R4, R5, R6, R7, reduceCtorEq, R9, k5, k2, g1, g3, g4, g5, hi', et, Nat.add_one_sub_one, tk1, tk2, tk3, tk4, tk5, tk6, tk7, tk8, and_false, false_and]) | (refine hJ _ ?_; clear hJ R) | refine Q5 ?_ | (refine hK _ ?_; clear hK K) | ((first | refine hN _ ?_ | refine hX _ _ ?_ | refine hR _ ?_); clear hN hX hR Z) | refine Q6 rfl ?_ | refine Q7 (by decide) ?_ | (refine Q8 ?_ ?_; focus (simp only [kS, R1, R2, R3, R4, R5, R6, R7, reduceCtorEq, R9, k5, k2, g1, g3, g4, g5, hi', et, Nat.add_one_sub_one, tk1, tk2, tk3, tk4, tk5, tk6, tk7, tk8, and_false, false_and]; done)) | (refine Q9 ?_ ?_; focus (simp only [kS, R1, R2, R3, R4, R5, R6, R7, reduceCtorEq, R9, k5, k2, g1, g3, g4, g5, hi', et, Nat.add_one_sub_one, tk1, tk2, tk3, tk4, tk5, tk6, tk7, tk8, and_false, false_and]; done)) | refine Qa ?_ | refine Qb ?_ | refine Qc ?_ | refine And.intro (by first | assumption | omega) ?_)
              refine ⟨_, ahead_ret gl [⟨1, d[m].a, 0, 0⟩] s (by simp; omega), rfl, ?_⟩
              simp only [kS, R1, R2, R3, R4, R5, R6, R7, reduceCtorEq, R9, k5, k2, g1, g3, g4, g5, hi', et, Nat.add_one_sub_one, tk1, tk2, tk3, tk4, tk5, tk6, tk7, tk8, and_false, false_and]
              repeat (first | ((first | refine Q1 ?_ | refine Q2 ?_); intro Z hN hX hR) | refine Q3 (by kernel_rfl) fun K hK => ?_ | ((first | refine Q4 fun R hJ => ?_ | with_reducible change ExpAll _ _ _); simp only [kS, R1, R2, R3, R4, R5, R6, R7, reduceCtorEq, R9, k5, k2, g1, g3, g4, g5, hi', et, Nat.add_one_sub_one, tk1, tk2, tk3, tk4, tk5, tk6, tk7, tk8, and_false, false_and]) | (refine hJ _ ?_; clear hJ R) | refine Q5 ?_ | (refine hK _ ?_; clear hK K) | ((first | refine hN _ ?_ | refine hX _ _ ?_ | refine hR _ ?_); clear hN hX hR Z) | refine Q6 rfl ?_ | refine Q7 (by decide) ?_ | (refine Q8 ?_ ?_; focus (simp only [kS, R1, R2, R3, R4, R5, R6, R7, reduceCtorEq, R9, k5, k2, g1, g3, g4, g5, hi', et, Nat.add_one_sub_one, tk1, tk2, tk3, tk4, tk5, tk6, tk7, tk8, and_false, false_and]; done)) | (refine Q9 ?_ ?_; focus (simp only [kS, R1, R2, R3, R4, R5, R6, R7, reduceCtorEq, R9, k5, k2, g1, g3, g4, g5, hi', et, Nat.add_one_sub_one, tk1, tk2, tk3, tk4, tk5, tk6, tk7, tk8, and_false, false_and]; done)) | refine Qa ?_ | refine Qb ?_ | refine Qc ?_ | refine And.intro (by first | assumption | omega) ?_)
              refine ⟨_, ahead_ret gl [⟨1, d[m].b, 0, 0⟩] s (by simp; omega), rfl, ?_⟩
              simp only [kS, R1, R2, R3, R4, R5, R6, R7, reduceCtorEq, R9, k5, k2, g1, g3, g4, g5, hi', et, Nat.add_one_sub_one, tk1, tk2, tk3, tk4, tk5, tk6, tk7, tk8, and_false, false_and]
              repeat (first | ((first | refine Q1 ?_ | refine Q2 ?_); intro Z hN hX hR) | refine Q3 (by kernel_rfl) fun K hK => ?_ | ((first | refine Q4 fun R hJ => ?_ | with_reducible change ExpAll _ _ _); simp only [kS, R1, R2, R3, R4, R5, R6, R7, reduceCtorEq, R9, k5, k2, g1, g3, g4, g5, hi', et, Nat.add_one_sub_one, tk1, tk2, tk3, tk4, tk5, tk6, tk7, tk8, and_false, false_and]) | (refine hJ _ ?_; clear hJ R) | refine Q5 ?_ | (refine hK _ ?_; clear hK K) | ((first | refine hN _ ?_ | refine hX _ _ ?_ | refine hR _ ?_); clear hN hX hR Z) | refine Q6 rfl ?_ | refine Q7 (by decide) ?_ | (refine Q8 ?_ ?_; focus (simp only [kS, R1, R2, R3, R4, R5, R6, R7, reduceCtorEq, R9, k5, k2, g1, g3, g4, g5, hi', et, Nat.add_one_sub_one, tk1, tk2, tk3, tk4, tk5, tk6, tk7, tk8, and_false, false_and]; done)) | (refine Q9 ?_ ?_; focus (simp only [kS, R1, R2, R3, R4, R5, R6, R7, reduceCtorEq, R9, k5, k2, g1, g3, g4, g5, hi', et, Nat.add_one_sub_one, tk1, tk2, tk3, tk4, tk5, tk6, tk7, tk8, and_false, false_and]; done)) | refine Qa ?_ | refine Qb ?_ | refine Qc ?_ | refine And.intro (by first | assumption | omega) ?_)
              simp only [openS, e', k5, k2, g1, g3, g4, g5, Bool.false_eq_true, if_false, if_true, List.nil_append, List.cons_append, List.append_nil]
              exact .inl (by simp only [ssS, ssC, List.map_cons, List.map_nil, List.length_cons, List.length_nil, Nat.add_comm 1, Nat.add_comm 2] <;> rfl)
          · repeat (first | ((first | refine Q1 ?_ | refine Q2 ?_); intro Z hN hX hR) | refine Q3 (by kernel_rfl) fun K hK => ?_ | ((first | refine Q4 fun R hJ => ?_ | with_reducible change ExpAll _ _ _); simp only [kS, R1, R2, R3, R4, R5, R6, R7, reduceCtorEq, R9, k5, k2, g1, g3, g4, hi', et, Nat.add_one_sub_one, tk1, tk2, tk3, tk4, tk5, tk6, tk7, tk8, and_false, false_and]) | (refine hJ _ ?_; clear hJ R) | refine Q5 ?_ | (refine hK _ ?_; clear hK K) | ((first | refine hN _ ?_ | refine hX _ _ ?_ | refine hR _ ?_); clear hN hX hR Z) | refine Q6 rfl ?_ | refine Q7 (by decide) ?_ | (refine Q8 ?_ ?_; focus (simp only [kS, R1, R2, R3, R4, R5, R6, R7, reduceCtorEq, R9, k5, k2, g1, g3, g4, hi', et, Nat.add_one_sub_one, tk1, tk2, tk3, tk4, tk5, tk6, tk7, tk8, and_false, false_and]; done)) | (refine Q9 ?_ ?_; focus (simp only [kS, R1, R2, R3, R4, R5, R6, R7, reduceCtorEq, R9, k5, k2, g1, g3, g4, hi', et, Nat.add_one_sub_one, tk1, tk2, tk3, tk4, tk5, tk6, tk7, tk8, and_false, false_and]; done)) | refine Qa ?_ | refine Qb ?_ | refine Qc ?_ | refine And.intro (by first | assumption | omega) ?_)
            refine ⟨_, ahead_ret gl [⟨1, d[m].a, 0, 0⟩, ⟨1, d[m].b, 0, 0⟩] s (by simp; omega), rfl, ?_⟩
            simp only [kS, R1, R2, R3, R4, R5, R6, R7, reduceCtorEq, R9, k5, k2, g1, g3, g4, hi', et, Nat.add_one_sub_one, tk1, tk2, tk3, tk4, tk5, tk6, tk7, tk8, and_false, false_and]
            repeat (first | ((first | refine Q1 ?_ | refine Q2 ?_); intro Z hN hX hR) | refine Q3 (by kernel_rfl) fun K hK => ?_ | ((first | refine Q4 fun R hJ => ?_ | with_reducible change ExpAll _ _ _); simp only [kS, R1, R2, R3, R4, R5, R6, R7, reduceCtorEq, R9, k5, k2, g1, g3, g4, hi', et, Nat.add_one_sub_one, tk1, tk2, tk3, tk4, tk5, tk6, tk7, tk8, and_false, false_and]) | (refine hJ _ ?_; clear hJ R) | refine Q5 ?_ | (refine hK _ ?_; clear hK K) | ((first | refine hN _ ?_ | refine hX _ _ ?_ | refine hR _ ?_); clear hN hX hR Z) | refine Q6 rfl ?_ | refine Q7 (by decide) ?_ | (refine Q8 ?_ ?_; focus (simp only [kS, R1, R2, R3, R4, R5, R6, R7, reduceCtorEq, R9, k5, k2, g1, g3, g4, hi', et, Nat.add_one_sub_one, tk1, tk2, tk3, tk4, tk5, tk6, tk7, tk8, and_false, false_and]; done)) | (refine Q9 ?_ ?_; focus (simp only [kS, R1, R2, R3, R4, R5, R6, R7, reduceCtorEq, R9, k5, k2, g1, g3, g4, hi', et, Nat.add_one_sub_one, tk1, tk2, tk3, tk4, tk5, tk6, tk7, tk8, and_false, false_and]; done)) | refine Qa ?_ | refine Qb ?_ | refine Qc ?_ | refine And.intro (by first | assumption | omega) ?_)
            simp only [openS, e', k5, k2, g1, g3, g4, Bool.false_eq_true, if_false, if_true, List.nil_append, List.cons_append, List.append_nil]
            exact .inl (by simp only [ssS, ssC, List.map_cons, List.map_nil, List.length_cons, List.length_nil, Nat.add_comm 1, Nat.add_comm 2] <;> rfl)
        · repeat (first | ((first | refine Q1 ?_ | refine Q2 ?_); intro Z hN hX hR) | refine Q3 (by kernel_rfl) fun K hK => ?_ | ((first | refine Q4 fun R hJ => ?_ | with_reducible change ExpAll _ _ _); simp only [kS, R1, R2, R3, R4, R5, R6, R7, reduceCtorEq, R9, k5, k2, g1, g3, hi', et, Nat.add_one_sub_one, tk1, tk2, tk3, tk4, tk5, tk6, tk7, tk8, and_false, false_and]) | (refine hJ _ ?_; clear hJ R) | refine Q5 ?_ | (refine hK _ ?_; clear hK K) | ((first | refine hN _ ?_ | refine hX _ _ ?_ | refine hR _ ?_); clear hN hX hR Z) | refine Q6 rfl ?_ | refine Q7 (by decide) ?_ | (refine Q8 ?_ ?_; focus (simp only [kS, R1, R2, R3, R4, R5, R6, R7, reduceCtorEq, R9, k5, k2, g1, g3, hi', et, Nat.add_one_sub_one, tk1, tk2, tk3, tk4, tk5, tk6, tk7, tk8, and_false, false_and]; done)) | (refine Q9 ?_ ?_; focus (simp only [kS, R1, R2, R3, R4, R5, R6, R7, reduceCtorEq, R9, k5, k2, g1, g3, hi', et, Nat.add_one_sub_one, tk1, tk2, tk3, tk4, tk5, tk6, tk7, tk8, and_false, false_and]; done)) | refine Qa ?_ | refine Qb ?_ | refine Qc ?_ | refine And.intro (by first | assumption | omega) ?_)
          refine ⟨_, ahead_ret gl [⟨3, m, 0, 0⟩] s (by simp; omega), rfl, ?_⟩
          simp only [kS, R1, R2, R3, R4, R5, R6, R7, reduceCtorEq, R9, k5, k2, g1, g3, hi', et, Nat.add_one_sub_one, tk1, tk2, tk3, tk4, tk5, tk6, tk7, tk8, and_false, false_and]
          repeat (first | ((first | refine Q1 ?_ | refine Q2 ?_); intro Z hN hX hR) | refine Q3 (by kernel_rfl) fun K hK => ?_ | ((first | refine Q4 fun R hJ => ?_ | with_reducible change ExpAll _ _ _); simp only [kS, R1, R2, R3, R4, R5, R6, R7, reduceCtorEq, R9, k5, k2, g1, g3, hi', et, Nat.add_one_sub_one, tk1, tk2, tk3, tk4, tk5, tk6, tk7, tk8, and_false, false_and]) | (refine hJ _ ?_; clear hJ R) | refine Q5 ?_ | (refine hK _ ?_; clear hK K) | ((first | refine hN _ ?_ | refine hX _ _ ?_ | refine hR _ ?_); clear hN hX hR Z) | refine Q6 rfl ?_ | refine Q7 (by decide) ?_ | (refine Q8 ?_ ?_; focus (simp only [kS, R1, R2, R3, R4, R5, R6, R7, reduceCtorEq, R9, k5, k2, g1, g3, hi', et, Nat.add_one_sub_one, tk1, tk2, tk3, tk4, tk5, tk6, tk7, tk8, and_false, false_and]; done)) | (refine Q9 ?_ ?_; focus (simp only [kS, R1, R2, R3, R4, R5, R6, R7, reduceCtorEq, R9, k5, k2, g1, g3, hi', et, Nat.add_one_sub_one, tk1, tk2, tk3, tk4, tk5, tk6, tk7, tk8, and_false, false_and]; done)) | refine Qa ?_ | refine Qb ?_ | refine Qc ?_ | refine And.intro (by first | assumption | omega) ?_)
          simp only [openS, e', k5, k2, g1, g3, Bool.false_eq_true, if_false, if_true, List.nil_append, List.cons_append, List.append_nil]
          exact .inl (by simp only [ssS, ssC, List.map_cons, List.map_nil, List.length_cons, List.length_nil, Nat.add_comm 1, Nat.add_comm 2] <;> rfl)
      · repeat (first | ((first | refine Q1 ?_ | refine Q2 ?_); intro Z hN hX hR) | refine Q3 (by kernel_rfl) fun K hK => ?_ | ((first | refine Q4 fun R hJ => ?_ | with_reducible change ExpAll _ _ _); simp only [kS, R1, R2, R3, R4, R5, R6, R7, reduceCtorEq, R9, k5, k2, g1, hi', et, Nat.add_one_sub_one, tk1, tk2, tk3, tk4, tk5, tk6, tk7, tk8, and_false, false_and]) | (refine hJ _ ?_; clear hJ R) | refine Q5 ?_ | (refine hK _ ?_; clear hK K) | ((first | refine hN _ ?_ | refine hX _ _ ?_ | refine hR _ ?_); clear hN hX hR Z) | refine Q6 rfl ?_ | refine Q7 (by decide) ?_ | (refine Q8 ?_ ?_; focus (simp only [kS, R1, R2, R3, R4, R5, R6, R7, reduceCtorEq, R9, k5, k2, g1, hi', et, Nat.add_one_sub_one, tk1, tk2, tk3, tk4, tk5, tk6, tk7, tk8, and_false, false_and]; done)) | (refine Q9 ?_ ?_; focus (simp only [kS, R1, R2, R3, R4, R5, R6, R7, reduceCtorEq, R9, k5, k2, g1, hi', et, Nat.add_one_sub_one, tk1, tk2, tk3, tk4, tk5, tk6, tk7, tk8, and_false, false_and]; done)) | refine Qa ?_ | refine Qb ?_ | refine Qc ?_ | refine And.intro (by first | assumption | omega) ?_)
        refine ⟨_, ahead_ret gl [] s (by simp; omega), rfl, ?_⟩
        simp only [kS, R1, R2, R3, R4, R5, R6, R7, reduceCtorEq, R9, k5, k2, g1, hi', et, Nat.add_one_sub_one, tk1, tk2, tk3, tk4, tk5, tk6, tk7, tk8, and_false, false_and]
        repeat (first | ((first | refine Q1 ?_ | refine Q2 ?_); intro Z hN hX hR) | refine Q3 (by kernel_rfl) fun K hK => ?_ | ((first | refine Q4 fun R hJ => ?_ | with_reducible change ExpAll _ _ _); simp only [kS, R1, R2, R3, R4, R5, R6, R7, reduceCtorEq, R9, k5, k2, g1, hi', et, Nat.add_one_sub_one, tk1, tk2, tk3, tk4, tk5, tk6, tk7, tk8, and_false, false_and]) | (refine hJ _ ?_; clear hJ R) | refine Q5 ?_ | (refine hK _ ?_; clear hK K) | ((first | refine hN _ ?_ | refine hX _ _ ?_ | refine hR _ ?_); clear hN hX hR Z) | refine Q6 rfl ?_ | refine Q7 (by decide) ?_ | (refine Q8 ?_ ?_; focus (simp only [kS, R1, R2, R3, R4, R5, R6, R7, reduceCtorEq, R9, k5, k2, g1, hi', et, Nat.add_one_sub_one, tk1, tk2, tk3, tk4, tk5, tk6, tk7, tk8, and_false, false_and]; done)) | (refine Q9 ?_ ?_; focus (simp only [kS, R1, R2, R3, R4, R5, R6, R7, reduceCtorEq, R9, k5, k2, g1, hi', et, Nat.add_one_sub_one, tk1, tk2, tk3, tk4, tk5, tk6, tk7, tk8, and_false, false_and]; done)) | refine Qa ?_ | refine Qb ?_ | refine Qc ?_ | refine And.intro (by first | assumption | omega) ?_)
        simp only [openS, e', k5, k2, g1, Bool.false_eq_true, if_false, if_true, List.nil_append, List.cons_append, List.append_nil]
        exact .inl (by simp only [ssS, ssC, List.map_cons, List.map_nil, List.length_cons, List.length_nil, Nat.add_comm 1, Nat.add_comm 2] <;> rfl)
    · have hw : IntKind.i64.wrap (lo - 1) = lo - 1 := wrap_i64 (by omega) (by omega)
      cases lo0 : (lo == 0)
      · by_cases hp : 0 < hi
        · have hh : IntKind.i64.wrap (hi - 1) = hi - 1 := wrap_i64 (by omega) (by omega)
          · repeat (first | ((first | refine Q1 ?_ | refine Q2 ?_); intro Z hN hX hR) | refine Q3 (by kernel_rfl) fun K hK => ?_ | ((first | refine Q4 fun R hJ => ?_ | with_reducible change ExpAll _ _ _); simp only [kS, R1, R2, R3, R4, R5, R6, R7, reduceCtorEq, R9, k5, k2, lo0, hp, hi', et, Nat.add_one_sub_one, tk1, tk2, tk3, tk4, tk5, tk6, tk7, tk8, and_false, false_and, decide_true, decide_false, hw, hh]) | (refine hJ _ ?_; clear hJ R) | refine Q5 ?_ | (refine hK _ ?_; clear hK K) | ((first | refine hN _ ?_ | refine hX _ _ ?_ | refine hR _ ?_); clear hN hX hR Z) | refine Q6 rfl ?_ | refine Q7 (by decide) ?_ | (refine Q8 ?_ ?_; focus (simp only [kS, R1, R2, R3, R4, R5, R6, R7, reduceCtorEq, R9, k5, k2, lo0, hp, hi', et, Nat.add_one_sub_one, tk1, tk2, tk3, tk4, tk5, tk6, tk7, tk8, and_false, false_and, decide_true, decide_false, hw, hh]; done)) | (refine Q9 ?_ ?_; focus (simp only [kS, R1, R2, R3, R4, R5, R6, R7, reduceCtorEq, R9, k5, k2, lo0, hp, hi', et, Nat.add_one_sub_one, tk1, tk2, tk3, tk4, tk5, tk6, tk7, tk8, and_false, false_and, decide_true, decide_false, hw, hh]; done)) | refine Qa ?_ | refine Qb ?_ | refine Qc ?_ | refine And.intro (by first | assumption | omega) ?_)
            refine ⟨_, ahead_ret gl [⟨1, d[m].a, 0, 0⟩, ⟨2, m, if 0 < lo - 1 then lo - 1 else 0, hi - 1⟩] s (by simp; omega), rfl, ?_⟩
            simp only [kS, R1, R2, R3, R4, R5, R6, R7, reduceCtorEq, R9, k5, k2, lo0, hp, hi', et, Nat.add_one_sub_one, tk1, tk2, tk3, tk4, tk5, tk6, tk7, tk8, and_false, false_and, decide_true, decide_false, hw, hh]
            repeat (first | ((first | refine Q1 ?_ | refine Q2 ?_); intro Z hN hX hR) | refine Q3 (by kernel_rfl) fun K hK => ?_ | ((first | refine Q4 fun R hJ => ?_ | with_reducible change ExpAll _ _ _); simp only [kS, R1, R2, R3, R4, R5, R6, R7, reduceCtorEq, R9, k5, k2, lo0, hp, hi', et, Nat.add_one_sub_one, tk1, tk2, tk3, tk4, tk5, tk6, tk7, tk8, and_false, false_and, decide_true, decide_false, hw, hh]) | (refine hJ _ ?_; clear hJ R) | refine Q5 ?_ | (refine hK _ ?_; clear hK K) | ((first | refine hN _ ?_ | refine hX _ _ ?_ | refine hR _ ?_); clear hN hX hR Z) | refine Q6 rfl ?_ | refine Q7 (by decide) ?_ | (refine Q8 ?_ ?_; focus (simp only [kS, R1, R2, R3, R4, R5, R6, R7, reduceCtorEq, R9, k5, k2, lo0, hp, hi', et, Nat.add_one_sub_one, tk1, tk2, tk3, tk4, tk5, tk6, tk7, tk8, and_false, false_and, decide_true, decide_false, hw, hh]; done)) | (refine Q9 ?_ ?_; focus (simp only [kS, R1, R2, R3, R4, R5, R6, R7, reduceCtorEq, R9, k5, k2, lo0, hp, hi', et, Nat.add_one_sub_one, tk1, tk2, tk3, tk4, tk5, tk6, tk7, tk8, and_false, false_and, decide_true, decide_false, hw, hh]; done)) | refine Qa ?_ | refine Qb ?_ | refine Qc ?_ | refine And.intro (by first | assumption | omega) ?_)
            simp only [openS, e', k5, k2, lo0, hp, decide_true, decide_false, hw, hh, Bool.false_eq_true, if_false, if_true, List.nil_append, List.cons_append, List.append_nil]
            exact .inl (by simp only [ssS, ssC, List.map_cons, List.map_nil, List.length_cons, List.length_nil, Nat.add_comm 1, Nat.add_comm 2] <;> rfl)
        · repeat (first | ((first | refine Q1 ?_ | refine Q2 ?_); intro Z hN hX hR) | refine Q3 (by kernel_rfl) fun K hK => ?_ | ((first | refine Q4 fun R hJ => ?_ | with_reducible change ExpAll _ _ _); simp only [kS, R1, R2, R3, R4, R5, R6, R7, reduceCtorEq, R9, k5, k2, lo0, hp, hi', et, Nat.add_one_sub_one, tk1, tk2, tk3, tk4, tk5, tk6, tk7, tk8, and_false, false_and, decide_true, decide_false]) | (refine hJ _ ?_; clear hJ R) | refine Q5 ?_ | (refine hK _ ?_; clear hK K) | ((first | refine hN _ ?_ | refine hX _ _ ?_ | refine hR _ ?_); clear hN hX hR Z) | refine Q6 rfl ?_ | refine Q7 (by decide) ?_ | (refine Q8 ?_ ?_; focus (simp only [kS, R1, R2, R3, R4, R5, R6, R7, reduceCtorEq, R9, k5, k2, lo0, hp, hi', et, Nat.add_one_sub_one, tk1, tk2, tk3, tk4, tk5, tk6, tk7, tk8, and_false, false_and, decide_true, decide_false]; done)) | (refine Q9 ?_ ?_; focus (simp only [kS, R1, R2, R3, R4, R5, R6, R7, reduceCtorEq, R9, k5, k2, lo0, hp, hi', et, Nat.add_one_sub_one, tk1, tk2, tk3, tk4, tk5, tk6, tk7, tk8, and_false, false_and, decide_true, decide_false]; done)) | refine Qa ?_ | refine Qb ?_ | refine Qc ?_ | refine And.intro (by first | assumption | omega) ?_)
          simp only [openS, e', k5, k2, lo0, hp, decide_true, decide_false, Bool.false_eq_true, if_false, if_true, List.nil_append, List.cons_append, List.append_nil]
          exact .inr rfl
      · by_cases hp : 0 < hi
        · have hh : IntKind.i64.wrap (hi - 1) = hi - 1 := wrap_i64 (by omega) (by omega)
          · repeat (first | ((first | refine Q1 ?_ | refine Q2 ?_); intro Z hN hX hR) | refine Q3 (by kernel_rfl) fun K hK => ?_ | ((first | refine Q4 fun R hJ => ?_ | with_reducible change ExpAll _ _ _); simp only [kS, R1, R2, R3, R4, R5, R6, R7, reduceCtorEq, R9, k5, k2, lo0, hp, hi', et, Nat.add_one_sub_one, tk1, tk2, tk3, tk4, tk5, tk6, tk7, tk8, and_false, false_and, decide_true, decide_false, hw, hh]) | (refine hJ _ ?_; clear hJ R) | refine Q5 ?_ | (refine hK _ ?_; clear hK K) | ((first | refine hN _ ?_ | refine hX _ _ ?_ | refine hR _ ?_); clear hN hX hR Z) | refine Q6 rfl ?_ | refine Q7 (by decide) ?_ | (refine Q8 ?_ ?_; focus (simp only [kS, R1, R2, R3, R4, R5, R6, R7, reduceCtorEq, R9, k5, k2, lo0, hp, hi', et, Nat.add_one_sub_one, tk1, tk2, tk3, tk4, tk5, tk6, tk7, tk8, and_false, false_and, decide_true, decide_false, hw, hh]; done)) | (refine Q9 ?_ ?_; focus (simp only [kS, R1, R2, R3, R4, R5, R6, R7, reduceCtorEq, R9, k5, k2, lo0, hp, hi', et, Nat.add_one_sub_one, tk1, tk2, tk3, tk4, tk5, tk6, tk7, tk8, and_false, false_and, decide_true, decide_false, hw, hh]; done)) | refine Qa ?_ | refine Qb ?_ | refine Qc ?_ | refine And.intro (by first | assumption | omega) ?_)
            refine ⟨_, ahead_ret gl [] s (by simp; omega), rfl, ?_⟩
            simp only [kS, R1, R2, R3, R4, R5, R6, R7, reduceCtorEq, R9, k5, k2, lo0, hp, hi', et, Nat.add_one_sub_one, tk1, tk2, tk3, tk4, tk5, tk6, tk7, tk8, and_false, false_and, decide_true, decide_false, hw, hh]
            repeat (first | ((first | refine Q1 ?_ | refine Q2 ?_); intro Z hN hX hR) | refine Q3 (by kernel_rfl) fun K hK => ?_ | ((first | refine Q4 fun R hJ => ?_ | with_reducible change ExpAll _ _ _); simp only [kS, R1, R2, R3, R4, R5, R6, R7, reduceCtorEq, R9, k5, k2, lo0, hp, hi', et, Nat.add_one_sub_one, tk1, tk2, tk3, tk4, tk5, tk6, tk7, tk8, and_false, false_and, decide_true, decide_false, hw, hh]) | (refine hJ _ ?_; clear hJ R) | refine Q5 ?_ | (refine hK _ ?_; clear hK K) | ((first | refine hN _ ?_ | refine hX _ _ ?_ | refine hR _ ?_); clear hN hX hR Z) | refine Q6 rfl ?_ | refine Q7 (by decide) ?_ | (refine Q8 ?_ ?_; focus (simp only [kS, R1, R2, R3, R4, R5, R6, R7, reduceCtorEq, R9, k5, k2, lo0, hp, hi', et, Nat.add_one_sub_one, tk1, tk2, tk3, tk4, tk5, tk6, tk7, tk8, and_false, false_and, decide_true, decide_false, hw, hh]; done)) | (refine Q9 ?_ ?_; focus (simp only [kS, R1, R2, R3, R4, R5, R6, R7, reduceCtorEq, R9, k5, k2, lo0, hp, hi', et, Nat.add_one_sub_one, tk1, tk2, tk3, tk4, tk5, tk6, tk7, tk8, and_false, false_and, decide_true, decide_false, hw, hh]; done)) | refine Qa ?_ | refine Qb ?_ | refine Qc ?_ | refine And.intro (by first | assumption | omega) ?_)
            refine ⟨_, ahead_ret gl [⟨1, d[m].a, 0, 0⟩, ⟨2, m, if 0 < lo - 1 then lo - 1 else 0, hi - 1⟩] s (by simp; omega), rfl, ?_⟩
            simp only [kS, R1, R2, R3, R4, R5, R6, R7, reduceCtorEq, R9, k5, k2, lo0, hp, hi', et, Nat.add_one_sub_one, tk1, tk2, tk3, tk4, tk5, tk6, tk7, tk8, and_false, false_and, decide_true, decide_false, hw, hh]
            repeat (first | ((first | refine Q1 ?_ | refine Q2 ?_); intro Z hN hX hR) | refine Q3 (by kernel_rfl) fun K hK => ?_ | ((first | refine Q4 fun R hJ => ?_ | with_reducible change ExpAll _ _ _); simp only [kS, R1, R2, R3, R4, R5, R6, R7, reduceCtorEq, R9, k5, k2, lo0, hp, hi', et, Nat.add_one_sub_one, tk1, tk2, tk3, tk4, tk5, tk6, tk7, tk8, and_false, false_and, decide_true, decide_false, hw, hh]) | (refine hJ _ ?_; clear hJ R) | refine Q5 ?_ | (refine hK _ ?_; clear hK K) | ((first | refine hN _ ?_ | refine hX _ _ ?_ | refine hR _ ?_); clear hN hX hR Z) | refine Q6 rfl ?_ | refine Q7 (by decide) ?_ | (refine Q8 ?_ ?_; focus (simp only [kS, R1, R2, R3, R4, R5, R6, R7, reduceCtorEq, R9, k5, k2, lo0, hp, hi', et, Nat.add_one_sub_one, tk1, tk2, tk3, tk4, tk5, tk6, tk7, tk8, and_false, false_and, decide_true, decide_false, hw, hh]; done)) | (refine Q9 ?_ ?_; focus (simp only [kS, R1, R2, R3, R4, R5, R6, R7, reduceCtorEq, R9, k5, k2, lo0, hp, hi', et, Nat.add_one_sub_one, tk1, tk2, tk3, tk4, tk5, tk6, tk7, tk8, and_false, false_and, decide_true, decide_false, hw, hh]; done)) | refine Qa ?_ | refine Qb ?_ | refine Qc ?_ | refine And.intro (by first | assumption | omega) ?_)
            simp only [openS, e', k5, k2, lo0, hp, decide_true, decide_false, hw, hh, Bool.false_eq_true, if_false, if_true, List.nil_append, List.cons_append, List.append_nil]
            exact .inl (by simp only [ssS, ssC, List.map_cons, List.map_nil, List.length_cons, List.length_nil, Nat.add_comm 1, Nat.add_comm 2] <;> rfl)
        · repeat (first | ((first | refine Q1 ?_ | refine Q2 ?_); intro Z hN hX hR) | refine Q3 (by kernel_rfl) fun K hK => ?_ | ((first | refine Q4 fun R hJ => ?_ | with_reducible change ExpAll _ _ _); simp only [kS, R1, R2, R3, R4, R5, R6, R7, reduceCtorEq, R9, k5, k2, lo0, hp, hi', et, Nat.add_one_sub_one, tk1, tk2, tk3, tk4, tk5, tk6, tk7, tk8, and_false, false_and, decide_true, decide_false]) | (refine hJ _ ?_; clear hJ R) | refine Q5 ?_ | (refine hK _ ?_; clear hK K) | ((first | refine hN _ ?_ | refine hX _ _ ?_ | refine hR _ ?_); clear hN hX hR Z) | refine Q6 rfl ?_ | refine Q7 (by decide) ?_ | (refine Q8 ?_ ?_; focus (simp only [kS, R1, R2, R3, R4, R5, R6, R7, reduceCtorEq, R9, k5, k2, lo0, hp, hi', et, Nat.add_one_sub_one, tk1, tk2, tk3, tk4, tk5, tk6, tk7, tk8, and_false, false_and, decide_true, decide_false]; done)) | (refine Q9 ?_ ?_; focus (simp only [kS, R1, R2, R3, R4, R5, R6, R7, reduceCtorEq, R9, k5, k2, lo0, hp, hi', et, Nat.add_one_sub_one, tk1, tk2, tk3, tk4, tk5, tk6, tk7, tk8, and_false, false_and, decide_true, decide_false]; done)) | refine Qa ?_ | refine Qb ?_ | refine Qc ?_ | refine And.intro (by first | assumption | omega) ?_)
          refine ⟨_, ahead_ret gl [] s (by simp; omega), rfl, ?_⟩
          simp only [kS, R1, R2, R3, R4, R5, R6, R7, reduceCtorEq, R9, k5, k2, lo0, hp, hi', et, Nat.add_one_sub_one, tk1, tk2, tk3, tk4, tk5, tk6, tk7, tk8, and_false, false_and, decide_true, decide_false]
          repeat (first | ((first | refine Q1 ?_ | refine Q2 ?_); intro Z hN hX hR) | refine Q3 (by kernel_rfl) fun K hK => ?_ | ((first | refine Q4 fun R hJ => ?_ | with_reducible change ExpAll _ _ _); simp only [kS, R1, R2, R3, R4, R5, R6, R7, reduceCtorEq, R9, k5, k2, lo0, hp, hi', et, Nat.add_one_sub_one, tk1, tk2, tk3, tk4, tk5, tk6, tk7, tk8, and_false, false_and, decide_true, decide_false]) | (refine hJ _ ?_; clear hJ R) | refine Q5 ?_ | (refine hK _ ?_; clear hK K) | ((first | refine hN _ ?_ | refine hX _ _ ?_ | refine hR _ ?_); clear hN hX hR Z) | refine Q6 rfl ?_ | refine Q7 (by decide) ?_ | (refine Q8 ?_ ?_; focus (simp only [kS, R1, R2, R3, R4, R5, R6, R7, reduceCtorEq, R9, k5, k2, lo0, hp, hi', et, Nat.add_one_sub_one, tk1, tk2, tk3, tk4, tk5, tk6, tk7, tk8, and_false, false_and, decide_true, decide_false]; done)) | (refine Q9 ?_ ?_; focus (simp only [kS, R1, R2, R3, R4, R5, R6, R7, reduceCtorEq, R9, k5, k2, lo0, hp, hi', et, Nat.add_one_sub_one, tk1, tk2, tk3, tk4, tk5, tk6, tk7, tk8, and_false, false_and, decide_true, decide_false]; done)) | refine Qa ?_ | refine Qb ?_ | refine Qc ?_ | refine And.intro (by first | assumption | omega) ?_)
          simp only [openS, e', k5, k2, lo0, hp, decide_true, decide_false, Bool.false_eq_true, if_false, if_true, List.nil_append, List.cons_append, List.append_nil]
          exact .inl (by simp only [ssS, ssC, List.map_cons, List.map_nil, List.length_cons, List.length_nil, Nat.add_comm 1, Nat.add_comm 2] <;> rfl)
  · cases lo0 : (lo == 0)
    · repeat (first | ((first | refine Q1 ?_ | refine Q2 ?_); intro Z hN hX hR) | refine Q3 (by kernel_rfl) fun K hK => ?_ | ((first | refine Q4 fun R hJ => ?_ | with_reducible change ExpAll _ _ _); simp only [kS, R1, R2, R3, R4, R5, R6, R7, reduceCtorEq, R9, k5, lo0, hi', et, Nat.add_one_sub_one, tk1, tk2, tk3, tk4, tk5, tk6, tk7, tk8, and_false, false_and]) | (refine hJ _ ?_; clear hJ R) | refine Q5 ?_ | (refine hK _ ?_; clear hK K) | ((first | refine hN _ ?_ | refine hX _ _ ?_ | refine hR _ ?_); clear hN hX hR Z) | refine Q6 rfl ?_ | refine Q7 (by decide) ?_ | (refine Q8 ?_ ?_; focus (simp only [kS, R1, R2, R3, R4, R5, R6, R7, reduceCtorEq, R9, k5, lo0, hi', et, Nat.add_one_sub_one, tk1, tk2, tk3, tk4, tk5, tk6, tk7, tk8, and_false, false_and]; done)) | (refine Q9 ?_ ?_; focus (simp only [kS, R1, R2, R3, R4, R5, R6, R7, reduceCtorEq, R9, k5, lo0, hi', et, Nat.add_one_sub_one, tk1, tk2, tk3, tk4, tk5, tk6, tk7, tk8, and_false, false_and]; done)) | refine Qa ?_ | refine Qb ?_ | refine Qc ?_ | refine And.intro (by first | assumption | omega) ?_)
      simp only [openS, e', k5, lo0, Bool.false_eq_true, if_false, if_true, List.nil_append, List.cons_append, List.append_nil]
      exact .inr rfl
    · repeat (first | ((first | refine Q1 ?_ | refine Q2 ?_); intro Z hN hX hR) | refine Q3 (by kernel_rfl) fun K hK => ?_ | ((first | refine Q4 fun R hJ => ?_ | with_reducible change ExpAll _ _ _); simp only [kS, R1, R2, R3, R4, R5, R6, R7, reduceCtorEq, R9, k5, lo0, hi', et, Nat.add_one_sub_one, tk1, tk2, tk3, tk4, tk5, tk6, tk7, tk8, and_false, false_and]) | (refine hJ _ ?_; clear hJ R) | refine Q5 ?_ | (refine hK _ ?_; clear hK K) | ((first | refine hN _ ?_ | refine hX _ _ ?_ | refine hR _ ?_); clear hN hX hR Z) | refine Q6 rfl ?_ | refine Q7 (by decide) ?_ | (refine Q8 ?_ ?_; focus (simp only [kS, R1, R2, R3, R4, R5, R6, R7, reduceCtorEq, R9, k5, lo0, hi', et, Nat.add_one_sub_one, tk1, tk2, tk3, tk4, tk5, tk6, tk7, tk8, and_false, false_and]; done)) | (refine Q9 ?_ ?_; focus (simp only [kS, R1, R2, R3, R4, R5, R6, R7, reduceCtorEq, R9, k5, lo0, hi', et, Nat.add_one_sub_one, tk1, tk2, tk3, tk4, tk5, tk6, tk7, tk8, and_false, false_and]; done)) | refine Qa ?_ | refine Qb ?_ | refine Qc ?_ | refine And.intro (by first | assumption | omega) ?_)
      refine ⟨_, ahead_ret gl [] s (by simp; omega), rfl, ?_⟩
      simp only [kS, R1, R2, R3, R4, R5, R6, R7, reduceCtorEq, R9, k5, lo0, hi', et, Nat.add_one_sub_one, tk1, tk2, tk3, tk4, tk5, tk6, tk7, tk8, and_false, false_and]
      repeat (first | ((first | refine Q1 ?_ | refine Q2 ?_); intro Z hN hX hR) | refine Q3 (by kernel_rfl) fun K hK => ?_ | ((first | refine Q4 fun R hJ => ?_ | with_reducible change ExpAll _ _ _); simp only [kS, R1, R2, R3, R4, R5, R6, R7, reduceCtorEq, R9, k5, lo0, hi', et, Nat.add_one_sub_one, tk1, tk2, tk3, tk4, tk5, tk6, tk7, tk8, and_false, false_and]) | (refine hJ _ ?_; clear hJ R) | refine Q5 ?_ | (refine hK _ ?_; clear hK K) | ((first | refine hN _ ?_ | refine hX _ _ ?_ | refine hR _ ?_); clear hN hX hR Z) | refine Q6 rfl ?_ | refine Q7 (by decide) ?_ | (refine Q8 ?_ ?_; focus (simp only [kS, R1, R2, R3, R4, R5, R6, R7, reduceCtorEq, R9, k5, lo0, hi', et, Nat.add_one_sub_one, tk1, tk2, tk3, tk4, tk5, tk6, tk7, tk8, and_false, false_and]; done)) | (refine Q9 ?_ ?_; focus (simp only [kS, R1, R2, R3, R4, R5, R6, R7, reduceCtorEq, R9, k5, lo0, hi', et, Nat.add_one_sub_one, tk1, tk2, tk3, tk4, tk5, tk6, tk7, tk8, and_false, false_and]; done)) | refine Qa ?_ | refine Qb ?_ | refine Qc ?_ | refine And.intro (by first | assumption | omega) ?_)
      simp only [openS, e', k5, lo0, Bool.false_eq_true, if_false, if_true, List.nil_append, List.cons_append, List.append_nil]
      exact .inl (by simp only [ssS, ssC, List.map_cons, List.map_nil, List.length_cons, List.length_nil, Nat.add_comm 1, Nat.add_comm 2] <;> rfl)

end Go.Proofs.YtilhjiopbbbgmaaDoor

/- Has an item, a state its form? -/
namespace Go.Proofs.YtilhjiopbbbgmaaDoor
open Nat renaming reduceSub → R1, reduceMul → R2, reduceLeDiff → R3, reducePow → R4, reduceBEq → R5, reduceAdd → R6, reduceEqDiff → R7
open Int renaming reduceToNat → R9
open Go Go.RowKit Am
set_option linter.unusedVariables false
set_option linter.unusedSimpArgs false
set_option maxHeartbeats 4000000
attribute [local irreducible] AWp AOps

def okIt (d : List Nd) (x : It) : Bool :=
  if (x.k == 5) = true then x.n == 0 && (x.hi == 0 && (decide (0 ≤ x.lo) && decide (x.lo ≤ 65535)))
  else if (decide (x.n < 0) || decide ((d.length : Int) ≤ x.n)) = true then false
  else if (x.k == 1) = true then x.lo == 0 && x.hi == 0
  else if (x.k == 2) = true then (nd d x.n).k == 7 && (decide (0 ≤ x.lo) && (decide (x.lo ≤ x.hi) && decide (x.hi ≤ (nd d x.n).hi)))
  else if (x.k == 3) = true then (nd d x.n).k == 3 && (x.hi == 0 && (decide (0 ≤ x.lo) && decide (x.lo < ((nd d x.n).s.size : Int))))
  else if (x.k == 4) = true then (nd d x.n).k == 9 && (x.hi == 0 && (decide (0 ≤ x.lo) && decide (x.lo ≤ 255)))
  else false

theorem form13_ret (gl : Gl) (d : List Nd) (x : It) : Ret Tryd.prog gl 50 [.agg (dC d), .agg x.c] (bv (okIt d x)) := by
  refine retq (rs := [4]) 123 Tryd.func50 (by kernel_rfl) rfl (by kernel_rfl) rfl (by simp) (by simp) fun Z hN hX hR => ?_
  obtain ⟨k, n, lo, hi⟩ := x
  simp only [It.c, dC]
  cases k5 : (k == 5)
  · cases n0 : decide (n < 0)
    · cases nl : decide ((d.length : Int) ≤ n)
      · obtain ⟨m, rfl⟩ : ∃ m : Nat, n = m := ⟨n.toNat, by simp at n0; omega⟩
        have hm : m < d.length := by simp at nl; omega
        have e := ndsC_drop d m hm
        have e' := nd_get d m hm
        have hl := ndsC_length d
        have hlt : (m : Int) < d.length := by omega
        cases k1 : (k == 1)
        · cases k2 : (k == 2)
          · cases k3 : (k == 3)
            · cases k4 : (k == 4)
              · repeat (first | ((first | refine Q1 ?_ | refine Q2 ?_); intro Z hN hX hR) | refine Q3 (by kernel_rfl) fun K hK => ?_ | ((first | refine Q4 fun R hJ => ?_ | with_reducible change ExpAll _ _ _); simp only [kS, R1, R2, R3, R4, R5, R6, R7, reduceCtorEq, R9, k5, n0, nl, e, hl, hm, hlt, k1, k2, k3, k4]) | (refine hJ _ ?_; clear hJ R) | refine Q5 ?_ | (refine hK _ ?_; clear hK K) | ((first | refine hN _ ?_ | refine hX _ _ ?_ | refine hR _ ?_); clear hN hX hR Z) | refine Q6 rfl ?_ | refine Q7 (by decide) ?_ | (refine Q8 ?_ ?_; focus (simp only [kS, R1, R2, R3, R4, R5, R6, R7, reduceCtorEq, R9, k5, n0, nl, e, hl, hm, hlt, k1, k2, k3, k4]; done)) | (refine Q9 ?_ ?_; focus (simp only [kS, R1, R2, R3, R4, R5, R6, R7, reduceCtorEq, R9, k5, n0, nl, e, hl, hm, hlt, k1, k2, k3, k4]; done)) | refine Qa ?_ | refine Qb ?_ | refine Qc ?_ | refine And.intro (by first | assumption | omega) ?_)
                simp only [okIt, k5, n0, nl, k1, k2, k3, k4, Bool.or_false, if_false, Bool.false_eq_true]
              · cases g1 : (d[m].k == 9)
                · repeat (first | ((first | refine Q1 ?_ | refine Q2 ?_); intro Z hN hX hR) | refine Q3 (by kernel_rfl) fun K hK => ?_ | ((first | refine Q4 fun R hJ => ?_ | with_reducible change ExpAll _ _ _); simp only [kS, R1, R2, R3, R4, R5, R6, R7, reduceCtorEq, R9, k5, n0, nl, e, hl, hm, hlt, k1, k2, k3, k4, g1]) | (refine hJ _ ?_; clear hJ R) | refine Q5 ?_ | (refine hK _ ?_; clear hK K) | ((first | refine hN _ ?_ | refine hX _ _ ?_ | refine hR _ ?_); clear hN hX hR Z) | refine Q6 rfl ?_ | refine Q7 (by decide) ?_ | (refine Q8 ?_ ?_; focus (simp only [kS, R1, R2, R3, R4, R5, R6, R7, reduceCtorEq, R9, k5, n0, nl, e, hl, hm, hlt, k1, k2, k3, k4, g1]; done)) | (refine Q9 ?_ ?_; focus (simp only [kS, R1, R2, R3, R4, R5, R6, R7, reduceCtorEq, R9, k5, n0, nl, e, hl, hm, hlt, k1, k2, k3, k4, g1]; done)) | refine Qa ?_ | refine Qb ?_ | refine Qc ?_ | refine And.intro (by first | assumption | omega) ?_)
                  simp only [okIt, e', k5, n0, nl, k1, k2, k3, k4, Bool.or_false, if_false, if_true, Bool.false_eq_true, Bool.true_and, Bool.false_and, g1]
                · cases g2 : (hi == 0)
                  · repeat (first | ((first | refine Q1 ?_ | refine Q2 ?_); intro Z hN hX hR) | refine Q3 (by kernel_rfl) fun K hK => ?_ | ((first | refine Q4 fun R hJ => ?_ | with_reducible change ExpAll _ _ _); simp only [kS, R1, R2, R3, R4, R5, R6, R7, reduceCtorEq, R9, k5, n0, nl, e, hl, hm, hlt, k1, k2, k3, k4, g1, g2]) | (refine hJ _ ?_; clear hJ R) | refine Q5 ?_ | (refine hK _ ?_; clear hK K) | ((first | refine hN _ ?_ | refine hX _ _ ?_ | refine hR _ ?_); clear hN hX hR Z) | refine Q6 rfl ?_ | refine Q7 (by decide) ?_ | (refine Q8 ?_ ?_; focus (simp only [kS, R1, R2, R3, R4, R5, R6, R7, reduceCtorEq, R9, k5, n0, nl, e, hl, hm, hlt, k1, k2, k3, k4, g1, g2]; done)) | (refine Q9 ?_ ?_; focus (simp only [kS, R1, R2, R3, R4, R5, R6, R7, reduceCtorEq, R9, k5, n0, nl, e, hl, hm, hlt, k1, k2, k3, k4, g1, g2]; done)) | refine Qa ?_ | refine Qb ?_ | refine Qc ?_ | refine And.intro (by first | assumption | omega) ?_)
                    simp only [okIt, e', k5, n0, nl, k1, k2, k3, k4, Bool.or_false, if_false, if_true, Bool.false_eq_true, Bool.true_and, Bool.false_and, g1, g2]
                  · cases g3 : (decide (0 ≤ lo))
                    · repeat (first | ((first | refine Q1 ?_ | refine Q2 ?_); intro Z hN hX hR) | refine Q3 (by kernel_rfl) fun K hK => ?_ | ((first | refine Q4 fun R hJ => ?_ | with_reducible change ExpAll _ _ _); simp only [kS, R1, R2, R3, R4, R5, R6, R7, reduceCtorEq, R9, k5, n0, nl, e, hl, hm, hlt, k1, k2, k3, k4, g1, g2, g3]) | (refine hJ _ ?_; clear hJ R) | refine Q5 ?_ | (refine hK _ ?_; clear hK K) | ((first | refine hN _ ?_ | refine hX _ _ ?_ | refine hR _ ?_); clear hN hX hR Z) | refine Q6 rfl ?_ | refine Q7 (by decide) ?_ | (refine Q8 ?_ ?_; focus (simp only [kS, R1, R2, R3, R4, R5, R6, R7, reduceCtorEq, R9, k5, n0, nl, e, hl, hm, hlt, k1, k2, k3, k4, g1, g2, g3]; done)) | (refine Q9 ?_ ?_; focus (simp only [kS, R1, R2, R3, R4, R5, R6, R7, reduceCtorEq, R9, k5, n0, nl, e, hl, hm, hlt, k1, k2, k3, k4, g1, g2, g3]; done)) | refine Qa ?_ | refine Qb ?_ | refine Qc ?_ | refine And.intro (by first | assumption | omega) ?_)
                      simp only [okIt, e', k5, n0, nl, k1, k2, k3, k4, Bool.or_false, if_false, if_true, Bool.false_eq_true, Bool.true_and, Bool.false_and, g1, g2, g3]
                    · cases g4 : (decide (lo ≤ 255))
                      · repeat (first | ((first | refine Q1 ?_ | refine Q2 ?_); intro Z hN hX hR) | refine Q3 (by kernel_rfl) fun K hK => ?_ | ((first | refine Q4 fun R hJ => ?_ | with_reducible change ExpAll _ _ _); simp only [kS, R1, R2, R3, R4, R5, R6, R7, reduceCtorEq, R9, k5, n0, nl, e, hl, hm, hlt, k1, k2, k3, k4, g1, g2, g3, g4]) | (refine hJ _ ?_; clear hJ R) | refine Q5 ?_ | (refine hK _ ?_; clear hK K) | ((first | refine hN _ ?_ | refine hX _ _ ?_ | refine hR _ ?_); clear hN hX hR Z) | refine Q6 rfl ?_ | refine Q7 (by decide) ?_ | (refine Q8 ?_ ?_; focus (simp only [kS, R1, R2, R3, R4, R5, R6, R7, reduceCtorEq, R9, k5, n0, nl, e, hl, hm, hlt, k1, k2, k3, k4, g1, g2, g3, g4]; done)) | (refine Q9 ?_ ?_; focus (simp only [kS, R1, R2, R3, R4, R5, R6, R7, reduceCtorEq, R9, k5, n0, nl, e, hl, hm, hlt, k1, k2, k3, k4, g1, g2, g3, g4]; done)) | refine Qa ?_ | refine Qb ?_ | refine Qc ?_ | refine And.intro (by first | assumption | omega) ?_)
                        simp only [okIt, e', k5, n0, nl, k1, k2, k3, k4, Bool.or_false, if_false, if_true, Bool.false_eq_true, Bool.true_and, Bool.false_and, g1, g2, g3, g4]
                      · repeat (first | ((first | refine Q1 ?_ | refine Q2 ?_); intro Z hN hX hR) | refine Q3 (by kernel_rfl) fun K hK => ?_ | ((first | refine Q4 fun R hJ => ?_ | with_reducible change ExpAll _ _ _); simp only [kS, R1, R2, R3, R4, R5, R6, R7, reduceCtorEq, R9, k5, n0, nl, e, hl, hm, hlt, k1, k2, k3, k4, g1, g2, g3, g4]) | (refine hJ _ ?_; clear hJ R) | refine Q5 ?_ | (refine hK _ ?_; clear hK K) | ((first | refine hN _ ?_ | refine hX _ _ ?_ | refine hR _ ?_); clear hN hX hR Z) | refine Q6 rfl ?_ | refine Q7 (by decide) ?_ | (refine Q8 ?_ ?_; focus (simp only [kS, R1, R2, R3, R4, R5, R6, R7, reduceCtorEq, R9, k5, n0, nl, e, hl, hm, hlt, k1, k2, k3, k4, g1, g2, g3, g4]; done)) | (refine Q9 ?_ ?_; focus (simp only [kS, R1, R2, R3, R4, R5, R6, R7, reduceCtorEq, R9, k5, n0, nl, e, hl, hm, hlt, k1, k2, k3, k4, g1, g2, g3, g4]; done)) | refine Qa ?_ | refine Qb ?_ | refine Qc ?_ | refine And.intro (by first | assumption | omega) ?_)
                        simp only [okIt, e', k5, n0, nl, k1, k2, k3, k4, Bool.or_false, if_false, if_true, Bool.false_eq_true, Bool.true_and, Bool.false_and, g1, g2, g3, g4]
            · cases g5 : (d[m].k == 3)
              · repeat (first | ((first | refine Q1 ?_ | refine Q2 ?_); intro Z hN hX hR) | refine Q3 (by kernel_rfl) fun K hK => ?_ | ((first | refine Q4 fun R hJ => ?_ | with_reducible change ExpAll _ _ _); simp only [kS, R1, R2, R3, R4, R5, R6, R7, reduceCtorEq, R9, k5, n0, nl, e, hl, hm, hlt, k1, k2, k3, g5]) | (refine hJ _ ?_; clear hJ R) | refine Q5 ?_ | (refine hK _ ?_; clear hK K) | ((first | refine hN _ ?_ | refine hX _ _ ?_ | refine hR _ ?_); clear hN hX hR Z) | refine Q6 rfl ?_ | refine Q7 (by decide) ?_ | (refine Q8 ?_ ?_; focus (simp only [kS, R1, R2, R3, R4, R5, R6, R7, reduceCtorEq, R9, k5, n0, nl, e, hl, hm, hlt, k1, k2, k3, g5]; done)) | (refine Q9 ?_ ?_; focus (simp only [kS, R1, R2, R3, R4, R5, R6, R7, reduceCtorEq, R9, k5, n0, nl, e, hl, hm, hlt, k1, k2, k3, g5]; done)) | refine Qa ?_ | refine Qb ?_ | refine Qc ?_ | refine And.intro (by first | assumption | omega) ?_)
                simp only [okIt, e', k5, n0, nl, k1, k2, k3, Bool.or_false, if_false, if_true, Bool.false_eq_true, Bool.true_and, Bool.false_and, g5]
              · cases g6 : (hi == 0)
                · repeat (first | ((first | refine Q1 ?_ | refine Q2 ?_); intro Z hN hX hR) | refine Q3 (by kernel_rfl) fun K hK => ?_ | ((first | refine Q4 fun R hJ => ?_ | with_reducible change ExpAll _ _ _); simp only [kS, R1, R2, R3, R4, R5, R6, R7, reduceCtorEq, R9, k5, n0, nl, e, hl, hm, hlt, k1, k2, k3, g5, g6]) | (refine hJ _ ?_; clear hJ R) | refine Q5 ?_ | (refine hK _ ?_; clear hK K) | ((first | refine hN _ ?_ | refine hX _ _ ?_ | refine hR _ ?_); clear hN hX hR Z) | refine Q6 rfl ?_ | refine Q7 (by decide) ?_ | (refine Q8 ?_ ?_; focus (simp only [kS, R1, R2, R3, R4, R5, R6, R7, reduceCtorEq, R9, k5, n0, nl, e, hl, hm, hlt, k1, k2, k3, g5, g6]; done)) | (refine Q9 ?_ ?_; focus (simp only [kS, R1, R2, R3, R4, R5, R6, R7, reduceCtorEq, R9, k5, n0, nl, e, hl, hm, hlt, k1, k2, k3, g5, g6]; done)) | refine Qa ?_ | refine Qb ?_ | refine Qc ?_ | refine And.intro (by first | assumption | omega) ?_)
                  simp only [okIt, e', k5, n0, nl, k1, k2, k3, Bool.or_false, if_false, if_true, Bool.false_eq_true, Bool.true_and, Bool.false_and, g5, g6]
                · cases g7 : (decide (0 ≤ lo))
                  · repeat (first | ((first | refine Q1 ?_ | refine Q2 ?_); intro Z hN hX hR) | refine Q3 (by kernel_rfl) fun K hK => ?_ | ((first | refine Q4 fun R hJ => ?_ | with_reducible change ExpAll _ _ _); simp only [kS, R1, R2, R3, R4, R5, R6, R7, reduceCtorEq, R9, k5, n0, nl, e, hl, hm, hlt, k1, k2, k3, g5, g6, g7]) | (refine hJ _ ?_; clear hJ R) | refine Q5 ?_ | (refine hK _ ?_; clear hK K) | ((first | refine hN _ ?_ | refine hX _ _ ?_ | refine hR _ ?_); clear hN hX hR Z) | refine Q6 rfl ?_ | refine Q7 (by decide) ?_ | (refine Q8 ?_ ?_; focus (simp only [kS, R1, R2, R3, R4, R5, R6, R7, reduceCtorEq, R9, k5, n0, nl, e, hl, hm, hlt, k1, k2, k3, g5, g6, g7]; done)) | (refine Q9 ?_ ?_; focus (simp only [kS, R1, R2, R3, R4, R5, R6, R7, reduceCtorEq, R9, k5, n0, nl, e, hl, hm, hlt, k1, k2, k3, g5, g6, g7]; done)) | refine Qa ?_ | refine Qb ?_ | refine Qc ?_ | refine And.intro (by first | assumption | omega) ?_)
                    simp only [okIt, e', k5, n0, nl, k1, k2, k3, Bool.or_false, if_false, if_true, Bool.false_eq_true, Bool.true_and, Bool.false_and, g5, g6, g7]
                  · cases g8 : (decide (lo < (d[m].s.size : Int)))
                    · repeat (first | ((first | refine Q1 ?_ | refine Q2 ?_); intro Z hN hX hR) | refine Q3 (by kernel_rfl) fun K hK => ?_ | ((first | refine Q4 fun R hJ => ?_ | with_reducible change ExpAll _ _ _); simp only [kS, R1, R2, R3, R4, R5, R6, R7, reduceCtorEq, R9, k5, n0, nl, e, hl, hm, hlt, k1, k2, k3, g5, g6, g7, g8]) | (refine hJ _ ?_; clear hJ R) | refine Q5 ?_ | (refine hK _ ?_; clear hK K) | ((first | refine hN _ ?_ | refine hX _ _ ?_ | refine hR _ ?_); clear hN hX hR Z) | refine Q6 rfl ?_ | refine Q7 (by decide) ?_ | (refine Q8 ?_ ?_; focus (simp only [kS, R1, R2, R3, R4, R5, R6, R7, reduceCtorEq, R9, k5, n0, nl, e, hl, hm, hlt, k1, k2, k3, g5, g6, g7, g8]; done)) | (refine Q9 ?_ ?_; focus (simp only [kS, R1, R2, R3, R4, R5, R6, R7, reduceCtorEq, R9, k5, n0, nl, e, hl, hm, hlt, k1, k2, k3, g5, g6, g7, g8]; done)) | refine Qa ?_ | refine Qb ?_ | refine Qc ?_ | refine And.intro (by first | assumption | omega) ?_)
                      simp only [okIt, e', k5, n0, nl, k1, k2, k3, Bool.or_false, if_false, if_true, Bool.false_eq_true, Bool.true_and, Bool.false_and, g5, g6, g7, g8]
                    · repeat (first | ((first | refine Q1 ?_ | refine Q2 ?_); intro Z hN hX hR) | refine Q3 (by kernel_rfl) fun K hK => ?_ | ((first | refine Q4 fun R hJ => ?_ | with_reducible change ExpAll _ _ _); simp only [kS, R1, R2, R3, R4, R5, R6, R7, reduceCtorEq, R9, k5, n0, nl, e, hl, hm, hlt, k1, k2, k3, g5, g6, g7, g8]) | (refine hJ _ ?_; clear hJ R) | refine Q5 ?_ | (refine hK _ ?_; clear hK K) | ((first | refine hN _ ?_ | refine hX _ _ ?_ | refine hR _ ?_); clear hN hX hR Z) | refine Q6 rfl ?_ | refine Q7 (by decide) ?_ | (refine Q8 ?_ ?_; focus (simp only [kS, R1, R2, R3, R4, R5, R6, R7, reduceCtorEq, R9, k5, n0, nl, e, hl, hm, hlt, k1, k2, k3, g5, g6, g7, g8]; done)) | (refine Q9 ?_ ?_; focus (simp only [kS, R1, R2, R3, R4, R5, R6, R7, reduceCtorEq, R9, k5, n0, nl, e, hl, hm, hlt, k1, k2, k3, g5, g6, g7, g8]; done)) | refine Qa ?_ | refine Qb ?_ | refine Qc ?_ | refine And.intro (by first | assumption | omega) ?_)
                      simp only [okIt, e', k5, n0, nl, k1, k2, k3, Bool.or_false, if_false, if_true, Bool.false_eq_true, Bool.true_and, Bool.false_and, g5, g6, g7, g8]
          · cases g9 : (d[m].k == 7)
            · repeat (first | ((first | refine Q1 ?_ | refine Q2 ?_); intro Z hN hX hR) | refine Q3 (by kernel_rfl) fun K hK => ?_ | ((first | refine Q4 fun R hJ => ?_ | with_reducible change ExpAll _ _ _); simp only [kS, R1, R2, R3, R4, R5, R6, R7, reduceCtorEq, R9, k5, n0, nl, e, hl, hm, hlt, k1, k2, g9]) | (refine hJ _ ?_; clear hJ R) | refine Q5 ?_ | (refine hK _ ?_; clear hK K) | ((first | refine hN _ ?_ | refine hX _ _ ?_ | refine hR _ ?_); clear hN hX hR Z) | refine Q6 rfl ?_ | refine Q7 (by decide) ?_ | (refine Q8 ?_ ?_; focus (simp only [kS, R1, R2, R3, R4, R5, R6, R7, reduceCtorEq, R9, k5, n0, nl, e, hl, hm, hlt, k1, k2, g9]; done)) | (refine Q9 ?_ ?_; focus (simp only [kS, R1, R2, R3, R4, R5, R6, R7, reduceCtorEq, R9, k5, n0, nl, e, hl, hm, hlt, k1, k2, g9]; done)) | refine Qa ?_ | refine Qb ?_ | refine Qc ?_ | refine And.intro (by first | assumption | omega) ?_)
              simp only [okIt, e', k5, n0, nl, k1, k2, Bool.or_false, if_false, if_true, Bool.false_eq_true, Bool.true_and, Bool.false_and, g9]
            · cases g10 : (decide (0 ≤ lo))
              · repeat (first | ((first | refine Q1 ?_ | refine Q2 ?_); intro Z hN hX hR) | refine Q3 (by kernel_rfl) fun K hK => ?_ | ((first | refine Q4 fun R hJ => ?_ | with_reducible change ExpAll _ _ _); simp only [kS, R1, R2, R3, R4, R5, R6, R7, reduceCtorEq, R9, k5, n0, nl, e, hl, hm, hlt, k1, k2, g9, g10]) | (refine hJ _ ?_; clear hJ R) | refine Q5 ?_ | (refine hK _ ?_; clear hK K) | ((first | refine hN _ ?_ | refine hX _ _ ?_ | refine hR _ ?_); clear hN hX hR Z) | refine Q6 rfl ?_ | refine Q7 (by decide) ?_ | (refine Q8 ?_ ?_; focus (simp only [kS, R1, R2, R3, R4, R5, R6, R7, reduceCtorEq, R9, k5, n0, nl, e, hl, hm, hlt, k1, k2, g9, g10]; done)) | (refine Q9 ?_ ?_; focus (simp only [kS, R1, R2, R3, R4, R5, R6, R7, reduceCtorEq, R9, k5, n0, nl, e, hl, hm, hlt, k1, k2, g9, g10]; done)) | refine Qa ?_ | refine Qb ?_ | refine Qc ?_ | refine And.intro (by first | assumption | omega) ?_)
                simp only [okIt, e', k5, n0, nl, k1, k2, Bool.or_false, if_false, if_true, Bool.false_eq_true, Bool.true_and, Bool.false_and, g9, g10]
              · cases g11 : (decide (lo ≤ hi))
                · repeat (first | ((first | refine Q1 ?_ | refine Q2 ?_); intro Z hN hX hR) | refine Q3 (by kernel_rfl) fun K hK => ?_ | ((first | refine Q4 fun R hJ => ?_ | with_reducible change ExpAll _ _ _); simp only [kS, R1, R2, R3, R4, R5, R6, R7, reduceCtorEq, R9, k5, n0, nl, e, hl, hm, hlt, k1, k2, g9, g10, g11]) | (refine hJ _ ?_; clear hJ R) | refine Q5 ?_ | (refine hK _ ?_; clear hK K) | ((first | refine hN _ ?_ | refine hX _ _ ?_ | refine hR _ ?_); clear hN hX hR Z) | refine Q6 rfl ?_ | refine Q7 (by decide) ?_ | (refine Q8 ?_ ?_; focus (simp only [kS, R1, R2, R3, R4, R5, R6, R7, reduceCtorEq, R9, k5, n0, nl, e, hl, hm, hlt, k1, k2, g9, g10, g11]; done)) | (refine Q9 ?_ ?_; focus (simp only [kS, R1, R2, R3, R4, R5, R6, R7, reduceCtorEq, R9, k5, n0, nl, e, hl, hm, hlt, k1, k2, g9, g10, g11]; done)) | refine Qa ?_ | refine Qb ?_ | refine Qc ?_ | refine And.intro (by first | assumption | omega) ?_)
                  simp only [okIt, e', k5, n0, nl, k1, k2, Bool.or_false, if_false, if_true, Bool.false_eq_true, Bool.true_and, Bool.false_and, g9, g10, g11]
                · cases g12 : (decide (hi ≤ d[m].hi))
                  · repeat (first | ((first | refine Q1 ?_ | refine Q2 ?_); intro Z hN hX hR) | refine Q3 (by kernel_rfl) fun K hK => ?_ | ((first | refine Q4 fun R hJ => ?_ | with_reducible change ExpAll _ _ _); simp only [kS, R1, R2, R3, R4, R5, R6, R7, reduceCtorEq, R9, k5, n0, nl, e, hl, hm, hlt, k1, k2, g9, g10, g11, g12]) | (refine hJ _ ?_; clear hJ R) | refine Q5 ?_ | (refine hK _ ?_; clear hK K) | ((first | refine hN _ ?_ | refine hX _ _ ?_ | refine hR _ ?_); clear hN hX hR Z) | refine Q6 rfl ?_ | refine Q7 (by decide) ?_ | (refine Q8 ?_ ?_; focus (simp only [kS, R1, R2, R3, R4, R5, R6, R7, reduceCtorEq, R9, k5, n0, nl, e, hl, hm, hlt, k1, k2, g9, g10, g11, g12]; done)) | (refine Q9 ?_ ?_; focus (simp only [kS, R1, R2, R3, R4, R5, R6, R7, reduceCtorEq, R9, k5, n0, nl, e, hl, hm, hlt, k1, k2, g9, g10, g11, g12]; done)) | refine Qa ?_ | refine Qb ?_ | refine Qc ?_ | refine And.intro (by first | assumption | omega) ?_)
                    simp only [okIt, e', k5, n0, nl, k1, k2, Bool.or_false, if_false, if_true, Bool.false_eq_true, Bool.true_and, Bool.false_and, g9, g10, g11, g12]
                  · repeat (first | ((first | refine Q1 ?_ | refine Q2 ?_); intro Z hN hX hR) | refine Q3 (by kernel_rfl) fun K hK => ?_ | ((first | refine Q4 fun R hJ => ?_ | with_reducible change ExpAll _ _ _); simp only [kS, R1, R2, R3, R4, R5, R6, R7, reduceCtorEq, R9, k5, n0, nl, e, hl, hm, hlt, k1, k2, g9, g10, g11, g12]) | (refine hJ _ ?_; clear hJ R) | refine Q5 ?_ | (refine hK _ ?_; clear hK K) | ((first | refine hN _ ?_ | refine hX _ _ ?_ | refine hR _ ?_); clear hN hX hR Z) | refine Q6 rfl ?_ | refine Q7 (by decide) ?_ | (refine Q8 ?_ ?_; focus (simp only [kS, R1, R2, R3, R4, R5, R6, R7, reduceCtorEq, R9, k5, n0, nl, e, hl, hm, hlt, k1, k2, g9, g10, g11, g12]; done)) | (refine Q9 ?_ ?_; focus (simp only [kS, R1, R2, R3, R4, R5, R6, R7, reduceCtorEq, R9, k5, n0, nl, e, hl, hm, hlt, k1, k2, g9, g10, g11, g12]; done)) | refine Qa ?_ | refine Qb ?_ | refine Qc ?_ | refine And.intro (by first | assumption | omega) ?_)
                    simp only [okIt, e', k5, n0, nl, k1, k2, Bool.or_false, if_false, if_true, Bool.false_eq_true, Bool.true_and, Bool.false_and, g9, g10, g11, g12]
        · cases g13 : (lo == 0)
          · repeat (first | ((first | refine Q1 ?_ | refine Q2 ?_); intro Z hN hX hR) | refine Q3 (by kernel_rfl) fun K hK => ?_ | ((first | refine Q4 fun R hJ => ?_ | with_reducible change ExpAll _ _ _); simp only [kS, R1, R2, R3, R4, R5, R6, R7, reduceCtorEq, R9, k5, n0, nl, e, hl, hm, hlt, k1, g13]) | (refine hJ _ ?_; clear hJ R) | refine Q5 ?_ | (refine hK _ ?_; clear hK K) | ((first | refine hN _ ?_ | refine hX _ _ ?_ | refine hR _ ?_); clear hN hX hR Z) | refine Q6 rfl ?_ | refine Q7 (by decide) ?_ | (refine Q8 ?_ ?_; focus (simp only [kS, R1, R2, R3, R4, R5, R6, R7, reduceCtorEq, R9, k5, n0, nl, e, hl, hm, hlt, k1, g13]; done)) | (refine Q9 ?_ ?_; focus (simp only [kS, R1, R2, R3, R4, R5, R6, R7, reduceCtorEq, R9, k5, n0, nl, e, hl, hm, hlt, k1, g13]; done)) | refine Qa ?_ | refine Qb ?_ | refine Qc ?_ | refine And.intro (by first | assumption | omega) ?_)
            simp only [okIt, e', k5, n0, nl, k1, Bool.or_false, if_false, if_true, Bool.false_eq_true, Bool.true_and, Bool.false_and, g13]
          · cases g14 : (hi == 0)
            · repeat (first | ((first | refine Q1 ?_ | refine Q2 ?_); intro Z hN hX hR) | refine Q3 (by kernel_rfl) fun K hK => ?_ | ((first | refine Q4 fun R hJ => ?_ | with_reducible change ExpAll _ _ _); simp only [kS, R1, R2, R3, R4, R5, R6, R7, reduceCtorEq, R9, k5, n0, nl, e, hl, hm, hlt, k1, g13, g14]) | (refine hJ _ ?_; clear hJ R) | refine Q5 ?_ | (refine hK _ ?_; clear hK K) | ((first | refine hN _ ?_ | refine hX _ _ ?_ | refine hR _ ?_); clear hN hX hR Z) | refine Q6 rfl ?_ | refine Q7 (by decide) ?_ | (refine Q8 ?_ ?_; focus (simp only [kS, R1, R2, R3, R4, R5, R6, R7, reduceCtorEq, R9, k5, n0, nl, e, hl, hm, hlt, k1, g13, g14]; done)) | (refine Q9 ?_ ?_; focus (simp only [kS, R1, R2, R3, R4, R5, R6, R7, reduceCtorEq, R9, k5, n0, nl, e, hl, hm, hlt, k1, g13, g14]; done)) | refine Qa ?_ | refine Qb ?_ | refine Qc ?_ | refine And.intro (by first | assumption | omega) ?_)
              simp only [okIt, e', k5, n0, nl, k1, Bool.or_false, if_false, if_true, Bool.false_eq_true, Bool.true_and, Bool.false_and, g13, g14]
            · repeat (first | ((first | refine Q1 ?_ | refine Q2 ?_); intro Z hN hX hR) | refine Q3 (by kernel_rfl) fun K hK => ?_ | ((first | refine Q4 fun R hJ => ?_ | with_reducible change ExpAll _ _ _); simp only [kS, R1, R2, R3, R4, R5, R6, R7, reduceCtorEq, R9, k5, n0, nl, e, hl, hm, hlt, k1, g13, g14]) | (refine hJ _ ?_; clear hJ R) | refine Q5 ?_ | (refine hK _ ?_; clear hK K) | ((first | refine hN _ ?_ | refine hX _ _ ?_ | refine hR _ ?_); clear hN hX hR Z) | refine Q6 rfl ?_ | refine Q7 (by decide) ?_ | (refine Q8 ?_ ?_; focus (simp only [kS, R1, R2, R3, R4, R5, R6, R7, reduceCtorEq, R9, k5, n0, nl, e, hl, hm, hlt, k1, g13, g14]; done)) | (refine Q9 ?_ ?_; focus (simp only [kS, R1, R2, R3, R4, R5, R6, R7, reduceCtorEq, R9, k5, n0, nl, e, hl, hm, hlt, k1, g13, g14]; done)) | refine Qa ?_ | refine Qb ?_ | refine Qc ?_ | refine And.intro (by first | assumption | omega) ?_)
              simp only [okIt, e', k5, n0, nl, k1, Bool.or_false, if_false, if_true, Bool.false_eq_true, Bool.true_and, Bool.false_and, g13, g14]
      · repeat (first | ((first | refine Q1 ?_ | refine Q2 ?_); intro Z hN hX hR) | refine Q3 (by kernel_rfl) fun K hK => ?_ | ((first | refine Q4 fun R hJ => ?_ | with_reducible change ExpAll _ _ _); simp only [kS, R1, R2, R3, R4, R5, R6, R7, reduceCtorEq, R9, k5, n0, nl]) | (refine hJ _ ?_; clear hJ R) | refine Q5 ?_ | (refine hK _ ?_; clear hK K) | ((first | refine hN _ ?_ | refine hX _ _ ?_ | refine hR _ ?_); clear hN hX hR Z) | refine Q6 rfl ?_ | refine Q7 (by decide) ?_ | (refine Q8 ?_ ?_; focus (simp only [kS, R1, R2, R3, R4, R5, R6, R7, reduceCtorEq, R9, k5, n0, nl]; done)) | (refine Q9 ?_ ?_; focus (simp only [kS, R1, R2, R3, R4, R5, R6, R7, reduceCtorEq, R9, k5, n0, nl]; done)) | refine Qa ?_ | refine Qb ?_ | refine Qc ?_ | refine And.intro (by first | assumption | omega) ?_)
        simp only [okIt, k5, n0, nl, Bool.or_true, Bool.or_false, if_true, if_false, Bool.false_eq_true]
    · repeat (first | ((first | refine Q1 ?_ | refine Q2 ?_); intro Z hN hX hR) | refine Q3 (by kernel_rfl) fun K hK => ?_ | ((first | refine Q4 fun R hJ => ?_ | with_reducible change ExpAll _ _ _); simp only [kS, R1, R2, R3, R4, R5, R6, R7, reduceCtorEq, R9, k5, n0]) | (refine hJ _ ?_; clear hJ R) | refine Q5 ?_ | (refine hK _ ?_; clear hK K) | ((first | refine hN _ ?_ | refine hX _ _ ?_ | refine hR _ ?_); clear hN hX hR Z) | refine Q6 rfl ?_ | refine Q7 (by decide) ?_ | (refine Q8 ?_ ?_; focus (simp only [kS, R1, R2, R3, R4, R5, R6, R7, reduceCtorEq, R9, k5, n0]; done)) | (refine Q9 ?_ ?_; focus (simp only [kS, R1, R2, R3, R4, R5, R6, R7, reduceCtorEq, R9, k5, n0]; done)) | refine Qa ?_ | refine Qb ?_ | refine Qc ?_ | refine And.intro (by first | assumption | omega) ?_)
      simp only [okIt, k5, n0, Bool.true_or, if_true, if_false, Bool.false_eq_true]
  · cases g15 : (n == 0)
    · repeat (first | ((first | refine Q1 ?_ | refine Q2 ?_); intro Z hN hX hR) | refine Q3 (by kernel_rfl) fun K hK => ?_ | ((first | refine Q4 fun R hJ => ?_ | with_reducible change ExpAll _ _ _); simp only [kS, R1, R2, R3, R4, R5, R6, R7, reduceCtorEq, R9, k5, g15]) | (refine hJ _ ?_; clear hJ R) | refine Q5 ?_ | (refine hK _ ?_; clear hK K) | ((first | refine hN _ ?_ | refine hX _ _ ?_ | refine hR _ ?_); clear hN hX hR Z) | refine Q6 rfl ?_ | refine Q7 (by decide) ?_ | (refine Q8 ?_ ?_; focus (simp only [kS, R1, R2, R3, R4, R5, R6, R7, reduceCtorEq, R9, k5, g15]; done)) | (refine Q9 ?_ ?_; focus (simp only [kS, R1, R2, R3, R4, R5, R6, R7, reduceCtorEq, R9, k5, g15]; done)) | refine Qa ?_ | refine Qb ?_ | refine Qc ?_ | refine And.intro (by first | assumption | omega) ?_)
      simp only [okIt, k5, if_true, Bool.true_and, Bool.false_and, g15]
    · cases g16 : (hi == 0)
      · repeat (first | ((first | refine Q1 ?_ | refine Q2 ?_); intro Z hN hX hR) | refine Q3 (by kernel_rfl) fun K hK => ?_ | ((first | refine Q4 fun R hJ => ?_ | with_reducible change ExpAll _ _ _); simp only [kS, R1, R2, R3, R4, R5, R6, R7, reduceCtorEq, R9, k5, g15, g16]) | (refine hJ _ ?_; clear hJ R) | refine Q5 ?_ | (refine hK _ ?_; clear hK K) | ((first | refine hN _ ?_ | refine hX _ _ ?_ | refine hR _ ?_); clear hN hX hR Z) | refine Q6 rfl ?_ | refine Q7 (by decide) ?_ | (refine Q8 ?_ ?_; focus (simp only [kS, R1, R2, R3, R4, R5, R6, R7, reduceCtorEq, R9, k5, g15, g16]; done)) | (refine Q9 ?_ ?_; focus (simp only [kS, R1, R2, R3, R4, R5, R6, R7, reduceCtorEq, R9, k5, g15, g16]; done)) | refine Qa ?_ | refine Qb ?_ | refine Qc ?_ | refine And.intro (by first | assumption | omega) ?_)
        simp only [okIt, k5, if_true, Bool.true_and, Bool.false_and, g15, g16]
      · cases g17 : (decide (0 ≤ lo))
        · repeat (first | ((first | refine Q1 ?_ | refine Q2 ?_); intro Z hN hX hR) | refine Q3 (by kernel_rfl) fun K hK => ?_ | ((first | refine Q4 fun R hJ => ?_ | with_reducible change ExpAll _ _ _); simp only [kS, R1, R2, R3, R4, R5, R6, R7, reduceCtorEq, R9, k5, g15, g16, g17]) | (refine hJ _ ?_; clear hJ R) | refine Q5 ?_ | (refine hK _ ?_; clear hK K) | ((first | refine hN _ ?_ | refine hX _ _ ?_ | refine hR _ ?_); clear hN hX hR Z) | refine Q6 rfl ?_ | refine Q7 (by decide) ?_ | (refine Q8 ?_ ?_; focus (simp only [kS, R1, R2, R3, R4, R5, R6, R7, reduceCtorEq, R9, k5, g15, g16, g17]; done)) | (refine Q9 ?_ ?_; focus (simp only [kS, R1, R2, R3, R4, R5, R6, R7, reduceCtorEq, R9, k5, g15, g16, g17]; done)) | refine Qa ?_ | refine Qb ?_ | refine Qc ?_ | refine And.intro (by first | assumption | omega) ?_)
          simp only [okIt, k5, if_true, Bool.true_and, Bool.false_and, g15, g16, g17]
        · cases g18 : (decide (lo ≤ 65535))
          · repeat (first | ((first | refine Q1 ?_ | refine Q2 ?_); intro Z hN hX hR) | refine Q3 (by kernel_rfl) fun K hK => ?_ | ((first | refine Q4 fun R hJ => ?_ | with_reducible change ExpAll _ _ _); simp only [kS, R1, R2, R3, R4, R5, R6, R7, reduceCtorEq, R9, k5, g15, g16, g17, g18]) | (refine hJ _ ?_; clear hJ R) | refine Q5 ?_ | (refine hK _ ?_; clear hK K) | ((first | refine hN _ ?_ | refine hX _ _ ?_ | refine hR _ ?_); clear hN hX hR Z) | refine Q6 rfl ?_ | refine Q7 (by decide) ?_ | (refine Q8 ?_ ?_; focus (simp only [kS, R1, R2, R3, R4, R5, R6, R7, reduceCtorEq, R9, k5, g15, g16, g17, g18]; done)) | (refine Q9 ?_ ?_; focus (simp only [kS, R1, R2, R3, R4, R5, R6, R7, reduceCtorEq, R9, k5, g15, g16, g17, g18]; done)) | refine Qa ?_ | refine Qb ?_ | refine Qc ?_ | refine And.intro (by first | assumption | omega) ?_)
            simp only [okIt, k5, if_true, Bool.true_and, Bool.false_and, g15, g16, g17, g18]
          · repeat (first | ((first | refine Q1 ?_ | refine Q2 ?_); intro Z hN hX hR) | refine Q3 (by kernel_rfl) fun K hK => ?_ | ((first | refine Q4 fun R hJ => ?_ | with_reducible change ExpAll _ _ _); simp only [kS, R1, R2, R3, R4, R5, R6, R7, reduceCtorEq, R9, k5, g15, g16, g17, g18]) | (refine hJ _ ?_; clear hJ R) | refine Q5 ?_ | (refine hK _ ?_; clear hK K) | ((first | refine hN _ ?_ | refine hX _ _ ?_ | refine hR _ ?_); clear hN hX hR Z) | refine Q6 rfl ?_ | refine Q7 (by decide) ?_ | (refine Q8 ?_ ?_; focus (simp only [kS, R1, R2, R3, R4, R5, R6, R7, reduceCtorEq, R9, k5, g15, g16, g17, g18]; done)) | (refine Q9 ?_ ?_; focus (simp only [kS, R1, R2, R3, R4, R5, R6, R7, reduceCtorEq, R9, k5, g15, g16, g17, g18]; done)) | refine Qa ?_ | refine Qb ?_ | refine Qc ?_ | refine And.intro (by first | assumption | omega) ?_)
            simp only [okIt, k5, if_true, Bool.true_and, Bool.false_and, g15, g16, g17, g18]

def okSt (d : List Nd) (s : List It) : Bool := s.all (okIt d)

theorem form_ret (gl : Gl) (d : List Nd) (s : List It) (hs : s.length ≤ 140737488355328) : Ret Tryd.prog gl 26 [.agg (dC d), .c (stC s)] (bv (okSt d s)) := by
  refine retq (rs := [4]) 19 Tryd.func26 (by kernel_rfl) rfl (by kernel_rfl) rfl (by simp) (by simp) fun Z hN hX hR => ?_
  repeat (first | ((first | refine Q1 ?_ | refine Q2 ?_); intro Z hN hX hR) | refine Q3 (by kernel_rfl) fun K hK => ?_ | ((first | refine Q4 fun R hJ => ?_ | with_reducible change ExpAll _ _ _); simp only [kS, R1, R2, R3, R4, R5, R6, R7, reduceCtorEq, R9]) | (refine hJ _ ?_; clear hJ R) | refine Q5 ?_ | (refine hK _ ?_; clear hK K) | ((first | refine hN _ ?_ | refine hX _ _ ?_ | refine hR _ ?_); clear hN hX hR Z) | refine Q6 rfl ?_ | refine Q7 (by decide) ?_ | (refine Q8 ?_ ?_; focus (simp only [kS, R1, R2, R3, R4, R5, R6, R7, reduceCtorEq, R9]; done)) | (refine Q9 ?_ ?_; focus (simp only [kS, R1, R2, R3, R4, R5, R6, R7, reduceCtorEq, R9]; done)) | refine Qa ?_ | refine Qb ?_ | refine Qc ?_ | refine And.intro (by first | assumption | omega) ?_)
  refine awq_loop (fun n f => ∃ i, i ≤ s.length ∧ n = s.length - i ∧ f.t 1 = .c (stC s) ∧ f.t 5 = iv (i : Int) ∧ (s.drop i).all (okIt d) = okSt d s ∧ f.t 2 = .ref 2 1 0 ∧ f.ob 2 1 = .box (dC d) ∧ 1 < f.k) s.length ?_ ?_
  · exact ⟨0, by omega, rfl, by simp only [kS, R1, R2, R3, R4, R5, R6, R7, reduceCtorEq, R9], by simp only [kS, R1, R2, R3, R4, R5, R6, R7, reduceCtorEq, R9]; rfl, rfl, by simp only [kS, R1, R2, R3, R4, R5, R6, R7, reduceCtorEq, R9], by simp only [kS, R1, R2, R3, R4, R5, R6, R7, reduceCtorEq, R9], by simp only [kS, R1, R2, R3, R4, R5, R6, R7, reduceCtorEq, R9]⟩
  rintro Z n f hN hX hR ⟨i, hi, rfl, h1, h5, hc, h2, hb, hk⟩
  by_cases hlt : i < s.length
  · have e := itsC_drop s i hlt
    rw [List.drop_eq_getElem_cons hlt, List.all_cons] at hc
    repeat (first | ((first | refine Q1 ?_ | refine Q2 ?_); intro Z hN hX hR) | refine Q3 (by kernel_rfl) fun K hK => ?_ | ((first | refine Q4 fun R hJ => ?_ | with_reducible change ExpAll _ _ _); simp only [kS, R1, R2, R3, R4, R5, R6, R7, reduceCtorEq, R9, h1, h5, hlt, e, itsC_length, decide_true, h2, hb, dC_length, dC_take]) | (refine hJ _ ?_; clear hJ R) | refine Q5 ?_ | (refine hK _ ?_; clear hK K) | ((first | refine hN _ ?_ | refine hX _ _ ?_ | refine hR _ ?_); clear hN hX hR Z) | refine Q6 rfl ?_ | refine Q7 (by decide) ?_ | (refine Q8 ?_ ?_; focus (simp only [kS, R1, R2, R3, R4, R5, R6, R7, reduceCtorEq, R9, h1, h5, hlt, e, itsC_length, decide_true, h2, hb, dC_length, dC_take]; done)) | (refine Q9 ?_ ?_; focus (simp only [kS, R1, R2, R3, R4, R5, R6, R7, reduceCtorEq, R9, h1, h5, hlt, e, itsC_length, decide_true, h2, hb, dC_length, dC_take]; done)) | refine Qa ?_ | refine Qb ?_ | refine Qc ?_ | refine And.intro (by first | assumption | omega) ?_)
    refine ⟨_, form13_ret gl d s[i], rfl, ?_⟩
    simp only [kS, R1, R2, R3, R4, R5, R6, R7, reduceCtorEq, R9]
    cases ho : okIt d s[i]
    · repeat (first | ((first | refine Q1 ?_ | refine Q2 ?_); intro Z hN hX hR) | refine Q3 (by kernel_rfl) fun K hK => ?_ | ((first | refine Q4 fun R hJ => ?_ | with_reducible change ExpAll _ _ _); simp only [kS, R1, R2, R3, R4, R5, R6, R7, reduceCtorEq, R9, ho, Bool.not_false]) | (refine hJ _ ?_; clear hJ R) | refine Q5 ?_ | (refine hK _ ?_; clear hK K) | ((first | refine hN _ ?_ | refine hX _ _ ?_ | refine hR _ ?_); clear hN hX hR Z) | refine Q6 rfl ?_ | refine Q7 (by decide) ?_ | (refine Q8 ?_ ?_; focus (simp only [kS, R1, R2, R3, R4, R5, R6, R7, reduceCtorEq, R9, ho, Bool.not_false]; done)) | (refine Q9 ?_ ?_; focus (simp only [kS, R1, R2, R3, R4, R5, R6, R7, reduceCtorEq, R9, ho, Bool.not_false]; done)) | refine Qa ?_ | refine Qb ?_ | refine Qc ?_ | refine And.intro (by first | assumption | omega) ?_)
      rw [← hc, ho]; rfl
    · repeat (first | ((first | refine Q1 ?_ | refine Q2 ?_); intro Z hN hX hR) | refine Q3 (by kernel_rfl) fun K hK => ?_ | ((first | refine Q4 fun R hJ => ?_ | with_reducible change ExpAll _ _ _); simp only [kS, R1, R2, R3, R4, R5, R6, R7, reduceCtorEq, R9, ho, Bool.not_true, h1, h5]) | (refine hJ _ ?_; clear hJ R) | refine Q5 ?_ | (refine hK _ ?_; clear hK K) | ((first | refine hN _ ?_ | refine hX _ _ ?_ | refine hR _ ?_); clear hN hX hR Z) | refine Q6 rfl ?_ | refine Q7 (by decide) ?_ | (refine Q8 ?_ ?_; focus (simp only [kS, R1, R2, R3, R4, R5, R6, R7, reduceCtorEq, R9, ho, Bool.not_true, h1, h5]; done)) | (refine Q9 ?_ ?_; focus (simp only [kS, R1, R2, R3, R4, R5, R6, R7, reduceCtorEq, R9, ho, Bool.not_true, h1, h5]; done)) | refine Qa ?_ | refine Qb ?_ | refine Qc ?_ | refine And.intro (by first | assumption | omega) ?_)
      rw [ho, Bool.true_and] at hc
      refine ⟨s.length - (i + 1), by omega, i + 1, by omega, rfl, by simp only [kS, R1, R2, R3, R4, R5, R6, R7, reduceCtorEq, R9, h1], ?_, hc, by simp only [kS, R1, R2, R3, R4, R5, R6, R7, reduceCtorEq, R9, h2], by simp only [kS, R1, R2, R3, R4, R5, R6, R7, reduceCtorEq, R9, hb], by (simp only [kS, R1, R2, R3, R4, R5, R6, R7, reduceCtorEq, R9]) <;> first | omega | rfl⟩
      simp only [kS, R1, R2, R3, R4, R5, R6, R7, reduceCtorEq, R9]
      rw [wrap_i64 (by omega) (by omega)]; rfl
  · repeat (first | ((first | refine Q1 ?_ | refine Q2 ?_); intro Z hN hX hR) | refine Q3 (by kernel_rfl) fun K hK => ?_ | ((first | refine Q4 fun R hJ => ?_ | with_reducible change ExpAll _ _ _); simp only [kS, R1, R2, R3, R4, R5, R6, R7, reduceCtorEq, R9, h1, h5, hlt, decide_false]) | (refine hJ _ ?_; clear hJ R) | refine Q5 ?_ | (refine hK _ ?_; clear hK K) | ((first | refine hN _ ?_ | refine hX _ _ ?_ | refine hR _ ?_); clear hN hX hR Z) | refine Q6 rfl ?_ | refine Q7 (by decide) ?_ | (refine Q8 ?_ ?_; focus (simp only [kS, R1, R2, R3, R4, R5, R6, R7, reduceCtorEq, R9, h1, h5, hlt, decide_false]; done)) | (refine Q9 ?_ ?_; focus (simp only [kS, R1, R2, R3, R4, R5, R6, R7, reduceCtorEq, R9, h1, h5, hlt, decide_false]; done)) | refine Qa ?_ | refine Qb ?_ | refine Qc ?_ | refine And.intro (by first | assumption | omega) ?_)
    rw [← hc, List.drop_eq_nil_of_le (by omega)]
    rfl

end Go.Proofs.YtilhjiopbbbgmaaDoor

/- Opening a state: steps. -/
namespace Go.Proofs.YtilhjiopbbbgmaaDoor
open Nat renaming reduceSub → R1, reduceMul → R2, reduceLeDiff → R3, reducePow → R4, reduceBEq → R5, reduceAdd → R6, reduceEqDiff → R7
open Int renaming reduceToNat → R9
open Go Go.RowKit Am
set_option linter.unusedVariables false
set_option linter.unusedSimpArgs false
set_option maxHeartbeats 4000000
attribute [local irreducible] AWp AOps

def okNd (d : List Nd) (n : Nd) : Prop := 1 ≤ n.k ∧ n.k ≤ 9 ∧ 0 ≤ n.a ∧ n.a < d.length ∧ 0 ≤ n.b ∧ n.b < d.length ∧ 0 ≤ n.lo ∧ n.lo ≤ n.hi ∧ n.hi ≤ 255 ∧ (n.k = 3 → 0 < n.s.size)
def WFd (d : List Nd) : Prop := 0 < d.length ∧ d.length ≤ 100 ∧ ∀ n ∈ d, okNd d n
def gd (d : List Nd) (s : List It) : Prop := ∀ x ∈ s, smIt d x

theorem WFd.nd {d : List Nd} (h : WFd d) (i : Int) (h1 : 0 ≤ i) (h2 : i < d.length) : okNd d (nd d i) := by
  have : i.toNat < d.length := by omega
  have e : Go.Proofs.YtilhjiopbbbgmaaDoor.nd d i = d[i.toNat] := by simp [Go.Proofs.YtilhjiopbbbgmaaDoor.nd, this]
  rw [e]; exact h.2.2 _ (List.getElem_mem this)

theorem gd_cons {d : List Nd} {x : It} {s : List It} (hx : smIt d x) (hs : gd d s) : gd d (x :: s) := by
  intro y hy
  rcases List.mem_cons.1 hy with rfl | hy
  · exact hx
  · exact hs _ hy

theorem gd_inR {d : List Nd} {s : List It} (h : gd d s) : ∀ x ∈ s, inR d x := fun x hx => (h x hx).1

theorem openS_gd {d : List Nd} {s : List It} (hd : WFd d) (hs : gd d s) : ∀ t ∈ openS d s, gd d t ∧ t.length ≤ s.length + 1 := by
  cases s with
  | nil => simp [openS]
  | cons x s =>
    have hx := hs x (by simp)
    have hr : gd d s := fun y hy => hs y (by simp [hy])
    obtain ⟨⟨i1, i2⟩, l1, l2, l3⟩ := hx
    have hn := hd.nd x.n i1 i2
    obtain ⟨k1, k2, a1, a2, b1, b2, o1, o2, o3, _⟩ := hn
    have ga : ∀ t, gd d t → gd d (⟨1, (nd d x.n).a, 0, 0⟩ :: t) := fun t ht => gd_cons ⟨⟨a1, a2⟩, by simp⟩ ht
    have gb : ∀ t, gd d t → gd d (⟨1, (nd d x.n).b, 0, 0⟩ :: t) := fun t ht => gd_cons ⟨⟨b1, b2⟩, by simp⟩ ht
    have gx : gd d (x :: s) := hs
    have g3 : gd d (⟨3, x.n, 0, 0⟩ :: s) := gd_cons ⟨⟨i1, i2⟩, by simp⟩ hr
    have g2 : gd d (⟨2, x.n, (nd d x.n).lo, (nd d x.n).hi⟩ :: s) := gd_cons ⟨⟨i1, i2⟩, by simp; omega⟩ hr
    have g2' : gd d (⟨2, x.n, if 0 < x.lo - 1 then x.lo - 1 else 0, x.hi - 1⟩ :: s) := gd_cons ⟨⟨i1, i2⟩, by simp only; split <;> omega⟩ hr
    intro t ht
    simp only [openS] at ht
    split at ht
    · split at ht
      · simp at ht; subst ht; exact ⟨hr, by simp; omega⟩
      · simp at ht
    · split at ht
      · rcases List.mem_append.1 ht with ht | ht
        · split at ht
          · simp at ht; subst ht; exact ⟨hr, by simp; omega⟩
          · simp at ht
        · split at ht
          · simp only [List.mem_singleton] at ht; subst ht; exact ⟨ga _ g2', by simp⟩
          · simp at ht
      · split at ht
        · simp only [List.mem_singleton] at ht; subst ht; exact ⟨hr, by simp; omega⟩
        · split at ht
          · simp only [List.mem_singleton] at ht; subst ht; exact ⟨g3, by simp⟩
          · split at ht
            · simp only [List.mem_singleton] at ht; subst ht; exact ⟨ga _ (gb _ hr), by simp⟩
            · split at ht
              · simp only [List.mem_cons, List.not_mem_nil, or_false] at ht
                rcases ht with rfl | rfl
                · exact ⟨ga _ hr, by simp⟩
                · exact ⟨gb _ hr, by simp⟩
              · split at ht
                · simp only [List.mem_cons, List.not_mem_nil, or_false] at ht
                  rcases ht with rfl | rfl
                  · exact ⟨hr, by simp; omega⟩
                  · exact ⟨ga _ gx, by simp⟩
                · split at ht
                  · simp only [List.mem_singleton] at ht; subst ht; exact ⟨g2, by simp⟩
                  · simp at ht

theorem openS_len (d : List Nd) (s : List It) : (openS d s).length ≤ 2 := by
  cases s with
  | nil => simp [openS]
  | cons x s =>
    have a1 : ∀ (c : Prop) [Decidable c] (t : List It), (if c then [t] else []).length ≤ 1 := fun c _ t => by split <;> simp
    simp only [openS]
    split
    · have := a1 ((x.lo == 0) = true) s; omega
    · split
      · rw [List.length_append]
        have := a1 ((x.lo == 0) = true) s
        have := a1 (0 < x.hi) (⟨1, (nd d x.n).a, 0, 0⟩ :: ⟨2, x.n, if 0 < x.lo - 1 then x.lo - 1 else 0, x.hi - 1⟩ :: s)
        omega
      · split
        · simp
        · split
          · simp
          · split
            · simp
            · split
              · simp
              · split
                · simp
                · exact Nat.le_trans (a1 _ _) (by omega)

/-- How many steps open a state, up to a number. -/
def stepsF (d : List Nd) : Nat → List It → Int → Int
  | 0, _, _ => 1
  | k + 1, s, m => if m ≤ 1 then 1 else if rdy d s = true then 1 else (openS d s).foldl (fun n o => if n < m then n + stepsF d k o (m - n) else n) 1

theorem steps_fold {f : List It → Int → Int} {m : Int} (hf : ∀ o n, 1 ≤ n → n < m → 1 ≤ f o (m - n) ∧ f o (m - n) ≤ m - n) : ∀ (os : List (List It)) (n : Int), 1 ≤ n → n ≤ m →
    n ≤ os.foldl (fun n o => if n < m then n + f o (m - n) else n) n ∧ os.foldl (fun n o => if n < m then n + f o (m - n) else n) n ≤ m
  | [], n, h1, h2 => ⟨Int.le_refl _, h2⟩
  | o :: os, n, h1, h2 => by
    simp only [List.foldl_cons]
    split
    · rename_i h
      obtain ⟨a, b⟩ := hf o n h1 h
      obtain ⟨c, e⟩ := steps_fold hf os (n + f o (m - n)) (by omega) (by omega)
      exact ⟨by omega, e⟩
    · exact steps_fold hf os n h1 h2

theorem stepsF_le (d : List Nd) : ∀ (k : Nat) (s : List It) (m : Int), 1 ≤ stepsF d k s m ∧ (1 ≤ m → stepsF d k s m ≤ m)
  | 0, s, m => ⟨by simp [stepsF], fun h => by simpa [stepsF] using h⟩
  | k + 1, s, m => by
    simp only [stepsF]
    split
    · exact ⟨by omega, fun h => by omega⟩
    · split
      · exact ⟨by omega, fun h => by omega⟩
      · obtain ⟨a, b⟩ := steps_fold (f := stepsF d k) (m := m) (fun o n h1 h2 => ⟨(stepsF_le d k o (m - n)).1, (stepsF_le d k o (m - n)).2 (by omega)⟩) (openS d s) 1 (by omega) (by omega)
        exact ⟨by omega, fun _ => b⟩

theorem fold_stop {f : List It → Int → Int} {m : Int} : ∀ (os : List (List It)) (n : Int), ¬ n < m → os.foldl (fun n o => if n < m then n + f o (m - n) else n) n = n
  | [], n, h => rfl
  | o :: os, n, h => by simp only [List.foldl_cons, if_neg h]; exact fold_stop os n h

def deep (d : List Nd) : Nat → List It → Prop
  | 0, _ => False
  | k + 1, s => rdy d s = true ∨ ∀ t ∈ openS d s, deep d k t

def leaves (d : List Nd) : Nat → List It → List (List It)
  | 0, _ => []
  | k + 1, s => if rdy d s = true then [s] else (openS d s).flatMap (leaves d k)

theorem fold_deep {d : List Nd} {k : Nat} {m : Int} (hm : m ≤ k + 1) (ih : ∀ s (m' : Int), m' ≤ k → 1 < m' → stepsF d k s m' < m' → deep d k s ∧ ((leaves d k s).length : Int) ≤ stepsF d k s m') :
    ∀ (os : List (List It)) (n : Int), 1 ≤ n → n < m → os.foldl (fun n o => if n < m then n + stepsF d k o (m - n) else n) n < m →
      (∀ t ∈ os, deep d k t) ∧ n + ((os.flatMap (leaves d k)).length : Int) ≤ os.foldl (fun n o => if n < m then n + stepsF d k o (m - n) else n) n
  | [], n, h1, h2, h => ⟨by simp, by simp⟩
  | o :: os, n, h1, h2, h => by
    simp only [List.foldl_cons, if_pos h2] at h ⊢
    by_cases h3 : n + stepsF d k o (m - n) < m
    · have h4 : 1 < m - n := by have := (stepsF_le d k o (m - n)).1; omega
      obtain ⟨a, b⟩ := ih o (m - n) (by omega) h4 (by omega)
      obtain ⟨c, e⟩ := fold_deep hm ih os _ (by have := (stepsF_le d k o (m - n)).1; omega) h3 h
      refine ⟨fun t ht => ?_, ?_⟩
      · rcases List.mem_cons.1 ht with rfl | ht
        · exact a
        · exact c t ht
      · simp only [List.flatMap_cons, List.length_append]; omega
    · rw [fold_stop os _ h3] at h; omega

theorem steps_deep (d : List Nd) : ∀ (k : Nat) (s : List It) (m : Int), m ≤ k → 1 < m → stepsF d k s m < m → deep d k s ∧ ((leaves d k s).length : Int) ≤ stepsF d k s m
  | 0, s, m, h0, h1, h => by omega
  | k + 1, s, m, h0, h1, h => by
    simp only [stepsF, if_neg (show ¬ m ≤ 1 by omega), deep, leaves] at h ⊢
    split
    · rename_i hr; exact ⟨.inl hr, by simp⟩
    · rename_i hr
      rw [if_neg hr] at h
      obtain ⟨a, b⟩ := fold_deep (by omega) (fun s m' h0 h1 h => steps_deep d k s m' h0 h1 h) (openS d s) 1 (by omega) h1 h
      exact ⟨.inr a, by omega⟩

theorem ssC_length (l : List (List It)) : (ssC l).length = l.length := by simp [ssC]
theorem ssC_drop (l : List (List It)) (i : Nat) (h : i < l.length) : (ssC l).drop i = stC l[i] :: ssC (l.drop (i + 1)) := by
  simp only [ssC, ← List.map_drop, List.drop_eq_getElem_cons h, List.map_cons]

theorem rdy_false {d : List Nd} {s : List It} (h : rdy d s = false) : ∃ x t, s = x :: t := by
  cases s with
  | nil => cases h
  | cons x t => exact ⟨x, t, rfl⟩

theorem open_ret' (gl : Gl) (d : List Nd) (s : List It) (h : gd d s) (hr : rdy d s = false) (hs : s.length ≤ 1000000) : Ret Tryd.prog gl 18 [.agg (dC d), .c (stC s)] (.c (ssS (openS d s))) := by
  obtain ⟨x, t, rfl⟩ := rdy_false hr
  exact open_ret gl d x t (h x (by simp)) (by simp at hs; omega)

theorem steps_ret (gl : Gl) (d : List Nd) (hd : WFd d) : ∀ (k : Nat) (s : List It) (m : Int), m ≤ k → k ≤ 100000 → -100000 ≤ m → gd d s → s.length + k ≤ 1000000 →
    Ret Tryd.prog gl 34 [.agg (dC d), .c (stC s), iv m] (iv (stepsF d k s m)) := by
  intro k
  induction k with
  | zero =>
    intro s m h0 _ h9 hs hl
    refine retq (rs := [6]) 43 Tryd.func34 (by kernel_rfl) rfl (by kernel_rfl) rfl (by simp) (by simp) fun Z hN hX hR => ?_
    have h1 : m ≤ 1 := by omega
    repeat (first | ((first | refine Q1 ?_ | refine Q2 ?_); intro Z hN hX hR) | refine Q3 (by kernel_rfl) fun K hK => ?_ | ((first | refine Q4 fun R hJ => ?_ | with_reducible change ExpAll _ _ _); simp only [kS, R1, R2, R3, R4, R5, R6, R7, reduceCtorEq, R9, h1, decide_true, dC_length, dC_take]) | (refine hJ _ ?_; clear hJ R) | refine Q5 ?_ | (refine hK _ ?_; clear hK K) | ((first | refine hN _ ?_ | refine hX _ _ ?_ | refine hR _ ?_); clear hN hX hR Z) | refine Q6 rfl ?_ | refine Q7 (by decide) ?_ | (refine Q8 ?_ ?_; focus (simp only [kS, R1, R2, R3, R4, R5, R6, R7, reduceCtorEq, R9, h1, decide_true, dC_length, dC_take]; done)) | (refine Q9 ?_ ?_; focus (simp only [kS, R1, R2, R3, R4, R5, R6, R7, reduceCtorEq, R9, h1, decide_true, dC_length, dC_take]; done)) | refine Qa ?_ | refine Qb ?_ | refine Qc ?_ | refine And.intro (by first | assumption | omega) ?_)
    rfl
  | succ k ih =>
    intro s m h0 hk h9 hs hl
    refine retq (rs := [6]) 43 Tryd.func34 (by kernel_rfl) rfl (by kernel_rfl) rfl (by simp) (by simp) fun Z hN hX hR => ?_
    by_cases h1 : m ≤ 1
    · repeat (first | ((first | refine Q1 ?_ | refine Q2 ?_); intro Z hN hX hR) | refine Q3 (by kernel_rfl) fun K hK => ?_ | ((first | refine Q4 fun R hJ => ?_ | with_reducible change ExpAll _ _ _); simp only [kS, R1, R2, R3, R4, R5, R6, R7, reduceCtorEq, R9, h1, decide_true, dC_length, dC_take]) | (refine hJ _ ?_; clear hJ R) | refine Q5 ?_ | (refine hK _ ?_; clear hK K) | ((first | refine hN _ ?_ | refine hX _ _ ?_ | refine hR _ ?_); clear hN hX hR Z) | refine Q6 rfl ?_ | refine Q7 (by decide) ?_ | (refine Q8 ?_ ?_; focus (simp only [kS, R1, R2, R3, R4, R5, R6, R7, reduceCtorEq, R9, h1, decide_true, dC_length, dC_take]; done)) | (refine Q9 ?_ ?_; focus (simp only [kS, R1, R2, R3, R4, R5, R6, R7, reduceCtorEq, R9, h1, decide_true, dC_length, dC_take]; done)) | refine Qa ?_ | refine Qb ?_ | refine Qc ?_ | refine And.intro (by first | assumption | omega) ?_)
      simp only [stepsF, if_pos h1]
    · repeat (first | ((first | refine Q1 ?_ | refine Q2 ?_); intro Z hN hX hR) | refine Q3 (by kernel_rfl) fun K hK => ?_ | ((first | refine Q4 fun R hJ => ?_ | with_reducible change ExpAll _ _ _); simp only [kS, R1, R2, R3, R4, R5, R6, R7, reduceCtorEq, R9, h1, decide_true, decide_false, dC_length, dC_take]) | (refine hJ _ ?_; clear hJ R) | refine Q5 ?_ | (refine hK _ ?_; clear hK K) | ((first | refine hN _ ?_ | refine hX _ _ ?_ | refine hR _ ?_); clear hN hX hR Z) | refine Q6 rfl ?_ | refine Q7 (by decide) ?_ | (refine Q8 ?_ ?_; focus (simp only [kS, R1, R2, R3, R4, R5, R6, R7, reduceCtorEq, R9, h1, decide_true, decide_false, dC_length, dC_take]; done)) | (refine Q9 ?_ ?_; focus (simp only [kS, R1, R2, R3, R4, R5, R6, R7, reduceCtorEq, R9, h1, decide_true, decide_false, dC_length, dC_take]; done)) | refine Qa ?_ | refine Qb ?_ | refine Qc ?_ | refine And.intro (by first | assumption | omega) ?_)
      refine ⟨_, ready_ret gl d s (gd_inR hs), rfl, ?_⟩
      simp only [kS, R1, R2, R3, R4, R5, R6, R7, reduceCtorEq, R9]
      cases hr : rdy d s
      · repeat (first | ((first | refine Q1 ?_ | refine Q2 ?_); intro Z hN hX hR) | refine Q3 (by kernel_rfl) fun K hK => ?_ | ((first | refine Q4 fun R hJ => ?_ | with_reducible change ExpAll _ _ _); simp only [kS, R1, R2, R3, R4, R5, R6, R7, reduceCtorEq, R9, hr, dC_length, dC_take]) | (refine hJ _ ?_; clear hJ R) | refine Q5 ?_ | (refine hK _ ?_; clear hK K) | ((first | refine hN _ ?_ | refine hX _ _ ?_ | refine hR _ ?_); clear hN hX hR Z) | refine Q6 rfl ?_ | refine Q7 (by decide) ?_ | (refine Q8 ?_ ?_; focus (simp only [kS, R1, R2, R3, R4, R5, R6, R7, reduceCtorEq, R9, hr, dC_length, dC_take]; done)) | (refine Q9 ?_ ?_; focus (simp only [kS, R1, R2, R3, R4, R5, R6, R7, reduceCtorEq, R9, hr, dC_length, dC_take]; done)) | refine Qa ?_ | refine Qb ?_ | refine Qc ?_ | refine And.intro (by first | assumption | omega) ?_)
        refine ⟨_, open_ret' gl d s hs hr (by omega), rfl, ?_⟩
        simp only [kS, R1, R2, R3, R4, R5, R6, R7, reduceCtorEq, R9]
        have hol := openS_len d s
        have hO := openS_gd hd hs
        repeat (first | ((first | refine Q1 ?_ | refine Q2 ?_); intro Z hN hX hR) | refine Q3 (by kernel_rfl) fun K hK => ?_ | ((first | refine Q4 fun R hJ => ?_ | with_reducible change ExpAll _ _ _); simp only [kS, R1, R2, R3, R4, R5, R6, R7, reduceCtorEq, R9]) | (refine hJ _ ?_; clear hJ R) | refine Q5 ?_ | (refine hK _ ?_; clear hK K) | ((first | refine hN _ ?_ | refine hX _ _ ?_ | refine hR _ ?_); clear hN hX hR Z) | refine Q6 rfl ?_ | refine Q7 (by decide) ?_ | (refine Q8 ?_ ?_; focus (simp only [kS, R1, R2, R3, R4, R5, R6, R7, reduceCtorEq, R9]; done)) | (refine Q9 ?_ ?_; focus (simp only [kS, R1, R2, R3, R4, R5, R6, R7, reduceCtorEq, R9]; done)) | refine Qa ?_ | refine Qb ?_ | refine Qc ?_ | refine And.intro (by first | assumption | omega) ?_)
        refine awq_loop (fun c f => ∃ (i : Nat) (n : Int), i ≤ (openS d s).length ∧ c = (openS d s).length - i ∧ f.t 2 = iv m ∧ f.t 8 = .c (ssS (openS d s)) ∧ f.t 9 = iv (i : Int) ∧ f.t 7 = iv n ∧ 1 ≤ n ∧ n ≤ m ∧
          ((openS d s).drop i).foldl (fun n o => if n < m then n + stepsF d k o (m - n) else n) n = stepsF d (k + 1) s m ∧ f.t 3 = .ref 3 1 0 ∧ f.ob 3 1 = .box (dC d) ∧ 1 < f.k) (openS d s).length ?_ ?_
        · exact ⟨0, 1, by omega, rfl, by simp only [kS, R1, R2, R3, R4, R5, R6, R7, reduceCtorEq, R9], by simp only [kS, R1, R2, R3, R4, R5, R6, R7, reduceCtorEq, R9], by simp only [kS, R1, R2, R3, R4, R5, R6, R7, reduceCtorEq, R9]; rfl, by simp only [kS, R1, R2, R3, R4, R5, R6, R7, reduceCtorEq, R9], by omega, by omega, by simp only [stepsF, if_neg h1, hr]; rfl, by simp only [kS, R1, R2, R3, R4, R5, R6, R7, reduceCtorEq, R9], by simp only [kS, R1, R2, R3, R4, R5, R6, R7, reduceCtorEq, R9], by (simp only [kS, R1, R2, R3, R4, R5, R6, R7, reduceCtorEq, R9]) <;> first | omega | rfl⟩
        rintro Z c f hN hX hR ⟨i, n, hi, rfl, h2, h8, h9, h7, n1, n2, hc, h3, hb, hk⟩
        by_cases hlt : i < (openS d s).length
        · by_cases hnm : n < m
          · have e := ssC_drop (openS d s) i hlt
            have hel := ssC_length (openS d s)
            have hw : IntKind.i64.wrap (m - n) = m - n := wrap_i64 (by omega) (by omega)
            obtain ⟨g1, g2⟩ := hO _ (List.getElem_mem hlt)
            obtain ⟨b1, b2⟩ := stepsF_le d k (openS d s)[i] (m - n)
            have b2 := b2 (by omega)
            have hw2 : IntKind.i64.wrap (n + stepsF d k (openS d s)[i] (m - n)) = n + stepsF d k (openS d s)[i] (m - n) := wrap_i64 (by omega) (by omega)
            rw [List.drop_eq_getElem_cons hlt, List.foldl_cons, if_pos hnm] at hc
            repeat (first | ((first | refine Q1 ?_ | refine Q2 ?_); intro Z hN hX hR) | refine Q3 (by kernel_rfl) fun K hK => ?_ | ((first | refine Q4 fun R hJ => ?_ | with_reducible change ExpAll _ _ _); simp only [kS, R1, R2, R3, R4, R5, R6, R7, reduceCtorEq, R9, h2, h8, h9, h7, hlt, hnm, e, hel, hw, h3, hb, decide_true, dC_length, dC_take]) | (refine hJ _ ?_; clear hJ R) | refine Q5 ?_ | (refine hK _ ?_; clear hK K) | ((first | refine hN _ ?_ | refine hX _ _ ?_ | refine hR _ ?_); clear hN hX hR Z) | refine Q6 rfl ?_ | refine Q7 (by decide) ?_ | (refine Q8 ?_ ?_; focus (simp only [kS, R1, R2, R3, R4, R5, R6, R7, reduceCtorEq, R9, h2, h8, h9, h7, hlt, hnm, e, hel, hw, h3, hb, decide_true, dC_length, dC_take]; done)) | (refine Q9 ?_ ?_; focus (simp only [kS, R1, R2, R3, R4, R5, R6, R7, reduceCtorEq, R9, h2, h8, h9, h7, hlt, hnm, e, hel, hw, h3, hb, decide_true, dC_length, dC_take]; done)) | refine Qa ?_ | refine Qb ?_ | refine Qc ?_ | refine And.intro (by first | assumption | omega) ?_)
            refine ⟨_, ih _ _ (by omega) (by omega) (by omega) g1 (by omega), rfl, ?_⟩
            simp only [kS, R1, R2, R3, R4, R5, R6, R7, reduceCtorEq, R9]
            repeat (first | ((first | refine Q1 ?_ | refine Q2 ?_); intro Z hN hX hR) | refine Q3 (by kernel_rfl) fun K hK => ?_ | ((first | refine Q4 fun R hJ => ?_ | with_reducible change ExpAll _ _ _); simp only [kS, R1, R2, R3, R4, R5, R6, R7, reduceCtorEq, R9, h2, h8, h9, h7, hw2]) | (refine hJ _ ?_; clear hJ R) | refine Q5 ?_ | (refine hK _ ?_; clear hK K) | ((first | refine hN _ ?_ | refine hX _ _ ?_ | refine hR _ ?_); clear hN hX hR Z) | refine Q6 rfl ?_ | refine Q7 (by decide) ?_ | (refine Q8 ?_ ?_; focus (simp only [kS, R1, R2, R3, R4, R5, R6, R7, reduceCtorEq, R9, h2, h8, h9, h7, hw2]; done)) | (refine Q9 ?_ ?_; focus (simp only [kS, R1, R2, R3, R4, R5, R6, R7, reduceCtorEq, R9, h2, h8, h9, h7, hw2]; done)) | refine Qa ?_ | refine Qb ?_ | refine Qc ?_ | refine And.intro (by first | assumption | omega) ?_)
            refine ⟨(openS d s).length - (i + 1), by omega, i + 1, n + stepsF d k (openS d s)[i] (m - n), by omega, rfl, by simp only [kS, R1, R2, R3, R4, R5, R6, R7, reduceCtorEq, R9, h2], by simp only [kS, R1, R2, R3, R4, R5, R6, R7, reduceCtorEq, R9, h8], ?_, by simp only [kS, R1, R2, R3, R4, R5, R6, R7, reduceCtorEq, R9], by omega, by omega, hc, by simp only [kS, R1, R2, R3, R4, R5, R6, R7, reduceCtorEq, R9, h3], by simp only [kS, R1, R2, R3, R4, R5, R6, R7, reduceCtorEq, R9, hb], by (simp only [kS, R1, R2, R3, R4, R5, R6, R7, reduceCtorEq, R9]) <;> first | omega | rfl⟩
            simp only [kS, R1, R2, R3, R4, R5, R6, R7, reduceCtorEq, R9]
            rw [wrap_i64 (by omega) (by omega)]; rfl
          · rw [fold_stop _ _ hnm] at hc
            repeat (first | ((first | refine Q1 ?_ | refine Q2 ?_); intro Z hN hX hR) | refine Q3 (by kernel_rfl) fun K hK => ?_ | ((first | refine Q4 fun R hJ => ?_ | with_reducible change ExpAll _ _ _); simp only [kS, R1, R2, R3, R4, R5, R6, R7, reduceCtorEq, R9, h2, h8, h9, h7, hlt, hnm, decide_true, decide_false]) | (refine hJ _ ?_; clear hJ R) | refine Q5 ?_ | (refine hK _ ?_; clear hK K) | ((first | refine hN _ ?_ | refine hX _ _ ?_ | refine hR _ ?_); clear hN hX hR Z) | refine Q6 rfl ?_ | refine Q7 (by decide) ?_ | (refine Q8 ?_ ?_; focus (simp only [kS, R1, R2, R3, R4, R5, R6, R7, reduceCtorEq, R9, h2, h8, h9, h7, hlt, hnm, decide_true, decide_false]; done)) | (refine Q9 ?_ ?_; focus (simp only [kS, R1, R2, R3, R4, R5, R6, R7, reduceCtorEq, R9, h2, h8, h9, h7, hlt, hnm, decide_true, decide_false]; done)) | refine Qa ?_ | refine Qb ?_ | refine Qc ?_ | refine And.intro (by first | assumption | omega) ?_)
            rw [hc]
        · rw [List.drop_eq_nil_of_le (by omega)] at hc
          repeat (first | ((first | refine Q1 ?_ | refine Q2 ?_); intro Z hN hX hR) | refine Q3 (by kernel_rfl) fun K hK => ?_ | ((first | refine Q4 fun R hJ => ?_ | with_reducible change ExpAll _ _ _); simp only [kS, R1, R2, R3, R4, R5, R6, R7, reduceCtorEq, R9, h2, h8, h9, h7, hlt, decide_true, decide_false]) | (refine hJ _ ?_; clear hJ R) | refine Q5 ?_ | (refine hK _ ?_; clear hK K) | ((first | refine hN _ ?_ | refine hX _ _ ?_ | refine hR _ ?_); clear hN hX hR Z) | refine Q6 rfl ?_ | refine Q7 (by decide) ?_ | (refine Q8 ?_ ?_; focus (simp only [kS, R1, R2, R3, R4, R5, R6, R7, reduceCtorEq, R9, h2, h8, h9, h7, hlt, decide_true, decide_false]; done)) | (refine Q9 ?_ ?_; focus (simp only [kS, R1, R2, R3, R4, R5, R6, R7, reduceCtorEq, R9, h2, h8, h9, h7, hlt, decide_true, decide_false]; done)) | refine Qa ?_ | refine Qb ?_ | refine Qc ?_ | refine And.intro (by first | assumption | omega) ?_)
          rw [← hc]; rfl
      · repeat (first | ((first | refine Q1 ?_ | refine Q2 ?_); intro Z hN hX hR) | refine Q3 (by kernel_rfl) fun K hK => ?_ | ((first | refine Q4 fun R hJ => ?_ | with_reducible change ExpAll _ _ _); simp only [kS, R1, R2, R3, R4, R5, R6, R7, reduceCtorEq, R9, hr]) | (refine hJ _ ?_; clear hJ R) | refine Q5 ?_ | (refine hK _ ?_; clear hK K) | ((first | refine hN _ ?_ | refine hX _ _ ?_ | refine hR _ ?_); clear hN hX hR Z) | refine Q6 rfl ?_ | refine Q7 (by decide) ?_ | (refine Q8 ?_ ?_; focus (simp only [kS, R1, R2, R3, R4, R5, R6, R7, reduceCtorEq, R9, hr]; done)) | (refine Q9 ?_ ?_; focus (simp only [kS, R1, R2, R3, R4, R5, R6, R7, reduceCtorEq, R9, hr]; done)) | refine Qa ?_ | refine Qb ?_ | refine Qc ?_ | refine And.intro (by first | assumption | omega) ?_)
        simp only [stepsF, if_neg h1, hr, if_true]

end Go.Proofs.YtilhjiopbbbgmaaDoor

/- Functions on branches: Same. -/
namespace Go.Proofs.YtilhjiopbbbgmaaDoor
open Nat renaming reduceSub → R1, reduceMul → R2, reduceLeDiff → R3, reducePow → R4, reduceBEq → R5, reduceAdd → R6, reduceEqDiff → R7
open Int renaming reduceToNat → R9
open Go Go.RowKit Am
set_option linter.unusedVariables false
set_option linter.unusedSimpArgs false
set_option maxHeartbeats 4000000
attribute [local irreducible] AWp AOps

def sameB : List Br → List Br → Bool
  | [], [] => true
  | x :: a, y :: b => x.many == y.many && (scmp x.to y.to == 0 && sameB a b)
  | _, _ => false

theorem sameB_len : ∀ (a b : List Br), a.length ≠ b.length → sameB a b = false
  | [], [], h => by simp at h
  | [], _ :: _, _ => rfl
  | _ :: _, [], _ => rfl
  | x :: a, y :: b, h => by simp [sameB, sameB_len a b (by simpa using h)]

theorem sameB_drop (a b : List Br) (i : Nat) (h1 : i < a.length) (h2 : i < b.length) :
    sameB (a.drop i) (b.drop i) = (a[i].many == b[i].many && (scmp a[i].to b[i].to == 0 && sameB (a.drop (i + 1)) (b.drop (i + 1)))) := by
  rw [List.drop_eq_getElem_cons h1, List.drop_eq_getElem_cons h2]; rfl

def Short (l : List Br) : Prop := ∀ x ∈ l, x.to.length ≤ 1000000

theorem same14_ret (gl : Gl) (a b : List Br) (ha : Short a) (hb : Short b) (hn : a.length ≤ 140737488355328) : Ret Tryd.prog gl 14 [.c (brC a), .c (brC b)] (bv (sameB a b)) := by
  refine retq (rs := [4]) 42 Tryd.func14 (by kernel_rfl) rfl (by kernel_rfl) rfl (by simp) (by simp) fun Z hN hX hR => ?_
  by_cases hl : a.length = b.length
  · have e0 : ((a.length : Int) != (b.length : Int)) = false := by simp [hl]
    have e00 : ((a.length : Int) == (b.length : Int)) = true := by simp [hl]
    repeat (first | ((first | refine Q1 ?_ | refine Q2 ?_); intro Z hN hX hR) | refine Q3 (by kernel_rfl) fun K hK => ?_ | ((first | refine Q4 fun R hJ => ?_ | with_reducible change ExpAll _ _ _); simp only [kS, R1, R2, R3, R4, R5, R6, R7, reduceCtorEq, R9, e0, e00, Bool.not_true]) | (refine hJ _ ?_; clear hJ R) | refine Q5 ?_ | (refine hK _ ?_; clear hK K) | ((first | refine hN _ ?_ | refine hX _ _ ?_ | refine hR _ ?_); clear hN hX hR Z) | refine Q6 rfl ?_ | refine Q7 (by decide) ?_ | (refine Q8 ?_ ?_; focus (simp only [kS, R1, R2, R3, R4, R5, R6, R7, reduceCtorEq, R9, e0, e00, Bool.not_true]; done)) | (refine Q9 ?_ ?_; focus (simp only [kS, R1, R2, R3, R4, R5, R6, R7, reduceCtorEq, R9, e0, e00, Bool.not_true]; done)) | refine Qa ?_ | refine Qb ?_ | refine Qc ?_ | refine And.intro (by first | assumption | omega) ?_)
    refine awq_loop (fun n f => ∃ i, i ≤ a.length ∧ n = a.length - i ∧ f.t 0 = .c (brC a) ∧ f.t 1 = .c (brC b) ∧ f.t 5 = iv (i : Int) ∧ sameB (a.drop i) (b.drop i) = sameB a b) a.length ?_ ?_
    · exact ⟨0, by omega, rfl, by simp only [kS, R1, R2, R3, R4, R5, R6, R7, reduceCtorEq, R9], by simp only [kS, R1, R2, R3, R4, R5, R6, R7, reduceCtorEq, R9], by simp only [kS, R1, R2, R3, R4, R5, R6, R7, reduceCtorEq, R9]; rfl, rfl⟩
    rintro Z n f hN hX hR ⟨i, hi, rfl, h0, h1, h5, hc⟩
    by_cases hlt : i < a.length
    · have hlt2 : i < b.length := by omega
      have d1 := bsC_drop a i hlt
      have d2 := bsC_drop b i hlt2
      rw [sameB_drop a b i hlt hlt2] at hc
      have hsa := ha _ (List.getElem_mem hlt)
      have hsb := hb _ (List.getElem_mem hlt2)
      cases hm : (a[i].many == b[i].many)
      · have hm' : (a[i].many != b[i].many) = true := by simp [bne, hm]
        repeat (first | ((first | refine Q1 ?_ | refine Q2 ?_); intro Z hN hX hR) | refine Q3 (by kernel_rfl) fun K hK => ?_ | ((first | refine Q4 fun R hJ => ?_ | with_reducible change ExpAll _ _ _); simp only [kS, R1, R2, R3, R4, R5, R6, R7, reduceCtorEq, R9, h0, h1, h5, hlt, hlt2, d1, d2, bsC_length, hm, hm', Bool.not_false, decide_true]) | (refine hJ _ ?_; clear hJ R) | refine Q5 ?_ | (refine hK _ ?_; clear hK K) | ((first | refine hN _ ?_ | refine hX _ _ ?_ | refine hR _ ?_); clear hN hX hR Z) | refine Q6 rfl ?_ | refine Q7 (by decide) ?_ | (refine Q8 ?_ ?_; focus (simp only [kS, R1, R2, R3, R4, R5, R6, R7, reduceCtorEq, R9, h0, h1, h5, hlt, hlt2, d1, d2, bsC_length, hm, hm', Bool.not_false, decide_true]; done)) | (refine Q9 ?_ ?_; focus (simp only [kS, R1, R2, R3, R4, R5, R6, R7, reduceCtorEq, R9, h0, h1, h5, hlt, hlt2, d1, d2, bsC_length, hm, hm', Bool.not_false, decide_true]; done)) | refine Qa ?_ | refine Qb ?_ | refine Qc ?_ | refine And.intro (by first | assumption | omega) ?_)
        rw [← hc, hm]
        rfl
      · have hm' : (a[i].many != b[i].many) = false := by simp [bne, hm]
        repeat (first | ((first | refine Q1 ?_ | refine Q2 ?_); intro Z hN hX hR) | refine Q3 (by kernel_rfl) fun K hK => ?_ | ((first | refine Q4 fun R hJ => ?_ | with_reducible change ExpAll _ _ _); simp only [kS, R1, R2, R3, R4, R5, R6, R7, reduceCtorEq, R9, h0, h1, h5, hlt, hlt2, d1, d2, bsC_length, hm, hm', Bool.not_false, Bool.not_true, decide_true]) | (refine hJ _ ?_; clear hJ R) | refine Q5 ?_ | (refine hK _ ?_; clear hK K) | ((first | refine hN _ ?_ | refine hX _ _ ?_ | refine hR _ ?_); clear hN hX hR Z) | refine Q6 rfl ?_ | refine Q7 (by decide) ?_ | (refine Q8 ?_ ?_; focus (simp only [kS, R1, R2, R3, R4, R5, R6, R7, reduceCtorEq, R9, h0, h1, h5, hlt, hlt2, d1, d2, bsC_length, hm, hm', Bool.not_false, Bool.not_true, decide_true]; done)) | (refine Q9 ?_ ?_; focus (simp only [kS, R1, R2, R3, R4, R5, R6, R7, reduceCtorEq, R9, h0, h1, h5, hlt, hlt2, d1, d2, bsC_length, hm, hm', Bool.not_false, Bool.not_true, decide_true]; done)) | refine Qa ?_ | refine Qb ?_ | refine Qc ?_ | refine And.intro (by first | assumption | omega) ?_)
        refine ⟨_, same13_ret gl _ _ hsa hsb, rfl, ?_⟩
        simp only [kS, R1, R2, R3, R4, R5, R6, R7, reduceCtorEq, R9]
        cases hs : (scmp a[i].to b[i].to == 0)
        · repeat (first | ((first | refine Q1 ?_ | refine Q2 ?_); intro Z hN hX hR) | refine Q3 (by kernel_rfl) fun K hK => ?_ | ((first | refine Q4 fun R hJ => ?_ | with_reducible change ExpAll _ _ _); simp only [kS, R1, R2, R3, R4, R5, R6, R7, reduceCtorEq, R9, hs, Bool.not_false, Bool.not_true]) | (refine hJ _ ?_; clear hJ R) | refine Q5 ?_ | (refine hK _ ?_; clear hK K) | ((first | refine hN _ ?_ | refine hX _ _ ?_ | refine hR _ ?_); clear hN hX hR Z) | refine Q6 rfl ?_ | refine Q7 (by decide) ?_ | (refine Q8 ?_ ?_; focus (simp only [kS, R1, R2, R3, R4, R5, R6, R7, reduceCtorEq, R9, hs, Bool.not_false, Bool.not_true]; done)) | (refine Q9 ?_ ?_; focus (simp only [kS, R1, R2, R3, R4, R5, R6, R7, reduceCtorEq, R9, hs, Bool.not_false, Bool.not_true]; done)) | refine Qa ?_ | refine Qb ?_ | refine Qc ?_ | refine And.intro (by first | assumption | omega) ?_)
          rw [← hc, hm, hs]
          rfl
        · repeat (first | ((first | refine Q1 ?_ | refine Q2 ?_); intro Z hN hX hR) | refine Q3 (by kernel_rfl) fun K hK => ?_ | ((first | refine Q4 fun R hJ => ?_ | with_reducible change ExpAll _ _ _); simp only [kS, R1, R2, R3, R4, R5, R6, R7, reduceCtorEq, R9, hs, Bool.not_false, Bool.not_true, h0, h1, h5]) | (refine hJ _ ?_; clear hJ R) | refine Q5 ?_ | (refine hK _ ?_; clear hK K) | ((first | refine hN _ ?_ | refine hX _ _ ?_ | refine hR _ ?_); clear hN hX hR Z) | refine Q6 rfl ?_ | refine Q7 (by decide) ?_ | (refine Q8 ?_ ?_; focus (simp only [kS, R1, R2, R3, R4, R5, R6, R7, reduceCtorEq, R9, hs, Bool.not_false, Bool.not_true, h0, h1, h5]; done)) | (refine Q9 ?_ ?_; focus (simp only [kS, R1, R2, R3, R4, R5, R6, R7, reduceCtorEq, R9, hs, Bool.not_false, Bool.not_true, h0, h1, h5]; done)) | refine Qa ?_ | refine Qb ?_ | refine Qc ?_ | refine And.intro (by first | assumption | omega) ?_)
          rw [hm, hs, Bool.true_and, Bool.true_and] at hc
          simp only [kS, R1, R2, R3, R4, R5, R6, R7, reduceCtorEq, R9, h0, h1]
          refine ⟨a.length - (i + 1), by omega, i + 1, by omega, rfl, ?_, hc⟩
          rw [wrap_i64 (by omega) (by omega)]; rfl
    · repeat (first | ((first | refine Q1 ?_ | refine Q2 ?_); intro Z hN hX hR) | refine Q3 (by kernel_rfl) fun K hK => ?_ | ((first | refine Q4 fun R hJ => ?_ | with_reducible change ExpAll _ _ _); simp only [kS, R1, R2, R3, R4, R5, R6, R7, reduceCtorEq, R9, h0, h1, h5, hlt, decide_false, decide_true]) | (refine hJ _ ?_; clear hJ R) | refine Q5 ?_ | (refine hK _ ?_; clear hK K) | ((first | refine hN _ ?_ | refine hX _ _ ?_ | refine hR _ ?_); clear hN hX hR Z) | refine Q6 rfl ?_ | refine Q7 (by decide) ?_ | (refine Q8 ?_ ?_; focus (simp only [kS, R1, R2, R3, R4, R5, R6, R7, reduceCtorEq, R9, h0, h1, h5, hlt, decide_false, decide_true]; done)) | (refine Q9 ?_ ?_; focus (simp only [kS, R1, R2, R3, R4, R5, R6, R7, reduceCtorEq, R9, h0, h1, h5, hlt, decide_false, decide_true]; done)) | refine Qa ?_ | refine Qb ?_ | refine Qc ?_ | refine And.intro (by first | assumption | omega) ?_)
      rw [← hc, List.drop_eq_nil_of_le (by omega), List.drop_eq_nil_of_le (by omega)]
      rfl
  · have e0 : ((a.length : Int) != (b.length : Int)) = true := by simp [hl]; omega
    have e00 : ((a.length : Int) == (b.length : Int)) = false := by simp [hl]; omega
    repeat (first | ((first | refine Q1 ?_ | refine Q2 ?_); intro Z hN hX hR) | refine Q3 (by kernel_rfl) fun K hK => ?_ | ((first | refine Q4 fun R hJ => ?_ | with_reducible change ExpAll _ _ _); simp only [kS, R1, R2, R3, R4, R5, R6, R7, reduceCtorEq, R9, e0, e00, Bool.not_false]) | (refine hJ _ ?_; clear hJ R) | refine Q5 ?_ | (refine hK _ ?_; clear hK K) | ((first | refine hN _ ?_ | refine hX _ _ ?_ | refine hR _ ?_); clear hN hX hR Z) | refine Q6 rfl ?_ | refine Q7 (by decide) ?_ | (refine Q8 ?_ ?_; focus (simp only [kS, R1, R2, R3, R4, R5, R6, R7, reduceCtorEq, R9, e0, e00, Bool.not_false]; done)) | (refine Q9 ?_ ?_; focus (simp only [kS, R1, R2, R3, R4, R5, R6, R7, reduceCtorEq, R9, e0, e00, Bool.not_false]; done)) | refine Qa ?_ | refine Qb ?_ | refine Qc ?_ | refine And.intro (by first | assumption | omega) ?_)
    rw [sameB_len a b hl]

end Go.Proofs.YtilhjiopbbbgmaaDoor

/- Functions on branches: Add. -/
namespace Go.Proofs.YtilhjiopbbbgmaaDoor
open Nat renaming reduceSub → R1, reduceMul → R2, reduceLeDiff → R3, reducePow → R4, reduceBEq → R5, reduceAdd → R6, reduceEqDiff → R7
open Int renaming reduceToNat → R9
open Go Go.RowKit Am
set_option linter.unusedVariables false
set_option linter.unusedSimpArgs false
set_option maxHeartbeats 4000000
attribute [local irreducible] AWp AOps

theorem bsC_cons (x : Br) (s : List Br) : bsC (x :: s) = stC x.to :: .v (.int .i64 x.many) :: bsC s := rfl

def okM (l : List Br) : Prop := ∀ x ∈ l, 0 ≤ x.many ∧ x.many ≤ 2

theorem add_ret (gl : Gl) (l : List Br) (s : List It) (m : Int) (hl : Short l) (hs : s.length ≤ 1000000) (hn : l.length ≤ 1000000) (hm : okM l) (hm2 : 0 ≤ m ∧ m ≤ 2) :
    Ret Tryd.prog gl 20 [.c (brC l), .c (stC s), iv m] (.c (brC (addB l s m false))) := by
  refine retq (rs := [6]) 67 Tryd.func20 (by kernel_rfl) rfl (by kernel_rfl) rfl (by simp) (by simp) fun Z hN hX hR => ?_
  repeat (first | ((first | refine Q1 ?_ | refine Q2 ?_); intro Z hN hX hR) | refine Q3 (by kernel_rfl) fun K hK => ?_ | ((first | refine Q4 fun R hJ => ?_ | with_reducible change ExpAll _ _ _); simp only [kS, R1, R2, R3, R4, R5, R6, R7, reduceCtorEq, R9]) | (refine hJ _ ?_; clear hJ R) | refine Q5 ?_ | (refine hK _ ?_; clear hK K) | ((first | refine hN _ ?_ | refine hX _ _ ?_ | refine hR _ ?_); clear hN hX hR Z) | refine Q6 rfl ?_ | refine Q7 (by decide) ?_ | (refine Q8 ?_ ?_; focus (simp only [kS, R1, R2, R3, R4, R5, R6, R7, reduceCtorEq, R9]; done)) | (refine Q9 ?_ ?_; focus (simp only [kS, R1, R2, R3, R4, R5, R6, R7, reduceCtorEq, R9]; done)) | refine Qa ?_ | refine Qb ?_ | refine Qc ?_ | refine And.intro (by first | assumption | omega) ?_)
  refine awq_loop (fun n f => ∃ (i : Nat) (o : List Br) (b : Bool), i ≤ l.length ∧ n = l.length - i ∧ o.length ≤ 2 * i ∧ f.t 0 = .c (brC l) ∧ f.t 1 = .c (stC s) ∧ f.t 2 = iv m ∧ f.t 9 = iv (i : Int) ∧ f.t 8 = bv b ∧
    o ++ addB (l.drop i) s m b = addB l s m false ∧ ((f.t 7 = .nil ∧ o = []) ∨ ∃ d t, f.t 7 = .tok d t o.length (bsC o) ∧ f.ob d t = .live 37 2 ∧ t ≤ f.k)) l.length ?_ ?_
  · exact ⟨0, [], false, by omega, rfl, by simp, by simp only [kS, R1, R2, R3, R4, R5, R6, R7, reduceCtorEq, R9], by simp only [kS, R1, R2, R3, R4, R5, R6, R7, reduceCtorEq, R9], by simp only [kS, R1, R2, R3, R4, R5, R6, R7, reduceCtorEq, R9], by simp only [kS, R1, R2, R3, R4, R5, R6, R7, reduceCtorEq, R9]; rfl, by simp only [kS, R1, R2, R3, R4, R5, R6, R7, reduceCtorEq, R9], rfl, .inl ⟨by simp only [kS, R1, R2, R3, R4, R5, R6, R7, reduceCtorEq, R9], rfl⟩⟩
  rintro Z n f hN hX hR ⟨i, o, b, hi, rfl, ho, h0, h1, h2, h9, h8, hc, h7⟩
  by_cases hlt : i < l.length
  · have d1 := bsC_drop l i hlt
    have hsl := hl _ (List.getElem_mem hlt)
    obtain ⟨hm3, hm4⟩ := hm _ (List.getElem_mem hlt)
    rw [List.drop_eq_getElem_cons hlt] at hc
    repeat (first | ((first | refine Q1 ?_ | refine Q2 ?_); intro Z hN hX hR) | refine Q3 (by kernel_rfl) fun K hK => ?_ | ((first | refine Q4 fun R hJ => ?_ | with_reducible change ExpAll _ _ _); simp only [kS, R1, R2, R3, R4, R5, R6, R7, reduceCtorEq, R9, h0, h1, h9, hlt, d1, bsC_length, decide_true]) | (refine hJ _ ?_; clear hJ R) | refine Q5 ?_ | (refine hK _ ?_; clear hK K) | ((first | refine hN _ ?_ | refine hX _ _ ?_ | refine hR _ ?_); clear hN hX hR Z) | refine Q6 rfl ?_ | refine Q7 (by decide) ?_ | (refine Q8 ?_ ?_; focus (simp only [kS, R1, R2, R3, R4, R5, R6, R7, reduceCtorEq, R9, h0, h1, h9, hlt, d1, bsC_length, decide_true]; done)) | (refine Q9 ?_ ?_; focus (simp only [kS, R1, R2, R3, R4, R5, R6, R7, reduceCtorEq, R9, h0, h1, h9, hlt, d1, bsC_length, decide_true]; done)) | refine Qa ?_ | refine Qb ?_ | refine Qc ?_ | refine And.intro (by first | assumption | omega) ?_)
    refine ⟨_, compare_ret gl _ _ hs hsl, rfl, ?_⟩
    simp only [kS, R1, R2, R3, R4, R5, R6, R7, reduceCtorEq, R9]
    have hw : IntKind.i64.wrap (l[i].many + m) = l[i].many + m := wrap_i64 (by omega) (by omega)
    have hlo : (bsC o).length = o.length * 2 := bsC_length o
    by_cases c0 : scmp s l[i].to = 0
    · rcases h7 with ⟨h7, rfl⟩ | ⟨d, t, h7, hob, ht⟩
      · repeat (first | ((first | refine Q1 ?_ | refine Q2 ?_); intro Z hN hX hR) | refine Q3 (by kernel_rfl) fun K hK => ?_ | ((first | refine Q4 fun R hJ => ?_ | with_reducible change ExpAll _ _ _); simp only [kS, R1, R2, R3, R4, R5, R6, R7, reduceCtorEq, R9, h0, h1, h2, h9, h8, h7, tk1, tk2, tk3, tk4, tk5, tk6, tk7, tk8, and_false, false_and, hlt, d1, bsC_length, BEq.rfl, c0, hw]) | (refine hJ _ ?_; clear hJ R) | refine Q5 ?_ | (refine hK _ ?_; clear hK K) | ((first | refine hN _ ?_ | refine hX _ _ ?_ | refine hR _ ?_); clear hN hX hR Z) | refine Q6 rfl ?_ | refine Q7 (by decide) ?_ | (refine Q8 ?_ ?_; focus (simp only [kS, R1, R2, R3, R4, R5, R6, R7, reduceCtorEq, R9, h0, h1, h2, h9, h8, h7, tk1, tk2, tk3, tk4, tk5, tk6, tk7, tk8, and_false, false_and, hlt, d1, bsC_length, BEq.rfl, c0, hw]; done)) | (refine Q9 ?_ ?_; focus (simp only [kS, R1, R2, R3, R4, R5, R6, R7, reduceCtorEq, R9, h0, h1, h2, h9, h8, h7, tk1, tk2, tk3, tk4, tk5, tk6, tk7, tk8, and_false, false_and, hlt, d1, bsC_length, BEq.rfl, c0, hw]; done)) | refine Qa ?_ | refine Qb ?_ | refine Qc ?_ | refine And.intro (by first | assumption | omega) ?_)
        refine ⟨l.length - (i + 1), by omega, i + 1, [] ++ [⟨s, if l[i].many + m < 2 then l[i].many + m else 2⟩], true, by omega, rfl, by simp; omega, by simp only [kS, R1, R2, R3, R4, R5, R6, R7, reduceCtorEq, R9, h0], by simp only [kS, R1, R2, R3, R4, R5, R6, R7, reduceCtorEq, R9, h1], by simp only [kS, R1, R2, R3, R4, R5, R6, R7, reduceCtorEq, R9, h2], ?_, by simp only [kS, R1, R2, R3, R4, R5, R6, R7, reduceCtorEq, R9, h8], ?_, .inr ⟨_, _, by simp only [kS, R1, R2, R3, R4, R5, R6, R7, reduceCtorEq, R9, bsC_append, List.length_append, List.append_assoc]; exact rfl, by simp only [kS, R1, R2, R3, R4, R5, R6, R7, reduceCtorEq, R9], by (simp only [kS, R1, R2, R3, R4, R5, R6, R7, reduceCtorEq, R9]) <;> first | omega | rfl⟩⟩
        · simp only [kS, R1, R2, R3, R4, R5, R6, R7, reduceCtorEq, R9]
          rw [wrap_i64 (by omega) (by omega)]; rfl
        · rw [← hc]; simp [addB, c0]
      · repeat (first | ((first | refine Q1 ?_ | refine Q2 ?_); intro Z hN hX hR) | refine Q3 (by kernel_rfl) fun K hK => ?_ | ((first | refine Q4 fun R hJ => ?_ | with_reducible change ExpAll _ _ _); simp only [kS, R1, R2, R3, R4, R5, R6, R7, reduceCtorEq, R9, h0, h1, h2, h9, h8, h7, hob, ht, tk1, tk2, tk3, tk4, tk5, tk6, tk7, tk8, and_false, false_and, hlo, hlt, d1, bsC_length, BEq.rfl, c0, hw]) | (refine hJ _ ?_; clear hJ R) | refine Q5 ?_ | (refine hK _ ?_; clear hK K) | ((first | refine hN _ ?_ | refine hX _ _ ?_ | refine hR _ ?_); clear hN hX hR Z) | refine Q6 rfl ?_ | refine Q7 (by decide) ?_ | (refine Q8 ?_ ?_; focus (simp only [kS, R1, R2, R3, R4, R5, R6, R7, reduceCtorEq, R9, h0, h1, h2, h9, h8, h7, hob, ht, tk1, tk2, tk3, tk4, tk5, tk6, tk7, tk8, and_false, false_and, hlo, hlt, d1, bsC_length, BEq.rfl, c0, hw]; done)) | (refine Q9 ?_ ?_; focus (simp only [kS, R1, R2, R3, R4, R5, R6, R7, reduceCtorEq, R9, h0, h1, h2, h9, h8, h7, hob, ht, tk1, tk2, tk3, tk4, tk5, tk6, tk7, tk8, and_false, false_and, hlo, hlt, d1, bsC_length, BEq.rfl, c0, hw]; done)) | refine Qa ?_ | refine Qb ?_ | refine Qc ?_ | refine And.intro (by first | assumption | omega) ?_)
        refine ⟨l.length - (i + 1), by omega, i + 1, o ++ [⟨s, if l[i].many + m < 2 then l[i].many + m else 2⟩], true, by omega, rfl, by simp; omega, by simp only [kS, R1, R2, R3, R4, R5, R6, R7, reduceCtorEq, R9, h0], by simp only [kS, R1, R2, R3, R4, R5, R6, R7, reduceCtorEq, R9, h1], by simp only [kS, R1, R2, R3, R4, R5, R6, R7, reduceCtorEq, R9, h2], ?_, by simp only [kS, R1, R2, R3, R4, R5, R6, R7, reduceCtorEq, R9, h8], ?_, .inr ⟨_, _, by simp only [kS, R1, R2, R3, R4, R5, R6, R7, reduceCtorEq, R9, bsC_append, List.length_append, List.append_assoc]; exact rfl, by simp only [kS, R1, R2, R3, R4, R5, R6, R7, reduceCtorEq, R9], by (simp only [kS, R1, R2, R3, R4, R5, R6, R7, reduceCtorEq, R9]) <;> first | omega | rfl⟩⟩
        · simp only [kS, R1, R2, R3, R4, R5, R6, R7, reduceCtorEq, R9]
          rw [wrap_i64 (by omega) (by omega)]; rfl
        · rw [← hc]; simp [addB, c0]
    · have c1 : (scmp s l[i].to == 0) = false := by simpa using c0
      by_cases c2 : scmp s l[i].to < 0
      · cases b
        · rcases h7 with ⟨h7, rfl⟩ | ⟨d, t, h7, hob, ht⟩
          · repeat (first | ((first | refine Q1 ?_ | refine Q2 ?_); intro Z hN hX hR) | refine Q3 (by kernel_rfl) fun K hK => ?_ | ((first | refine Q4 fun R hJ => ?_ | with_reducible change ExpAll _ _ _); simp only [kS, R1, R2, R3, R4, R5, R6, R7, reduceCtorEq, R9, h0, h1, h2, h9, h8, h7, tk1, tk2, tk3, tk4, tk5, tk6, tk7, tk8, and_false, false_and, hlt, d1, bsC_length, BEq.rfl, c1, c2, Bool.not_false, Bool.not_true, decide_true]) | (refine hJ _ ?_; clear hJ R) | refine Q5 ?_ | (refine hK _ ?_; clear hK K) | ((first | refine hN _ ?_ | refine hX _ _ ?_ | refine hR _ ?_); clear hN hX hR Z) | refine Q6 rfl ?_ | refine Q7 (by decide) ?_ | (refine Q8 ?_ ?_; focus (simp only [kS, R1, R2, R3, R4, R5, R6, R7, reduceCtorEq, R9, h0, h1, h2, h9, h8, h7, tk1, tk2, tk3, tk4, tk5, tk6, tk7, tk8, and_false, false_and, hlt, d1, bsC_length, BEq.rfl, c1, c2, Bool.not_false, Bool.not_true, decide_true]; done)) | (refine Q9 ?_ ?_; focus (simp only [kS, R1, R2, R3, R4, R5, R6, R7, reduceCtorEq, R9, h0, h1, h2, h9, h8, h7, tk1, tk2, tk3, tk4, tk5, tk6, tk7, tk8, and_false, false_and, hlt, d1, bsC_length, BEq.rfl, c1, c2, Bool.not_false, Bool.not_true, decide_true]; done)) | refine Qa ?_ | refine Qb ?_ | refine Qc ?_ | refine And.intro (by first | assumption | omega) ?_)
            refine ⟨l.length - (i + 1), by omega, i + 1, [] ++ [⟨s, m⟩, l[i]], true, by omega, rfl, by simp; omega, by simp only [kS, R1, R2, R3, R4, R5, R6, R7, reduceCtorEq, R9, h0], by simp only [kS, R1, R2, R3, R4, R5, R6, R7, reduceCtorEq, R9, h1], by simp only [kS, R1, R2, R3, R4, R5, R6, R7, reduceCtorEq, R9, h2], ?_, by simp only [kS, R1, R2, R3, R4, R5, R6, R7, reduceCtorEq, R9, h8], ?_, .inr ⟨_, _, by simp only [kS, R1, R2, R3, R4, R5, R6, R7, reduceCtorEq, R9, bsC_append, List.length_append, List.append_assoc]; exact rfl, by simp only [kS, R1, R2, R3, R4, R5, R6, R7, reduceCtorEq, R9], by (simp only [kS, R1, R2, R3, R4, R5, R6, R7, reduceCtorEq, R9]) <;> first | omega | rfl⟩⟩
            · simp only [kS, R1, R2, R3, R4, R5, R6, R7, reduceCtorEq, R9]
              rw [wrap_i64 (by omega) (by omega)]; rfl
            · rw [← hc]; simp [addB, c0, c2]
          · repeat (first | ((first | refine Q1 ?_ | refine Q2 ?_); intro Z hN hX hR) | refine Q3 (by kernel_rfl) fun K hK => ?_ | ((first | refine Q4 fun R hJ => ?_ | with_reducible change ExpAll _ _ _); simp only [kS, R1, R2, R3, R4, R5, R6, R7, reduceCtorEq, R9, h0, h1, h2, h9, h8, h7, hob, ht, tk1, tk2, tk3, tk4, tk5, tk6, tk7, tk8, and_false, false_and, hlo, hlt, d1, bsC_length, BEq.rfl, c1, c2, Bool.not_false, Bool.not_true, decide_true]) | (refine hJ _ ?_; clear hJ R) | refine Q5 ?_ | (refine hK _ ?_; clear hK K) | ((first | refine hN _ ?_ | refine hX _ _ ?_ | refine hR _ ?_); clear hN hX hR Z) | refine Q6 rfl ?_ | refine Q7 (by decide) ?_ | (refine Q8 ?_ ?_; focus (simp only [kS, R1, R2, R3, R4, R5, R6, R7, reduceCtorEq, R9, h0, h1, h2, h9, h8, h7, hob, ht, tk1, tk2, tk3, tk4, tk5, tk6, tk7, tk8, and_false, false_and, hlo, hlt, d1, bsC_length, BEq.rfl, c1, c2, Bool.not_false, Bool.not_true, decide_true]; done)) | (refine Q9 ?_ ?_; focus (simp only [kS, R1, R2, R3, R4, R5, R6, R7, reduceCtorEq, R9, h0, h1, h2, h9, h8, h7, hob, ht, tk1, tk2, tk3, tk4, tk5, tk6, tk7, tk8, and_false, false_and, hlo, hlt, d1, bsC_length, BEq.rfl, c1, c2, Bool.not_false, Bool.not_true, decide_true]; done)) | refine Qa ?_ | refine Qb ?_ | refine Qc ?_ | refine And.intro (by first | assumption | omega) ?_)
            refine ⟨l.length - (i + 1), by omega, i + 1, o ++ [⟨s, m⟩, l[i]], true, by omega, rfl, by simp; omega, by simp only [kS, R1, R2, R3, R4, R5, R6, R7, reduceCtorEq, R9, h0], by simp only [kS, R1, R2, R3, R4, R5, R6, R7, reduceCtorEq, R9, h1], by simp only [kS, R1, R2, R3, R4, R5, R6, R7, reduceCtorEq, R9, h2], ?_, by simp only [kS, R1, R2, R3, R4, R5, R6, R7, reduceCtorEq, R9, h8], ?_, .inr ⟨_, _, by simp only [kS, R1, R2, R3, R4, R5, R6, R7, reduceCtorEq, R9, bsC_append, List.length_append, List.append_assoc]; exact rfl, by simp only [kS, R1, R2, R3, R4, R5, R6, R7, reduceCtorEq, R9], by (simp only [kS, R1, R2, R3, R4, R5, R6, R7, reduceCtorEq, R9]) <;> first | omega | rfl⟩⟩
            · simp only [kS, R1, R2, R3, R4, R5, R6, R7, reduceCtorEq, R9]
              rw [wrap_i64 (by omega) (by omega)]; rfl
            · rw [← hc]; simp [addB, c0, c2]
        · rcases h7 with ⟨h7, rfl⟩ | ⟨d, t, h7, hob, ht⟩
          · repeat (first | ((first | refine Q1 ?_ | refine Q2 ?_); intro Z hN hX hR) | refine Q3 (by kernel_rfl) fun K hK => ?_ | ((first | refine Q4 fun R hJ => ?_ | with_reducible change ExpAll _ _ _); simp only [kS, R1, R2, R3, R4, R5, R6, R7, reduceCtorEq, R9, h0, h1, h2, h9, h8, h7, tk1, tk2, tk3, tk4, tk5, tk6, tk7, tk8, and_false, false_and, hlt, d1, bsC_length, BEq.rfl, c1, c2, Bool.not_false, Bool.not_true, decide_true]) | (refine hJ _ ?_; clear hJ R) | refine Q5 ?_ | (refine hK _ ?_; clear hK K) | ((first | refine hN _ ?_ | refine hX _ _ ?_ | refine hR _ ?_); clear hN hX hR Z) | refine Q6 rfl ?_ | refine Q7 (by decide) ?_ | (refine Q8 ?_ ?_; focus (simp only [kS, R1, R2, R3, R4, R5, R6, R7, reduceCtorEq, R9, h0, h1, h2, h9, h8, h7, tk1, tk2, tk3, tk4, tk5, tk6, tk7, tk8, and_false, false_and, hlt, d1, bsC_length, BEq.rfl, c1, c2, Bool.not_false, Bool.not_true, decide_true]; done)) | (refine Q9 ?_ ?_; focus (simp only [kS, R1, R2, R3, R4, R5, R6, R7, reduceCtorEq, R9, h0, h1, h2, h9, h8, h7, tk1, tk2, tk3, tk4, tk5, tk6, tk7, tk8, and_false, false_and, hlt, d1, bsC_length, BEq.rfl, c1, c2, Bool.not_false, Bool.not_true, decide_true]; done)) | refine Qa ?_ | refine Qb ?_ | refine Qc ?_ | refine And.intro (by first | assumption | omega) ?_)
            refine ⟨l.length - (i + 1), by omega, i + 1, [] ++ [l[i]], true, by omega, rfl, by simp; omega, by simp only [kS, R1, R2, R3, R4, R5, R6, R7, reduceCtorEq, R9, h0], by simp only [kS, R1, R2, R3, R4, R5, R6, R7, reduceCtorEq, R9, h1], by simp only [kS, R1, R2, R3, R4, R5, R6, R7, reduceCtorEq, R9, h2], ?_, by simp only [kS, R1, R2, R3, R4, R5, R6, R7, reduceCtorEq, R9, h8], ?_, .inr ⟨_, _, by simp only [kS, R1, R2, R3, R4, R5, R6, R7, reduceCtorEq, R9, bsC_append, List.length_append, List.append_assoc]; exact rfl, by simp only [kS, R1, R2, R3, R4, R5, R6, R7, reduceCtorEq, R9], by (simp only [kS, R1, R2, R3, R4, R5, R6, R7, reduceCtorEq, R9]) <;> first | omega | rfl⟩⟩
            · simp only [kS, R1, R2, R3, R4, R5, R6, R7, reduceCtorEq, R9]
              rw [wrap_i64 (by omega) (by omega)]; rfl
            · rw [← hc]; simp [addB, c0, c2]
          · repeat (first | ((first | refine Q1 ?_ | refine Q2 ?_); intro Z hN hX hR) | refine Q3 (by kernel_rfl) fun K hK => ?_ | ((first | refine Q4 fun R hJ => ?_ | with_reducible change ExpAll _ _ _); simp only [kS, R1, R2, R3, R4, R5, R6, R7, reduceCtorEq, R9, h0, h1, h2, h9, h8, h7, hob, ht, tk1, tk2, tk3, tk4, tk5, tk6, tk7, tk8, and_false, false_and, hlo, hlt, d1, bsC_length, BEq.rfl, c1, c2, Bool.not_false, Bool.not_true, decide_true]) | (refine hJ _ ?_; clear hJ R) | refine Q5 ?_ | (refine hK _ ?_; clear hK K) | ((first | refine hN _ ?_ | refine hX _ _ ?_ | refine hR _ ?_); clear hN hX hR Z) | refine Q6 rfl ?_ | refine Q7 (by decide) ?_ | (refine Q8 ?_ ?_; focus (simp only [kS, R1, R2, R3, R4, R5, R6, R7, reduceCtorEq, R9, h0, h1, h2, h9, h8, h7, hob, ht, tk1, tk2, tk3, tk4, tk5, tk6, tk7, tk8, and_false, false_and, hlo, hlt, d1, bsC_length, BEq.rfl, c1, c2, Bool.not_false, Bool.not_true, decide_true]; done)) | (refine Q9 ?_ ?_; focus (simp only [kS, R1, R2, R3, R4, R5, R6, R7, reduceCtorEq, R9, h0, h1, h2, h9, h8, h7, hob, ht, tk1, tk2, tk3, tk4, tk5, tk6, tk7, tk8, and_false, false_and, hlo, hlt, d1, bsC_length, BEq.rfl, c1, c2, Bool.not_false, Bool.not_true, decide_true]; done)) | refine Qa ?_ | refine Qb ?_ | refine Qc ?_ | refine And.intro (by first | assumption | omega) ?_)
            refine ⟨l.length - (i + 1), by omega, i + 1, o ++ [l[i]], true, by omega, rfl, by simp; omega, by simp only [kS, R1, R2, R3, R4, R5, R6, R7, reduceCtorEq, R9, h0], by simp only [kS, R1, R2, R3, R4, R5, R6, R7, reduceCtorEq, R9, h1], by simp only [kS, R1, R2, R3, R4, R5, R6, R7, reduceCtorEq, R9, h2], ?_, by simp only [kS, R1, R2, R3, R4, R5, R6, R7, reduceCtorEq, R9, h8], ?_, .inr ⟨_, _, by simp only [kS, R1, R2, R3, R4, R5, R6, R7, reduceCtorEq, R9, bsC_append, List.length_append, List.append_assoc]; exact rfl, by simp only [kS, R1, R2, R3, R4, R5, R6, R7, reduceCtorEq, R9], by (simp only [kS, R1, R2, R3, R4, R5, R6, R7, reduceCtorEq, R9]) <;> first | omega | rfl⟩⟩
            · simp only [kS, R1, R2, R3, R4, R5, R6, R7, reduceCtorEq, R9]
              rw [wrap_i64 (by omega) (by omega)]; rfl
            · rw [← hc]; simp [addB, c0, c2]
      · rcases h7 with ⟨h7, rfl⟩ | ⟨d, t, h7, hob, ht⟩
        · repeat (first | ((first | refine Q1 ?_ | refine Q2 ?_); intro Z hN hX hR) | refine Q3 (by kernel_rfl) fun K hK => ?_ | ((first | refine Q4 fun R hJ => ?_ | with_reducible change ExpAll _ _ _); simp only [kS, R1, R2, R3, R4, R5, R6, R7, reduceCtorEq, R9, h0, h1, h2, h9, h8, h7, tk1, tk2, tk3, tk4, tk5, tk6, tk7, tk8, and_false, false_and, hlt, d1, bsC_length, BEq.rfl, c1, c2, Bool.not_false, Bool.not_true, decide_false, decide_true]) | (refine hJ _ ?_; clear hJ R) | refine Q5 ?_ | (refine hK _ ?_; clear hK K) | ((first | refine hN _ ?_ | refine hX _ _ ?_ | refine hR _ ?_); clear hN hX hR Z) | refine Q6 rfl ?_ | refine Q7 (by decide) ?_ | (refine Q8 ?_ ?_; focus (simp only [kS, R1, R2, R3, R4, R5, R6, R7, reduceCtorEq, R9, h0, h1, h2, h9, h8, h7, tk1, tk2, tk3, tk4, tk5, tk6, tk7, tk8, and_false, false_and, hlt, d1, bsC_length, BEq.rfl, c1, c2, Bool.not_false, Bool.not_true, decide_false, decide_true]; done)) | (refine Q9 ?_ ?_; focus (simp only [kS, R1, R2, R3, R4, R5, R6, R7, reduceCtorEq, R9, h0, h1, h2, h9, h8, h7, tk1, tk2, tk3, tk4, tk5, tk6, tk7, tk8, and_false, false_and, hlt, d1, bsC_length, BEq.rfl, c1, c2, Bool.not_false, Bool.not_true, decide_false, decide_true]; done)) | refine Qa ?_ | refine Qb ?_ | refine Qc ?_ | refine And.intro (by first | assumption | omega) ?_)
          refine ⟨l.length - (i + 1), by omega, i + 1, [] ++ [l[i]], b, by omega, rfl, by simp; omega, by simp only [kS, R1, R2, R3, R4, R5, R6, R7, reduceCtorEq, R9, h0], by simp only [kS, R1, R2, R3, R4, R5, R6, R7, reduceCtorEq, R9, h1], by simp only [kS, R1, R2, R3, R4, R5, R6, R7, reduceCtorEq, R9, h2], ?_, by simp only [kS, R1, R2, R3, R4, R5, R6, R7, reduceCtorEq, R9, h8], ?_, .inr ⟨_, _, by simp only [kS, R1, R2, R3, R4, R5, R6, R7, reduceCtorEq, R9, bsC_append, List.length_append, List.append_assoc]; exact rfl, by simp only [kS, R1, R2, R3, R4, R5, R6, R7, reduceCtorEq, R9], by (simp only [kS, R1, R2, R3, R4, R5, R6, R7, reduceCtorEq, R9]) <;> first | omega | rfl⟩⟩
          · simp only [kS, R1, R2, R3, R4, R5, R6, R7, reduceCtorEq, R9]
            rw [wrap_i64 (by omega) (by omega)]; rfl
          · rw [← hc]; simp [addB, c0, c2]
        · repeat (first | ((first | refine Q1 ?_ | refine Q2 ?_); intro Z hN hX hR) | refine Q3 (by kernel_rfl) fun K hK => ?_ | ((first | refine Q4 fun R hJ => ?_ | with_reducible change ExpAll _ _ _); simp only [kS, R1, R2, R3, R4, R5, R6, R7, reduceCtorEq, R9, h0, h1, h2, h9, h8, h7, hob, ht, tk1, tk2, tk3, tk4, tk5, tk6, tk7, tk8, and_false, false_and, hlo, hlt, d1, bsC_length, BEq.rfl, c1, c2, Bool.not_false, Bool.not_true, decide_false, decide_true]) | (refine hJ _ ?_; clear hJ R) | refine Q5 ?_ | (refine hK _ ?_; clear hK K) | ((first | refine hN _ ?_ | refine hX _ _ ?_ | refine hR _ ?_); clear hN hX hR Z) | refine Q6 rfl ?_ | refine Q7 (by decide) ?_ | (refine Q8 ?_ ?_; focus (simp only [kS, R1, R2, R3, R4, R5, R6, R7, reduceCtorEq, R9, h0, h1, h2, h9, h8, h7, hob, ht, tk1, tk2, tk3, tk4, tk5, tk6, tk7, tk8, and_false, false_and, hlo, hlt, d1, bsC_length, BEq.rfl, c1, c2, Bool.not_false, Bool.not_true, decide_false, decide_true]; done)) | (refine Q9 ?_ ?_; focus (simp only [kS, R1, R2, R3, R4, R5, R6, R7, reduceCtorEq, R9, h0, h1, h2, h9, h8, h7, hob, ht, tk1, tk2, tk3, tk4, tk5, tk6, tk7, tk8, and_false, false_and, hlo, hlt, d1, bsC_length, BEq.rfl, c1, c2, Bool.not_false, Bool.not_true, decide_false, decide_true]; done)) | refine Qa ?_ | refine Qb ?_ | refine Qc ?_ | refine And.intro (by first | assumption | omega) ?_)
          refine ⟨l.length - (i + 1), by omega, i + 1, o ++ [l[i]], b, by omega, rfl, by simp; omega, by simp only [kS, R1, R2, R3, R4, R5, R6, R7, reduceCtorEq, R9, h0], by simp only [kS, R1, R2, R3, R4, R5, R6, R7, reduceCtorEq, R9, h1], by simp only [kS, R1, R2, R3, R4, R5, R6, R7, reduceCtorEq, R9, h2], ?_, by simp only [kS, R1, R2, R3, R4, R5, R6, R7, reduceCtorEq, R9, h8], ?_, .inr ⟨_, _, by simp only [kS, R1, R2, R3, R4, R5, R6, R7, reduceCtorEq, R9, bsC_append, List.length_append, List.append_assoc]; exact rfl, by simp only [kS, R1, R2, R3, R4, R5, R6, R7, reduceCtorEq, R9], by (simp only [kS, R1, R2, R3, R4, R5, R6, R7, reduceCtorEq, R9]) <;> first | omega | rfl⟩⟩
          · simp only [kS, R1, R2, R3, R4, R5, R6, R7, reduceCtorEq, R9]
            rw [wrap_i64 (by omega) (by omega)]; rfl
          · rw [← hc]; simp [addB, c0, c2]
  · rw [List.drop_eq_nil_of_le (by omega)] at hc
    have hlo : (bsC o).length = o.length * 2 := bsC_length o
    cases b
    · rcases h7 with ⟨h7, rfl⟩ | ⟨d, t, h7, hob, ht⟩
      · repeat (first | ((first | refine Q1 ?_ | refine Q2 ?_); intro Z hN hX hR) | refine Q3 (by kernel_rfl) fun K hK => ?_ | ((first | refine Q4 fun R hJ => ?_ | with_reducible change ExpAll _ _ _); simp only [kS, R1, R2, R3, R4, R5, R6, R7, reduceCtorEq, R9, h0, h1, h2, h9, h8, h7, tk1, tk2, tk3, tk4, tk5, tk6, tk7, tk8, and_false, false_and, hlt, decide_true, decide_false, Bool.not_false, Bool.not_true]) | (refine hJ _ ?_; clear hJ R) | refine Q5 ?_ | (refine hK _ ?_; clear hK K) | ((first | refine hN _ ?_ | refine hX _ _ ?_ | refine hR _ ?_); clear hN hX hR Z) | refine Q6 rfl ?_ | refine Q7 (by decide) ?_ | (refine Q8 ?_ ?_; focus (simp only [kS, R1, R2, R3, R4, R5, R6, R7, reduceCtorEq, R9, h0, h1, h2, h9, h8, h7, tk1, tk2, tk3, tk4, tk5, tk6, tk7, tk8, and_false, false_and, hlt, decide_true, decide_false, Bool.not_false, Bool.not_true]; done)) | (refine Q9 ?_ ?_; focus (simp only [kS, R1, R2, R3, R4, R5, R6, R7, reduceCtorEq, R9, h0, h1, h2, h9, h8, h7, tk1, tk2, tk3, tk4, tk5, tk6, tk7, tk8, and_false, false_and, hlt, decide_true, decide_false, Bool.not_false, Bool.not_true]; done)) | refine Qa ?_ | refine Qb ?_ | refine Qc ?_ | refine And.intro (by first | assumption | omega) ?_)
        rw [← hc]; exact .inl rfl
      · repeat (first | ((first | refine Q1 ?_ | refine Q2 ?_); intro Z hN hX hR) | refine Q3 (by kernel_rfl) fun K hK => ?_ | ((first | refine Q4 fun R hJ => ?_ | with_reducible change ExpAll _ _ _); simp only [kS, R1, R2, R3, R4, R5, R6, R7, reduceCtorEq, R9, h0, h1, h2, h9, h8, h7, hob, ht, tk1, tk2, tk3, tk4, tk5, tk6, tk7, tk8, and_false, false_and, hlo, hlt, decide_true, decide_false, Bool.not_false, Bool.not_true]) | (refine hJ _ ?_; clear hJ R) | refine Q5 ?_ | (refine hK _ ?_; clear hK K) | ((first | refine hN _ ?_ | refine hX _ _ ?_ | refine hR _ ?_); clear hN hX hR Z) | refine Q6 rfl ?_ | refine Q7 (by decide) ?_ | (refine Q8 ?_ ?_; focus (simp only [kS, R1, R2, R3, R4, R5, R6, R7, reduceCtorEq, R9, h0, h1, h2, h9, h8, h7, hob, ht, tk1, tk2, tk3, tk4, tk5, tk6, tk7, tk8, and_false, false_and, hlo, hlt, decide_true, decide_false, Bool.not_false, Bool.not_true]; done)) | (refine Q9 ?_ ?_; focus (simp only [kS, R1, R2, R3, R4, R5, R6, R7, reduceCtorEq, R9, h0, h1, h2, h9, h8, h7, hob, ht, tk1, tk2, tk3, tk4, tk5, tk6, tk7, tk8, and_false, false_and, hlo, hlt, decide_true, decide_false, Bool.not_false, Bool.not_true]; done)) | refine Qa ?_ | refine Qb ?_ | refine Qc ?_ | refine And.intro (by first | assumption | omega) ?_)
        rw [← hc]; simp [addB, bsC_append, brC]; rfl
    · rcases h7 with ⟨h7, rfl⟩ | ⟨d, t, h7, hob, ht⟩
      · repeat (first | ((first | refine Q1 ?_ | refine Q2 ?_); intro Z hN hX hR) | refine Q3 (by kernel_rfl) fun K hK => ?_ | ((first | refine Q4 fun R hJ => ?_ | with_reducible change ExpAll _ _ _); simp only [kS, R1, R2, R3, R4, R5, R6, R7, reduceCtorEq, R9, h0, h1, h2, h9, h8, h7, tk1, tk2, tk3, tk4, tk5, tk6, tk7, tk8, and_false, false_and, hlt, decide_true, decide_false, Bool.not_false, Bool.not_true]) | (refine hJ _ ?_; clear hJ R) | refine Q5 ?_ | (refine hK _ ?_; clear hK K) | ((first | refine hN _ ?_ | refine hX _ _ ?_ | refine hR _ ?_); clear hN hX hR Z) | refine Q6 rfl ?_ | refine Q7 (by decide) ?_ | (refine Q8 ?_ ?_; focus (simp only [kS, R1, R2, R3, R4, R5, R6, R7, reduceCtorEq, R9, h0, h1, h2, h9, h8, h7, tk1, tk2, tk3, tk4, tk5, tk6, tk7, tk8, and_false, false_and, hlt, decide_true, decide_false, Bool.not_false, Bool.not_true]; done)) | (refine Q9 ?_ ?_; focus (simp only [kS, R1, R2, R3, R4, R5, R6, R7, reduceCtorEq, R9, h0, h1, h2, h9, h8, h7, tk1, tk2, tk3, tk4, tk5, tk6, tk7, tk8, and_false, false_and, hlt, decide_true, decide_false, Bool.not_false, Bool.not_true]; done)) | refine Qa ?_ | refine Qb ?_ | refine Qc ?_ | refine And.intro (by first | assumption | omega) ?_)
        rw [← hc]; exact .inr rfl
      · repeat (first | ((first | refine Q1 ?_ | refine Q2 ?_); intro Z hN hX hR) | refine Q3 (by kernel_rfl) fun K hK => ?_ | ((first | refine Q4 fun R hJ => ?_ | with_reducible change ExpAll _ _ _); simp only [kS, R1, R2, R3, R4, R5, R6, R7, reduceCtorEq, R9, h0, h1, h2, h9, h8, h7, hob, ht, tk1, tk2, tk3, tk4, tk5, tk6, tk7, tk8, and_false, false_and, hlo, hlt, decide_true, decide_false, Bool.not_false, Bool.not_true]) | (refine hJ _ ?_; clear hJ R) | refine Q5 ?_ | (refine hK _ ?_; clear hK K) | ((first | refine hN _ ?_ | refine hX _ _ ?_ | refine hR _ ?_); clear hN hX hR Z) | refine Q6 rfl ?_ | refine Q7 (by decide) ?_ | (refine Q8 ?_ ?_; focus (simp only [kS, R1, R2, R3, R4, R5, R6, R7, reduceCtorEq, R9, h0, h1, h2, h9, h8, h7, hob, ht, tk1, tk2, tk3, tk4, tk5, tk6, tk7, tk8, and_false, false_and, hlo, hlt, decide_true, decide_false, Bool.not_false, Bool.not_true]; done)) | (refine Q9 ?_ ?_; focus (simp only [kS, R1, R2, R3, R4, R5, R6, R7, reduceCtorEq, R9, h0, h1, h2, h9, h8, h7, hob, ht, tk1, tk2, tk3, tk4, tk5, tk6, tk7, tk8, and_false, false_and, hlo, hlt, decide_true, decide_false, Bool.not_false, Bool.not_true]; done)) | refine Qa ?_ | refine Qb ?_ | refine Qc ?_ | refine And.intro (by first | assumption | omega) ?_)
        rw [← hc]; simp [addB]

end Go.Proofs.YtilhjiopbbbgmaaDoor

/- A state's heads: into, Heads; Fits. -/
namespace Go.Proofs.YtilhjiopbbbgmaaDoor
open Nat renaming reduceSub → R1, reduceMul → R2, reduceLeDiff → R3, reducePow → R4, reduceBEq → R5, reduceAdd → R6, reduceEqDiff → R7
open Int renaming reduceToNat → R9
open Go Go.RowKit Am
set_option linter.unusedVariables false
set_option linter.unusedSimpArgs false
set_option maxHeartbeats 4000000
attribute [local irreducible] AWp AOps

def addL (l : List Br) (ts : List (List It)) : List Br := ts.foldl (fun l t => addB l t 1 false) l

theorem addB_len (s : List It) (m : Int) : ∀ (l : List Br) (b : Bool), (addB l s m b).length ≤ l.length + 1 - b.toNat
  | [], b => by cases b <;> simp [addB]
  | x :: l, b => by
    simp only [addB]
    split
    · have := addB_len s m l true; simp at this ⊢; cases b <;> simp <;> omega
    · split
      · rename_i h; obtain ⟨_, rfl⟩ := h; have := addB_len s m l true; simp at this ⊢; omega
      · have := addB_len s m l b; simp at this ⊢; cases b <;> simp at this ⊢ <;> omega

theorem addB_mem (s : List It) (m : Int) : ∀ (l : List Br) (b : Bool) (y : Br), y ∈ addB l s m b → y ∈ l ∨ y.to = s ∧ (y.many = m ∨ ∃ x ∈ l, y.many = if x.many + m < 2 then x.many + m else 2)
  | [], b, y, h => by cases b <;> simp [addB] at h; subst h; exact .inr ⟨rfl, .inl rfl⟩
  | x :: l, b, y, h => by
    simp only [addB] at h
    have ih := fun b => addB_mem s m l b y
    have lift : (y ∈ l ∨ y.to = s ∧ (y.many = m ∨ ∃ x ∈ l, y.many = if x.many + m < 2 then x.many + m else 2)) → y ∈ x :: l ∨ y.to = s ∧ (y.many = m ∨ ∃ z ∈ x :: l, y.many = if z.many + m < 2 then z.many + m else 2) := by
      rintro (h | ⟨h1, h2 | ⟨z, hz, h2⟩⟩)
      · exact .inl (by simp [h])
      · exact .inr ⟨h1, .inl h2⟩
      · exact .inr ⟨h1, .inr ⟨z, by simp [hz], h2⟩⟩
    split at h
    · rcases List.mem_cons.1 h with rfl | h
      · exact .inr ⟨rfl, .inr ⟨x, by simp, rfl⟩⟩
      · exact lift (ih true h)
    · split at h
      · rcases List.mem_cons.1 h with rfl | h
        · exact .inr ⟨rfl, .inl rfl⟩
        · rcases List.mem_cons.1 h with rfl | h
          · exact .inl (by simp)
          · exact lift (ih true h)
      · rcases List.mem_cons.1 h with rfl | h
        · exact .inl (by simp)
        · exact lift (ih b h)

structure OkL (l : List Br) (n : Nat) : Prop where
  short : Short l
  many : okM l
  len : l.length ≤ n

theorem addB_ok {l : List Br} {n : Nat} (h : OkL l n) {s : List It} (hs : s.length ≤ 1000000) {m : Int} (hm : 0 ≤ m ∧ m ≤ 2) : OkL (addB l s m false) (n + 1) where
  short := fun y hy => by
    rcases addB_mem s m l false y hy with h1 | ⟨h1, _⟩
    · exact h.short y h1
    · rw [h1]; exact hs
  many := fun y hy => by
    rcases addB_mem s m l false y hy with h1 | ⟨_, h1 | ⟨x, hx, h1⟩⟩
    · exact h.many y h1
    · rw [h1]; exact hm
    · have := h.many x hx; rw [h1]; split <;> omega
  len := by have := addB_len s m l false; have := h.len; simp at *; omega

theorem addL_ok : ∀ (ts : List (List It)) {l : List Br} {n : Nat}, OkL l n → (∀ t ∈ ts, t.length ≤ 1000000) → OkL (addL l ts) (n + ts.length)
  | [], l, n, h, _ => h
  | t :: ts, l, n, h, ht => by
    have := addL_ok ts (addB_ok h (ht t (by simp)) (m := 1) (by omega)) (fun u hu => ht u (by simp [hu]))
    simp only [addL, List.foldl_cons, List.length_cons] at this ⊢
    rw [show n + (ts.length + 1) = n + 1 + ts.length by omega]; exact this

theorem addL_append (l : List Br) (a b : List (List It)) : addL l (a ++ b) = addL (addL l a) b := by simp [addL]

theorem leaves_len {d : List Nd} (hd : WFd d) : ∀ (k : Nat) (s : List It), gd d s → ∀ t ∈ leaves d k s, gd d t ∧ t.length ≤ s.length + k
  | 0, s, _, t, h => by simp [leaves] at h
  | k + 1, s, hs, t, h => by
    simp only [leaves] at h
    split at h
    · simp only [List.mem_singleton] at h; subst h; exact ⟨hs, by omega⟩
    · obtain ⟨o, ho, ht⟩ := List.mem_flatMap.1 h
      obtain ⟨g, hl⟩ := openS_gd hd hs o ho
      obtain ⟨g', hl'⟩ := leaves_len hd k o g t ht
      exact ⟨g', by omega⟩

theorem into_ret (gl : Gl) (d : List Nd) (hd : WFd d) : ∀ (k : Nat) (s : List It) (l : List Br) (n : Nat), deep d k s → gd d s → s.length + k ≤ 1000000 → OkL l n → n + (leaves d k s).length ≤ 1000000 →
    Ret Tryd.prog gl 39 [.agg (dC d), .c (stC s), .c (brC l)] (.c (brC (addL l (leaves d k s)))) := by
  intro k
  induction k with
  | zero => intro s l n h; exact h.elim
  | succ k ih =>
    intro s l n h hs hl hok hn
    refine retq (rs := [6]) 33 Tryd.func39 (by kernel_rfl) rfl (by kernel_rfl) rfl (by simp) (by simp) fun Z hN hX hR => ?_
    repeat (first | ((first | refine Q1 ?_ | refine Q2 ?_); intro Z hN hX hR) | refine Q3 (by kernel_rfl) fun K hK => ?_ | ((first | refine Q4 fun R hJ => ?_ | with_reducible change ExpAll _ _ _); simp only [kS, R1, R2, R3, R4, R5, R6, R7, reduceCtorEq, R9, dC_length, dC_take]) | (refine hJ _ ?_; clear hJ R) | refine Q5 ?_ | (refine hK _ ?_; clear hK K) | ((first | refine hN _ ?_ | refine hX _ _ ?_ | refine hR _ ?_); clear hN hX hR Z) | refine Q6 rfl ?_ | refine Q7 (by decide) ?_ | (refine Q8 ?_ ?_; focus (simp only [kS, R1, R2, R3, R4, R5, R6, R7, reduceCtorEq, R9, dC_length, dC_take]; done)) | (refine Q9 ?_ ?_; focus (simp only [kS, R1, R2, R3, R4, R5, R6, R7, reduceCtorEq, R9, dC_length, dC_take]; done)) | refine Qa ?_ | refine Qb ?_ | refine Qc ?_ | refine And.intro (by first | assumption | omega) ?_)
    refine ⟨_, ready_ret gl d s (gd_inR hs), rfl, ?_⟩
    simp only [kS, R1, R2, R3, R4, R5, R6, R7, reduceCtorEq, R9]
    cases hr : rdy d s
    · have hdp : ∀ t ∈ openS d s, deep d k t := by
        rcases h with h | h
        · rw [hr] at h; cases h
        · exact h
      have hol := openS_len d s
      have hO := openS_gd hd hs
      have hlv : leaves d (k + 1) s = (openS d s).flatMap (leaves d k) := by simp only [leaves, hr]; rfl
      rw [hlv] at hn
      repeat (first | ((first | refine Q1 ?_ | refine Q2 ?_); intro Z hN hX hR) | refine Q3 (by kernel_rfl) fun K hK => ?_ | ((first | refine Q4 fun R hJ => ?_ | with_reducible change ExpAll _ _ _); simp only [kS, R1, R2, R3, R4, R5, R6, R7, reduceCtorEq, R9, hr, dC_length, dC_take]) | (refine hJ _ ?_; clear hJ R) | refine Q5 ?_ | (refine hK _ ?_; clear hK K) | ((first | refine hN _ ?_ | refine hX _ _ ?_ | refine hR _ ?_); clear hN hX hR Z) | refine Q6 rfl ?_ | refine Q7 (by decide) ?_ | (refine Q8 ?_ ?_; focus (simp only [kS, R1, R2, R3, R4, R5, R6, R7, reduceCtorEq, R9, hr, dC_length, dC_take]; done)) | (refine Q9 ?_ ?_; focus (simp only [kS, R1, R2, R3, R4, R5, R6, R7, reduceCtorEq, R9, hr, dC_length, dC_take]; done)) | refine Qa ?_ | refine Qb ?_ | refine Qc ?_ | refine And.intro (by first | assumption | omega) ?_)
      refine ⟨_, open_ret' gl d s hs hr (by omega), rfl, ?_⟩
      simp only [kS, R1, R2, R3, R4, R5, R6, R7, reduceCtorEq, R9]
      repeat (first | ((first | refine Q1 ?_ | refine Q2 ?_); intro Z hN hX hR) | refine Q3 (by kernel_rfl) fun K hK => ?_ | ((first | refine Q4 fun R hJ => ?_ | with_reducible change ExpAll _ _ _); simp only [kS, R1, R2, R3, R4, R5, R6, R7, reduceCtorEq, R9]) | (refine hJ _ ?_; clear hJ R) | refine Q5 ?_ | (refine hK _ ?_; clear hK K) | ((first | refine hN _ ?_ | refine hX _ _ ?_ | refine hR _ ?_); clear hN hX hR Z) | refine Q6 rfl ?_ | refine Q7 (by decide) ?_ | (refine Q8 ?_ ?_; focus (simp only [kS, R1, R2, R3, R4, R5, R6, R7, reduceCtorEq, R9]; done)) | (refine Q9 ?_ ?_; focus (simp only [kS, R1, R2, R3, R4, R5, R6, R7, reduceCtorEq, R9]; done)) | refine Qa ?_ | refine Qb ?_ | refine Qc ?_ | refine And.intro (by first | assumption | omega) ?_)
      refine awq_loop (fun c f => ∃ (i : Nat) (l' : List Br) (n' : Nat), i ≤ (openS d s).length ∧ c = (openS d s).length - i ∧ f.t 2 = .c (brC l') ∧ f.t 7 = .c (ssS (openS d s)) ∧ f.t 8 = iv (i : Int) ∧ OkL l' n' ∧
        n' + (((openS d s).drop i).flatMap (leaves d k)).length ≤ 1000000 ∧ addL l' (((openS d s).drop i).flatMap (leaves d k)) = addL l ((openS d s).flatMap (leaves d k)) ∧ f.t 3 = .ref 3 1 0 ∧ f.ob 3 1 = .box (dC d) ∧ 1 < f.k) (openS d s).length ?_ ?_
      · exact ⟨0, l, n, by omega, rfl, by simp only [kS, R1, R2, R3, R4, R5, R6, R7, reduceCtorEq, R9], by simp only [kS, R1, R2, R3, R4, R5, R6, R7, reduceCtorEq, R9], by simp only [kS, R1, R2, R3, R4, R5, R6, R7, reduceCtorEq, R9]; rfl, hok, hn, rfl, by simp only [kS, R1, R2, R3, R4, R5, R6, R7, reduceCtorEq, R9], by simp only [kS, R1, R2, R3, R4, R5, R6, R7, reduceCtorEq, R9], by (simp only [kS, R1, R2, R3, R4, R5, R6, R7, reduceCtorEq, R9]) <;> first | omega | rfl⟩
      rintro Z c f hN hX hR ⟨i, l', n', hi, rfl, h2, h7, h8, hok', hn', hc, h3, hb, hk⟩
      by_cases hlt : i < (openS d s).length
      · have e := ssC_drop (openS d s) i hlt
        have hel := ssC_length (openS d s)
        have hmem := List.getElem_mem hlt
        obtain ⟨g1, g2⟩ := hO _ hmem
        rw [List.drop_eq_getElem_cons hlt, List.flatMap_cons] at hc hn'
        rw [List.length_append] at hn'
        rw [addL_append] at hc
        repeat (first | ((first | refine Q1 ?_ | refine Q2 ?_); intro Z hN hX hR) | refine Q3 (by kernel_rfl) fun K hK => ?_ | ((first | refine Q4 fun R hJ => ?_ | with_reducible change ExpAll _ _ _); simp only [kS, R1, R2, R3, R4, R5, R6, R7, reduceCtorEq, R9, h2, h7, h8, hlt, e, hel, h3, hb, decide_true, dC_length, dC_take]) | (refine hJ _ ?_; clear hJ R) | refine Q5 ?_ | (refine hK _ ?_; clear hK K) | ((first | refine hN _ ?_ | refine hX _ _ ?_ | refine hR _ ?_); clear hN hX hR Z) | refine Q6 rfl ?_ | refine Q7 (by decide) ?_ | (refine Q8 ?_ ?_; focus (simp only [kS, R1, R2, R3, R4, R5, R6, R7, reduceCtorEq, R9, h2, h7, h8, hlt, e, hel, h3, hb, decide_true, dC_length, dC_take]; done)) | (refine Q9 ?_ ?_; focus (simp only [kS, R1, R2, R3, R4, R5, R6, R7, reduceCtorEq, R9, h2, h7, h8, hlt, e, hel, h3, hb, decide_true, dC_length, dC_take]; done)) | refine Qa ?_ | refine Qb ?_ | refine Qc ?_ | refine And.intro (by first | assumption | omega) ?_)
        refine ⟨_, ih _ _ n' (hdp _ hmem) g1 (by omega) hok' (by omega), rfl, ?_⟩
        simp only [kS, R1, R2, R3, R4, R5, R6, R7, reduceCtorEq, R9]
        repeat (first | ((first | refine Q1 ?_ | refine Q2 ?_); intro Z hN hX hR) | refine Q3 (by kernel_rfl) fun K hK => ?_ | ((first | refine Q4 fun R hJ => ?_ | with_reducible change ExpAll _ _ _); simp only [kS, R1, R2, R3, R4, R5, R6, R7, reduceCtorEq, R9, h2, h7, h8]) | (refine hJ _ ?_; clear hJ R) | refine Q5 ?_ | (refine hK _ ?_; clear hK K) | ((first | refine hN _ ?_ | refine hX _ _ ?_ | refine hR _ ?_); clear hN hX hR Z) | refine Q6 rfl ?_ | refine Q7 (by decide) ?_ | (refine Q8 ?_ ?_; focus (simp only [kS, R1, R2, R3, R4, R5, R6, R7, reduceCtorEq, R9, h2, h7, h8]; done)) | (refine Q9 ?_ ?_; focus (simp only [kS, R1, R2, R3, R4, R5, R6, R7, reduceCtorEq, R9, h2, h7, h8]; done)) | refine Qa ?_ | refine Qb ?_ | refine Qc ?_ | refine And.intro (by first | assumption | omega) ?_)
        refine ⟨(openS d s).length - (i + 1), by omega, i + 1, addL l' (leaves d k (openS d s)[i]), n' + (leaves d k (openS d s)[i]).length, by omega, rfl, by simp only [kS, R1, R2, R3, R4, R5, R6, R7, reduceCtorEq, R9], by simp only [kS, R1, R2, R3, R4, R5, R6, R7, reduceCtorEq, R9, h7], ?_, ?_, by omega, hc, by simp only [kS, R1, R2, R3, R4, R5, R6, R7, reduceCtorEq, R9, h3], by simp only [kS, R1, R2, R3, R4, R5, R6, R7, reduceCtorEq, R9, hb], by (simp only [kS, R1, R2, R3, R4, R5, R6, R7, reduceCtorEq, R9]) <;> first | omega | rfl⟩
        · simp only [kS, R1, R2, R3, R4, R5, R6, R7, reduceCtorEq, R9]
          rw [wrap_i64 (by omega) (by omega)]; rfl
        · exact addL_ok _ hok' fun t ht => by have := (leaves_len hd k _ g1 t ht).2; omega
      · rw [List.drop_eq_nil_of_le (by omega)] at hc
        repeat (first | ((first | refine Q1 ?_ | refine Q2 ?_); intro Z hN hX hR) | refine Q3 (by kernel_rfl) fun K hK => ?_ | ((first | refine Q4 fun R hJ => ?_ | with_reducible change ExpAll _ _ _); simp only [kS, R1, R2, R3, R4, R5, R6, R7, reduceCtorEq, R9, h2, h7, h8, hlt, decide_true, decide_false]) | (refine hJ _ ?_; clear hJ R) | refine Q5 ?_ | (refine hK _ ?_; clear hK K) | ((first | refine hN _ ?_ | refine hX _ _ ?_ | refine hR _ ?_); clear hN hX hR Z) | refine Q6 rfl ?_ | refine Q7 (by decide) ?_ | (refine Q8 ?_ ?_; focus (simp only [kS, R1, R2, R3, R4, R5, R6, R7, reduceCtorEq, R9, h2, h7, h8, hlt, decide_true, decide_false]; done)) | (refine Q9 ?_ ?_; focus (simp only [kS, R1, R2, R3, R4, R5, R6, R7, reduceCtorEq, R9, h2, h7, h8, hlt, decide_true, decide_false]; done)) | refine Qa ?_ | refine Qb ?_ | refine Qc ?_ | refine And.intro (by first | assumption | omega) ?_)
        rw [hlv, ← hc]; rfl
    · repeat (first | ((first | refine Q1 ?_ | refine Q2 ?_); intro Z hN hX hR) | refine Q3 (by kernel_rfl) fun K hK => ?_ | ((first | refine Q4 fun R hJ => ?_ | with_reducible change ExpAll _ _ _); simp only [kS, R1, R2, R3, R4, R5, R6, R7, reduceCtorEq, R9, hr]) | (refine hJ _ ?_; clear hJ R) | refine Q5 ?_ | (refine hK _ ?_; clear hK K) | ((first | refine hN _ ?_ | refine hX _ _ ?_ | refine hR _ ?_); clear hN hX hR Z) | refine Q6 rfl ?_ | refine Q7 (by decide) ?_ | (refine Q8 ?_ ?_; focus (simp only [kS, R1, R2, R3, R4, R5, R6, R7, reduceCtorEq, R9, hr]; done)) | (refine Q9 ?_ ?_; focus (simp only [kS, R1, R2, R3, R4, R5, R6, R7, reduceCtorEq, R9, hr]; done)) | refine Qa ?_ | refine Qb ?_ | refine Qc ?_ | refine And.intro (by first | assumption | omega) ?_)
      refine ⟨_, ahead_ret gl [] s (by simp; omega), rfl, ?_⟩
      simp only [kS, R1, R2, R3, R4, R5, R6, R7, reduceCtorEq, R9]
      repeat (first | ((first | refine Q1 ?_ | refine Q2 ?_); intro Z hN hX hR) | refine Q3 (by kernel_rfl) fun K hK => ?_ | ((first | refine Q4 fun R hJ => ?_ | with_reducible change ExpAll _ _ _); simp only [kS, R1, R2, R3, R4, R5, R6, R7, reduceCtorEq, R9]) | (refine hJ _ ?_; clear hJ R) | refine Q5 ?_ | (refine hK _ ?_; clear hK K) | ((first | refine hN _ ?_ | refine hX _ _ ?_ | refine hR _ ?_); clear hN hX hR Z) | refine Q6 rfl ?_ | refine Q7 (by decide) ?_ | (refine Q8 ?_ ?_; focus (simp only [kS, R1, R2, R3, R4, R5, R6, R7, reduceCtorEq, R9]; done)) | (refine Q9 ?_ ?_; focus (simp only [kS, R1, R2, R3, R4, R5, R6, R7, reduceCtorEq, R9]; done)) | refine Qa ?_ | refine Qb ?_ | refine Qc ?_ | refine And.intro (by first | assumption | omega) ?_)
      have hlv : leaves d (k + 1) s = [s] := by simp only [leaves, hr]; rfl
      rw [hlv] at hn
      refine ⟨_, add_ret gl l s 1 hok.short (by omega) (by have := hok.len; omega) hok.many (by omega), rfl, ?_⟩
      simp only [kS, R1, R2, R3, R4, R5, R6, R7, reduceCtorEq, R9]
      repeat (first | ((first | refine Q1 ?_ | refine Q2 ?_); intro Z hN hX hR) | refine Q3 (by kernel_rfl) fun K hK => ?_ | ((first | refine Q4 fun R hJ => ?_ | with_reducible change ExpAll _ _ _); simp only [kS, R1, R2, R3, R4, R5, R6, R7, reduceCtorEq, R9]) | (refine hJ _ ?_; clear hJ R) | refine Q5 ?_ | (refine hK _ ?_; clear hK K) | ((first | refine hN _ ?_ | refine hX _ _ ?_ | refine hR _ ?_); clear hN hX hR Z) | refine Q6 rfl ?_ | refine Q7 (by decide) ?_ | (refine Q8 ?_ ?_; focus (simp only [kS, R1, R2, R3, R4, R5, R6, R7, reduceCtorEq, R9]; done)) | (refine Q9 ?_ ?_; focus (simp only [kS, R1, R2, R3, R4, R5, R6, R7, reduceCtorEq, R9]; done)) | refine Qa ?_ | refine Qb ?_ | refine Qc ?_ | refine And.intro (by first | assumption | omega) ?_)
      rw [hlv]; rfl

def headsS (d : List Nd) (k : Nat) (s : List It) : List Br := addL [] (leaves d k s)

theorem headsR_ret (gl : Gl) (d : List Nd) (hd : WFd d) (k : Nat) (s : List It) (h : deep d k s) (hs : gd d s) (hl : s.length + k ≤ 1000000) (hn : (leaves d k s).length ≤ 1000000) :
    Ret Tryd.prog gl 16 [.agg (dC d), .c (stC s)] (.c (brC (headsS d k s))) := by
  refine retq (rs := [4]) 8 Tryd.func16 (by kernel_rfl) rfl (by kernel_rfl) rfl (by simp) (by simp) fun Z hN hX hR => ?_
  repeat (first | ((first | refine Q1 ?_ | refine Q2 ?_); intro Z hN hX hR) | refine Q3 (by kernel_rfl) fun K hK => ?_ | ((first | refine Q4 fun R hJ => ?_ | with_reducible change ExpAll _ _ _); simp only [kS, R1, R2, R3, R4, R5, R6, R7, reduceCtorEq, R9, dC_length, dC_take]) | (refine hJ _ ?_; clear hJ R) | refine Q5 ?_ | (refine hK _ ?_; clear hK K) | ((first | refine hN _ ?_ | refine hX _ _ ?_ | refine hR _ ?_); clear hN hX hR Z) | refine Q6 rfl ?_ | refine Q7 (by decide) ?_ | (refine Q8 ?_ ?_; focus (simp only [kS, R1, R2, R3, R4, R5, R6, R7, reduceCtorEq, R9, dC_length, dC_take]; done)) | (refine Q9 ?_ ?_; focus (simp only [kS, R1, R2, R3, R4, R5, R6, R7, reduceCtorEq, R9, dC_length, dC_take]; done)) | refine Qa ?_ | refine Qb ?_ | refine Qc ?_ | refine And.intro (by first | assumption | omega) ?_)
  refine ⟨_, into_ret gl d hd k s [] 0 h hs hl ⟨fun x hx => (by cases hx), fun x hx => (by cases hx), Nat.le_refl _⟩ (by omega), rfl, ?_⟩
  simp only [kS, R1, R2, R3, R4, R5, R6, R7, reduceCtorEq, R9]
  repeat (first | ((first | refine Q1 ?_ | refine Q2 ?_); intro Z hN hX hR) | refine Q3 (by kernel_rfl) fun K hK => ?_ | ((first | refine Q4 fun R hJ => ?_ | with_reducible change ExpAll _ _ _); simp only [kS, R1, R2, R3, R4, R5, R6, R7, reduceCtorEq, R9]) | (refine hJ _ ?_; clear hJ R) | refine Q5 ?_ | (refine hK _ ?_; clear hK K) | ((first | refine hN _ ?_ | refine hX _ _ ?_ | refine hR _ ?_); clear hN hX hR Z) | refine Q6 rfl ?_ | refine Q7 (by decide) ?_ | (refine Q8 ?_ ?_; focus (simp only [kS, R1, R2, R3, R4, R5, R6, R7, reduceCtorEq, R9]; done)) | (refine Q9 ?_ ?_; focus (simp only [kS, R1, R2, R3, R4, R5, R6, R7, reduceCtorEq, R9]; done)) | refine Qa ?_ | refine Qb ?_ | refine Qc ?_ | refine And.intro (by first | assumption | omega) ?_)
  rfl

end Go.Proofs.YtilhjiopbbbgmaaDoor

/- A function that hands back what lies in a cell of its own. -/
namespace Go.Proofs.YtilhjiopbbbgmaaDoor
open Go Go.RowKit Am
set_option linter.unusedVariables false
set_option linter.unusedSimpArgs false

def CellIs (p : Nat) (cs : List C) (s : AF) : Prop := ∃ t, s.t p = .ref p t 0 ∧ s.ob p t = .box cs

theorem retc {f : FuncId} {fn : Func} {code : Code} {gl : Gl} {p : Nat} {ty : TypeId} {fs : Array Field} {args : List SV} {cs : List C} (n : Nat) (hf : Tryd.prog.funcs[f]? = some fn) (hname : (fn.name == "runtime.NumGoroutine") = false)
    (hb : fn.body = some code) (hN : fn.ntmps = n) (hr : fn.results = #[.cell p ty]) (hu : Tryd.prog.underlying ty = some (.struct fs))
    (hi : (Tryd.prog.info? ty).map (·.size) = some cs.length) (hlen : args.length ≤ n)
    (h : ∀ Z : AX → AF → Prop, (∀ s', CellIs p cs s' → Z .normal s') → (∀ id s', False → Z (.exit id) s') → (∀ s', CellIs p cs s' → Z .ret s') → AWp (cxD gl n) code Z (AF.init args)) : Ret Tryd.prog gl f args (.agg cs) := by
  refine ⟨fun vs w => ?_, fun w G vs hG hgl hrep => ?_⟩
  · have h1 : fn.name ≠ "runtime.NumGoroutine" := by simpa using hname
    simp [callFunc, hf, h1, hb, mark]
  · refine calls_of_wp hf hb ?_
    rw [hN]
    have S := init_sim (dr := gl.dr) hG hrep hlen
    have hw := h (fun e s => match e with | .exit _ => False | _ => CellIs p cs s) (fun _ h => h) (fun _ _ h => h.elim) (fun _ h => h)
    refine wp_mono (awp_sound (cxD_ok gl n) hG hgl code _ _ _ _ _ hw S) (fun e a' w' hq => ?_)
    have done : (∃ g s, CellIs p cs s ∧ Sim gl.dr w G n (fun _ => False) g a' w' s) → a'.defers = [] ∧ ∃ v, (results fn a'.tmps).run Tryd.prog w' = .ok v w' ∧ Back gl.dr w G (.agg cs) (.returned v) w' := by
      rintro ⟨g, s, ⟨t, hs, ho⟩, S'⟩
      have h1 := S'.slots p
      rw [hs] at h1
      obtain ⟨b, hb1, hv⟩ := h1
      obtain ⟨b', ys, el, hb2, hy, hl⟩ := S'.boxes _ _ _ ho
      rw [hb1] at hb2
      cases hb2
      have hsz : ys.size = cs.length := by rw [← Array.length_toList]; exact hl.length.symm
      exact ⟨S'.defers, _, results_cell_row hr a'.tmps w' b el ys (0, 0) _ hv hy hu rfl (by rw [hsz]; exact hi), _, rfl, S'.below, S'.drawn, g.G, S'.g0, S'.gnew, S'.glt, ys, rfl, hl⟩
    cases e with
    | normal => exact done hq
    | ret => exact done hq
    | exit id => obtain ⟨_, _, hq, _⟩ := hq; exact hq.elim
    | goto l => exact hq.elim
    | panic ch => exact hq.elim
    | outgrown => exact hq.elim

end Go.Proofs.YtilhjiopbbbgmaaDoor
