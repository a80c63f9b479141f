/- Proved: HeadsOpen of chapter 14, as a tied card: for every description and state the law's body answers true, and what was handed in reads as it did. This is part 6 of 7 of that proof (first the abstract machine and its soundness, then the walks, the plain law, the card): no condition beyond the statement's own. -/
import Derived.Test.YtilhjiopbbbgmaaDoorOpens5
import Derived.ProofKit
import Derived.OpenShut
import Derived.Deep.Slices
import Derived.SizedLaws
import Derived.Lib.LaidTab
import Derived.Test.YtilhjiopbbbgmaaDoorRows
import Derived.LaidMore
import Derived.Stop.Joined
import Derived.Below
import Derived.Carry
import Derived.Test.YtilhjiopbbbgmaaDoorTie
import Derived.Test.YtilhjiopbbbgmaaDoorCards
import Derived.SevenTiedAt

/- The laws of heads are awake: the answers that the document fixes are given. -/
namespace Go.Proofs.YtilhjiopbbbgmaaDoor
open Go Go.RowKit Am
set_option linter.unusedVariables false
set_option linter.unusedSimpArgs false
set_option maxHeartbeats 4000000
attribute [local irreducible] AWp AOps

abbrev bD : List Nd := [nd0 2 0 0 0 0]
abbrev eD : List Nd := [nd0 1 0 0 0 0]
abbrev sD : List Nd := [nd0 2 0 0 0 0, nd0 6 0 0 0 0]
abbrev twoD : List Nd := [nd0 1 0 0 0 0, nd0 1 0 0 0 0, nd0 5 0 1 0 0]

theorem okNd_dec (d : List Nd) (n : Nd) : okNd d n ↔ (1 ≤ n.k ∧ n.k ≤ 9 ∧ 0 ≤ n.a ∧ n.a < d.length ∧ 0 ≤ n.b ∧ n.b < d.length ∧ 0 ≤ n.lo ∧ n.lo ≤ n.hi ∧ n.hi ≤ 255 ∧ (n.k = 3 → 0 < n.s.size)) := Iff.rfl

theorem wf_s : WFd sD := by
  refine ⟨by decide, by decide, fun n hn => ?_⟩
  simp only [sD, List.mem_cons, List.not_mem_nil, or_false] at hn
  rcases hn with rfl | rfl <;> simp [okNd]
theorem wf_two : WFd twoD := by
  refine ⟨by decide, by decide, fun n hn => ?_⟩
  simp only [twoD, List.mem_cons, List.not_mem_nil, or_false] at hn
  rcases hn with rfl | rfl | rfl <;> simp [okNd]
theorem wf_b : WFd bD := by
  refine ⟨by decide, by decide, fun n hn => ?_⟩
  simp only [bD, List.mem_cons, List.not_mem_nil, or_false] at hn
  rcases hn with rfl; simp [okNd]

theorem gd_start {d : List Nd} (h : 0 < d.length) : gd d [⟨1, (d.length : Int) - 1, 0, 0⟩] := by
  intro x hx
  simp only [List.mem_singleton] at hx
  subst hx
  exact ⟨⟨by simp only; omega, by simp only; omega⟩, by simp, by simp, by simp⟩
theorem okJ_start (n : Int) : okJ [⟨1, n, 0, 0⟩] := by
  intro x hx
  simp only [List.mem_singleton] at hx
  subst hx
  exact ⟨by simp, by simp⟩

theorem lit0 : ((0 : Nat) : Int) = 0 := rfl
theorem lit1 : ((1 : Nat) : Int) = 1 := rfl
theorem lit2 : ((2 : Nat) : Int) = 2 := rfl

theorem awake14_ret : Ret Tryd.prog glD 8 [] (bv true) := by
  have hwr : Ret Tryd.prog glD 29 [iv 6, iv 0, iv 0, .agg (dC bD)] (.agg (dC sD)) := wrap_ret glD 6 0 0 bD (by decide) (by simp) (by decide)
  have hpr : Ret Tryd.prog glD 30 [iv 5, .agg (dC eD), .agg (dC eD)] (.agg (dC twoD)) := pair_ret glD 5 eD eD (by decide) (by decide) (by simp) (by simp) (by decide) (by decide)
  have hst1 : Ret Tryd.prog glD 31 [.agg (dC sD)] (.c (stC [⟨1, 1, 0, 0⟩])) := start_ret glD sD (by decide)
  have hst2 : Ret Tryd.prog glD 31 [.agg (dC twoD)] (.c (stC [⟨1, 2, 0, 0⟩])) := start_ret glD twoD (by decide)
  have hst3 : Ret Tryd.prog glD 31 [.agg (dC bD)] (.c (stC [⟨1, 0, 0, 0⟩])) := start_ret glD bD (by decide)
  have e1 : headsS sD 2 [⟨1, 1, 0, 0⟩] = [⟨[], 1⟩, ⟨[⟨1, 0, 0, 0⟩, ⟨1, 1, 0, 0⟩], 1⟩] := by decide
  have e2 : headsS twoD 3 [⟨1, 2, 0, 0⟩] = [⟨[], 2⟩] := by decide
  have e3 : openS sD [⟨1, 1, 0, 0⟩] = [[], [⟨1, 0, 0, 0⟩, ⟨1, 1, 0, 0⟩]] := by decide
  have hh1 := heads15_ret sD wf_s 2 [⟨1, 1, 0, 0⟩] (by simp [deep, rdy, e3, nd]) (gd_start (d := sD) (by decide)) (okJ_start 1) (by decide) (by decide) (by decide)
  have hh2 := heads15_ret twoD wf_two 3 [⟨1, 2, 0, 0⟩] (by simp [deep, rdy, openS, nd]) (gd_start (d := twoD) (by decide)) (okJ_start 2) (by decide) (by decide) (by decide)
  rw [e1] at hh1
  rw [e2] at hh2
  have ho := open17_ret glD sD wf_s ⟨1, 1, 0, 0⟩ [] (gd_start (d := sD) (by decide) _ (by simp)) (by simp) (by decide) (by decide)
  rw [e3] at ho
  have hdead := open17_ret glD sD wf_s ⟨5, 0, 1, 0⟩ [] ⟨⟨by simp, by simp⟩, by simp, by simp, by simp⟩ (by simp) (by decide) (by decide)
  have e4 : openS sD [⟨5, 0, 1, 0⟩] = [] := by decide
  rw [e4] at hdead
  have hsame := same13_ret glD [⟨1, 0, 0, 0⟩, ⟨1, 1, 0, 0⟩] [⟨1, 0, 0, 0⟩, ⟨1, 1, 0, 0⟩] (by decide) (by decide)
  have hr1 := ready12_ret glD rfl sD wf_s [] (by simp)
  have hr2 := ready12_ret glD rfl sD wf_s [⟨1, 1, 0, 0⟩] (gd_inR (gd_start (d := sD) (by decide)))
  have hr3 := ready12_ret glD rfl bD wf_b [⟨1, 0, 0, 0⟩] (gd_inR (gd_start (d := bD) (by decide)))
  have hh1 : Ret Tryd.prog glD 15 [.agg (dC sD), .c (.sl 1 [.v (.int .i64 1), .v (.int .i64 1), .v (.int .i64 0), .v (.int .i64 0)])] (.c (.sl 2 [.sl 0 [], .v (.int .i64 1), .sl 2 [.v (.int .i64 1), .v (.int .i64 0), .v (.int .i64 0), .v (.int .i64 0), .v (.int .i64 1), .v (.int .i64 1), .v (.int .i64 0), .v (.int .i64 0)], .v (.int .i64 1)])) := hh1
  have hh2 : Ret Tryd.prog glD 15 [.agg (dC twoD), .c (.sl 1 [.v (.int .i64 1), .v (.int .i64 2), .v (.int .i64 0), .v (.int .i64 0)])] (.c (.sl 1 [.sl 0 [], .v (.int .i64 2)])) := hh2
  have ho : Ret Tryd.prog glD 17 [.agg (dC sD), .c (.sl 1 [.v (.int .i64 1), .v (.int .i64 1), .v (.int .i64 0), .v (.int .i64 0)])] (.c (.sl 2 [.sl 0 [], .sl 2 [.v (.int .i64 1), .v (.int .i64 0), .v (.int .i64 0), .v (.int .i64 0), .v (.int .i64 1), .v (.int .i64 1), .v (.int .i64 0), .v (.int .i64 0)]])) := ho
  have hdead : Ret Tryd.prog glD 17 [.agg (dC sD), .c (.sl 1 [.v (.int .i64 5), .v (.int .i64 0), .v (.int .i64 1), .v (.int .i64 0)])] (.c (.sl 0 [])) := hdead
  have hsame : Ret Tryd.prog glD 19 [.c (.sl 2 [.v (.int .i64 1), .v (.int .i64 0), .v (.int .i64 0), .v (.int .i64 0), .v (.int .i64 1), .v (.int .i64 1), .v (.int .i64 0), .v (.int .i64 0)]), .c (.sl 2 [.v (.int .i64 1), .v (.int .i64 0), .v (.int .i64 0), .v (.int .i64 0), .v (.int .i64 1), .v (.int .i64 1), .v (.int .i64 0), .v (.int .i64 0)])] (bv true) := hsame
  have hr1 : Ret Tryd.prog glD 12 [.agg (dC sD), .c (.sl 0 [])] (bv true) := hr1
  have hr2 : Ret Tryd.prog glD 12 [.agg (dC sD), .c (.sl 1 [.v (.int .i64 1), .v (.int .i64 1), .v (.int .i64 0), .v (.int .i64 0)])] (bv false) := hr2
  have hr3 : Ret Tryd.prog glD 12 [.agg (dC bD), .c (.sl 1 [.v (.int .i64 1), .v (.int .i64 0), .v (.int .i64 0), .v (.int .i64 0)])] (bv true) := hr3
  have hst1 : Ret Tryd.prog glD 31 [.agg (dC sD)] (.c (.sl 1 [.v (.int .i64 1), .v (.int .i64 1), .v (.int .i64 0), .v (.int .i64 0)])) := hst1
  have hst2 : Ret Tryd.prog glD 31 [.agg (dC twoD)] (.c (.sl 1 [.v (.int .i64 1), .v (.int .i64 2), .v (.int .i64 0), .v (.int .i64 0)])) := hst2
  have hst3 : Ret Tryd.prog glD 31 [.agg (dC bD)] (.c (.sl 1 [.v (.int .i64 1), .v (.int .i64 0), .v (.int .i64 0), .v (.int .i64 0)])) := hst3
  clear e1 e2 e3 e4
  refine retq (rs := [0]) 126 Tryd.func8 (by kernel_rfl) rfl (by kernel_rfl) rfl (by simp) (by simp) fun Z hN hX hR => ?_
  repeat (first | refine qq1 fun Z hN hX hR => ?_ | refine qq2 fun Z hN hX hR => ?_ | refine qq3 (by kernel_rfl) fun K hK => ?_ | ((first | refine qq4 fun R hRR => ?_ | with_reducible change ExpAll _ _ _); simp only [kS, Nat.reduceSub, Nat.reduceMul, Nat.reduceLeDiff, Nat.reducePow, Nat.reduceBEq, Nat.reduceAdd, Nat.reduceEqDiff, reduceCtorEq, Int.reduceToNat, lit0, lit1, lit2, tk1, tk2, tk3, tk4, tk5, tk6, tk7, tk8, and_false, false_and, dC_length, dC_take, Int.reduceBEq, Int.reduceBNe, bne_self_eq_false, Bool.not_false, Bool.not_true, Bool.and_self, Int.reduceLT, Int.reduceLE, List.drop_succ_cons]) | (refine hRR _ ?_; clear hRR R) | refine qq5 ?_ | (refine hK _ ?_; clear hK K) | ((first | refine hN _ ?_ | refine hX _ _ ?_ | refine hR _ ?_); clear hN hX hR Z) | refine qq6 rfl ?_ | refine qq7 (by decide) ?_ | (refine qq8 ?_ ?_; focus (simp only [kS, Nat.reduceSub, Nat.reduceMul, Nat.reduceLeDiff, Nat.reducePow, Nat.reduceBEq, Nat.reduceAdd, Nat.reduceEqDiff, reduceCtorEq, Int.reduceToNat, lit0, lit1, lit2, tk1, tk2, tk3, tk4, tk5, tk6, tk7, tk8, and_false, false_and, dC_length, dC_take, Int.reduceBEq, Int.reduceBNe, bne_self_eq_false, Bool.not_false, Bool.not_true, Bool.and_self, Int.reduceLT, Int.reduceLE, List.drop_succ_cons]; done)) | (refine qq9 ?_ ?_; focus (simp only [kS, Nat.reduceSub, Nat.reduceMul, Nat.reduceLeDiff, Nat.reducePow, Nat.reduceBEq, Nat.reduceAdd, Nat.reduceEqDiff, reduceCtorEq, Int.reduceToNat, lit0, lit1, lit2, tk1, tk2, tk3, tk4, tk5, tk6, tk7, tk8, and_false, false_and, dC_length, dC_take, Int.reduceBEq, Int.reduceBNe, bne_self_eq_false, Bool.not_false, Bool.not_true, Bool.and_self, Int.reduceLT, Int.reduceLE, List.drop_succ_cons]; done)) | refine qqa ?_ | refine qqb ?_ | refine qqc ?_ | refine And.intro (by first | assumption | omega) ?_)
  refine ⟨_, hwr, rfl, ?_⟩
  try simp only [kS, Nat.reduceSub, Nat.reduceMul, Nat.reduceLeDiff, Nat.reducePow, Nat.reduceBEq, Nat.reduceAdd, Nat.reduceEqDiff, reduceCtorEq, Int.reduceToNat, lit0, lit1, lit2, tk1, tk2, tk3, tk4, tk5, tk6, tk7, tk8, and_false, false_and, dC_length, dC_take, Int.reduceBEq, Int.reduceBNe, bne_self_eq_false, Bool.not_false, Bool.not_true, Bool.and_self, Int.reduceLT, Int.reduceLE, List.drop_succ_cons]
  repeat (first | refine qq1 fun Z hN hX hR => ?_ | refine qq2 fun Z hN hX hR => ?_ | refine qq3 (by kernel_rfl) fun K hK => ?_ | ((first | refine qq4 fun R hRR => ?_ | with_reducible change ExpAll _ _ _); simp only [kS, Nat.reduceSub, Nat.reduceMul, Nat.reduceLeDiff, Nat.reducePow, Nat.reduceBEq, Nat.reduceAdd, Nat.reduceEqDiff, reduceCtorEq, Int.reduceToNat, lit0, lit1, lit2, tk1, tk2, tk3, tk4, tk5, tk6, tk7, tk8, and_false, false_and, dC_length, dC_take, Int.reduceBEq, Int.reduceBNe, bne_self_eq_false, Bool.not_false, Bool.not_true, Bool.and_self, Int.reduceLT, Int.reduceLE, List.drop_succ_cons]) | (refine hRR _ ?_; clear hRR R) | refine qq5 ?_ | (refine hK _ ?_; clear hK K) | ((first | refine hN _ ?_ | refine hX _ _ ?_ | refine hR _ ?_); clear hN hX hR Z) | refine qq6 rfl ?_ | refine qq7 (by decide) ?_ | (refine qq8 ?_ ?_; focus (simp only [kS, Nat.reduceSub, Nat.reduceMul, Nat.reduceLeDiff, Nat.reducePow, Nat.reduceBEq, Nat.reduceAdd, Nat.reduceEqDiff, reduceCtorEq, Int.reduceToNat, lit0, lit1, lit2, tk1, tk2, tk3, tk4, tk5, tk6, tk7, tk8, and_false, false_and, dC_length, dC_take, Int.reduceBEq, Int.reduceBNe, bne_self_eq_false, Bool.not_false, Bool.not_true, Bool.and_self, Int.reduceLT, Int.reduceLE, List.drop_succ_cons]; done)) | (refine qq9 ?_ ?_; focus (simp only [kS, Nat.reduceSub, Nat.reduceMul, Nat.reduceLeDiff, Nat.reducePow, Nat.reduceBEq, Nat.reduceAdd, Nat.reduceEqDiff, reduceCtorEq, Int.reduceToNat, lit0, lit1, lit2, tk1, tk2, tk3, tk4, tk5, tk6, tk7, tk8, and_false, false_and, dC_length, dC_take, Int.reduceBEq, Int.reduceBNe, bne_self_eq_false, Bool.not_false, Bool.not_true, Bool.and_self, Int.reduceLT, Int.reduceLE, List.drop_succ_cons]; done)) | refine qqa ?_ | refine qqb ?_ | refine qqc ?_ | refine And.intro (by first | assumption | omega) ?_)
  refine ⟨_, hpr, rfl, ?_⟩
  try simp only [kS, Nat.reduceSub, Nat.reduceMul, Nat.reduceLeDiff, Nat.reducePow, Nat.reduceBEq, Nat.reduceAdd, Nat.reduceEqDiff, reduceCtorEq, Int.reduceToNat, lit0, lit1, lit2, tk1, tk2, tk3, tk4, tk5, tk6, tk7, tk8, and_false, false_and, dC_length, dC_take, Int.reduceBEq, Int.reduceBNe, bne_self_eq_false, Bool.not_false, Bool.not_true, Bool.and_self, Int.reduceLT, Int.reduceLE, List.drop_succ_cons]
  repeat (first | refine qq1 fun Z hN hX hR => ?_ | refine qq2 fun Z hN hX hR => ?_ | refine qq3 (by kernel_rfl) fun K hK => ?_ | ((first | refine qq4 fun R hRR => ?_ | with_reducible change ExpAll _ _ _); simp only [kS, Nat.reduceSub, Nat.reduceMul, Nat.reduceLeDiff, Nat.reducePow, Nat.reduceBEq, Nat.reduceAdd, Nat.reduceEqDiff, reduceCtorEq, Int.reduceToNat, lit0, lit1, lit2, tk1, tk2, tk3, tk4, tk5, tk6, tk7, tk8, and_false, false_and, dC_length, dC_take, Int.reduceBEq, Int.reduceBNe, bne_self_eq_false, Bool.not_false, Bool.not_true, Bool.and_self, Int.reduceLT, Int.reduceLE, List.drop_succ_cons]) | (refine hRR _ ?_; clear hRR R) | refine qq5 ?_ | (refine hK _ ?_; clear hK K) | ((first | refine hN _ ?_ | refine hX _ _ ?_ | refine hR _ ?_); clear hN hX hR Z) | refine qq6 rfl ?_ | refine qq7 (by decide) ?_ | (refine qq8 ?_ ?_; focus (simp only [kS, Nat.reduceSub, Nat.reduceMul, Nat.reduceLeDiff, Nat.reducePow, Nat.reduceBEq, Nat.reduceAdd, Nat.reduceEqDiff, reduceCtorEq, Int.reduceToNat, lit0, lit1, lit2, tk1, tk2, tk3, tk4, tk5, tk6, tk7, tk8, and_false, false_and, dC_length, dC_take, Int.reduceBEq, Int.reduceBNe, bne_self_eq_false, Bool.not_false, Bool.not_true, Bool.and_self, Int.reduceLT, Int.reduceLE, List.drop_succ_cons]; done)) | (refine qq9 ?_ ?_; focus (simp only [kS, Nat.reduceSub, Nat.reduceMul, Nat.reduceLeDiff, Nat.reducePow, Nat.reduceBEq, Nat.reduceAdd, Nat.reduceEqDiff, reduceCtorEq, Int.reduceToNat, lit0, lit1, lit2, tk1, tk2, tk3, tk4, tk5, tk6, tk7, tk8, and_false, false_and, dC_length, dC_take, Int.reduceBEq, Int.reduceBNe, bne_self_eq_false, Bool.not_false, Bool.not_true, Bool.and_self, Int.reduceLT, Int.reduceLE, List.drop_succ_cons]; done)) | refine qqa ?_ | refine qqb ?_ | refine qqc ?_ | refine And.intro (by first | assumption | omega) ?_)
  refine ⟨_, hst1, rfl, ?_⟩
  try simp only [kS, Nat.reduceSub, Nat.reduceMul, Nat.reduceLeDiff, Nat.reducePow, Nat.reduceBEq, Nat.reduceAdd, Nat.reduceEqDiff, reduceCtorEq, Int.reduceToNat, lit0, lit1, lit2, tk1, tk2, tk3, tk4, tk5, tk6, tk7, tk8, and_false, false_and, dC_length, dC_take, Int.reduceBEq, Int.reduceBNe, bne_self_eq_false, Bool.not_false, Bool.not_true, Bool.and_self, Int.reduceLT, Int.reduceLE, List.drop_succ_cons]
  repeat (first | refine qq1 fun Z hN hX hR => ?_ | refine qq2 fun Z hN hX hR => ?_ | refine qq3 (by kernel_rfl) fun K hK => ?_ | ((first | refine qq4 fun R hRR => ?_ | with_reducible change ExpAll _ _ _); simp only [kS, Nat.reduceSub, Nat.reduceMul, Nat.reduceLeDiff, Nat.reducePow, Nat.reduceBEq, Nat.reduceAdd, Nat.reduceEqDiff, reduceCtorEq, Int.reduceToNat, lit0, lit1, lit2, tk1, tk2, tk3, tk4, tk5, tk6, tk7, tk8, and_false, false_and, dC_length, dC_take, Int.reduceBEq, Int.reduceBNe, bne_self_eq_false, Bool.not_false, Bool.not_true, Bool.and_self, Int.reduceLT, Int.reduceLE, List.drop_succ_cons]) | (refine hRR _ ?_; clear hRR R) | refine qq5 ?_ | (refine hK _ ?_; clear hK K) | ((first | refine hN _ ?_ | refine hX _ _ ?_ | refine hR _ ?_); clear hN hX hR Z) | refine qq6 rfl ?_ | refine qq7 (by decide) ?_ | (refine qq8 ?_ ?_; focus (simp only [kS, Nat.reduceSub, Nat.reduceMul, Nat.reduceLeDiff, Nat.reducePow, Nat.reduceBEq, Nat.reduceAdd, Nat.reduceEqDiff, reduceCtorEq, Int.reduceToNat, lit0, lit1, lit2, tk1, tk2, tk3, tk4, tk5, tk6, tk7, tk8, and_false, false_and, dC_length, dC_take, Int.reduceBEq, Int.reduceBNe, bne_self_eq_false, Bool.not_false, Bool.not_true, Bool.and_self, Int.reduceLT, Int.reduceLE, List.drop_succ_cons]; done)) | (refine qq9 ?_ ?_; focus (simp only [kS, Nat.reduceSub, Nat.reduceMul, Nat.reduceLeDiff, Nat.reducePow, Nat.reduceBEq, Nat.reduceAdd, Nat.reduceEqDiff, reduceCtorEq, Int.reduceToNat, lit0, lit1, lit2, tk1, tk2, tk3, tk4, tk5, tk6, tk7, tk8, and_false, false_and, dC_length, dC_take, Int.reduceBEq, Int.reduceBNe, bne_self_eq_false, Bool.not_false, Bool.not_true, Bool.and_self, Int.reduceLT, Int.reduceLE, List.drop_succ_cons]; done)) | refine qqa ?_ | refine qqb ?_ | refine qqc ?_ | refine And.intro (by first | assumption | omega) ?_)
  refine ⟨_, hh1, rfl, ?_⟩
  try simp only [kS, Nat.reduceSub, Nat.reduceMul, Nat.reduceLeDiff, Nat.reducePow, Nat.reduceBEq, Nat.reduceAdd, Nat.reduceEqDiff, reduceCtorEq, Int.reduceToNat, lit0, lit1, lit2, tk1, tk2, tk3, tk4, tk5, tk6, tk7, tk8, and_false, false_and, dC_length, dC_take, Int.reduceBEq, Int.reduceBNe, bne_self_eq_false, Bool.not_false, Bool.not_true, Bool.and_self, Int.reduceLT, Int.reduceLE, List.drop_succ_cons]
  repeat (first | refine qq1 fun Z hN hX hR => ?_ | refine qq2 fun Z hN hX hR => ?_ | refine qq3 (by kernel_rfl) fun K hK => ?_ | ((first | refine qq4 fun R hRR => ?_ | with_reducible change ExpAll _ _ _); simp only [kS, Nat.reduceSub, Nat.reduceMul, Nat.reduceLeDiff, Nat.reducePow, Nat.reduceBEq, Nat.reduceAdd, Nat.reduceEqDiff, reduceCtorEq, Int.reduceToNat, lit0, lit1, lit2, tk1, tk2, tk3, tk4, tk5, tk6, tk7, tk8, and_false, false_and, dC_length, dC_take, Int.reduceBEq, Int.reduceBNe, bne_self_eq_false, Bool.not_false, Bool.not_true, Bool.and_self, Int.reduceLT, Int.reduceLE, List.drop_succ_cons]) | (refine hRR _ ?_; clear hRR R) | refine qq5 ?_ | (refine hK _ ?_; clear hK K) | ((first | refine hN _ ?_ | refine hX _ _ ?_ | refine hR _ ?_); clear hN hX hR Z) | refine qq6 rfl ?_ | refine qq7 (by decide) ?_ | (refine qq8 ?_ ?_; focus (simp only [kS, Nat.reduceSub, Nat.reduceMul, Nat.reduceLeDiff, Nat.reducePow, Nat.reduceBEq, Nat.reduceAdd, Nat.reduceEqDiff, reduceCtorEq, Int.reduceToNat, lit0, lit1, lit2, tk1, tk2, tk3, tk4, tk5, tk6, tk7, tk8, and_false, false_and, dC_length, dC_take, Int.reduceBEq, Int.reduceBNe, bne_self_eq_false, Bool.not_false, Bool.not_true, Bool.and_self, Int.reduceLT, Int.reduceLE, List.drop_succ_cons]; done)) | (refine qq9 ?_ ?_; focus (simp only [kS, Nat.reduceSub, Nat.reduceMul, Nat.reduceLeDiff, Nat.reducePow, Nat.reduceBEq, Nat.reduceAdd, Nat.reduceEqDiff, reduceCtorEq, Int.reduceToNat, lit0, lit1, lit2, tk1, tk2, tk3, tk4, tk5, tk6, tk7, tk8, and_false, false_and, dC_length, dC_take, Int.reduceBEq, Int.reduceBNe, bne_self_eq_false, Bool.not_false, Bool.not_true, Bool.and_self, Int.reduceLT, Int.reduceLE, List.drop_succ_cons]; done)) | refine qqa ?_ | refine qqb ?_ | refine qqc ?_ | refine And.intro (by first | assumption | omega) ?_)
  refine ⟨_, hst2, rfl, ?_⟩
  try simp only [kS, Nat.reduceSub, Nat.reduceMul, Nat.reduceLeDiff, Nat.reducePow, Nat.reduceBEq, Nat.reduceAdd, Nat.reduceEqDiff, reduceCtorEq, Int.reduceToNat, lit0, lit1, lit2, tk1, tk2, tk3, tk4, tk5, tk6, tk7, tk8, and_false, false_and, dC_length, dC_take, Int.reduceBEq, Int.reduceBNe, bne_self_eq_false, Bool.not_false, Bool.not_true, Bool.and_self, Int.reduceLT, Int.reduceLE, List.drop_succ_cons]
  repeat (first | refine qq1 fun Z hN hX hR => ?_ | refine qq2 fun Z hN hX hR => ?_ | refine qq3 (by kernel_rfl) fun K hK => ?_ | ((first | refine qq4 fun R hRR => ?_ | with_reducible change ExpAll _ _ _); simp only [kS, Nat.reduceSub, Nat.reduceMul, Nat.reduceLeDiff, Nat.reducePow, Nat.reduceBEq, Nat.reduceAdd, Nat.reduceEqDiff, reduceCtorEq, Int.reduceToNat, lit0, lit1, lit2, tk1, tk2, tk3, tk4, tk5, tk6, tk7, tk8, and_false, false_and, dC_length, dC_take, Int.reduceBEq, Int.reduceBNe, bne_self_eq_false, Bool.not_false, Bool.not_true, Bool.and_self, Int.reduceLT, Int.reduceLE, List.drop_succ_cons]) | (refine hRR _ ?_; clear hRR R) | refine qq5 ?_ | (refine hK _ ?_; clear hK K) | ((first | refine hN _ ?_ | refine hX _ _ ?_ | refine hR _ ?_); clear hN hX hR Z) | refine qq6 rfl ?_ | refine qq7 (by decide) ?_ | (refine qq8 ?_ ?_; focus (simp only [kS, Nat.reduceSub, Nat.reduceMul, Nat.reduceLeDiff, Nat.reducePow, Nat.reduceBEq, Nat.reduceAdd, Nat.reduceEqDiff, reduceCtorEq, Int.reduceToNat, lit0, lit1, lit2, tk1, tk2, tk3, tk4, tk5, tk6, tk7, tk8, and_false, false_and, dC_length, dC_take, Int.reduceBEq, Int.reduceBNe, bne_self_eq_false, Bool.not_false, Bool.not_true, Bool.and_self, Int.reduceLT, Int.reduceLE, List.drop_succ_cons]; done)) | (refine qq9 ?_ ?_; focus (simp only [kS, Nat.reduceSub, Nat.reduceMul, Nat.reduceLeDiff, Nat.reducePow, Nat.reduceBEq, Nat.reduceAdd, Nat.reduceEqDiff, reduceCtorEq, Int.reduceToNat, lit0, lit1, lit2, tk1, tk2, tk3, tk4, tk5, tk6, tk7, tk8, and_false, false_and, dC_length, dC_take, Int.reduceBEq, Int.reduceBNe, bne_self_eq_false, Bool.not_false, Bool.not_true, Bool.and_self, Int.reduceLT, Int.reduceLE, List.drop_succ_cons]; done)) | refine qqa ?_ | refine qqb ?_ | refine qqc ?_ | refine And.intro (by first | assumption | omega) ?_)
  refine ⟨_, hh2, rfl, ?_⟩
  try simp only [kS, Nat.reduceSub, Nat.reduceMul, Nat.reduceLeDiff, Nat.reducePow, Nat.reduceBEq, Nat.reduceAdd, Nat.reduceEqDiff, reduceCtorEq, Int.reduceToNat, lit0, lit1, lit2, tk1, tk2, tk3, tk4, tk5, tk6, tk7, tk8, and_false, false_and, dC_length, dC_take, Int.reduceBEq, Int.reduceBNe, bne_self_eq_false, Bool.not_false, Bool.not_true, Bool.and_self, Int.reduceLT, Int.reduceLE, List.drop_succ_cons]
  repeat (first | refine qq1 fun Z hN hX hR => ?_ | refine qq2 fun Z hN hX hR => ?_ | refine qq3 (by kernel_rfl) fun K hK => ?_ | ((first | refine qq4 fun R hRR => ?_ | with_reducible change ExpAll _ _ _); simp only [kS, Nat.reduceSub, Nat.reduceMul, Nat.reduceLeDiff, Nat.reducePow, Nat.reduceBEq, Nat.reduceAdd, Nat.reduceEqDiff, reduceCtorEq, Int.reduceToNat, lit0, lit1, lit2, tk1, tk2, tk3, tk4, tk5, tk6, tk7, tk8, and_false, false_and, dC_length, dC_take, Int.reduceBEq, Int.reduceBNe, bne_self_eq_false, Bool.not_false, Bool.not_true, Bool.and_self, Int.reduceLT, Int.reduceLE, List.drop_succ_cons]) | (refine hRR _ ?_; clear hRR R) | refine qq5 ?_ | (refine hK _ ?_; clear hK K) | ((first | refine hN _ ?_ | refine hX _ _ ?_ | refine hR _ ?_); clear hN hX hR Z) | refine qq6 rfl ?_ | refine qq7 (by decide) ?_ | (refine qq8 ?_ ?_; focus (simp only [kS, Nat.reduceSub, Nat.reduceMul, Nat.reduceLeDiff, Nat.reducePow, Nat.reduceBEq, Nat.reduceAdd, Nat.reduceEqDiff, reduceCtorEq, Int.reduceToNat, lit0, lit1, lit2, tk1, tk2, tk3, tk4, tk5, tk6, tk7, tk8, and_false, false_and, dC_length, dC_take, Int.reduceBEq, Int.reduceBNe, bne_self_eq_false, Bool.not_false, Bool.not_true, Bool.and_self, Int.reduceLT, Int.reduceLE, List.drop_succ_cons]; done)) | (refine qq9 ?_ ?_; focus (simp only [kS, Nat.reduceSub, Nat.reduceMul, Nat.reduceLeDiff, Nat.reducePow, Nat.reduceBEq, Nat.reduceAdd, Nat.reduceEqDiff, reduceCtorEq, Int.reduceToNat, lit0, lit1, lit2, tk1, tk2, tk3, tk4, tk5, tk6, tk7, tk8, and_false, false_and, dC_length, dC_take, Int.reduceBEq, Int.reduceBNe, bne_self_eq_false, Bool.not_false, Bool.not_true, Bool.and_self, Int.reduceLT, Int.reduceLE, List.drop_succ_cons]; done)) | refine qqa ?_ | refine qqb ?_ | refine qqc ?_ | refine And.intro (by first | assumption | omega) ?_)
  refine ⟨_, hst1, rfl, ?_⟩
  try simp only [kS, Nat.reduceSub, Nat.reduceMul, Nat.reduceLeDiff, Nat.reducePow, Nat.reduceBEq, Nat.reduceAdd, Nat.reduceEqDiff, reduceCtorEq, Int.reduceToNat, lit0, lit1, lit2, tk1, tk2, tk3, tk4, tk5, tk6, tk7, tk8, and_false, false_and, dC_length, dC_take, Int.reduceBEq, Int.reduceBNe, bne_self_eq_false, Bool.not_false, Bool.not_true, Bool.and_self, Int.reduceLT, Int.reduceLE, List.drop_succ_cons]
  repeat (first | refine qq1 fun Z hN hX hR => ?_ | refine qq2 fun Z hN hX hR => ?_ | refine qq3 (by kernel_rfl) fun K hK => ?_ | ((first | refine qq4 fun R hRR => ?_ | with_reducible change ExpAll _ _ _); simp only [kS, Nat.reduceSub, Nat.reduceMul, Nat.reduceLeDiff, Nat.reducePow, Nat.reduceBEq, Nat.reduceAdd, Nat.reduceEqDiff, reduceCtorEq, Int.reduceToNat, lit0, lit1, lit2, tk1, tk2, tk3, tk4, tk5, tk6, tk7, tk8, and_false, false_and, dC_length, dC_take, Int.reduceBEq, Int.reduceBNe, bne_self_eq_false, Bool.not_false, Bool.not_true, Bool.and_self, Int.reduceLT, Int.reduceLE, List.drop_succ_cons]) | (refine hRR _ ?_; clear hRR R) | refine qq5 ?_ | (refine hK _ ?_; clear hK K) | ((first | refine hN _ ?_ | refine hX _ _ ?_ | refine hR _ ?_); clear hN hX hR Z) | refine qq6 rfl ?_ | refine qq7 (by decide) ?_ | (refine qq8 ?_ ?_; focus (simp only [kS, Nat.reduceSub, Nat.reduceMul, Nat.reduceLeDiff, Nat.reducePow, Nat.reduceBEq, Nat.reduceAdd, Nat.reduceEqDiff, reduceCtorEq, Int.reduceToNat, lit0, lit1, lit2, tk1, tk2, tk3, tk4, tk5, tk6, tk7, tk8, and_false, false_and, dC_length, dC_take, Int.reduceBEq, Int.reduceBNe, bne_self_eq_false, Bool.not_false, Bool.not_true, Bool.and_self, Int.reduceLT, Int.reduceLE, List.drop_succ_cons]; done)) | (refine qq9 ?_ ?_; focus (simp only [kS, Nat.reduceSub, Nat.reduceMul, Nat.reduceLeDiff, Nat.reducePow, Nat.reduceBEq, Nat.reduceAdd, Nat.reduceEqDiff, reduceCtorEq, Int.reduceToNat, lit0, lit1, lit2, tk1, tk2, tk3, tk4, tk5, tk6, tk7, tk8, and_false, false_and, dC_length, dC_take, Int.reduceBEq, Int.reduceBNe, bne_self_eq_false, Bool.not_false, Bool.not_true, Bool.and_self, Int.reduceLT, Int.reduceLE, List.drop_succ_cons]; done)) | refine qqa ?_ | refine qqb ?_ | refine qqc ?_ | refine And.intro (by first | assumption | omega) ?_)
  refine ⟨_, ho, rfl, ?_⟩
  try simp only [kS, Nat.reduceSub, Nat.reduceMul, Nat.reduceLeDiff, Nat.reducePow, Nat.reduceBEq, Nat.reduceAdd, Nat.reduceEqDiff, reduceCtorEq, Int.reduceToNat, lit0, lit1, lit2, tk1, tk2, tk3, tk4, tk5, tk6, tk7, tk8, and_false, false_and, dC_length, dC_take, Int.reduceBEq, Int.reduceBNe, bne_self_eq_false, Bool.not_false, Bool.not_true, Bool.and_self, Int.reduceLT, Int.reduceLE, List.drop_succ_cons]
  repeat (first | refine qq1 fun Z hN hX hR => ?_ | refine qq2 fun Z hN hX hR => ?_ | refine qq3 (by kernel_rfl) fun K hK => ?_ | ((first | refine qq4 fun R hRR => ?_ | with_reducible change ExpAll _ _ _); simp only [kS, Nat.reduceSub, Nat.reduceMul, Nat.reduceLeDiff, Nat.reducePow, Nat.reduceBEq, Nat.reduceAdd, Nat.reduceEqDiff, reduceCtorEq, Int.reduceToNat, lit0, lit1, lit2, tk1, tk2, tk3, tk4, tk5, tk6, tk7, tk8, and_false, false_and, dC_length, dC_take, Int.reduceBEq, Int.reduceBNe, bne_self_eq_false, Bool.not_false, Bool.not_true, Bool.and_self, Int.reduceLT, Int.reduceLE, List.drop_succ_cons]) | (refine hRR _ ?_; clear hRR R) | refine qq5 ?_ | (refine hK _ ?_; clear hK K) | ((first | refine hN _ ?_ | refine hX _ _ ?_ | refine hR _ ?_); clear hN hX hR Z) | refine qq6 rfl ?_ | refine qq7 (by decide) ?_ | (refine qq8 ?_ ?_; focus (simp only [kS, Nat.reduceSub, Nat.reduceMul, Nat.reduceLeDiff, Nat.reducePow, Nat.reduceBEq, Nat.reduceAdd, Nat.reduceEqDiff, reduceCtorEq, Int.reduceToNat, lit0, lit1, lit2, tk1, tk2, tk3, tk4, tk5, tk6, tk7, tk8, and_false, false_and, dC_length, dC_take, Int.reduceBEq, Int.reduceBNe, bne_self_eq_false, Bool.not_false, Bool.not_true, Bool.and_self, Int.reduceLT, Int.reduceLE, List.drop_succ_cons]; done)) | (refine qq9 ?_ ?_; focus (simp only [kS, Nat.reduceSub, Nat.reduceMul, Nat.reduceLeDiff, Nat.reducePow, Nat.reduceBEq, Nat.reduceAdd, Nat.reduceEqDiff, reduceCtorEq, Int.reduceToNat, lit0, lit1, lit2, tk1, tk2, tk3, tk4, tk5, tk6, tk7, tk8, and_false, false_and, dC_length, dC_take, Int.reduceBEq, Int.reduceBNe, bne_self_eq_false, Bool.not_false, Bool.not_true, Bool.and_self, Int.reduceLT, Int.reduceLE, List.drop_succ_cons]; done)) | refine qqa ?_ | refine qqb ?_ | refine qqc ?_ | refine And.intro (by first | assumption | omega) ?_)
  refine ⟨_, hdead, rfl, ?_⟩
  try simp only [kS, Nat.reduceSub, Nat.reduceMul, Nat.reduceLeDiff, Nat.reducePow, Nat.reduceBEq, Nat.reduceAdd, Nat.reduceEqDiff, reduceCtorEq, Int.reduceToNat, lit0, lit1, lit2, tk1, tk2, tk3, tk4, tk5, tk6, tk7, tk8, and_false, false_and, dC_length, dC_take, Int.reduceBEq, Int.reduceBNe, bne_self_eq_false, Bool.not_false, Bool.not_true, Bool.and_self, Int.reduceLT, Int.reduceLE, List.drop_succ_cons]
  repeat (first | refine qq1 fun Z hN hX hR => ?_ | refine qq2 fun Z hN hX hR => ?_ | refine qq3 (by kernel_rfl) fun K hK => ?_ | ((first | refine qq4 fun R hRR => ?_ | with_reducible change ExpAll _ _ _); simp only [kS, Nat.reduceSub, Nat.reduceMul, Nat.reduceLeDiff, Nat.reducePow, Nat.reduceBEq, Nat.reduceAdd, Nat.reduceEqDiff, reduceCtorEq, Int.reduceToNat, lit0, lit1, lit2, tk1, tk2, tk3, tk4, tk5, tk6, tk7, tk8, and_false, false_and, dC_length, dC_take, Int.reduceBEq, Int.reduceBNe, bne_self_eq_false, Bool.not_false, Bool.not_true, Bool.and_self, Int.reduceLT, Int.reduceLE, List.drop_succ_cons]) | (refine hRR _ ?_; clear hRR R) | refine qq5 ?_ | (refine hK _ ?_; clear hK K) | ((first | refine hN _ ?_ | refine hX _ _ ?_ | refine hR _ ?_); clear hN hX hR Z) | refine qq6 rfl ?_ | refine qq7 (by decide) ?_ | (refine qq8 ?_ ?_; focus (simp only [kS, Nat.reduceSub, Nat.reduceMul, Nat.reduceLeDiff, Nat.reducePow, Nat.reduceBEq, Nat.reduceAdd, Nat.reduceEqDiff, reduceCtorEq, Int.reduceToNat, lit0, lit1, lit2, tk1, tk2, tk3, tk4, tk5, tk6, tk7, tk8, and_false, false_and, dC_length, dC_take, Int.reduceBEq, Int.reduceBNe, bne_self_eq_false, Bool.not_false, Bool.not_true, Bool.and_self, Int.reduceLT, Int.reduceLE, List.drop_succ_cons]; done)) | (refine qq9 ?_ ?_; focus (simp only [kS, Nat.reduceSub, Nat.reduceMul, Nat.reduceLeDiff, Nat.reducePow, Nat.reduceBEq, Nat.reduceAdd, Nat.reduceEqDiff, reduceCtorEq, Int.reduceToNat, lit0, lit1, lit2, tk1, tk2, tk3, tk4, tk5, tk6, tk7, tk8, and_false, false_and, dC_length, dC_take, Int.reduceBEq, Int.reduceBNe, bne_self_eq_false, Bool.not_false, Bool.not_true, Bool.and_self, Int.reduceLT, Int.reduceLE, List.drop_succ_cons]; done)) | refine qqa ?_ | refine qqb ?_ | refine qqc ?_ | refine And.intro (by first | assumption | omega) ?_)
  refine ⟨_, hsame, rfl, ?_⟩
  try simp only [kS, Nat.reduceSub, Nat.reduceMul, Nat.reduceLeDiff, Nat.reducePow, Nat.reduceBEq, Nat.reduceAdd, Nat.reduceEqDiff, reduceCtorEq, Int.reduceToNat, lit0, lit1, lit2, tk1, tk2, tk3, tk4, tk5, tk6, tk7, tk8, and_false, false_and, dC_length, dC_take, Int.reduceBEq, Int.reduceBNe, bne_self_eq_false, Bool.not_false, Bool.not_true, Bool.and_self, Int.reduceLT, Int.reduceLE, List.drop_succ_cons]
  repeat (first | refine qq1 fun Z hN hX hR => ?_ | refine qq2 fun Z hN hX hR => ?_ | refine qq3 (by kernel_rfl) fun K hK => ?_ | ((first | refine qq4 fun R hRR => ?_ | with_reducible change ExpAll _ _ _); simp only [kS, Nat.reduceSub, Nat.reduceMul, Nat.reduceLeDiff, Nat.reducePow, Nat.reduceBEq, Nat.reduceAdd, Nat.reduceEqDiff, reduceCtorEq, Int.reduceToNat, lit0, lit1, lit2, tk1, tk2, tk3, tk4, tk5, tk6, tk7, tk8, and_false, false_and, dC_length, dC_take, Int.reduceBEq, Int.reduceBNe, bne_self_eq_false, Bool.not_false, Bool.not_true, Bool.and_self, Int.reduceLT, Int.reduceLE, List.drop_succ_cons]) | (refine hRR _ ?_; clear hRR R) | refine qq5 ?_ | (refine hK _ ?_; clear hK K) | ((first | refine hN _ ?_ | refine hX _ _ ?_ | refine hR _ ?_); clear hN hX hR Z) | refine qq6 rfl ?_ | refine qq7 (by decide) ?_ | (refine qq8 ?_ ?_; focus (simp only [kS, Nat.reduceSub, Nat.reduceMul, Nat.reduceLeDiff, Nat.reducePow, Nat.reduceBEq, Nat.reduceAdd, Nat.reduceEqDiff, reduceCtorEq, Int.reduceToNat, lit0, lit1, lit2, tk1, tk2, tk3, tk4, tk5, tk6, tk7, tk8, and_false, false_and, dC_length, dC_take, Int.reduceBEq, Int.reduceBNe, bne_self_eq_false, Bool.not_false, Bool.not_true, Bool.and_self, Int.reduceLT, Int.reduceLE, List.drop_succ_cons]; done)) | (refine qq9 ?_ ?_; focus (simp only [kS, Nat.reduceSub, Nat.reduceMul, Nat.reduceLeDiff, Nat.reducePow, Nat.reduceBEq, Nat.reduceAdd, Nat.reduceEqDiff, reduceCtorEq, Int.reduceToNat, lit0, lit1, lit2, tk1, tk2, tk3, tk4, tk5, tk6, tk7, tk8, and_false, false_and, dC_length, dC_take, Int.reduceBEq, Int.reduceBNe, bne_self_eq_false, Bool.not_false, Bool.not_true, Bool.and_self, Int.reduceLT, Int.reduceLE, List.drop_succ_cons]; done)) | refine qqa ?_ | refine qqb ?_ | refine qqc ?_ | refine And.intro (by first | assumption | omega) ?_)
  refine ⟨_, hr1, rfl, ?_⟩
  try simp only [kS, Nat.reduceSub, Nat.reduceMul, Nat.reduceLeDiff, Nat.reducePow, Nat.reduceBEq, Nat.reduceAdd, Nat.reduceEqDiff, reduceCtorEq, Int.reduceToNat, lit0, lit1, lit2, tk1, tk2, tk3, tk4, tk5, tk6, tk7, tk8, and_false, false_and, dC_length, dC_take, Int.reduceBEq, Int.reduceBNe, bne_self_eq_false, Bool.not_false, Bool.not_true, Bool.and_self, Int.reduceLT, Int.reduceLE, List.drop_succ_cons]
  repeat (first | refine qq1 fun Z hN hX hR => ?_ | refine qq2 fun Z hN hX hR => ?_ | refine qq3 (by kernel_rfl) fun K hK => ?_ | ((first | refine qq4 fun R hRR => ?_ | with_reducible change ExpAll _ _ _); simp only [kS, Nat.reduceSub, Nat.reduceMul, Nat.reduceLeDiff, Nat.reducePow, Nat.reduceBEq, Nat.reduceAdd, Nat.reduceEqDiff, reduceCtorEq, Int.reduceToNat, lit0, lit1, lit2, tk1, tk2, tk3, tk4, tk5, tk6, tk7, tk8, and_false, false_and, dC_length, dC_take, Int.reduceBEq, Int.reduceBNe, bne_self_eq_false, Bool.not_false, Bool.not_true, Bool.and_self, Int.reduceLT, Int.reduceLE, List.drop_succ_cons]) | (refine hRR _ ?_; clear hRR R) | refine qq5 ?_ | (refine hK _ ?_; clear hK K) | ((first | refine hN _ ?_ | refine hX _ _ ?_ | refine hR _ ?_); clear hN hX hR Z) | refine qq6 rfl ?_ | refine qq7 (by decide) ?_ | (refine qq8 ?_ ?_; focus (simp only [kS, Nat.reduceSub, Nat.reduceMul, Nat.reduceLeDiff, Nat.reducePow, Nat.reduceBEq, Nat.reduceAdd, Nat.reduceEqDiff, reduceCtorEq, Int.reduceToNat, lit0, lit1, lit2, tk1, tk2, tk3, tk4, tk5, tk6, tk7, tk8, and_false, false_and, dC_length, dC_take, Int.reduceBEq, Int.reduceBNe, bne_self_eq_false, Bool.not_false, Bool.not_true, Bool.and_self, Int.reduceLT, Int.reduceLE, List.drop_succ_cons]; done)) | (refine qq9 ?_ ?_; focus (simp only [kS, Nat.reduceSub, Nat.reduceMul, Nat.reduceLeDiff, Nat.reducePow, Nat.reduceBEq, Nat.reduceAdd, Nat.reduceEqDiff, reduceCtorEq, Int.reduceToNat, lit0, lit1, lit2, tk1, tk2, tk3, tk4, tk5, tk6, tk7, tk8, and_false, false_and, dC_length, dC_take, Int.reduceBEq, Int.reduceBNe, bne_self_eq_false, Bool.not_false, Bool.not_true, Bool.and_self, Int.reduceLT, Int.reduceLE, List.drop_succ_cons]; done)) | refine qqa ?_ | refine qqb ?_ | refine qqc ?_ | refine And.intro (by first | assumption | omega) ?_)
  refine ⟨_, hst1, rfl, ?_⟩
  try simp only [kS, Nat.reduceSub, Nat.reduceMul, Nat.reduceLeDiff, Nat.reducePow, Nat.reduceBEq, Nat.reduceAdd, Nat.reduceEqDiff, reduceCtorEq, Int.reduceToNat, lit0, lit1, lit2, tk1, tk2, tk3, tk4, tk5, tk6, tk7, tk8, and_false, false_and, dC_length, dC_take, Int.reduceBEq, Int.reduceBNe, bne_self_eq_false, Bool.not_false, Bool.not_true, Bool.and_self, Int.reduceLT, Int.reduceLE, List.drop_succ_cons]
  repeat (first | refine qq1 fun Z hN hX hR => ?_ | refine qq2 fun Z hN hX hR => ?_ | refine qq3 (by kernel_rfl) fun K hK => ?_ | ((first | refine qq4 fun R hRR => ?_ | with_reducible change ExpAll _ _ _); simp only [kS, Nat.reduceSub, Nat.reduceMul, Nat.reduceLeDiff, Nat.reducePow, Nat.reduceBEq, Nat.reduceAdd, Nat.reduceEqDiff, reduceCtorEq, Int.reduceToNat, lit0, lit1, lit2, tk1, tk2, tk3, tk4, tk5, tk6, tk7, tk8, and_false, false_and, dC_length, dC_take, Int.reduceBEq, Int.reduceBNe, bne_self_eq_false, Bool.not_false, Bool.not_true, Bool.and_self, Int.reduceLT, Int.reduceLE, List.drop_succ_cons]) | (refine hRR _ ?_; clear hRR R) | refine qq5 ?_ | (refine hK _ ?_; clear hK K) | ((first | refine hN _ ?_ | refine hX _ _ ?_ | refine hR _ ?_); clear hN hX hR Z) | refine qq6 rfl ?_ | refine qq7 (by decide) ?_ | (refine qq8 ?_ ?_; focus (simp only [kS, Nat.reduceSub, Nat.reduceMul, Nat.reduceLeDiff, Nat.reducePow, Nat.reduceBEq, Nat.reduceAdd, Nat.reduceEqDiff, reduceCtorEq, Int.reduceToNat, lit0, lit1, lit2, tk1, tk2, tk3, tk4, tk5, tk6, tk7, tk8, and_false, false_and, dC_length, dC_take, Int.reduceBEq, Int.reduceBNe, bne_self_eq_false, Bool.not_false, Bool.not_true, Bool.and_self, Int.reduceLT, Int.reduceLE, List.drop_succ_cons]; done)) | (refine qq9 ?_ ?_; focus (simp only [kS, Nat.reduceSub, Nat.reduceMul, Nat.reduceLeDiff, Nat.reducePow, Nat.reduceBEq, Nat.reduceAdd, Nat.reduceEqDiff, reduceCtorEq, Int.reduceToNat, lit0, lit1, lit2, tk1, tk2, tk3, tk4, tk5, tk6, tk7, tk8, and_false, false_and, dC_length, dC_take, Int.reduceBEq, Int.reduceBNe, bne_self_eq_false, Bool.not_false, Bool.not_true, Bool.and_self, Int.reduceLT, Int.reduceLE, List.drop_succ_cons]; done)) | refine qqa ?_ | refine qqb ?_ | refine qqc ?_ | refine And.intro (by first | assumption | omega) ?_)
  refine ⟨_, hr2, rfl, ?_⟩
  try simp only [kS, Nat.reduceSub, Nat.reduceMul, Nat.reduceLeDiff, Nat.reducePow, Nat.reduceBEq, Nat.reduceAdd, Nat.reduceEqDiff, reduceCtorEq, Int.reduceToNat, lit0, lit1, lit2, tk1, tk2, tk3, tk4, tk5, tk6, tk7, tk8, and_false, false_and, dC_length, dC_take, Int.reduceBEq, Int.reduceBNe, bne_self_eq_false, Bool.not_false, Bool.not_true, Bool.and_self, Int.reduceLT, Int.reduceLE, List.drop_succ_cons]
  repeat (first | refine qq1 fun Z hN hX hR => ?_ | refine qq2 fun Z hN hX hR => ?_ | refine qq3 (by kernel_rfl) fun K hK => ?_ | ((first | refine qq4 fun R hRR => ?_ | with_reducible change ExpAll _ _ _); simp only [kS, Nat.reduceSub, Nat.reduceMul, Nat.reduceLeDiff, Nat.reducePow, Nat.reduceBEq, Nat.reduceAdd, Nat.reduceEqDiff, reduceCtorEq, Int.reduceToNat, lit0, lit1, lit2, tk1, tk2, tk3, tk4, tk5, tk6, tk7, tk8, and_false, false_and, dC_length, dC_take, Int.reduceBEq, Int.reduceBNe, bne_self_eq_false, Bool.not_false, Bool.not_true, Bool.and_self, Int.reduceLT, Int.reduceLE, List.drop_succ_cons]) | (refine hRR _ ?_; clear hRR R) | refine qq5 ?_ | (refine hK _ ?_; clear hK K) | ((first | refine hN _ ?_ | refine hX _ _ ?_ | refine hR _ ?_); clear hN hX hR Z) | refine qq6 rfl ?_ | refine qq7 (by decide) ?_ | (refine qq8 ?_ ?_; focus (simp only [kS, Nat.reduceSub, Nat.reduceMul, Nat.reduceLeDiff, Nat.reducePow, Nat.reduceBEq, Nat.reduceAdd, Nat.reduceEqDiff, reduceCtorEq, Int.reduceToNat, lit0, lit1, lit2, tk1, tk2, tk3, tk4, tk5, tk6, tk7, tk8, and_false, false_and, dC_length, dC_take, Int.reduceBEq, Int.reduceBNe, bne_self_eq_false, Bool.not_false, Bool.not_true, Bool.and_self, Int.reduceLT, Int.reduceLE, List.drop_succ_cons]; done)) | (refine qq9 ?_ ?_; focus (simp only [kS, Nat.reduceSub, Nat.reduceMul, Nat.reduceLeDiff, Nat.reducePow, Nat.reduceBEq, Nat.reduceAdd, Nat.reduceEqDiff, reduceCtorEq, Int.reduceToNat, lit0, lit1, lit2, tk1, tk2, tk3, tk4, tk5, tk6, tk7, tk8, and_false, false_and, dC_length, dC_take, Int.reduceBEq, Int.reduceBNe, bne_self_eq_false, Bool.not_false, Bool.not_true, Bool.and_self, Int.reduceLT, Int.reduceLE, List.drop_succ_cons]; done)) | refine qqa ?_ | refine qqb ?_ | refine qqc ?_ | refine And.intro (by first | assumption | omega) ?_)
  refine ⟨_, hst3, rfl, ?_⟩
  try simp only [kS, Nat.reduceSub, Nat.reduceMul, Nat.reduceLeDiff, Nat.reducePow, Nat.reduceBEq, Nat.reduceAdd, Nat.reduceEqDiff, reduceCtorEq, Int.reduceToNat, lit0, lit1, lit2, tk1, tk2, tk3, tk4, tk5, tk6, tk7, tk8, and_false, false_and, dC_length, dC_take, Int.reduceBEq, Int.reduceBNe, bne_self_eq_false, Bool.not_false, Bool.not_true, Bool.and_self, Int.reduceLT, Int.reduceLE, List.drop_succ_cons]
  repeat (first | refine qq1 fun Z hN hX hR => ?_ | refine qq2 fun Z hN hX hR => ?_ | refine qq3 (by kernel_rfl) fun K hK => ?_ | ((first | refine qq4 fun R hRR => ?_ | with_reducible change ExpAll _ _ _); simp only [kS, Nat.reduceSub, Nat.reduceMul, Nat.reduceLeDiff, Nat.reducePow, Nat.reduceBEq, Nat.reduceAdd, Nat.reduceEqDiff, reduceCtorEq, Int.reduceToNat, lit0, lit1, lit2, tk1, tk2, tk3, tk4, tk5, tk6, tk7, tk8, and_false, false_and, dC_length, dC_take, Int.reduceBEq, Int.reduceBNe, bne_self_eq_false, Bool.not_false, Bool.not_true, Bool.and_self, Int.reduceLT, Int.reduceLE, List.drop_succ_cons]) | (refine hRR _ ?_; clear hRR R) | refine qq5 ?_ | (refine hK _ ?_; clear hK K) | ((first | refine hN _ ?_ | refine hX _ _ ?_ | refine hR _ ?_); clear hN hX hR Z) | refine qq6 rfl ?_ | refine qq7 (by decide) ?_ | (refine qq8 ?_ ?_; focus (simp only [kS, Nat.reduceSub, Nat.reduceMul, Nat.reduceLeDiff, Nat.reducePow, Nat.reduceBEq, Nat.reduceAdd, Nat.reduceEqDiff, reduceCtorEq, Int.reduceToNat, lit0, lit1, lit2, tk1, tk2, tk3, tk4, tk5, tk6, tk7, tk8, and_false, false_and, dC_length, dC_take, Int.reduceBEq, Int.reduceBNe, bne_self_eq_false, Bool.not_false, Bool.not_true, Bool.and_self, Int.reduceLT, Int.reduceLE, List.drop_succ_cons]; done)) | (refine qq9 ?_ ?_; focus (simp only [kS, Nat.reduceSub, Nat.reduceMul, Nat.reduceLeDiff, Nat.reducePow, Nat.reduceBEq, Nat.reduceAdd, Nat.reduceEqDiff, reduceCtorEq, Int.reduceToNat, lit0, lit1, lit2, tk1, tk2, tk3, tk4, tk5, tk6, tk7, tk8, and_false, false_and, dC_length, dC_take, Int.reduceBEq, Int.reduceBNe, bne_self_eq_false, Bool.not_false, Bool.not_true, Bool.and_self, Int.reduceLT, Int.reduceLE, List.drop_succ_cons]; done)) | refine qqa ?_ | refine qqb ?_ | refine qqc ?_ | refine And.intro (by first | assumption | omega) ?_)
  refine ⟨_, hr3, rfl, ?_⟩
  try simp only [kS, Nat.reduceSub, Nat.reduceMul, Nat.reduceLeDiff, Nat.reducePow, Nat.reduceBEq, Nat.reduceAdd, Nat.reduceEqDiff, reduceCtorEq, Int.reduceToNat, lit0, lit1, lit2, tk1, tk2, tk3, tk4, tk5, tk6, tk7, tk8, and_false, false_and, dC_length, dC_take, Int.reduceBEq, Int.reduceBNe, bne_self_eq_false, Bool.not_false, Bool.not_true, Bool.and_self, Int.reduceLT, Int.reduceLE, List.drop_succ_cons]
  repeat (first | refine qq1 fun Z hN hX hR => ?_ | refine qq2 fun Z hN hX hR => ?_ | refine qq3 (by kernel_rfl) fun K hK => ?_ | ((first | refine qq4 fun R hRR => ?_ | with_reducible change ExpAll _ _ _); simp only [kS, Nat.reduceSub, Nat.reduceMul, Nat.reduceLeDiff, Nat.reducePow, Nat.reduceBEq, Nat.reduceAdd, Nat.reduceEqDiff, reduceCtorEq, Int.reduceToNat, lit0, lit1, lit2, tk1, tk2, tk3, tk4, tk5, tk6, tk7, tk8, and_false, false_and, dC_length, dC_take, Int.reduceBEq, Int.reduceBNe, bne_self_eq_false, Bool.not_false, Bool.not_true, Bool.and_self, Int.reduceLT, Int.reduceLE, List.drop_succ_cons]) | (refine hRR _ ?_; clear hRR R) | refine qq5 ?_ | (refine hK _ ?_; clear hK K) | ((first | refine hN _ ?_ | refine hX _ _ ?_ | refine hR _ ?_); clear hN hX hR Z) | refine qq6 rfl ?_ | refine qq7 (by decide) ?_ | (refine qq8 ?_ ?_; focus (simp only [kS, Nat.reduceSub, Nat.reduceMul, Nat.reduceLeDiff, Nat.reducePow, Nat.reduceBEq, Nat.reduceAdd, Nat.reduceEqDiff, reduceCtorEq, Int.reduceToNat, lit0, lit1, lit2, tk1, tk2, tk3, tk4, tk5, tk6, tk7, tk8, and_false, false_and, dC_length, dC_take, Int.reduceBEq, Int.reduceBNe, bne_self_eq_false, Bool.not_false, Bool.not_true, Bool.and_self, Int.reduceLT, Int.reduceLE, List.drop_succ_cons]; done)) | (refine qq9 ?_ ?_; focus (simp only [kS, Nat.reduceSub, Nat.reduceMul, Nat.reduceLeDiff, Nat.reducePow, Nat.reduceBEq, Nat.reduceAdd, Nat.reduceEqDiff, reduceCtorEq, Int.reduceToNat, lit0, lit1, lit2, tk1, tk2, tk3, tk4, tk5, tk6, tk7, tk8, and_false, false_and, dC_length, dC_take, Int.reduceBEq, Int.reduceBNe, bne_self_eq_false, Bool.not_false, Bool.not_true, Bool.and_self, Int.reduceLT, Int.reduceLE, List.drop_succ_cons]; done)) | refine qqa ?_ | refine qqb ?_ | refine qqc ?_ | refine And.intro (by first | assumption | omega) ?_)
  all_goals rfl

end Go.Proofs.YtilhjiopbbbgmaaDoor

/- Is a description of few nodes? May a text be a node's? -/
namespace Go.Proofs.YtilhjiopbbbgmaaDoor
open Go Go.RowKit Am
set_option linter.unusedVariables false
set_option linter.unusedSimpArgs false
set_option maxHeartbeats 4000000
attribute [local irreducible] AWp AOps

def tsum : List Nd → Nat
  | [] => 0
  | n :: l => n.s.size + tsum l

theorem tsum_mem : ∀ {l : List Nd} {n : Nd}, n ∈ l → n.s.size ≤ tsum l
  | x :: l, n, h => by
    rcases List.mem_cons.1 h with rfl | h
    · simp [tsum]
    · have := tsum_mem h; simp [tsum]; omega

theorem tsum_append : ∀ (a b : List Nd), tsum (a ++ b) = tsum a + tsum b
  | [], b => by simp [tsum]
  | x :: a, b => by simp [tsum, tsum_append a b, Nat.add_assoc]

def fewB (d : List Nd) : Bool := decide ((d.length : Int) ≤ 100) && decide (((tsum (d.take 200) : Nat) : Int) ≤ 2000)

theorem fewB_true {d : List Nd} (h : fewB d = true) : d.length ≤ 100 ∧ ∀ n ∈ d, n.s.size ≤ 2000 := by
  simp only [fewB, Bool.and_eq_true, decide_eq_true_eq] at h
  have : d.length ≤ 100 := by omega
  refine ⟨this, fun n hn => ?_⟩
  rw [List.take_of_length_le (by omega)] at h
  have := tsum_mem hn
  omega

theorem few_ret (gl : Gl) (d : List Nd) (hl : d.length ≤ 140737488355328) (hs : ∀ n ∈ d, n.s.size ≤ 140737488355328) : Ret Tryd.prog gl 9 [.agg (dC d)] (bv (fewB d)) := by
  refine retq (rs := [2]) 33 Tryd.func9 (by kernel_rfl) rfl (by kernel_rfl) rfl (by simp) (by simp) fun Z hN hX hR => ?_
  repeat (first | refine qq1 fun Z hN hX hR => ?_ | refine qq2 fun Z hN hX hR => ?_ | refine qq3 (by kernel_rfl) fun K hK => ?_ | ((first | refine qq4 fun R hRR => ?_ | with_reducible change ExpAll _ _ _); simp only [kS, Nat.reduceSub, Nat.reduceMul, Nat.reduceLeDiff, Nat.reducePow, Nat.reduceBEq, Nat.reduceAdd, Nat.reduceEqDiff, reduceCtorEq, Int.reduceToNat]) | (refine hRR _ ?_; clear hRR R) | refine qq5 ?_ | (refine hK _ ?_; clear hK K) | ((first | refine hN _ ?_ | refine hX _ _ ?_ | refine hR _ ?_); clear hN hX hR Z) | refine qq6 rfl ?_ | refine qq7 (by decide) ?_ | (refine qq8 ?_ ?_; focus (simp only [kS, Nat.reduceSub, Nat.reduceMul, Nat.reduceLeDiff, Nat.reducePow, Nat.reduceBEq, Nat.reduceAdd, Nat.reduceEqDiff, reduceCtorEq, Int.reduceToNat]; done)) | (refine qq9 ?_ ?_; focus (simp only [kS, Nat.reduceSub, Nat.reduceMul, Nat.reduceLeDiff, Nat.reducePow, Nat.reduceBEq, Nat.reduceAdd, Nat.reduceEqDiff, reduceCtorEq, Int.reduceToNat]; done)) | refine qqa ?_ | refine qqb ?_ | refine qqc ?_ | refine And.intro (by first | assumption | omega) ?_)
  refine awq_loop (fun c f => ∃ (i : Nat), i ≤ d.length ∧ i ≤ 200 ∧ c = 200 - i ∧ f.t 4 = iv (i : Int) ∧ f.t 3 = iv ((tsum (d.take i) : Nat) : Int) ∧ tsum (d.take i) ≤ i * 140737488355328 ∧ f.t 1 = .ref 1 1 0 ∧ f.ob 1 1 = .box (dC d) ∧ 1 < f.k) 200 ?_ ?_
  · exact ⟨0, by omega, by omega, rfl, by simp only [kS, Nat.reduceSub, Nat.reduceMul, Nat.reduceLeDiff, Nat.reducePow, Nat.reduceBEq, Nat.reduceAdd, Nat.reduceEqDiff, reduceCtorEq, Int.reduceToNat]; rfl, by simp only [kS, Nat.reduceSub, Nat.reduceMul, Nat.reduceLeDiff, Nat.reducePow, Nat.reduceBEq, Nat.reduceAdd, Nat.reduceEqDiff, reduceCtorEq, Int.reduceToNat]; rfl, by simp [tsum], by simp only [kS, Nat.reduceSub, Nat.reduceMul, Nat.reduceLeDiff, Nat.reducePow, Nat.reduceBEq, Nat.reduceAdd, Nat.reduceEqDiff, reduceCtorEq, Int.reduceToNat], by simp only [kS, Nat.reduceSub, Nat.reduceMul, Nat.reduceLeDiff, Nat.reducePow, Nat.reduceBEq, Nat.reduceAdd, Nat.reduceEqDiff, reduceCtorEq, Int.reduceToNat], by first | (simp only [kS, Nat.reduceSub, Nat.reduceMul, Nat.reduceLeDiff, Nat.reducePow, Nat.reduceBEq, Nat.reduceAdd, Nat.reduceEqDiff, reduceCtorEq, Int.reduceToNat]; done) | (simp only [kS, Nat.reduceSub, Nat.reduceMul, Nat.reduceLeDiff, Nat.reducePow, Nat.reduceBEq, Nat.reduceAdd, Nat.reduceEqDiff, reduceCtorEq, Int.reduceToNat]; omega) | (simp only [kS, Nat.reduceSub, Nat.reduceMul, Nat.reduceLeDiff, Nat.reducePow, Nat.reduceBEq, Nat.reduceAdd, Nat.reduceEqDiff, reduceCtorEq, Int.reduceToNat]; rfl)⟩
  rintro Z c f hN hX hR ⟨i, hi, h200, rfl, h4, h3, hb0, h1, hb, hk⟩
  simp only [dC] at hb
  by_cases hlt : i < d.length
  · by_cases h2 : i < 200
    · have e := ndsC_drop d i hlt
      have el := ndsC_length d
      have h2' : (i : Int) < 200 := by omega
      have hsz := hs _ (List.getElem_mem hlt)
      have ht : tsum (d.take (i + 1)) = tsum (d.take i) + d[i].s.size := by
        rw [List.take_succ_eq_append_getElem hlt, tsum_append]; simp [tsum]
      have hw : IntKind.i64.wrap ((tsum (d.take i) : Nat) + (d[i].s.size : Int)) = (tsum (d.take i) : Nat) + (d[i].s.size : Int) := wrap_i64 (by omega) (by omega)
      repeat (first | refine qq1 fun Z hN hX hR => ?_ | refine qq2 fun Z hN hX hR => ?_ | refine qq3 (by kernel_rfl) fun K hK => ?_ | ((first | refine qq4 fun R hRR => ?_ | with_reducible change ExpAll _ _ _); simp only [kS, Nat.reduceSub, Nat.reduceMul, Nat.reduceLeDiff, Nat.reducePow, Nat.reduceBEq, Nat.reduceAdd, Nat.reduceEqDiff, reduceCtorEq, Int.reduceToNat, h4, h3, h1, hb, hlt, h2', e, el, hw, decide_true]) | (refine hRR _ ?_; clear hRR R) | refine qq5 ?_ | (refine hK _ ?_; clear hK K) | ((first | refine hN _ ?_ | refine hX _ _ ?_ | refine hR _ ?_); clear hN hX hR Z) | refine qq6 rfl ?_ | refine qq7 (by decide) ?_ | (refine qq8 ?_ ?_; focus (simp only [kS, Nat.reduceSub, Nat.reduceMul, Nat.reduceLeDiff, Nat.reducePow, Nat.reduceBEq, Nat.reduceAdd, Nat.reduceEqDiff, reduceCtorEq, Int.reduceToNat, h4, h3, h1, hb, hlt, h2', e, el, hw, decide_true]; done)) | (refine qq9 ?_ ?_; focus (simp only [kS, Nat.reduceSub, Nat.reduceMul, Nat.reduceLeDiff, Nat.reducePow, Nat.reduceBEq, Nat.reduceAdd, Nat.reduceEqDiff, reduceCtorEq, Int.reduceToNat, h4, h3, h1, hb, hlt, h2', e, el, hw, decide_true]; done)) | refine qqa ?_ | refine qqb ?_ | refine qqc ?_ | refine And.intro (by first | assumption | omega) ?_)
      refine ⟨200 - (i + 1), by omega, i + 1, by omega, by omega, rfl, ?_, ?_, by omega, by simp only [kS, Nat.reduceSub, Nat.reduceMul, Nat.reduceLeDiff, Nat.reducePow, Nat.reduceBEq, Nat.reduceAdd, Nat.reduceEqDiff, reduceCtorEq, Int.reduceToNat, h1], by simp only [kS, Nat.reduceSub, Nat.reduceMul, Nat.reduceLeDiff, Nat.reducePow, Nat.reduceBEq, Nat.reduceAdd, Nat.reduceEqDiff, reduceCtorEq, Int.reduceToNat, hb]; rfl, by first | (simp only [kS, Nat.reduceSub, Nat.reduceMul, Nat.reduceLeDiff, Nat.reducePow, Nat.reduceBEq, Nat.reduceAdd, Nat.reduceEqDiff, reduceCtorEq, Int.reduceToNat]; done) | (simp only [kS, Nat.reduceSub, Nat.reduceMul, Nat.reduceLeDiff, Nat.reducePow, Nat.reduceBEq, Nat.reduceAdd, Nat.reduceEqDiff, reduceCtorEq, Int.reduceToNat]; omega) | (simp only [kS, Nat.reduceSub, Nat.reduceMul, Nat.reduceLeDiff, Nat.reducePow, Nat.reduceBEq, Nat.reduceAdd, Nat.reduceEqDiff, reduceCtorEq, Int.reduceToNat]; rfl)⟩
      · simp only [kS, Nat.reduceSub, Nat.reduceMul, Nat.reduceLeDiff, Nat.reducePow, Nat.reduceBEq, Nat.reduceAdd, Nat.reduceEqDiff, reduceCtorEq, Int.reduceToNat]
        rw [wrap_i64 (by omega) (by omega)]; rfl
      · simp only [kS, Nat.reduceSub, Nat.reduceMul, Nat.reduceLeDiff, Nat.reducePow, Nat.reduceBEq, Nat.reduceAdd, Nat.reduceEqDiff, reduceCtorEq, Int.reduceToNat]
        rw [ht]; rfl
    · have h2' : ¬ (i : Int) < 200 := by omega
      have e200 : i = 200 := by omega
      have ht : tsum (d.take i) = tsum (d.take 200) := by rw [e200]
      cases q : decide ((d.length : Int) ≤ 100)
      · repeat (first | refine qq1 fun Z hN hX hR => ?_ | refine qq2 fun Z hN hX hR => ?_ | refine qq3 (by kernel_rfl) fun K hK => ?_ | ((first | refine qq4 fun R hRR => ?_ | with_reducible change ExpAll _ _ _); simp only [kS, Nat.reduceSub, Nat.reduceMul, Nat.reduceLeDiff, Nat.reducePow, Nat.reduceBEq, Nat.reduceAdd, Nat.reduceEqDiff, reduceCtorEq, Int.reduceToNat, h4, h3, h1, hb, hlt, h2', decide_true, decide_false, q]) | (refine hRR _ ?_; clear hRR R) | refine qq5 ?_ | (refine hK _ ?_; clear hK K) | ((first | refine hN _ ?_ | refine hX _ _ ?_ | refine hR _ ?_); clear hN hX hR Z) | refine qq6 rfl ?_ | refine qq7 (by decide) ?_ | (refine qq8 ?_ ?_; focus (simp only [kS, Nat.reduceSub, Nat.reduceMul, Nat.reduceLeDiff, Nat.reducePow, Nat.reduceBEq, Nat.reduceAdd, Nat.reduceEqDiff, reduceCtorEq, Int.reduceToNat, h4, h3, h1, hb, hlt, h2', decide_true, decide_false, q]; done)) | (refine qq9 ?_ ?_; focus (simp only [kS, Nat.reduceSub, Nat.reduceMul, Nat.reduceLeDiff, Nat.reducePow, Nat.reduceBEq, Nat.reduceAdd, Nat.reduceEqDiff, reduceCtorEq, Int.reduceToNat, h4, h3, h1, hb, hlt, h2', decide_true, decide_false, q]; done)) | refine qqa ?_ | refine qqb ?_ | refine qqc ?_ | refine And.intro (by first | assumption | omega) ?_)
        simp only [fewB, q, Bool.false_and]
      · repeat (first | refine qq1 fun Z hN hX hR => ?_ | refine qq2 fun Z hN hX hR => ?_ | refine qq3 (by kernel_rfl) fun K hK => ?_ | ((first | refine qq4 fun R hRR => ?_ | with_reducible change ExpAll _ _ _); simp only [kS, Nat.reduceSub, Nat.reduceMul, Nat.reduceLeDiff, Nat.reducePow, Nat.reduceBEq, Nat.reduceAdd, Nat.reduceEqDiff, reduceCtorEq, Int.reduceToNat, h4, h3, h1, hb, hlt, h2', decide_true, decide_false, q]) | (refine hRR _ ?_; clear hRR R) | refine qq5 ?_ | (refine hK _ ?_; clear hK K) | ((first | refine hN _ ?_ | refine hX _ _ ?_ | refine hR _ ?_); clear hN hX hR Z) | refine qq6 rfl ?_ | refine qq7 (by decide) ?_ | (refine qq8 ?_ ?_; focus (simp only [kS, Nat.reduceSub, Nat.reduceMul, Nat.reduceLeDiff, Nat.reducePow, Nat.reduceBEq, Nat.reduceAdd, Nat.reduceEqDiff, reduceCtorEq, Int.reduceToNat, h4, h3, h1, hb, hlt, h2', decide_true, decide_false, q]; done)) | (refine qq9 ?_ ?_; focus (simp only [kS, Nat.reduceSub, Nat.reduceMul, Nat.reduceLeDiff, Nat.reducePow, Nat.reduceBEq, Nat.reduceAdd, Nat.reduceEqDiff, reduceCtorEq, Int.reduceToNat, h4, h3, h1, hb, hlt, h2', decide_true, decide_false, q]; done)) | refine qqa ?_ | refine qqb ?_ | refine qqc ?_ | refine And.intro (by first | assumption | omega) ?_)
        simp only [fewB, q, Bool.true_and, ← ht]
  · have ht : tsum (d.take i) = tsum (d.take 200) := by rw [List.take_of_length_le (by omega), List.take_of_length_le (by omega)]
    cases q : decide ((d.length : Int) ≤ 100)
    · repeat (first | refine qq1 fun Z hN hX hR => ?_ | refine qq2 fun Z hN hX hR => ?_ | refine qq3 (by kernel_rfl) fun K hK => ?_ | ((first | refine qq4 fun R hRR => ?_ | with_reducible change ExpAll _ _ _); simp only [kS, Nat.reduceSub, Nat.reduceMul, Nat.reduceLeDiff, Nat.reducePow, Nat.reduceBEq, Nat.reduceAdd, Nat.reduceEqDiff, reduceCtorEq, Int.reduceToNat, h4, h3, h1, hb, hlt, decide_true, decide_false, q]) | (refine hRR _ ?_; clear hRR R) | refine qq5 ?_ | (refine hK _ ?_; clear hK K) | ((first | refine hN _ ?_ | refine hX _ _ ?_ | refine hR _ ?_); clear hN hX hR Z) | refine qq6 rfl ?_ | refine qq7 (by decide) ?_ | (refine qq8 ?_ ?_; focus (simp only [kS, Nat.reduceSub, Nat.reduceMul, Nat.reduceLeDiff, Nat.reducePow, Nat.reduceBEq, Nat.reduceAdd, Nat.reduceEqDiff, reduceCtorEq, Int.reduceToNat, h4, h3, h1, hb, hlt, decide_true, decide_false, q]; done)) | (refine qq9 ?_ ?_; focus (simp only [kS, Nat.reduceSub, Nat.reduceMul, Nat.reduceLeDiff, Nat.reducePow, Nat.reduceBEq, Nat.reduceAdd, Nat.reduceEqDiff, reduceCtorEq, Int.reduceToNat, h4, h3, h1, hb, hlt, decide_true, decide_false, q]; done)) | refine qqa ?_ | refine qqb ?_ | refine qqc ?_ | refine And.intro (by first | assumption | omega) ?_)
      simp only [fewB, q, Bool.false_and]
    · repeat (first | refine qq1 fun Z hN hX hR => ?_ | refine qq2 fun Z hN hX hR => ?_ | refine qq3 (by kernel_rfl) fun K hK => ?_ | ((first | refine qq4 fun R hRR => ?_ | with_reducible change ExpAll _ _ _); simp only [kS, Nat.reduceSub, Nat.reduceMul, Nat.reduceLeDiff, Nat.reducePow, Nat.reduceBEq, Nat.reduceAdd, Nat.reduceEqDiff, reduceCtorEq, Int.reduceToNat, h4, h3, h1, hb, hlt, decide_true, decide_false, q]) | (refine hRR _ ?_; clear hRR R) | refine qq5 ?_ | (refine hK _ ?_; clear hK K) | ((first | refine hN _ ?_ | refine hX _ _ ?_ | refine hR _ ?_); clear hN hX hR Z) | refine qq6 rfl ?_ | refine qq7 (by decide) ?_ | (refine qq8 ?_ ?_; focus (simp only [kS, Nat.reduceSub, Nat.reduceMul, Nat.reduceLeDiff, Nat.reducePow, Nat.reduceBEq, Nat.reduceAdd, Nat.reduceEqDiff, reduceCtorEq, Int.reduceToNat, h4, h3, h1, hb, hlt, decide_true, decide_false, q]; done)) | (refine qq9 ?_ ?_; focus (simp only [kS, Nat.reduceSub, Nat.reduceMul, Nat.reduceLeDiff, Nat.reducePow, Nat.reduceBEq, Nat.reduceAdd, Nat.reduceEqDiff, reduceCtorEq, Int.reduceToNat, h4, h3, h1, hb, hlt, decide_true, decide_false, q]; done)) | refine qqa ?_ | refine qqb ?_ | refine qqc ?_ | refine And.intro (by first | assumption | omega) ?_)
      simp only [fewB, q, Bool.true_and, ← ht]

end Go.Proofs.YtilhjiopbbbgmaaDoor

/- HeadsTells: its body answers true, whatever it is given. -/
namespace Go.Proofs.YtilhjiopbbbgmaaDoor
open Go Go.RowKit Am
set_option linter.unusedVariables false
set_option linter.unusedSimpArgs false
set_option maxHeartbeats 4000000
attribute [local irreducible] AWp AOps

theorem okSt_okJ {d : List Nd} {s : List It} (h : okSt d s = true) : okJ s := by
  intro x hx
  have hx' := List.all_eq_true.1 h x hx
  simp only [okIt] at hx'
  split at hx'
  · rename_i h5
    simp only [Bool.and_eq_true, beq_iff_eq, decide_eq_true_eq] at hx' h5
    omega
  · split at hx'
    · cases hx'
    · split at hx'
      · rename_i h5
        simp only [Bool.and_eq_true, beq_iff_eq] at hx' h5
        omega
      · split at hx'
        · rename_i h5
          simp only [Bool.and_eq_true, beq_iff_eq, decide_eq_true_eq] at hx' h5
          omega
        · split at hx'
          · rename_i h5
            simp only [Bool.and_eq_true, beq_iff_eq, decide_eq_true_eq] at hx' h5
            omega
          · split at hx'
            · rename_i h5
              simp only [Bool.and_eq_true, beq_iff_eq, decide_eq_true_eq] at hx' h5
              omega
            · cases hx'

/-- What a state that fits is good for. -/
structure Fit14 (d : List Nd) (s : List It) : Prop where
  wf : WFd d
  gd : gd d s
  okJ : okJ s
  len : s.length ≤ 8
  deep : deep d 1500 s
  cnt : cnt d 1500 s ≤ 1500
  lv : (leaves d 1500 s).length ≤ 1500

theorem fit14 {d : List Nd} {s : List It} (hd : WFd d) (hf : ∀ n ∈ d, n.s.size ≤ 1000000) (h : fitsB d s = true) : Fit14 d s := by
  simp only [fitsB, Bool.and_eq_true, decide_eq_true_eq] at h
  obtain ⟨h1, h2, h3, h4⟩ := h
  have hs := steps_deep d 1500 s 1500 (by omega) (by omega) h4
  have hc := steps_cnt d 1500 s 1500 (by omega) (by omega) h4
  exact ⟨hd, okSt_gd hd hf h3, okSt_okJ h3, by omega, hs.1, by omega, by omega⟩

section
variable {d : List Nd} {s : List It}
theorem Fit14.heads (F : Fit14 d s) : Ret Tryd.prog glD 15 [.agg (dC d), .c (stC s)] (.c (brC (headsS d 1500 s))) :=
  heads15_ret d F.wf 1500 s F.deep F.gd F.okJ (by have := F.len; omega) (by have := F.cnt; omega) (by have := F.lv; omega)
theorem Fit14.headsR (F : Fit14 d s) (gl : Gl) : Ret Tryd.prog gl 16 [.agg (dC d), .c (stC s)] (.c (brC (headsS d 1500 s))) :=
  headsR_ret gl d F.wf 1500 s F.deep F.gd (by have := F.len; omega) (by have := F.lv; omega)
theorem Fit14.ok (F : Fit14 d s) : OkL (headsS d 1500 s) 1500 := by
  have h := addL_ok (leaves d 1500 s) (l := []) (n := 0) ⟨fun x hx => (by cases hx), fun x hx => (by cases hx), Nat.le_refl _⟩ fun t ht => by
    have := (leaves_len F.wf 1500 s F.gd t ht).2
    have := F.len
    omega
  exact ⟨h.short, h.many, by have := h.len; have := F.lv; simp only [headsS]; omega⟩
theorem Fit14.open_ (F : Fit14 d s) (gl : Gl) (hr : rdy d s = false) : Ret Tryd.prog gl 17 [.agg (dC d), .c (stC s)] (.c (ssS (openS d s))) := by
  obtain ⟨x, t, rfl⟩ := rdy_false hr
  exact open17_ret gl d F.wf x t (F.gd x (by simp)) (F.okJ x (by simp)).1 hr (by have := F.len; simp at this; omega)
theorem Fit14.openR (F : Fit14 d s) (gl : Gl) (hr : rdy d s = false) : Ret Tryd.prog gl 18 [.agg (dC d), .c (stC s)] (.c (ssS (openS d s))) :=
  open_ret' gl d s F.gd hr (by have := F.len; omega)
end

theorem tells_ret (d : List Nd) (s : List It) (hl : d.length ≤ 140737488355328) (hs : ∀ n ∈ d, n.s.size ≤ 140737488355328) (hsl : s.length ≤ 140737488355328) : Ret Tryd.prog glD 3 [.agg (dC d), .c (stC s)] (bv true) := by
  refine retq (rs := [4]) 74 Tryd.func3 (by kernel_rfl) rfl (by kernel_rfl) rfl (by simp) (by simp) fun Z hN hX hR => ?_
  have haw := awake14_ret
  have hfew := few_ret glD d hl hs
  repeat (first | refine qq1 fun Z hN hX hR => ?_ | refine qq2 fun Z hN hX hR => ?_ | refine qq3 (by kernel_rfl) fun K hK => ?_ | ((first | refine qq4 fun R hRR => ?_ | with_reducible change ExpAll _ _ _); simp only [kS, Nat.reduceSub, Nat.reduceMul, Nat.reduceLeDiff, Nat.reducePow, Nat.reduceBEq, Nat.reduceAdd, Nat.reduceEqDiff, reduceCtorEq, Int.reduceToNat, dC_length, dC_take]) | (refine hRR _ ?_; clear hRR R) | refine qq5 ?_ | (refine hK _ ?_; clear hK K) | ((first | refine hN _ ?_ | refine hX _ _ ?_ | refine hR _ ?_); clear hN hX hR Z) | refine qq6 rfl ?_ | refine qq7 (by decide) ?_ | (refine qq8 ?_ ?_; focus (simp only [kS, Nat.reduceSub, Nat.reduceMul, Nat.reduceLeDiff, Nat.reducePow, Nat.reduceBEq, Nat.reduceAdd, Nat.reduceEqDiff, reduceCtorEq, Int.reduceToNat, dC_length, dC_take]; done)) | (refine qq9 ?_ ?_; focus (simp only [kS, Nat.reduceSub, Nat.reduceMul, Nat.reduceLeDiff, Nat.reducePow, Nat.reduceBEq, Nat.reduceAdd, Nat.reduceEqDiff, reduceCtorEq, Int.reduceToNat, dC_length, dC_take]; done)) | refine qqa ?_ | refine qqb ?_ | refine qqc ?_ | refine And.intro (by first | assumption | omega) ?_)
  refine ⟨_, haw, rfl, ?_⟩
  try simp only [kS, Nat.reduceSub, Nat.reduceMul, Nat.reduceLeDiff, Nat.reducePow, Nat.reduceBEq, Nat.reduceAdd, Nat.reduceEqDiff, reduceCtorEq, Int.reduceToNat, dC_length, dC_take, Bool.not_true, Bool.not_false]
  repeat (first | refine qq1 fun Z hN hX hR => ?_ | refine qq2 fun Z hN hX hR => ?_ | refine qq3 (by kernel_rfl) fun K hK => ?_ | ((first | refine qq4 fun R hRR => ?_ | with_reducible change ExpAll _ _ _); simp only [kS, Nat.reduceSub, Nat.reduceMul, Nat.reduceLeDiff, Nat.reducePow, Nat.reduceBEq, Nat.reduceAdd, Nat.reduceEqDiff, reduceCtorEq, Int.reduceToNat, dC_length, dC_take, Bool.not_true, Bool.not_false]) | (refine hRR _ ?_; clear hRR R) | refine qq5 ?_ | (refine hK _ ?_; clear hK K) | ((first | refine hN _ ?_ | refine hX _ _ ?_ | refine hR _ ?_); clear hN hX hR Z) | refine qq6 rfl ?_ | refine qq7 (by decide) ?_ | (refine qq8 ?_ ?_; focus (simp only [kS, Nat.reduceSub, Nat.reduceMul, Nat.reduceLeDiff, Nat.reducePow, Nat.reduceBEq, Nat.reduceAdd, Nat.reduceEqDiff, reduceCtorEq, Int.reduceToNat, dC_length, dC_take, Bool.not_true, Bool.not_false]; done)) | (refine qq9 ?_ ?_; focus (simp only [kS, Nat.reduceSub, Nat.reduceMul, Nat.reduceLeDiff, Nat.reducePow, Nat.reduceBEq, Nat.reduceAdd, Nat.reduceEqDiff, reduceCtorEq, Int.reduceToNat, dC_length, dC_take, Bool.not_true, Bool.not_false]; done)) | refine qqa ?_ | refine qqb ?_ | refine qqc ?_ | refine And.intro (by first | assumption | omega) ?_)
  cases gf : fewB d
  · rw [gf] at hfew
    refine ⟨_, hfew, rfl, ?_⟩
    try simp only [kS, Nat.reduceSub, Nat.reduceMul, Nat.reduceLeDiff, Nat.reducePow, Nat.reduceBEq, Nat.reduceAdd, Nat.reduceEqDiff, reduceCtorEq, Int.reduceToNat, dC_length, dC_take, Bool.not_true, Bool.not_false]
    repeat (first | refine qq1 fun Z hN hX hR => ?_ | refine qq2 fun Z hN hX hR => ?_ | refine qq3 (by kernel_rfl) fun K hK => ?_ | ((first | refine qq4 fun R hRR => ?_ | with_reducible change ExpAll _ _ _); simp only [kS, Nat.reduceSub, Nat.reduceMul, Nat.reduceLeDiff, Nat.reducePow, Nat.reduceBEq, Nat.reduceAdd, Nat.reduceEqDiff, reduceCtorEq, Int.reduceToNat, dC_length, dC_take, Bool.not_true, Bool.not_false]) | (refine hRR _ ?_; clear hRR R) | refine qq5 ?_ | (refine hK _ ?_; clear hK K) | ((first | refine hN _ ?_ | refine hX _ _ ?_ | refine hR _ ?_); clear hN hX hR Z) | refine qq6 rfl ?_ | refine qq7 (by decide) ?_ | (refine qq8 ?_ ?_; focus (simp only [kS, Nat.reduceSub, Nat.reduceMul, Nat.reduceLeDiff, Nat.reducePow, Nat.reduceBEq, Nat.reduceAdd, Nat.reduceEqDiff, reduceCtorEq, Int.reduceToNat, dC_length, dC_take, Bool.not_true, Bool.not_false]; done)) | (refine qq9 ?_ ?_; focus (simp only [kS, Nat.reduceSub, Nat.reduceMul, Nat.reduceLeDiff, Nat.reducePow, Nat.reduceBEq, Nat.reduceAdd, Nat.reduceEqDiff, reduceCtorEq, Int.reduceToNat, dC_length, dC_take, Bool.not_true, Bool.not_false]; done)) | refine qqa ?_ | refine qqb ?_ | refine qqc ?_ | refine And.intro (by first | assumption | omega) ?_)
    refine ⟨_, haw, rfl, ?_⟩
    try simp only [kS, Nat.reduceSub, Nat.reduceMul, Nat.reduceLeDiff, Nat.reducePow, Nat.reduceBEq, Nat.reduceAdd, Nat.reduceEqDiff, reduceCtorEq, Int.reduceToNat, dC_length, dC_take, Bool.not_true, Bool.not_false]
    repeat (first | refine qq1 fun Z hN hX hR => ?_ | refine qq2 fun Z hN hX hR => ?_ | refine qq3 (by kernel_rfl) fun K hK => ?_ | ((first | refine qq4 fun R hRR => ?_ | with_reducible change ExpAll _ _ _); simp only [kS, Nat.reduceSub, Nat.reduceMul, Nat.reduceLeDiff, Nat.reducePow, Nat.reduceBEq, Nat.reduceAdd, Nat.reduceEqDiff, reduceCtorEq, Int.reduceToNat, dC_length, dC_take, Bool.not_true, Bool.not_false]) | (refine hRR _ ?_; clear hRR R) | refine qq5 ?_ | (refine hK _ ?_; clear hK K) | ((first | refine hN _ ?_ | refine hX _ _ ?_ | refine hR _ ?_); clear hN hX hR Z) | refine qq6 rfl ?_ | refine qq7 (by decide) ?_ | (refine qq8 ?_ ?_; focus (simp only [kS, Nat.reduceSub, Nat.reduceMul, Nat.reduceLeDiff, Nat.reducePow, Nat.reduceBEq, Nat.reduceAdd, Nat.reduceEqDiff, reduceCtorEq, Int.reduceToNat, dC_length, dC_take, Bool.not_true, Bool.not_false]; done)) | (refine qq9 ?_ ?_; focus (simp only [kS, Nat.reduceSub, Nat.reduceMul, Nat.reduceLeDiff, Nat.reducePow, Nat.reduceBEq, Nat.reduceAdd, Nat.reduceEqDiff, reduceCtorEq, Int.reduceToNat, dC_length, dC_take, Bool.not_true, Bool.not_false]; done)) | refine qqa ?_ | refine qqb ?_ | refine qqc ?_ | refine And.intro (by first | assumption | omega) ?_)
    all_goals rfl
  rw [gf] at hfew
  obtain ⟨f1, f2⟩ := fewB_true gf
  have hright := right_ret glD d f1 hs
  refine ⟨_, hfew, rfl, ?_⟩
  try simp only [kS, Nat.reduceSub, Nat.reduceMul, Nat.reduceLeDiff, Nat.reducePow, Nat.reduceBEq, Nat.reduceAdd, Nat.reduceEqDiff, reduceCtorEq, Int.reduceToNat, dC_length, dC_take, Bool.not_true, Bool.not_false]
  repeat (first | refine qq1 fun Z hN hX hR => ?_ | refine qq2 fun Z hN hX hR => ?_ | refine qq3 (by kernel_rfl) fun K hK => ?_ | ((first | refine qq4 fun R hRR => ?_ | with_reducible change ExpAll _ _ _); simp only [kS, Nat.reduceSub, Nat.reduceMul, Nat.reduceLeDiff, Nat.reducePow, Nat.reduceBEq, Nat.reduceAdd, Nat.reduceEqDiff, reduceCtorEq, Int.reduceToNat, dC_length, dC_take, Bool.not_true, Bool.not_false]) | (refine hRR _ ?_; clear hRR R) | refine qq5 ?_ | (refine hK _ ?_; clear hK K) | ((first | refine hN _ ?_ | refine hX _ _ ?_ | refine hR _ ?_); clear hN hX hR Z) | refine qq6 rfl ?_ | refine qq7 (by decide) ?_ | (refine qq8 ?_ ?_; focus (simp only [kS, Nat.reduceSub, Nat.reduceMul, Nat.reduceLeDiff, Nat.reducePow, Nat.reduceBEq, Nat.reduceAdd, Nat.reduceEqDiff, reduceCtorEq, Int.reduceToNat, dC_length, dC_take, Bool.not_true, Bool.not_false]; done)) | (refine qq9 ?_ ?_; focus (simp only [kS, Nat.reduceSub, Nat.reduceMul, Nat.reduceLeDiff, Nat.reducePow, Nat.reduceBEq, Nat.reduceAdd, Nat.reduceEqDiff, reduceCtorEq, Int.reduceToNat, dC_length, dC_take, Bool.not_true, Bool.not_false]; done)) | refine qqa ?_ | refine qqb ?_ | refine qqc ?_ | refine And.intro (by first | assumption | omega) ?_)
  cases gr : rightB d
  · rw [gr] at hright
    refine ⟨_, hright, rfl, ?_⟩
    try simp only [kS, Nat.reduceSub, Nat.reduceMul, Nat.reduceLeDiff, Nat.reducePow, Nat.reduceBEq, Nat.reduceAdd, Nat.reduceEqDiff, reduceCtorEq, Int.reduceToNat, dC_length, dC_take, Bool.not_true, Bool.not_false]
    repeat (first | refine qq1 fun Z hN hX hR => ?_ | refine qq2 fun Z hN hX hR => ?_ | refine qq3 (by kernel_rfl) fun K hK => ?_ | ((first | refine qq4 fun R hRR => ?_ | with_reducible change ExpAll _ _ _); simp only [kS, Nat.reduceSub, Nat.reduceMul, Nat.reduceLeDiff, Nat.reducePow, Nat.reduceBEq, Nat.reduceAdd, Nat.reduceEqDiff, reduceCtorEq, Int.reduceToNat, dC_length, dC_take, Bool.not_true, Bool.not_false]) | (refine hRR _ ?_; clear hRR R) | refine qq5 ?_ | (refine hK _ ?_; clear hK K) | ((first | refine hN _ ?_ | refine hX _ _ ?_ | refine hR _ ?_); clear hN hX hR Z) | refine qq6 rfl ?_ | refine qq7 (by decide) ?_ | (refine qq8 ?_ ?_; focus (simp only [kS, Nat.reduceSub, Nat.reduceMul, Nat.reduceLeDiff, Nat.reducePow, Nat.reduceBEq, Nat.reduceAdd, Nat.reduceEqDiff, reduceCtorEq, Int.reduceToNat, dC_length, dC_take, Bool.not_true, Bool.not_false]; done)) | (refine qq9 ?_ ?_; focus (simp only [kS, Nat.reduceSub, Nat.reduceMul, Nat.reduceLeDiff, Nat.reducePow, Nat.reduceBEq, Nat.reduceAdd, Nat.reduceEqDiff, reduceCtorEq, Int.reduceToNat, dC_length, dC_take, Bool.not_true, Bool.not_false]; done)) | refine qqa ?_ | refine qqb ?_ | refine qqc ?_ | refine And.intro (by first | assumption | omega) ?_)
    refine ⟨_, haw, rfl, ?_⟩
    try simp only [kS, Nat.reduceSub, Nat.reduceMul, Nat.reduceLeDiff, Nat.reducePow, Nat.reduceBEq, Nat.reduceAdd, Nat.reduceEqDiff, reduceCtorEq, Int.reduceToNat, dC_length, dC_take, Bool.not_true, Bool.not_false]
    repeat (first | refine qq1 fun Z hN hX hR => ?_ | refine qq2 fun Z hN hX hR => ?_ | refine qq3 (by kernel_rfl) fun K hK => ?_ | ((first | refine qq4 fun R hRR => ?_ | with_reducible change ExpAll _ _ _); simp only [kS, Nat.reduceSub, Nat.reduceMul, Nat.reduceLeDiff, Nat.reducePow, Nat.reduceBEq, Nat.reduceAdd, Nat.reduceEqDiff, reduceCtorEq, Int.reduceToNat, dC_length, dC_take, Bool.not_true, Bool.not_false]) | (refine hRR _ ?_; clear hRR R) | refine qq5 ?_ | (refine hK _ ?_; clear hK K) | ((first | refine hN _ ?_ | refine hX _ _ ?_ | refine hR _ ?_); clear hN hX hR Z) | refine qq6 rfl ?_ | refine qq7 (by decide) ?_ | (refine qq8 ?_ ?_; focus (simp only [kS, Nat.reduceSub, Nat.reduceMul, Nat.reduceLeDiff, Nat.reducePow, Nat.reduceBEq, Nat.reduceAdd, Nat.reduceEqDiff, reduceCtorEq, Int.reduceToNat, dC_length, dC_take, Bool.not_true, Bool.not_false]; done)) | (refine qq9 ?_ ?_; focus (simp only [kS, Nat.reduceSub, Nat.reduceMul, Nat.reduceLeDiff, Nat.reducePow, Nat.reduceBEq, Nat.reduceAdd, Nat.reduceEqDiff, reduceCtorEq, Int.reduceToNat, dC_length, dC_take, Bool.not_true, Bool.not_false]; done)) | refine qqa ?_ | refine qqb ?_ | refine qqc ?_ | refine And.intro (by first | assumption | omega) ?_)
    all_goals rfl
  rw [gr] at hright
  obtain ⟨hwf, hwo⟩ := rightB_ok gr f1
  have hf6 : ∀ n ∈ d, n.s.size ≤ 1000000 := fun n hn => by have := f2 n hn; omega
  have hfit := fits_ret glD d s hwf hf6 gr hsl
  refine ⟨_, hright, rfl, ?_⟩
  try simp only [kS, Nat.reduceSub, Nat.reduceMul, Nat.reduceLeDiff, Nat.reducePow, Nat.reduceBEq, Nat.reduceAdd, Nat.reduceEqDiff, reduceCtorEq, Int.reduceToNat, dC_length, dC_take, Bool.not_true, Bool.not_false]
  repeat (first | refine qq1 fun Z hN hX hR => ?_ | refine qq2 fun Z hN hX hR => ?_ | refine qq3 (by kernel_rfl) fun K hK => ?_ | ((first | refine qq4 fun R hRR => ?_ | with_reducible change ExpAll _ _ _); simp only [kS, Nat.reduceSub, Nat.reduceMul, Nat.reduceLeDiff, Nat.reducePow, Nat.reduceBEq, Nat.reduceAdd, Nat.reduceEqDiff, reduceCtorEq, Int.reduceToNat, dC_length, dC_take, Bool.not_true, Bool.not_false]) | (refine hRR _ ?_; clear hRR R) | refine qq5 ?_ | (refine hK _ ?_; clear hK K) | ((first | refine hN _ ?_ | refine hX _ _ ?_ | refine hR _ ?_); clear hN hX hR Z) | refine qq6 rfl ?_ | refine qq7 (by decide) ?_ | (refine qq8 ?_ ?_; focus (simp only [kS, Nat.reduceSub, Nat.reduceMul, Nat.reduceLeDiff, Nat.reducePow, Nat.reduceBEq, Nat.reduceAdd, Nat.reduceEqDiff, reduceCtorEq, Int.reduceToNat, dC_length, dC_take, Bool.not_true, Bool.not_false]; done)) | (refine qq9 ?_ ?_; focus (simp only [kS, Nat.reduceSub, Nat.reduceMul, Nat.reduceLeDiff, Nat.reducePow, Nat.reduceBEq, Nat.reduceAdd, Nat.reduceEqDiff, reduceCtorEq, Int.reduceToNat, dC_length, dC_take, Bool.not_true, Bool.not_false]; done)) | refine qqa ?_ | refine qqb ?_ | refine qqc ?_ | refine And.intro (by first | assumption | omega) ?_)
  cases gt : fitsB d s
  · rw [gt] at hfit
    refine ⟨_, hfit, rfl, ?_⟩
    try simp only [kS, Nat.reduceSub, Nat.reduceMul, Nat.reduceLeDiff, Nat.reducePow, Nat.reduceBEq, Nat.reduceAdd, Nat.reduceEqDiff, reduceCtorEq, Int.reduceToNat, dC_length, dC_take, Bool.not_true, Bool.not_false]
    repeat (first | refine qq1 fun Z hN hX hR => ?_ | refine qq2 fun Z hN hX hR => ?_ | refine qq3 (by kernel_rfl) fun K hK => ?_ | ((first | refine qq4 fun R hRR => ?_ | with_reducible change ExpAll _ _ _); simp only [kS, Nat.reduceSub, Nat.reduceMul, Nat.reduceLeDiff, Nat.reducePow, Nat.reduceBEq, Nat.reduceAdd, Nat.reduceEqDiff, reduceCtorEq, Int.reduceToNat, dC_length, dC_take, Bool.not_true, Bool.not_false]) | (refine hRR _ ?_; clear hRR R) | refine qq5 ?_ | (refine hK _ ?_; clear hK K) | ((first | refine hN _ ?_ | refine hX _ _ ?_ | refine hR _ ?_); clear hN hX hR Z) | refine qq6 rfl ?_ | refine qq7 (by decide) ?_ | (refine qq8 ?_ ?_; focus (simp only [kS, Nat.reduceSub, Nat.reduceMul, Nat.reduceLeDiff, Nat.reducePow, Nat.reduceBEq, Nat.reduceAdd, Nat.reduceEqDiff, reduceCtorEq, Int.reduceToNat, dC_length, dC_take, Bool.not_true, Bool.not_false]; done)) | (refine qq9 ?_ ?_; focus (simp only [kS, Nat.reduceSub, Nat.reduceMul, Nat.reduceLeDiff, Nat.reducePow, Nat.reduceBEq, Nat.reduceAdd, Nat.reduceEqDiff, reduceCtorEq, Int.reduceToNat, dC_length, dC_take, Bool.not_true, Bool.not_false]; done)) | refine qqa ?_ | refine qqb ?_ | refine qqc ?_ | refine And.intro (by first | assumption | omega) ?_)
    refine ⟨_, haw, rfl, ?_⟩
    try simp only [kS, Nat.reduceSub, Nat.reduceMul, Nat.reduceLeDiff, Nat.reducePow, Nat.reduceBEq, Nat.reduceAdd, Nat.reduceEqDiff, reduceCtorEq, Int.reduceToNat, dC_length, dC_take, Bool.not_true, Bool.not_false]
    repeat (first | refine qq1 fun Z hN hX hR => ?_ | refine qq2 fun Z hN hX hR => ?_ | refine qq3 (by kernel_rfl) fun K hK => ?_ | ((first | refine qq4 fun R hRR => ?_ | with_reducible change ExpAll _ _ _); simp only [kS, Nat.reduceSub, Nat.reduceMul, Nat.reduceLeDiff, Nat.reducePow, Nat.reduceBEq, Nat.reduceAdd, Nat.reduceEqDiff, reduceCtorEq, Int.reduceToNat, dC_length, dC_take, Bool.not_true, Bool.not_false]) | (refine hRR _ ?_; clear hRR R) | refine qq5 ?_ | (refine hK _ ?_; clear hK K) | ((first | refine hN _ ?_ | refine hX _ _ ?_ | refine hR _ ?_); clear hN hX hR Z) | refine qq6 rfl ?_ | refine qq7 (by decide) ?_ | (refine qq8 ?_ ?_; focus (simp only [kS, Nat.reduceSub, Nat.reduceMul, Nat.reduceLeDiff, Nat.reducePow, Nat.reduceBEq, Nat.reduceAdd, Nat.reduceEqDiff, reduceCtorEq, Int.reduceToNat, dC_length, dC_take, Bool.not_true, Bool.not_false]; done)) | (refine qq9 ?_ ?_; focus (simp only [kS, Nat.reduceSub, Nat.reduceMul, Nat.reduceLeDiff, Nat.reducePow, Nat.reduceBEq, Nat.reduceAdd, Nat.reduceEqDiff, reduceCtorEq, Int.reduceToNat, dC_length, dC_take, Bool.not_true, Bool.not_false]; done)) | refine qqa ?_ | refine qqb ?_ | refine qqc ?_ | refine And.intro (by first | assumption | omega) ?_)
    all_goals rfl
  rw [gt] at hfit
  have F := fit14 hwf hf6 gt
  refine ⟨_, hfit, rfl, ?_⟩
  try simp only [kS, Nat.reduceSub, Nat.reduceMul, Nat.reduceLeDiff, Nat.reducePow, Nat.reduceBEq, Nat.reduceAdd, Nat.reduceEqDiff, reduceCtorEq, Int.reduceToNat, dC_length, dC_take, Bool.not_true, Bool.not_false]
  repeat (first | refine qq1 fun Z hN hX hR => ?_ | refine qq2 fun Z hN hX hR => ?_ | refine qq3 (by kernel_rfl) fun K hK => ?_ | ((first | refine qq4 fun R hRR => ?_ | with_reducible change ExpAll _ _ _); simp only [kS, Nat.reduceSub, Nat.reduceMul, Nat.reduceLeDiff, Nat.reducePow, Nat.reduceBEq, Nat.reduceAdd, Nat.reduceEqDiff, reduceCtorEq, Int.reduceToNat, dC_length, dC_take, Bool.not_true, Bool.not_false]) | (refine hRR _ ?_; clear hRR R) | refine qq5 ?_ | (refine hK _ ?_; clear hK K) | ((first | refine hN _ ?_ | refine hX _ _ ?_ | refine hR _ ?_); clear hN hX hR Z) | refine qq6 rfl ?_ | refine qq7 (by decide) ?_ | (refine qq8 ?_ ?_; focus (simp only [kS, Nat.reduceSub, Nat.reduceMul, Nat.reduceLeDiff, Nat.reducePow, Nat.reduceBEq, Nat.reduceAdd, Nat.reduceEqDiff, reduceCtorEq, Int.reduceToNat, dC_length, dC_take, Bool.not_true, Bool.not_false]; done)) | (refine qq9 ?_ ?_; focus (simp only [kS, Nat.reduceSub, Nat.reduceMul, Nat.reduceLeDiff, Nat.reducePow, Nat.reduceBEq, Nat.reduceAdd, Nat.reduceEqDiff, reduceCtorEq, Int.reduceToNat, dC_length, dC_take, Bool.not_true, Bool.not_false]; done)) | refine qqa ?_ | refine qqb ?_ | refine qqc ?_ | refine And.intro (by first | assumption | omega) ?_)
  have hr12 := ready12_ret glD rfl d hwf s (gd_inR F.gd)
  have hr13 := ready_ret glD d s (gd_inR F.gd)
  have hsame := same14_ret glD (headsS d 1500 s) (headsS d 1500 s) F.ok.short F.ok.short (by have := F.ok.len; omega)
  rw [sameB_refl] at hsame
  have hneq : (rdy d s != rdy d s) = false := bne_self_eq_false _
  refine ⟨_, hr12, rfl, ?_⟩
  try simp only [kS, Nat.reduceSub, Nat.reduceMul, Nat.reduceLeDiff, Nat.reducePow, Nat.reduceBEq, Nat.reduceAdd, Nat.reduceEqDiff, reduceCtorEq, Int.reduceToNat, dC_length, dC_take, Bool.not_true, Bool.not_false]
  repeat (first | refine qq1 fun Z hN hX hR => ?_ | refine qq2 fun Z hN hX hR => ?_ | refine qq3 (by kernel_rfl) fun K hK => ?_ | ((first | refine qq4 fun R hRR => ?_ | with_reducible change ExpAll _ _ _); simp only [kS, Nat.reduceSub, Nat.reduceMul, Nat.reduceLeDiff, Nat.reducePow, Nat.reduceBEq, Nat.reduceAdd, Nat.reduceEqDiff, reduceCtorEq, Int.reduceToNat, dC_length, dC_take, Bool.not_true, Bool.not_false]) | (refine hRR _ ?_; clear hRR R) | refine qq5 ?_ | (refine hK _ ?_; clear hK K) | ((first | refine hN _ ?_ | refine hX _ _ ?_ | refine hR _ ?_); clear hN hX hR Z) | refine qq6 rfl ?_ | refine qq7 (by decide) ?_ | (refine qq8 ?_ ?_; focus (simp only [kS, Nat.reduceSub, Nat.reduceMul, Nat.reduceLeDiff, Nat.reducePow, Nat.reduceBEq, Nat.reduceAdd, Nat.reduceEqDiff, reduceCtorEq, Int.reduceToNat, dC_length, dC_take, Bool.not_true, Bool.not_false]; done)) | (refine qq9 ?_ ?_; focus (simp only [kS, Nat.reduceSub, Nat.reduceMul, Nat.reduceLeDiff, Nat.reducePow, Nat.reduceBEq, Nat.reduceAdd, Nat.reduceEqDiff, reduceCtorEq, Int.reduceToNat, dC_length, dC_take, Bool.not_true, Bool.not_false]; done)) | refine qqa ?_ | refine qqb ?_ | refine qqc ?_ | refine And.intro (by first | assumption | omega) ?_)
  refine ⟨_, hr13, rfl, ?_⟩
  try simp only [kS, Nat.reduceSub, Nat.reduceMul, Nat.reduceLeDiff, Nat.reducePow, Nat.reduceBEq, Nat.reduceAdd, Nat.reduceEqDiff, reduceCtorEq, Int.reduceToNat, dC_length, dC_take, Bool.not_true, Bool.not_false, hneq]
  repeat (first | refine qq1 fun Z hN hX hR => ?_ | refine qq2 fun Z hN hX hR => ?_ | refine qq3 (by kernel_rfl) fun K hK => ?_ | ((first | refine qq4 fun R hRR => ?_ | with_reducible change ExpAll _ _ _); simp only [kS, Nat.reduceSub, Nat.reduceMul, Nat.reduceLeDiff, Nat.reducePow, Nat.reduceBEq, Nat.reduceAdd, Nat.reduceEqDiff, reduceCtorEq, Int.reduceToNat, dC_length, dC_take, Bool.not_true, Bool.not_false, hneq]) | (refine hRR _ ?_; clear hRR R) | refine qq5 ?_ | (refine hK _ ?_; clear hK K) | ((first | refine hN _ ?_ | refine hX _ _ ?_ | refine hR _ ?_); clear hN hX hR Z) | refine qq6 rfl ?_ | refine qq7 (by decide) ?_ | (refine qq8 ?_ ?_; focus (simp only [kS, Nat.reduceSub, Nat.reduceMul, Nat.reduceLeDiff, Nat.reducePow, Nat.reduceBEq, Nat.reduceAdd, Nat.reduceEqDiff, reduceCtorEq, Int.reduceToNat, dC_length, dC_take, Bool.not_true, Bool.not_false, hneq]; done)) | (refine qq9 ?_ ?_; focus (simp only [kS, Nat.reduceSub, Nat.reduceMul, Nat.reduceLeDiff, Nat.reducePow, Nat.reduceBEq, Nat.reduceAdd, Nat.reduceEqDiff, reduceCtorEq, Int.reduceToNat, dC_length, dC_take, Bool.not_true, Bool.not_false, hneq]; done)) | refine qqa ?_ | refine qqb ?_ | refine qqc ?_ | refine And.intro (by first | assumption | omega) ?_)
  refine ⟨_, F.heads, rfl, ?_⟩
  try simp only [kS, Nat.reduceSub, Nat.reduceMul, Nat.reduceLeDiff, Nat.reducePow, Nat.reduceBEq, Nat.reduceAdd, Nat.reduceEqDiff, reduceCtorEq, Int.reduceToNat, dC_length, dC_take, Bool.not_true, Bool.not_false, hneq]
  repeat (first | refine qq1 fun Z hN hX hR => ?_ | refine qq2 fun Z hN hX hR => ?_ | refine qq3 (by kernel_rfl) fun K hK => ?_ | ((first | refine qq4 fun R hRR => ?_ | with_reducible change ExpAll _ _ _); simp only [kS, Nat.reduceSub, Nat.reduceMul, Nat.reduceLeDiff, Nat.reducePow, Nat.reduceBEq, Nat.reduceAdd, Nat.reduceEqDiff, reduceCtorEq, Int.reduceToNat, dC_length, dC_take, Bool.not_true, Bool.not_false, hneq]) | (refine hRR _ ?_; clear hRR R) | refine qq5 ?_ | (refine hK _ ?_; clear hK K) | ((first | refine hN _ ?_ | refine hX _ _ ?_ | refine hR _ ?_); clear hN hX hR Z) | refine qq6 rfl ?_ | refine qq7 (by decide) ?_ | (refine qq8 ?_ ?_; focus (simp only [kS, Nat.reduceSub, Nat.reduceMul, Nat.reduceLeDiff, Nat.reducePow, Nat.reduceBEq, Nat.reduceAdd, Nat.reduceEqDiff, reduceCtorEq, Int.reduceToNat, dC_length, dC_take, Bool.not_true, Bool.not_false, hneq]; done)) | (refine qq9 ?_ ?_; focus (simp only [kS, Nat.reduceSub, Nat.reduceMul, Nat.reduceLeDiff, Nat.reducePow, Nat.reduceBEq, Nat.reduceAdd, Nat.reduceEqDiff, reduceCtorEq, Int.reduceToNat, dC_length, dC_take, Bool.not_true, Bool.not_false, hneq]; done)) | refine qqa ?_ | refine qqb ?_ | refine qqc ?_ | refine And.intro (by first | assumption | omega) ?_)
  refine ⟨_, F.headsR glD, rfl, ?_⟩
  try simp only [kS, Nat.reduceSub, Nat.reduceMul, Nat.reduceLeDiff, Nat.reducePow, Nat.reduceBEq, Nat.reduceAdd, Nat.reduceEqDiff, reduceCtorEq, Int.reduceToNat, dC_length, dC_take, Bool.not_true, Bool.not_false, hneq]
  repeat (first | refine qq1 fun Z hN hX hR => ?_ | refine qq2 fun Z hN hX hR => ?_ | refine qq3 (by kernel_rfl) fun K hK => ?_ | ((first | refine qq4 fun R hRR => ?_ | with_reducible change ExpAll _ _ _); simp only [kS, Nat.reduceSub, Nat.reduceMul, Nat.reduceLeDiff, Nat.reducePow, Nat.reduceBEq, Nat.reduceAdd, Nat.reduceEqDiff, reduceCtorEq, Int.reduceToNat, dC_length, dC_take, Bool.not_true, Bool.not_false, hneq]) | (refine hRR _ ?_; clear hRR R) | refine qq5 ?_ | (refine hK _ ?_; clear hK K) | ((first | refine hN _ ?_ | refine hX _ _ ?_ | refine hR _ ?_); clear hN hX hR Z) | refine qq6 rfl ?_ | refine qq7 (by decide) ?_ | (refine qq8 ?_ ?_; focus (simp only [kS, Nat.reduceSub, Nat.reduceMul, Nat.reduceLeDiff, Nat.reducePow, Nat.reduceBEq, Nat.reduceAdd, Nat.reduceEqDiff, reduceCtorEq, Int.reduceToNat, dC_length, dC_take, Bool.not_true, Bool.not_false, hneq]; done)) | (refine qq9 ?_ ?_; focus (simp only [kS, Nat.reduceSub, Nat.reduceMul, Nat.reduceLeDiff, Nat.reducePow, Nat.reduceBEq, Nat.reduceAdd, Nat.reduceEqDiff, reduceCtorEq, Int.reduceToNat, dC_length, dC_take, Bool.not_true, Bool.not_false, hneq]; done)) | refine qqa ?_ | refine qqb ?_ | refine qqc ?_ | refine And.intro (by first | assumption | omega) ?_)
  refine ⟨_, hsame, rfl, ?_⟩
  try simp only [kS, Nat.reduceSub, Nat.reduceMul, Nat.reduceLeDiff, Nat.reducePow, Nat.reduceBEq, Nat.reduceAdd, Nat.reduceEqDiff, reduceCtorEq, Int.reduceToNat, dC_length, dC_take, Bool.not_true, Bool.not_false, hneq]
  repeat (first | refine qq1 fun Z hN hX hR => ?_ | refine qq2 fun Z hN hX hR => ?_ | refine qq3 (by kernel_rfl) fun K hK => ?_ | ((first | refine qq4 fun R hRR => ?_ | with_reducible change ExpAll _ _ _); simp only [kS, Nat.reduceSub, Nat.reduceMul, Nat.reduceLeDiff, Nat.reducePow, Nat.reduceBEq, Nat.reduceAdd, Nat.reduceEqDiff, reduceCtorEq, Int.reduceToNat, dC_length, dC_take, Bool.not_true, Bool.not_false, hneq]) | (refine hRR _ ?_; clear hRR R) | refine qq5 ?_ | (refine hK _ ?_; clear hK K) | ((first | refine hN _ ?_ | refine hX _ _ ?_ | refine hR _ ?_); clear hN hX hR Z) | refine qq6 rfl ?_ | refine qq7 (by decide) ?_ | (refine qq8 ?_ ?_; focus (simp only [kS, Nat.reduceSub, Nat.reduceMul, Nat.reduceLeDiff, Nat.reducePow, Nat.reduceBEq, Nat.reduceAdd, Nat.reduceEqDiff, reduceCtorEq, Int.reduceToNat, dC_length, dC_take, Bool.not_true, Bool.not_false, hneq]; done)) | (refine qq9 ?_ ?_; focus (simp only [kS, Nat.reduceSub, Nat.reduceMul, Nat.reduceLeDiff, Nat.reducePow, Nat.reduceBEq, Nat.reduceAdd, Nat.reduceEqDiff, reduceCtorEq, Int.reduceToNat, dC_length, dC_take, Bool.not_true, Bool.not_false, hneq]; done)) | refine qqa ?_ | refine qqb ?_ | refine qqc ?_ | refine And.intro (by first | assumption | omega) ?_)
  cases grd : rdy d s
  · rw [grd] at hr13
    refine ⟨_, hr13, rfl, ?_⟩
    try simp only [kS, Nat.reduceSub, Nat.reduceMul, Nat.reduceLeDiff, Nat.reducePow, Nat.reduceBEq, Nat.reduceAdd, Nat.reduceEqDiff, reduceCtorEq, Int.reduceToNat, dC_length, dC_take, Bool.not_true, Bool.not_false]
    repeat (first | refine qq1 fun Z hN hX hR => ?_ | refine qq2 fun Z hN hX hR => ?_ | refine qq3 (by kernel_rfl) fun K hK => ?_ | ((first | refine qq4 fun R hRR => ?_ | with_reducible change ExpAll _ _ _); simp only [kS, Nat.reduceSub, Nat.reduceMul, Nat.reduceLeDiff, Nat.reducePow, Nat.reduceBEq, Nat.reduceAdd, Nat.reduceEqDiff, reduceCtorEq, Int.reduceToNat, dC_length, dC_take, Bool.not_true, Bool.not_false]) | (refine hRR _ ?_; clear hRR R) | refine qq5 ?_ | (refine hK _ ?_; clear hK K) | ((first | refine hN _ ?_ | refine hX _ _ ?_ | refine hR _ ?_); clear hN hX hR Z) | refine qq6 rfl ?_ | refine qq7 (by decide) ?_ | (refine qq8 ?_ ?_; focus (simp only [kS, Nat.reduceSub, Nat.reduceMul, Nat.reduceLeDiff, Nat.reducePow, Nat.reduceBEq, Nat.reduceAdd, Nat.reduceEqDiff, reduceCtorEq, Int.reduceToNat, dC_length, dC_take, Bool.not_true, Bool.not_false]; done)) | (refine qq9 ?_ ?_; focus (simp only [kS, Nat.reduceSub, Nat.reduceMul, Nat.reduceLeDiff, Nat.reducePow, Nat.reduceBEq, Nat.reduceAdd, Nat.reduceEqDiff, reduceCtorEq, Int.reduceToNat, dC_length, dC_take, Bool.not_true, Bool.not_false]; done)) | refine qqa ?_ | refine qqb ?_ | refine qqc ?_ | refine And.intro (by first | assumption | omega) ?_)
    refine ⟨_, F.open_ glD grd, rfl, ?_⟩
    try simp only [kS, Nat.reduceSub, Nat.reduceMul, Nat.reduceLeDiff, Nat.reducePow, Nat.reduceBEq, Nat.reduceAdd, Nat.reduceEqDiff, reduceCtorEq, Int.reduceToNat, dC_length, dC_take, Bool.not_true, Bool.not_false]
    repeat (first | refine qq1 fun Z hN hX hR => ?_ | refine qq2 fun Z hN hX hR => ?_ | refine qq3 (by kernel_rfl) fun K hK => ?_ | ((first | refine qq4 fun R hRR => ?_ | with_reducible change ExpAll _ _ _); simp only [kS, Nat.reduceSub, Nat.reduceMul, Nat.reduceLeDiff, Nat.reducePow, Nat.reduceBEq, Nat.reduceAdd, Nat.reduceEqDiff, reduceCtorEq, Int.reduceToNat, dC_length, dC_take, Bool.not_true, Bool.not_false]) | (refine hRR _ ?_; clear hRR R) | refine qq5 ?_ | (refine hK _ ?_; clear hK K) | ((first | refine hN _ ?_ | refine hX _ _ ?_ | refine hR _ ?_); clear hN hX hR Z) | refine qq6 rfl ?_ | refine qq7 (by decide) ?_ | (refine qq8 ?_ ?_; focus (simp only [kS, Nat.reduceSub, Nat.reduceMul, Nat.reduceLeDiff, Nat.reducePow, Nat.reduceBEq, Nat.reduceAdd, Nat.reduceEqDiff, reduceCtorEq, Int.reduceToNat, dC_length, dC_take, Bool.not_true, Bool.not_false]; done)) | (refine qq9 ?_ ?_; focus (simp only [kS, Nat.reduceSub, Nat.reduceMul, Nat.reduceLeDiff, Nat.reducePow, Nat.reduceBEq, Nat.reduceAdd, Nat.reduceEqDiff, reduceCtorEq, Int.reduceToNat, dC_length, dC_take, Bool.not_true, Bool.not_false]; done)) | refine qqa ?_ | refine qqb ?_ | refine qqc ?_ | refine And.intro (by first | assumption | omega) ?_)
    refine ⟨_, F.openR glD grd, rfl, ?_⟩
    try simp only [kS, Nat.reduceSub, Nat.reduceMul, Nat.reduceLeDiff, Nat.reducePow, Nat.reduceBEq, Nat.reduceAdd, Nat.reduceEqDiff, reduceCtorEq, Int.reduceToNat, dC_length, dC_take, Bool.not_true, Bool.not_false, bne_self_eq_false]
    repeat (first | refine qq1 fun Z hN hX hR => ?_ | refine qq2 fun Z hN hX hR => ?_ | refine qq3 (by kernel_rfl) fun K hK => ?_ | ((first | refine qq4 fun R hRR => ?_ | with_reducible change ExpAll _ _ _); simp only [kS, Nat.reduceSub, Nat.reduceMul, Nat.reduceLeDiff, Nat.reducePow, Nat.reduceBEq, Nat.reduceAdd, Nat.reduceEqDiff, reduceCtorEq, Int.reduceToNat, dC_length, dC_take, Bool.not_true, Bool.not_false, bne_self_eq_false]) | (refine hRR _ ?_; clear hRR R) | refine qq5 ?_ | (refine hK _ ?_; clear hK K) | ((first | refine hN _ ?_ | refine hX _ _ ?_ | refine hR _ ?_); clear hN hX hR Z) | refine qq6 rfl ?_ | refine qq7 (by decide) ?_ | (refine qq8 ?_ ?_; focus (simp only [kS, Nat.reduceSub, Nat.reduceMul, Nat.reduceLeDiff, Nat.reducePow, Nat.reduceBEq, Nat.reduceAdd, Nat.reduceEqDiff, reduceCtorEq, Int.reduceToNat, dC_length, dC_take, Bool.not_true, Bool.not_false, bne_self_eq_false]; done)) | (refine qq9 ?_ ?_; focus (simp only [kS, Nat.reduceSub, Nat.reduceMul, Nat.reduceLeDiff, Nat.reducePow, Nat.reduceBEq, Nat.reduceAdd, Nat.reduceEqDiff, reduceCtorEq, Int.reduceToNat, dC_length, dC_take, Bool.not_true, Bool.not_false, bne_self_eq_false]; done)) | refine qqa ?_ | refine qqb ?_ | refine qqc ?_ | refine And.intro (by first | assumption | omega) ?_)
    have hol := openS_len d s
    have hgd := openS_gd F.wf F.gd
    have hslen := F.len
    refine awq_loop (fun c f => ∃ (i : Nat), i ≤ (openS d s).length ∧ c = (openS d s).length - i ∧ f.t 7 = iv (i : Int) ∧ f.t 5 = .c (ssS (openS d s)) ∧ f.t 6 = .c (ssS (openS d s))) (openS d s).length ?_ ?_
    · exact ⟨0, by omega, rfl, by first | (simp only [kS, Nat.reduceSub, Nat.reduceMul, Nat.reduceLeDiff, Nat.reducePow, Nat.reduceBEq, Nat.reduceAdd, Nat.reduceEqDiff, reduceCtorEq, Int.reduceToNat]; done) | (simp only [kS, Nat.reduceSub, Nat.reduceMul, Nat.reduceLeDiff, Nat.reducePow, Nat.reduceBEq, Nat.reduceAdd, Nat.reduceEqDiff, reduceCtorEq, Int.reduceToNat]; omega) | (simp only [kS, Nat.reduceSub, Nat.reduceMul, Nat.reduceLeDiff, Nat.reducePow, Nat.reduceBEq, Nat.reduceAdd, Nat.reduceEqDiff, reduceCtorEq, Int.reduceToNat]; rfl), by first | (simp only [kS, Nat.reduceSub, Nat.reduceMul, Nat.reduceLeDiff, Nat.reducePow, Nat.reduceBEq, Nat.reduceAdd, Nat.reduceEqDiff, reduceCtorEq, Int.reduceToNat]; done) | (simp only [kS, Nat.reduceSub, Nat.reduceMul, Nat.reduceLeDiff, Nat.reducePow, Nat.reduceBEq, Nat.reduceAdd, Nat.reduceEqDiff, reduceCtorEq, Int.reduceToNat]; omega) | (simp only [kS, Nat.reduceSub, Nat.reduceMul, Nat.reduceLeDiff, Nat.reducePow, Nat.reduceBEq, Nat.reduceAdd, Nat.reduceEqDiff, reduceCtorEq, Int.reduceToNat]; rfl), by first | (simp only [kS, Nat.reduceSub, Nat.reduceMul, Nat.reduceLeDiff, Nat.reducePow, Nat.reduceBEq, Nat.reduceAdd, Nat.reduceEqDiff, reduceCtorEq, Int.reduceToNat]; done) | (simp only [kS, Nat.reduceSub, Nat.reduceMul, Nat.reduceLeDiff, Nat.reducePow, Nat.reduceBEq, Nat.reduceAdd, Nat.reduceEqDiff, reduceCtorEq, Int.reduceToNat]; omega) | (simp only [kS, Nat.reduceSub, Nat.reduceMul, Nat.reduceLeDiff, Nat.reducePow, Nat.reduceBEq, Nat.reduceAdd, Nat.reduceEqDiff, reduceCtorEq, Int.reduceToNat]; rfl)⟩
    rintro Z c f hN hX hR ⟨i, hi, rfl, h7, h5, h6⟩
    have el := ssC_length (openS d s)
    by_cases hlt : i < (openS d s).length
    · have hlt' : (i : Int) < ((openS d s).length : Int) := by omega
      have e := ssC_drop (openS d s) i hlt
      have hti := (hgd (openS d s)[i] (List.getElem_mem hlt)).2
      have hsm := same13_ret glD (openS d s)[i] (openS d s)[i] (by omega) (by omega)
      rw [scmp_refl] at hsm
      have hsm : Ret Tryd.prog glD 19 [.c (stC (openS d s)[i]), .c (stC (openS d s)[i])] (bv true) := hsm
      repeat (first | refine qq1 fun Z hN hX hR => ?_ | refine qq2 fun Z hN hX hR => ?_ | refine qq3 (by kernel_rfl) fun K hK => ?_ | ((first | refine qq4 fun R hRR => ?_ | with_reducible change ExpAll _ _ _); simp only [kS, Nat.reduceSub, Nat.reduceMul, Nat.reduceLeDiff, Nat.reducePow, Nat.reduceBEq, Nat.reduceAdd, Nat.reduceEqDiff, reduceCtorEq, Int.reduceToNat, h7, h5, h6, hlt, hlt', e, el, decide_true]) | (refine hRR _ ?_; clear hRR R) | refine qq5 ?_ | (refine hK _ ?_; clear hK K) | ((first | refine hN _ ?_ | refine hX _ _ ?_ | refine hR _ ?_); clear hN hX hR Z) | refine qq6 rfl ?_ | refine qq7 (by decide) ?_ | (refine qq8 ?_ ?_; focus (simp only [kS, Nat.reduceSub, Nat.reduceMul, Nat.reduceLeDiff, Nat.reducePow, Nat.reduceBEq, Nat.reduceAdd, Nat.reduceEqDiff, reduceCtorEq, Int.reduceToNat, h7, h5, h6, hlt, hlt', e, el, decide_true]; done)) | (refine qq9 ?_ ?_; focus (simp only [kS, Nat.reduceSub, Nat.reduceMul, Nat.reduceLeDiff, Nat.reducePow, Nat.reduceBEq, Nat.reduceAdd, Nat.reduceEqDiff, reduceCtorEq, Int.reduceToNat, h7, h5, h6, hlt, hlt', e, el, decide_true]; done)) | refine qqa ?_ | refine qqb ?_ | refine qqc ?_ | refine And.intro (by first | assumption | omega) ?_)
      refine ⟨_, hsm, rfl, ?_⟩
      try simp only [kS, Nat.reduceSub, Nat.reduceMul, Nat.reduceLeDiff, Nat.reducePow, Nat.reduceBEq, Nat.reduceAdd, Nat.reduceEqDiff, reduceCtorEq, Int.reduceToNat, h7, h5, h6, hlt, hlt', e, el, decide_true, Bool.not_true, Bool.not_false]
      repeat (first | refine qq1 fun Z hN hX hR => ?_ | refine qq2 fun Z hN hX hR => ?_ | refine qq3 (by kernel_rfl) fun K hK => ?_ | ((first | refine qq4 fun R hRR => ?_ | with_reducible change ExpAll _ _ _); simp only [kS, Nat.reduceSub, Nat.reduceMul, Nat.reduceLeDiff, Nat.reducePow, Nat.reduceBEq, Nat.reduceAdd, Nat.reduceEqDiff, reduceCtorEq, Int.reduceToNat, h7, h5, h6, hlt, hlt', e, el, decide_true, Bool.not_true, Bool.not_false]) | (refine hRR _ ?_; clear hRR R) | refine qq5 ?_ | (refine hK _ ?_; clear hK K) | ((first | refine hN _ ?_ | refine hX _ _ ?_ | refine hR _ ?_); clear hN hX hR Z) | refine qq6 rfl ?_ | refine qq7 (by decide) ?_ | (refine qq8 ?_ ?_; focus (simp only [kS, Nat.reduceSub, Nat.reduceMul, Nat.reduceLeDiff, Nat.reducePow, Nat.reduceBEq, Nat.reduceAdd, Nat.reduceEqDiff, reduceCtorEq, Int.reduceToNat, h7, h5, h6, hlt, hlt', e, el, decide_true, Bool.not_true, Bool.not_false]; done)) | (refine qq9 ?_ ?_; focus (simp only [kS, Nat.reduceSub, Nat.reduceMul, Nat.reduceLeDiff, Nat.reducePow, Nat.reduceBEq, Nat.reduceAdd, Nat.reduceEqDiff, reduceCtorEq, Int.reduceToNat, h7, h5, h6, hlt, hlt', e, el, decide_true, Bool.not_true, Bool.not_false]; done)) | refine qqa ?_ | refine qqb ?_ | refine qqc ?_ | refine And.intro (by first | assumption | omega) ?_)
      refine ⟨(openS d s).length - (i + 1), by omega, i + 1, by omega, rfl, ?_, by simp only [kS, Nat.reduceSub, Nat.reduceMul, Nat.reduceLeDiff, Nat.reducePow, Nat.reduceBEq, Nat.reduceAdd, Nat.reduceEqDiff, reduceCtorEq, Int.reduceToNat, h5], by simp only [kS, Nat.reduceSub, Nat.reduceMul, Nat.reduceLeDiff, Nat.reducePow, Nat.reduceBEq, Nat.reduceAdd, Nat.reduceEqDiff, reduceCtorEq, Int.reduceToNat, h6]⟩
      simp only [kS, Nat.reduceSub, Nat.reduceMul, Nat.reduceLeDiff, Nat.reducePow, Nat.reduceBEq, Nat.reduceAdd, Nat.reduceEqDiff, reduceCtorEq, Int.reduceToNat]
      rw [wrap_i64 (by omega) (by omega)]; rfl
    · have hlt' : ¬ (i : Int) < ((openS d s).length : Int) := by omega
      repeat (first | refine qq1 fun Z hN hX hR => ?_ | refine qq2 fun Z hN hX hR => ?_ | refine qq3 (by kernel_rfl) fun K hK => ?_ | ((first | refine qq4 fun R hRR => ?_ | with_reducible change ExpAll _ _ _); simp only [kS, Nat.reduceSub, Nat.reduceMul, Nat.reduceLeDiff, Nat.reducePow, Nat.reduceBEq, Nat.reduceAdd, Nat.reduceEqDiff, reduceCtorEq, Int.reduceToNat, h7, h5, h6, hlt', el, decide_false]) | (refine hRR _ ?_; clear hRR R) | refine qq5 ?_ | (refine hK _ ?_; clear hK K) | ((first | refine hN _ ?_ | refine hX _ _ ?_ | refine hR _ ?_); clear hN hX hR Z) | refine qq6 rfl ?_ | refine qq7 (by decide) ?_ | (refine qq8 ?_ ?_; focus (simp only [kS, Nat.reduceSub, Nat.reduceMul, Nat.reduceLeDiff, Nat.reducePow, Nat.reduceBEq, Nat.reduceAdd, Nat.reduceEqDiff, reduceCtorEq, Int.reduceToNat, h7, h5, h6, hlt', el, decide_false]; done)) | (refine qq9 ?_ ?_; focus (simp only [kS, Nat.reduceSub, Nat.reduceMul, Nat.reduceLeDiff, Nat.reducePow, Nat.reduceBEq, Nat.reduceAdd, Nat.reduceEqDiff, reduceCtorEq, Int.reduceToNat, h7, h5, h6, hlt', el, decide_false]; done)) | refine qqa ?_ | refine qqb ?_ | refine qqc ?_ | refine And.intro (by first | assumption | omega) ?_)
      all_goals rfl
  · rw [grd] at hr13
    refine ⟨_, hr13, rfl, ?_⟩
    try simp only [kS, Nat.reduceSub, Nat.reduceMul, Nat.reduceLeDiff, Nat.reducePow, Nat.reduceBEq, Nat.reduceAdd, Nat.reduceEqDiff, reduceCtorEq, Int.reduceToNat, dC_length, dC_take, Bool.not_true, Bool.not_false]
    repeat (first | refine qq1 fun Z hN hX hR => ?_ | refine qq2 fun Z hN hX hR => ?_ | refine qq3 (by kernel_rfl) fun K hK => ?_ | ((first | refine qq4 fun R hRR => ?_ | with_reducible change ExpAll _ _ _); simp only [kS, Nat.reduceSub, Nat.reduceMul, Nat.reduceLeDiff, Nat.reducePow, Nat.reduceBEq, Nat.reduceAdd, Nat.reduceEqDiff, reduceCtorEq, Int.reduceToNat, dC_length, dC_take, Bool.not_true, Bool.not_false]) | (refine hRR _ ?_; clear hRR R) | refine qq5 ?_ | (refine hK _ ?_; clear hK K) | ((first | refine hN _ ?_ | refine hX _ _ ?_ | refine hR _ ?_); clear hN hX hR Z) | refine qq6 rfl ?_ | refine qq7 (by decide) ?_ | (refine qq8 ?_ ?_; focus (simp only [kS, Nat.reduceSub, Nat.reduceMul, Nat.reduceLeDiff, Nat.reducePow, Nat.reduceBEq, Nat.reduceAdd, Nat.reduceEqDiff, reduceCtorEq, Int.reduceToNat, dC_length, dC_take, Bool.not_true, Bool.not_false]; done)) | (refine qq9 ?_ ?_; focus (simp only [kS, Nat.reduceSub, Nat.reduceMul, Nat.reduceLeDiff, Nat.reducePow, Nat.reduceBEq, Nat.reduceAdd, Nat.reduceEqDiff, reduceCtorEq, Int.reduceToNat, dC_length, dC_take, Bool.not_true, Bool.not_false]; done)) | refine qqa ?_ | refine qqb ?_ | refine qqc ?_ | refine And.intro (by first | assumption | omega) ?_)
    all_goals rfl

end Go.Proofs.YtilhjiopbbbgmaaDoor

/- The arguments: what is read as data lies as the abstract machine has it. -/
namespace Go.Proofs.YtilhjiopbbbgmaaDoor
open Go Go.RowKit Am
set_option linter.unusedVariables false
set_option linter.unusedSimpArgs false

theorem list4 {α : Type} : ∀ (l : List α), l.length = 4 → ∃ a b c d, l = [a, b, c, d]
  | [a, b, c, d], _ => ⟨a, b, c, d, rfl⟩
theorem list7 {α : Type} : ∀ (l : List α), l.length = 7 → ∃ a b c d e f g, l = [a, b, c, d, e, f, g]
  | [a, b, c, d, e, f, g], _ => ⟨a, b, c, d, e, f, g, rfl⟩
theorem list10 {α : Type} : ∀ (l : List α), l.length = 10 → ∃ a b c d e f g h i j, l = [a, b, c, d, e, f, g, h, i, j]
  | [a, b, c, d, e, f, g, h, i, j], _ => ⟨a, b, c, d, e, f, g, h, i, j, rfl⟩

section
variable {H : Type} {enc : TypeId × Value → H} {w : World} {base n : Nat} {sp : Nat → Bool} {held : Bool} {cs : List Value} {y : DataW H × List MemPlace}

theorem one_int {t : TypeId} {k : IntKind} (ht : Tryd.prog.underlying t = some (.int k)) {c : Value} {m : Nat} {z : DataW H × List MemPlace} (h : DataW.trod enc Tryd.prog w base sp held m t [c] = some z) : ∃ x, c = .int k x := by
  obtain ⟨x, e, _⟩ := DataW.trod_int ht h
  exact ⟨x, by simpa using e⟩

theorem item_of (h : DataW.trod enc Tryd.prog w base sp held n 40 cs = some y) : ∃ x : It, cs = [.int .i64 x.k, .int .i64 x.n, .int .i64 x.lo, .int .i64 x.hi] := by
  obtain ⟨xs, m, rfl, rfl, hl, hlen, hf⟩ := DataW.trod_struct Tryd.underlying40 h
  have c40 : Tryd.prog.cellsOf 40 = 4 := by kernel_rfl
  have c3 : Tryd.prog.cellsOf 3 = 1 := by kernel_rfl
  rw [c40] at hl
  obtain ⟨a0, a1, a2, a3, rfl⟩ := list4 cs hl
  obtain ⟨x0, x1, x2, x3, rfl⟩ := list4 xs hlen
  have f0 : DataW.trod enc Tryd.prog w base sp held m 3 [a0] = some x0 := by simpa [c3] using hf 0 _ rfl
  have f1 : DataW.trod enc Tryd.prog w base sp held m 3 [a1] = some x1 := by simpa [c3] using hf 1 _ rfl
  have f2 : DataW.trod enc Tryd.prog w base sp held m 3 [a2] = some x2 := by simpa [c3] using hf 2 _ rfl
  have f3 : DataW.trod enc Tryd.prog w base sp held m 3 [a3] = some x3 := by simpa [c3] using hf 3 _ rfl
  obtain ⟨k0, rfl⟩ := one_int Tryd.underlying3 f0
  obtain ⟨k1, rfl⟩ := one_int Tryd.underlying3 f1
  obtain ⟨k2, rfl⟩ := one_int Tryd.underlying3 f2
  obtain ⟨k3, rfl⟩ := one_int Tryd.underlying3 f3
  exact ⟨⟨k0, k1, k2, k3⟩, rfl⟩

theorem node_of (h : DataW.trod enc Tryd.prog w base sp held n 54 cs = some y) : ∃ x : Nd, cs = [.int .i64 x.k, .int .i64 x.a, .int .i64 x.b, .int .i64 x.lo, .int .i64 x.hi, .int .u64 x.c0, .int .u64 x.c1, .int .u64 x.c2, .int .u64 x.c3, .string x.s] ∧
    ∃ p0 p1 p2 p3 p4 p5, y.1 = .agg [p0, p1, p2, p3, p4, p5, .lit (.string x.s.data.toList)] := by
  obtain ⟨xs, m, rfl, rfl, hl, hlen, hf⟩ := DataW.trod_struct Tryd.underlying54 h
  have c54 : Tryd.prog.cellsOf 54 = 10 := by kernel_rfl
  have c3 : Tryd.prog.cellsOf 3 = 1 := by kernel_rfl
  have c9 : Tryd.prog.cellsOf 9 = 1 := by kernel_rfl
  have c46 : Tryd.prog.cellsOf 46 = 4 := by kernel_rfl
  have c44 : Tryd.prog.cellsOf 44 = 1 := by kernel_rfl
  rw [c54] at hl
  obtain ⟨a0, a1, a2, a3, a4, a5, a6, a7, a8, a9, rfl⟩ := list10 cs hl
  obtain ⟨x0, x1, x2, x3, x4, x5, x6, rfl⟩ := list7 xs hlen
  have f0 : DataW.trod enc Tryd.prog w base sp held m 3 [a0] = some x0 := by simpa [c3, c46, c9] using hf 0 _ rfl
  have f1 : DataW.trod enc Tryd.prog w base sp held m 3 [a1] = some x1 := by simpa [c3, c46, c9] using hf 1 _ rfl
  have f2 : DataW.trod enc Tryd.prog w base sp held m 3 [a2] = some x2 := by simpa [c3, c46, c9] using hf 2 _ rfl
  have f3 : DataW.trod enc Tryd.prog w base sp held m 3 [a3] = some x3 := by simpa [c3, c46, c9] using hf 3 _ rfl
  have f4 : DataW.trod enc Tryd.prog w base sp held m 3 [a4] = some x4 := by simpa [c3, c46, c9] using hf 4 _ rfl
  have f5 : DataW.trod enc Tryd.prog w base sp held m 46 [a5, a6, a7, a8] = some x5 := by simpa [c3, c46, c9] using hf 5 _ rfl
  have f6 : DataW.trod enc Tryd.prog w base sp held m 9 [a9] = some x6 := by simpa [c3, c46, c9] using hf 6 _ rfl
  obtain ⟨k0, rfl⟩ := one_int Tryd.underlying3 f0
  obtain ⟨k1, rfl⟩ := one_int Tryd.underlying3 f1
  obtain ⟨k2, rfl⟩ := one_int Tryd.underlying3 f2
  obtain ⟨k3, rfl⟩ := one_int Tryd.underlying3 f3
  obtain ⟨k4, rfl⟩ := one_int Tryd.underlying3 f4
  obtain ⟨s, e9, e9', _⟩ := DataW.trod_string Tryd.underlying9 f6
  obtain ⟨ys, m', rfl, _, _, hyl, hy⟩ := DataW.trod_array Tryd.underlying46 f5
  obtain ⟨y0, y1, y2, y3, rfl⟩ := list4 ys hyl
  have g0 : DataW.trod enc Tryd.prog w base sp held m' 44 [a5] = some y0 := by simpa [c44] using hy 0 (by decide)
  have g1 : DataW.trod enc Tryd.prog w base sp held m' 44 [a6] = some y1 := by simpa [c44] using hy 1 (by decide)
  have g2 : DataW.trod enc Tryd.prog w base sp held m' 44 [a7] = some y2 := by simpa [c44] using hy 2 (by decide)
  have g3 : DataW.trod enc Tryd.prog w base sp held m' 44 [a8] = some y3 := by simpa [c44] using hy 3 (by decide)
  obtain ⟨u0, rfl⟩ := one_int Tryd.underlying44 g0
  obtain ⟨u1, rfl⟩ := one_int Tryd.underlying44 g1
  obtain ⟨u2, rfl⟩ := one_int Tryd.underlying44 g2
  obtain ⟨u3, rfl⟩ := one_int Tryd.underlying44 g3
  have e9 : a9 = .string s := by simpa using e9
  subst e9
  refine ⟨⟨k0, k1, k2, k3, k4, u0, u1, u2, u3, s⟩, rfl, x0.1, x1.1, x2.1, x3.1, x4.1, x5.1, ?_⟩
  have : x6.1 = .lit (.string s.data.toList) := by rw [e9']
  simp only [List.map_cons, List.map_nil, this]
end

theorem repM_flat {α : Type} {w : World} {G : Am.Good} (f : α → List C) (z : Nat) (hz : ∀ x, (f x).length = z) : ∀ (l : List α) (b o : Nat), (∀ i (h : i < l.length), RepM w G (f l[i]) b (o + i * z)) → RepM w G (l.flatMap f) b o
  | [], b, o, _ => by simp [RepM]
  | x :: l, b, o, h => by
    rw [List.flatMap_cons, RepM.append]
    refine ⟨by have := h 0 (by simp); simp only [List.getElem_cons_zero, Nat.zero_mul, Nat.add_zero] at this; exact this, ?_⟩
    rw [hz]
    refine repM_flat f z hz l b (o + z) fun i hi => ?_
    have := h (i + 1) (by simp; omega)
    simp only [List.getElem_cons_succ] at this
    rwa [show o + (i + 1) * z = o + z + i * z by rw [Nat.add_mul]; omega] at this

theorem addr_add (a : Addr) (i j : Nat) : (a.add i).add j = a.add (i + j) := by
  unfold Addr.add
  by_cases hi : i = 0
  · subst hi; simp
  · by_cases hj : j = 0
    · subst hj; simp [hi]
    · simp [hi, hj, Nat.add_assoc]

theorem plain_of_cell {w : World} {a : Addr} {v : Value} (h : w.cell? a = some v) : ∃ b o, a = ⟨b, o, none⟩ ∧ b < w.heap.size := by
  obtain ⟨b, o, sp⟩ := a
  unfold World.cell? at h
  cases sp with
  | none =>
    refine ⟨b, o, rfl, ?_⟩
    rcases Nat.lt_or_ge b w.heap.size with h' | h'
    · exact h'
    · simp [Array.getElem?_eq_none h'] at h
  | some x => split at h <;> simp at h

/-- The cells of a slice's elements lie as the list has it. -/
theorem rows_rep {α : Type} [Inhabited α] {w : World} (f : α → List C) (vals : α → List Value) (z : Nat) (hz : ∀ x, (f x).length = z) (hz0 : 0 < z) (hrep : ∀ x (G : Am.Good), RepL w G (f x) (vals x)) (a : Addr) (len cap : Nat) (hcap : len ≤ cap)
    (h : ∀ i, i < len → ∃ x, w.cells? 0 (a.add (i * z)) z = some (vals x)) :
    ∃ l : List α, l.length = len ∧ RepC w (fun b _ => b < w.heap.size) (.sl l.length (l.flatMap f)) (.slice (some a) len cap) ∧ ∀ i (hi : i < l.length), w.cells? 0 (a.add (i * z)) z = some (vals l[i]) := by
  have ch : ∀ i, ∃ x, i < len → w.cells? 0 (a.add (i * z)) z = some (vals x) := fun i => by
    by_cases hi : i < len
    · obtain ⟨x, hx⟩ := h i hi; exact ⟨x, fun _ => hx⟩
    · exact ⟨default, fun h => absurd h hi⟩
  obtain ⟨g, hg⟩ := Classical.axiomOfChoice ch
  have hl : ((List.range len).map g).length = len := by simp
  have hget : ∀ i (hi : i < ((List.range len).map g).length), ((List.range len).map g)[i] = g i := fun i hi => by simp
  refine ⟨(List.range len).map g, hl, ?_, fun i hi => by rw [hget]; exact hg i (by omega)⟩
  simp only [RepC]
  refine ⟨some a, cap, by rw [hl], by rw [hl]; exact hcap, ?_⟩
  by_cases h0 : len = 0
  · subst h0; exact .inl rfl
  · have h1 := hg 0 (by omega)
    obtain ⟨_, hln, hc⟩ := World.cells?_some h1
    have h2 := hc 0 hz0
    have hv : ∃ v, (vals (g 0))[0]? = some v := ⟨_, List.getElem?_eq_getElem (by omega)⟩
    obtain ⟨v, hv⟩ := hv
    rw [hv] at h2
    have e0 : (a.add (0 * z)).add 0 = a := by simp [Addr.add]
    rw [e0] at h2
    obtain ⟨b, o, rfl, hb⟩ := plain_of_cell h2
    refine .inr ⟨b, o, rfl, repM_flat f z hz _ b o fun i hi => ?_⟩
    rw [hget]
    obtain ⟨_, hln, hc⟩ := World.cells?_some (hg i (by omega))
    refine RepM.of_vals (hrep (g i) _) (fun j u hj => ?_) (fun j hj => hb)
    have hj' : j < z := by
      have := (List.getElem?_eq_some_iff.1 hj).1
      omega
    have := hc j hj'
    rw [addr_add, add_plain, hj] at this
    rwa [Nat.add_assoc]

section
variable {H : Type} {enc : TypeId × Value → H} {w : World}
def itV (x : It) : List Value := [.int .i64 x.k, .int .i64 x.n, .int .i64 x.lo, .int .i64 x.hi]
def ndV (x : Nd) : List Value := [.int .i64 x.k, .int .i64 x.a, .int .i64 x.b, .int .i64 x.lo, .int .i64 x.hi, .int .u64 x.c0, .int .u64 x.c1, .int .u64 x.c2, .int .u64 x.c3, .string x.s]
abbrev GA (w : World) : Am.Good := fun b _ => b < w.heap.size

theorem state_of {v : Value} {d : DataW H} {p : List MemPlace} (h : DataW.Trod enc Tryd.prog w 0 (fun _ => true) true 26 v d p) (hv : ∃ a l c, v = .slice a l c) :
    ∃ s : List It, RepC w (GA w) (stC s) v ∧ (s = [] ∨ ∃ el sp, d = .slice el sp ∧ el.length = s.length) := by
  obtain ⟨a, l, c, rfl⟩ := hv
  obtain ⟨fuel, hf⟩ := h
  rcases Go.Deep.open_slice Tryd.underlying26 hf with ⟨hcs, _⟩ | ⟨a', len, cap, m, n, D, Pl, hcs, _, hl, _, hm, hx, hel⟩
  · simp [Value.cells] at hcs
    obtain ⟨rfl, rfl, rfl⟩ := hcs
    exact ⟨[], by simp only [RepC]; exact ⟨none, 0, rfl, Nat.le_refl _, .inl rfl⟩, .inl rfl⟩
  · simp [Value.cells] at hcs
    obtain ⟨rfl, rfl, rfl⟩ := hcs
    simp only [if_true] at hm
    subst hm
    have c40 : Tryd.prog.cellsOf 40 = 4 := by kernel_rfl
    rw [c40] at hel
    obtain ⟨s, h1, h2, h3⟩ := rows_rep It.c itV 4 (fun _ => rfl) (by decide) (fun x G => ⟨⟨rfl, rfl⟩, ⟨rfl, rfl⟩, ⟨rfl, rfl⟩, ⟨rfl, rfl⟩, trivial⟩) a' l m hl fun i hi => by
      obtain ⟨cs', e1, e2⟩ := hel i (by omega)
      obtain ⟨x, rfl⟩ := item_of e2
      exact ⟨x, e1⟩
    refine ⟨s, h2, .inr ⟨_, _, (congrArg Prod.fst hx), by simp [h1]⟩⟩
end

end Go.Proofs.YtilhjiopbbbgmaaDoor

/- The description read as data: its nodes lie as the abstract machine has it, and none is longer than a machine's reach; what a row's condition says of the tables. -/
namespace Go.Proofs.YtilhjiopbbbgmaaDoor
open Go Go.ChangeShapes Go.WideShapes Go.ChangeAt Go.RowKit Am
set_option linter.unusedVariables false
set_option linter.unusedSimpArgs false

section
variable {H : Type} {enc : TypeId × Value → H} {w : World}

theorem weightsAll_mem {P : Program} {e : TypeId} : ∀ {l : List (DataW H)} {d : DataW H}, d ∈ l → ∀ n ∈ d.weights P e, n ∈ DataW.weightsAll P e l
  | x :: l, d, h, n, hn => by
    simp only [DataW.weightsAll, List.mem_append]
    rcases List.mem_cons.1 h with rfl | h
    · exact .inl hn
    · exact .inr (weightsAll_mem h n hn)

theorem ndV_inj {x y : Nd} (h : ndV x = ndV y) : x = y := by
  obtain ⟨a1, a2, a3, a4, a5, a6, a7, a8, a9, a10⟩ := x
  obtain ⟨b1, b2, b3, b4, b5, b6, b7, b8, b9, b10⟩ := y
  simp only [ndV, List.cons.injEq, Value.int.injEq, Value.string.injEq, true_and, and_true] at h
  obtain ⟨rfl, rfl, rfl, rfl, rfl, rfl, rfl, rfl, rfl, rfl⟩ := h
  rfl

def Small (n : Nat) : Prop := n ≤ 140737488355328

theorem desc_of {v : Value} {d : DataW H} {p : List MemPlace} (h : DataW.Trod enc Tryd.prog w 0 (fun _ => true) true 24 v d p) (hv : ∃ cs, v = .agg cs ∧ cs.size = Tryd.prog.cellsOf 24)
    (hw : ∀ n ∈ d.weights Tryd.prog 24, n ≤ reachBytes) :
    ∃ (l : List Nd) (vd : Value), v = .agg #[vd] ∧ RepL w (GA w) (dC l) [vd] ∧ l.length ≤ 140737488355328 ∧ ∀ x ∈ l, x.s.size ≤ 140737488355328 := by
  obtain ⟨cs, rfl, hcs⟩ := hv
  obtain ⟨fuel, hf⟩ := h
  obtain ⟨y0, n, e1, _, h0⟩ := trod_struct1 Tryd.underlying24 hf
  have c24 : Tryd.prog.cellsOf 24 = 1 := by kernel_rfl
  have c22 : Tryd.prog.cellsOf 22 = 1 := by kernel_rfl
  rw [c24] at hcs
  obtain ⟨vd, rfl⟩ := Array.size_eq_one_iff.1 hcs
  have h0 : DataW.trod enc Tryd.prog w 0 (fun _ => true) true n 22 [vd] = some y0 := by
    have key : ∀ c, c = 1 → DataW.trod enc Tryd.prog w 0 (fun _ => true) true n 22 (List.take c (List.drop 0 [vd])) = some y0 → DataW.trod enc Tryd.prog w 0 (fun _ => true) true n 22 [vd] = some y0 := by rintro _ rfl h; exact h
    exact key _ c22 h0
  have ed : d = .agg [y0.1] := congrArg Prod.fst e1
  subst ed
  rcases Go.Deep.open_slice Tryd.underlying22 h0 with ⟨e2, _⟩ | ⟨a', len, cap, m, n, D, Pl, e2, _, hl, _, hm, hx, hel⟩
  · simp at e2
    subst e2
    refine ⟨[], _, rfl, ?_, by simp, by simp⟩
    simp only [dC, RepL, RepC]
    exact ⟨⟨none, 0, rfl, Nat.le_refl _, .inl rfl⟩, trivial⟩
  · simp at e2
    subst e2
    simp only [if_true] at hm
    subst hm
    have c54 : Tryd.prog.cellsOf 54 = 10 := by kernel_rfl
    rw [c54] at hel
    obtain ⟨l, h1, h2, h3⟩ := rows_rep Nd.c ndV 10 (fun _ => rfl) (by decide) (fun x G => ⟨⟨rfl, rfl⟩, ⟨rfl, rfl⟩, ⟨rfl, rfl⟩, ⟨rfl, rfl⟩, ⟨rfl, rfl⟩, ⟨rfl, rfl⟩, ⟨rfl, rfl⟩, ⟨rfl, rfl⟩, ⟨rfl, rfl⟩, ⟨rfl, rfl⟩, trivial⟩) a' len m hl fun i hi => by
      obtain ⟨cs', e1, e2⟩ := hel i (by omega)
      obtain ⟨x, rfl, _⟩ := node_of e2
      exact ⟨x, e1⟩
    have ey : y0.1 = .slice ((List.range len).map D) ((List.range (m - len)).map fun j => D (len + j)) := congrArg Prod.fst hx
    have hw2 : ∀ k ∈ y0.1.weights Tryd.prog 22, k ≤ reachBytes := by
      intro k hk
      refine hw k ?_
      simp only [DataW.weights, Tryd.underlying24, List.map_cons, List.map_nil, DataW.weightsEach, List.append_nil]
      exact hk
    rw [ey] at hw2
    simp only [DataW.weights, Tryd.underlying22, List.mem_cons, List.mem_append] at hw2
    have hb : 1 ≤ Tryd.prog.bytesOf 54 := by
      have : (decide (1 ≤ Tryd.prog.bytesOf 54)) = true := by kernel_rfl
      exact of_decide_eq_true this
    have hlen := hw2 _ (.inl rfl)
    simp only [List.length_map, List.length_range] at hlen
    have hr : reachBytes ≤ 140737488355328 := by decide
    have hlen2 : len ≤ reachBytes := by
      have := Nat.mul_le_mul_left (len + (m - len)) hb
      omega
    refine ⟨l, _, rfl, ?_, by omega, fun x hx => ?_⟩
    · simp only [dC, RepL]
      exact ⟨h2, trivial⟩
    · obtain ⟨i, hi, rfl⟩ := List.getElem_of_mem hx
      obtain ⟨cs', e1, e2⟩ := hel i (by omega)
      obtain ⟨x, rfl, p0, p1, p2, p3, p4, p5, e3⟩ := node_of e2
      have := (h3 i hi).symm.trans e1
      have e4 := ndV_inj (Option.some.inj this)
      rw [e4]
      have hmem : D i ∈ (List.range len).map D := List.mem_map.2 ⟨i, List.mem_range.2 (by omega), rfl⟩
      have h9 : x.s.data.toList.length ≤ reachBytes := by
        refine hw2 _ (.inr (.inl (weightsAll_mem hmem _ ?_)))
        have : D i = .agg [p0, p1, p2, p3, p4, p5, .lit (.string x.s.data.toList)] := e3
        rw [this]
        simp only [DataW.weights, Tryd.underlying54, List.map_cons, List.map_nil, DataW.weightsEach, List.mem_append]
        simp
      have h10 : x.s.data.toList.length = x.s.size := Array.length_toList
      omega

theorem state_small {s : List It} {d : DataW H} (hw : ∀ n ∈ d.weights Tryd.prog 26, n ≤ reachBytes) (h : s = [] ∨ ∃ el sp, d = .slice el sp ∧ el.length = s.length) : s.length ≤ 140737488355328 := by
  rcases h with rfl | ⟨el, sp, rfl, h⟩
  · simp
  · simp only [DataW.weights, Tryd.underlying26, List.mem_cons] at hw
    have hb : 1 ≤ Tryd.prog.bytesOf 40 := by
      have : (decide (1 ≤ Tryd.prog.bytesOf 40)) = true := by kernel_rfl
      exact of_decide_eq_true this
    have hlen := hw _ (.inl rfl)
    have hr : reachBytes ≤ 140737488355328 := by decide
    have := Nat.mul_le_mul_left (el.length + sp.length) hb
    omega
end

/-- One listed variable reads as the datum beside its name. -/
theorem laidReads {P : Program} {w : World} {l : List (String × DataW Unit)} (h : laidMet P l w) {n : String} {d : DataW Unit} (hm : (n, d) ∈ l) :
    ∃ g t cs fuel p, P.globalNamed n = some g ∧ (P.globals[g]?).map (·.type) = some t ∧ w.var? P n = some cs ∧ DataW.trod (fun _ => ()) P w 0 (fun _ => true) false fuel t cs.toList = some (d, p) := by
  obtain ⟨ps, hv, _⟩ := h
  have go : ∀ {l : List (String × DataW Unit)} {ps : List MemPlace}, DataW.LaidVars P w l ps → (n, d) ∈ l → ∃ g t cs fuel p, P.globalNamed n = some g ∧ (P.globals[g]?).map (·.type) = some t ∧ w.var? P n = some cs ∧ DataW.trod (fun _ => ()) P w 0 (fun _ => true) false fuel t cs.toList = some (d, p) := by
    intro l
    induction l with
    | nil => intro ps _ hm; cases hm
    | cons x r ih =>
      intro ps h hm
      obtain ⟨g, t, cs, fuel, p, q, h1, h2, h3, h4, h5, _⟩ := h
      rcases List.mem_cons.1 hm with e | e
      · cases e
        exact ⟨g, t, cs, fuel, p, h1, h2, h3, h4⟩
      · exact ih h5 e
  exact go hv hm

/-- An array of bools that reads as this list holds it, cell for cell. -/
theorem cells_of_bools {H : Type} {enc : TypeId × Value → H} {P : Program} {w : World} {base : Nat} {sp : Nat → Bool} {held : Bool} {fuel : Nat} {t e : TypeId} {n : Nat} {cs : List Value} {zs : List Bool} {p : List MemPlace}
    (ht : P.underlying t = some (.array n e)) (he : P.underlying e = some .bool) (hce : P.cellsOf e = 1) (hct : P.cellsOf t = n)
    (h : DataW.trod enc P w base sp held fuel t cs = some (.agg (zs.map fun z => .lit (.bool z)), p)) : cs = zs.map fun z => Value.bool z := by
  cases fuel with
  | zero => simp [DataW.trod] at h
  | succ fuel =>
    simp only [DataW.trod, ht, hce, hct, Nat.mul_one] at h
    split at h
    · rename_i hl
      obtain ⟨xs, hm, hx⟩ := Option.map_eq_some_iff.1 h
      have hxs : xs.map (·.1) = zs.map fun z => (DataW.lit (.bool z) : DataW H) := by
        have := congrArg Prod.fst hx
        simpa using this
      have hxl : xs.length = n := by simpa using Lib.mapM_length hm
      have hzl : zs.length = n := by
        have := congrArg List.length hxs
        simp at this
        omega
      apply List.ext_getElem?
      intro i
      by_cases hi : i < n
      · obtain ⟨b, hb, hf⟩ := Lib.mapM_at hm i i (by simp [hi])
        obtain ⟨z, hc, rfl⟩ := DataW.trod_bool he hf
        have h1 : cs[i]? = some (.bool z) := by
          have := congrArg (·[0]?) hc
          simpa [List.getElem?_take, List.getElem?_drop] using this
        have h2 : (xs.map (·.1))[i]? = some (DataW.lit (.bool z) : DataW H) := by simp [hb]
        rw [hxs] at h2
        simp only [List.getElem?_map, Option.map_eq_some_iff, DataW.lit.injEq, Lit.bool.injEq] at h2
        obtain ⟨z', hz', rfl⟩ := h2
        simp [h1, hz']
      · rw [List.getElem?_eq_none (by omega), List.getElem?_eq_none (by simp; omega)]
    · cases h

end Go.Proofs.YtilhjiopbbbgmaaDoor

/- What a row's condition says of the tables, and what a body's answer says of a law of a description and a state. -/
namespace Go.Proofs.YtilhjiopbbbgmaaDoor
open Go Go.ChangeShapes Go.WideShapes Go.ChangeAt Go.WideMaps Go.WideElems Go.RowKit Am
set_option linter.unusedVariables false
set_option linter.unusedSimpArgs false

theorem pow_same {H : Type} : (Rows.laid_internal_strconv_uint64pow10 : DataW H) = Lib.tabData .u64 Lib.pow10Tab := by rfl
def readyL : List Bool := [false, false, true, false, false, false, false, false, true, true]
theorem ready_same {H : Type} : (Rows.laid_scantling_heads_readies : DataW H) = .agg (readyL.map fun z => .lit (.bool z)) := by rfl

theorem repM_bools {w : World} {G : Am.Good} : ∀ (l : List Bool) (o : Nat), (∀ i (h : i < l.length), w.cell? ⟨0, o + i, none⟩ = some (.bool l[i]) ∧ G 0 (o + i)) → RepM w G (l.map fun z => C.v (.bool z)) 0 o
  | [], o, _ => by simp [RepM]
  | z :: l, o, h => by
    simp only [List.map_cons, RepM]
    have h0 := h 0 (by simp)
    simp only [List.getElem_cons_zero, Nat.add_zero] at h0
    refine ⟨h0.2, ⟨_, h0.1, rfl, rfl⟩, repM_bools l (o + 1) fun i hi => ?_⟩
    have := h (i + 1) (by simp; omega)
    simp only [List.getElem_cons_succ] at this
    rwa [show o + (i + 1) = o + 1 + i by omega] at this

theorem glok_of {W : World} {l : List (String × DataW Unit)} (h : laidMet Tryd.prog l W) (hp : ("internal/strconv.uint64pow10", Rows.laid_internal_strconv_uint64pow10) ∈ l) (hr : ("scantling/heads.readies", Rows.laid_scantling_heads_readies) ∈ l) : GlOk glD W (GA W) := by
  constructor
  · intro i cs hi
    simp only [glD] at hi
    split at hi
    · rename_i e
      subst e
      cases hi
      obtain ⟨g, t, cs, fuel, p, hg, ht, hv, hd⟩ := laidReads h hr
      have g0 : Tryd.prog.globalNamed "scantling/heads.readies" = some 0 := by kernel_rfl
      have t0 : (Tryd.prog.globals[0]?).map (·.type) = some 61 := by kernel_rfl
      obtain rfl := Option.some.inj (g0.symm.trans hg)
      obtain rfl := Option.some.inj (t0.symm.trans ht)
      rw [ready_same] at hd
      have hc := cells_of_bools Tryd.underlying61 Tryd.underlying4 (by kernel_rfl) (by kernel_rfl) hd
      have hcell : ∀ i (hi : i < readyL.length), W.cell? ⟨0, i, none⟩ = some (.bool readyL[i]) := fun i hi => by
        rw [World.var?_cell hg hv i]
        have : cs[i]? = cs.toList[i]? := by simp
        rw [this, hc, List.getElem?_map, List.getElem?_eq_getElem hi]
        rfl
      refine repM_bools readyL 0 fun i hi => ?_
      rw [Nat.zero_add]
      refine ⟨hcell i hi, ?_⟩
      obtain ⟨b, o, e, hb⟩ := plain_of_cell (hcell i hi)
      cases e
      exact hb
    · cases hi
  · obtain ⟨g, t, cs, fuel, p, hg, ht, hv, hd⟩ := laidReads h hp
    have g0 : Tryd.prog.globalNamed "internal/strconv.uint64pow10" = some 2 := by kernel_rfl
    obtain rfl := Option.some.inj (g0.symm.trans hg)
    have hty : (Tryd.prog.globals[2]?).map (·.type) = some 149 := by kernel_rfl
    obtain rfl := Option.some.inj (hty.symm.trans ht)
    rw [pow_same] at hd
    have hc := Lib.cells_of_tab Tryd.underlying149 Tryd.underlying44 (by kernel_rfl) (by kernel_rfl) hd
    show W.var? _ _ = _
    rw [hv, ← hc]

set_option maxRecDepth 20000 in
/-- THE FRAME of a law of a description and a state: what the body answers is what the row says. -/
theorem two_post {H : Type} {enc : TypeId × Value → H} {sp : ChangeSpec} {fn : Func} (hsp : ∀ d1 d2 : DataW H, sp.fn H [d1, d2] = { results := [.lit (.bool true)], args := [d1, d2] }) (hpar : fn.params.toList = [24, 26]) (hres : fn.resultTypes.toList = [4]) (hsz : fn.resultTypes.size = 1)
    (hvars : sp.vars = [])
    {W : World} {args : Array Value} {ds gs : List (DataW H)} {before : List MemPlace}
    (hval : ∀ (j : Nat) t v, fn.params[j]? = some t → args[j]? = some v → ∃ r base, Value.okWide Tryd.prog W r base t v)
    (hW : DataW.Whole enc Tryd.prog fn.params.toList sp.vars false W args.toList ds gs before)
    (hsz2 : (DataW.weightsEach Tryd.prog (fn.params.toList ++ sp.plain.varTypes Tryd.prog) (ds ++ gs)).all (· ≤ reachBytes) = true)
    (hgl : GlOk glD W (GA W)) {f : FuncId}
    (hret : ∀ (d : List Nd) (s : List It), d.length ≤ 140737488355328 → (∀ n ∈ d, n.s.size ≤ 140737488355328) → s.length ≤ 140737488355328 → Ret Tryd.prog glD f [.agg (dC d), .c (stC s)] (bv true)) :
    Calls Tryd.prog f args W fun e W' => ∃ v, e = .returned v ∧ sp.post enc Tryd.prog fn false true false false W args v W' := by
  have hW' := hW
  obtain ⟨p, q, hA0, hV, hb, hfz, hnd⟩ := hW
  have hA : DataW.TrodAll enc Tryd.prog W 0 (fun _ => true) true [24, 26] args.toList ds p := by rw [← hpar]; exact hA0
  obtain ⟨v0, v1, d0, d1, p0, p1, rfl, rfl, rfl, h0, h1⟩ := trodAll_two hA
  rw [hvars] at hV
  obtain ⟨rfl, rfl⟩ := trodVars_none hV
  subst hb
  have hp0 : fn.params[0]? = some 24 := by rw [← Array.getElem?_toList, hpar]; rfl
  have hp1 : fn.params[1]? = some 26 := by rw [← Array.getElem?_toList, hpar]; rfl
  obtain ⟨r0, b0, ok0⟩ := hval 0 24 v0 hp0 rfl
  obtain ⟨r1, b1, ok1⟩ := hval 1 26 v1 hp1 rfl
  have hw : ∀ (j : Nat) t d, (fn.params.toList)[j]? = some t → [d0, d1][j]? = some d → ∀ n ∈ d.weights Tryd.prog t, n ≤ reachBytes := fun j t d ht hd n hn => by
    have := List.all_eq_true.1 hsz2 n (DataW.weights_mem_each (j := j) (t := t) (d := d) (by rw [List.getElem?_append_left (by have := (List.getElem?_eq_some_iff.1 ht).1; exact this)]; exact ht) (by rw [List.append_nil]; exact hd) n hn)
    simpa using this
  obtain ⟨d, vd, rfl, hd, hdl, hds⟩ := desc_of h0 (okWide_struct Tryd.underlying24 ok0) (hw 0 24 d0 (by rw [hpar]; rfl) rfl)
  obtain ⟨s, hs, hs2⟩ := state_of h1 (okWide_slice Tryd.underlying26 ok1)
  have hsl := state_small (s := s) (hw 1 26 d1 (by rw [hpar]; rfl) rfl) hs2
  refine ((hret d s hdl hds hsl).2 W (GA W) #[.agg #[vd], v1] (fun _ _ h => h) hgl (show RepTL W (GA W) [.agg (dC d), .c (stC s)] [.agg #[vd], v1] from ⟨⟨#[vd], rfl, hd⟩, hs, trivial⟩)).mono ?_
  rintro e W' ⟨v, he, hbel, _, G', _, _, _, hrep⟩
  obtain rfl : v = .bool true := hrep.1
  refine ⟨_, he, [d0, d1], [], p0 ++ p1 ++ [], [], p0 ++ (p1 ++ []), [], hW', ?_, ?_, ?_, ?_, fun h => by cases h⟩
  · rw [List.append_nil, hsp, hres, hsz]
    exact trodAll_mk1 (shut_bool Tryd.underlying4 _)
  · rw [List.append_nil, hsp, hpar]
    have lt0 : ∀ x ∈ p0, x.block < W.heap.size := by
      obtain ⟨n, hn⟩ := h0
      exact DataW.trod_lt _ _ _ _ hn
    have lt1 : ∀ x ∈ p1, x.block < W.heap.size := by
      obtain ⟨n, hn⟩ := h1
      exact DataW.trod_lt _ _ _ _ hn
    have lay : laidOutB Tryd.prog = true := by kernel_rfl
    exact trodAll_cons_mk (Below.trod lay (by kernel_rfl) (of_decide_eq_true (by kernel_rfl)) h0 hbel lt0) (trodAll_cons_mk (Below.trod lay (by kernel_rfl) (of_decide_eq_true (by kernel_rfl)) h1 hbel lt1) trodAll_mk0)
  · rw [hvars, List.append_nil, hsp]
    exact rfl
  · exact hbel.frame _

end Go.Proofs.YtilhjiopbbbgmaaDoor

/- What the rows of chapter 14 share: the tables laid, met at the door. -/
namespace Go.Proofs.YtilhjiopbbbgmaaDoor
open Go Go.ChangeShapes Go.WideShapes Go.ChangeAt Go.WideMaps Go.WideElems Go.RowKit Am
set_option linter.unusedVariables false
set_option linter.unusedSimpArgs false

theorem own : ownKnob Tryd.prog.godebug = none := by kernel_rfl

def laidD : List (String × DataW Unit) := [("math/bits.deBruijn32tab", Rows.laid_math_bits_deBruijn32tab), ("math/bits.deBruijn64tab", Rows.laid_math_bits_deBruijn64tab), ("internal/strconv.uint64pow10", Rows.laid_internal_strconv_uint64pow10), ("scantling/heads.readies", Rows.laid_scantling_heads_readies)]

theorem door_met (os : Os) (args : Array Value) : laidMetH Tryd.prog laidD ((World.doorLaid Tryd.prog 400 os).forCall (fun _ _ => 0) ⟨#[], args, []⟩).memory :=
  laidMetH_of_parts3 (fuel := 8) (laidMet_of_run' 8 (by kernel_rfl) (by kernel_rfl)) (by kernel_rfl) (by kernel_rfl)

theorem glok_D {W : World} (h : laidMetH Tryd.prog laidD W) : GlOk glD W (GA W) := by
  rw [MakeChecks.laidMetH_plain _ _ _ (by kernel_rfl)] at h
  exact glok_of h (by simp [laidD]) (by simp [laidD])

end Go.Proofs.YtilhjiopbbbgmaaDoor

/- HeadsOpen in plain: the heads of all that a state opens to, added up, are its heads. -/
namespace Go.Proofs.YtilhjiopbbbgmaaDoor
open Go Go.RowKit Am
set_option linter.unusedVariables false
set_option linter.unusedSimpArgs false

theorem is_congr {l : List Br} {L L' : List (List It)} (h : ∀ y, L.count y = L'.count y) (hi : Is l L) : Is l L' := fun y => by
  rw [hi y, h y.to]
  have : y.to ∈ L ↔ y.to ∈ L' := by rw [← List.count_pos_iff, ← List.count_pos_iff, h]
  rw [this]

def spread (c : List It → Nat) (g : List Br) : List (List It) := g.flatMap fun b => List.replicate (c b.to) b.to

theorem count_rep (n : Nat) (a y : List It) : (List.replicate n a).count y = if a = y then n else 0 := by
  rw [List.count_replicate]
  by_cases h : a = y
  · subst h; simp
  · simp [h]

theorem count_spread (c : List It → Nat) (y : List It) : ∀ g : List Br, srt g → ((∃ b ∈ g, b.to = y) → (spread c g).count y = c y) ∧ ((¬ ∃ b ∈ g, b.to = y) → (spread c g).count y = 0)
  | [], _ => ⟨fun ⟨b, h, _⟩ => (by cases h), fun _ => by simp [spread]⟩
  | b :: g, hs => by
    obtain ⟨h1, h2⟩ := List.pairwise_cons.1 hs
    obtain ⟨i1, i2⟩ := count_spread c y g h2
    have e : (spread c (b :: g)).count y = (if b.to = y then c b.to else 0) + (spread c g).count y := by
      simp only [spread, List.flatMap_cons, List.count_append, count_rep]
    rw [e]
    by_cases hb : b.to = y
    · have hn : ¬ ∃ x ∈ g, x.to = y := by
        rintro ⟨x, hx, hxy⟩
        have := h1 x hx
        rw [hb, hxy, scmp_refl] at this
        cases this
      refine ⟨fun _ => ?_, fun h => absurd ⟨b, by simp, hb⟩ h⟩
      rw [i2 hn, if_pos hb, hb, Nat.add_zero]
    · refine ⟨fun h => ?_, fun h => ?_⟩
      · obtain ⟨x, hx, hxy⟩ := h
        rw [if_neg hb, Nat.zero_add]
        refine i1 ?_
        rcases List.mem_cons.1 hx with rfl | hx
        · exact absurd hxy hb
        · exact ⟨x, hx, hxy⟩
      · rw [if_neg hb, Nat.zero_add]
        exact i2 fun ⟨x, hx, hxy⟩ => h ⟨x, by simp [hx], hxy⟩

def addH (l g : List Br) : List Br := g.foldl (fun l b => addB l b.to b.many false) l

theorem addH_is (c : List It → Nat) : ∀ (g : List Br) {l : List Br} {L : List (List It)}, srt l → Is l L → (∀ b ∈ g, 0 < c b.to ∧ b.many = mn (c b.to)) → srt (addH l g) ∧ Is (addH l g) (L ++ spread c g)
  | [], l, L, hs, hi, _ => by simpa [addH, spread] using ⟨hs, hi⟩
  | b :: g, l, L, hs, hi, h => by
    obtain ⟨h1, h2⟩ := h b (by simp)
    obtain ⟨a1, a2⟩ := addB_is (t := b.to) hs hi h1
    rw [← h2] at a1 a2
    have := addH_is c g a1 a2 fun x hx => h x (by simp [hx])
    simpa [addH, spread] using this

theorem addH_heads {d : List Nd} {k : Nat} {t : List It} {l : List Br} {L : List (List It)} (hs : srt l) (hi : Is l L) :
    srt (addH l (headsS d k t)) ∧ Is (addH l (headsS d k t)) (L ++ leaves d k t) := by
  obtain ⟨g1, g2⟩ := headsS_is d k t
  obtain ⟨a1, a2⟩ := addH_is (fun y => (leaves d k t).count y) (headsS d k t) hs hi fun b hb => by
    obtain ⟨m1, m2⟩ := (g2 b).1 hb
    exact ⟨List.count_pos_iff.2 m1, m2⟩
  refine ⟨a1, is_congr (fun y => ?_) a2⟩
  rw [List.count_append, List.count_append]
  obtain ⟨c1, c2⟩ := count_spread (fun y => (leaves d k t).count y) y (headsS d k t) g1
  by_cases h : ∃ b ∈ headsS d k t, b.to = y
  · rw [c1 h]
  · rw [c2 h]
    have : y ∉ leaves d k t := fun hy => h ⟨⟨y, mn ((leaves d k t).count y)⟩, (g2 _).2 ⟨hy, rfl⟩, rfl⟩
    rw [List.count_eq_zero_of_not_mem this]

def allH (d : List Nd) (k : Nat) (ts : List (List It)) (l : List Br) : List Br := ts.foldl (fun l t => addH l (headsS d k t)) l

theorem allH_is (d : List Nd) (k : Nat) : ∀ (ts : List (List It)) {l : List Br} {L : List (List It)}, srt l → Is l L → srt (allH d k ts l) ∧ Is (allH d k ts l) (L ++ ts.flatMap (leaves d k))
  | [], l, L, hs, hi => by simpa [allH] using ⟨hs, hi⟩
  | t :: ts, l, L, hs, hi => by
    obtain ⟨a1, a2⟩ := addH_heads (d := d) (k := k) (t := t) hs hi
    have := allH_is d k ts a1 a2
    simpa [allH] using this

/-- The heads of all that it opens to, together, are its own. -/
theorem allH_eq {d : List Nd} {k : Nat} {s : List It} (hr : rdy d s = false) : allH d k (openS d s) [] = headsS d (k + 1) s := by
  obtain ⟨a1, a2⟩ := allH_is d k (openS d s) is_nil.1 is_nil.2
  obtain ⟨b1, b2⟩ := headsS_is d (k + 1) s
  have hlv : leaves d (k + 1) s = (openS d s).flatMap (leaves d k) := by simp only [leaves, hr]; rfl
  rw [hlv] at b2
  rw [List.nil_append] at a2
  exact eq_of_srt a1 b1 fun y => (a2 y).trans (b2 y).symm

theorem heads_ready {d : List Nd} {k : Nat} {s : List It} (hr : rdy d s = true) : headsS d (k + 1) s = [⟨s, 1⟩] := by
  have hlv : leaves d (k + 1) s = [s] := by simp only [leaves, hr]; rfl
  simp [headsS, hlv, addL, addB]

theorem addH_ok : ∀ (g : List Br) {l : List Br} {n : Nat}, OkL l n → (∀ b ∈ g, b.to.length ≤ 1000000 ∧ 0 ≤ b.many ∧ b.many ≤ 2) → OkL (addH l g) (n + g.length)
  | [], l, n, h, _ => h
  | b :: g, l, n, h, hg => by
    obtain ⟨g1, g2, g3⟩ := hg b (by simp)
    have := addH_ok g (addB_ok h g1 ⟨g2, g3⟩) fun x hx => hg x (by simp [hx])
    simp only [addH, List.foldl_cons, List.length_cons] at this ⊢
    rwa [show n + (g.length + 1) = n + 1 + g.length by omega]

theorem heads_okL {d : List Nd} (hd : WFd d) {k : Nat} {s : List It} (hs : gd d s) (hl : s.length + k ≤ 1000000) : OkL (headsS d k s) (leaves d k s).length := by
  have h := addL_ok (leaves d k s) (l := []) (n := 0) ⟨fun x hx => (by cases hx), fun x hx => (by cases hx), Nat.le_refl _⟩ fun t ht => by
    have := (leaves_len hd k s hs t ht).2
    omega
  rw [Nat.zero_add] at h
  exact h

theorem sum_mem {f : List It → Nat} : ∀ {l : List (List It)} {t : List It}, t ∈ l → f t ≤ (l.map f).sum
  | x :: l, t, h => by
    simp only [List.map_cons, List.sum_cons]
    rcases List.mem_cons.1 h with rfl | h
    · omega
    · have := sum_mem (f := f) h
      omega

theorem flat_mem {f : List It → List (List It)} : ∀ {l : List (List It)} {t : List It}, t ∈ l → (f t).length ≤ (l.flatMap f).length
  | x :: l, t, h => by
    simp only [List.flatMap_cons, List.length_append]
    rcases List.mem_cons.1 h with rfl | h
    · omega
    · have := flat_mem (f := f) h
      omega

theorem cnt_open {d : List Nd} {k : Nat} {s : List It} (hr : rdy d s = false) : cnt d (k + 1) s = 1 + ((openS d s).map (cnt d k)).sum := by simp only [cnt, hr]; rfl
theorem leaves_open {d : List Nd} {k : Nat} {s : List It} (hr : rdy d s = false) : leaves d (k + 1) s = (openS d s).flatMap (leaves d k) := by simp only [leaves, hr]; rfl

/-- What one opens to, where a state fits. -/
theorem fit_open {d : List Nd} {s : List It} (F : Fit14 d s) (hr : rdy d s = false) {t : List It} (ht : t ∈ openS d s) :
    deep d 1499 t ∧ gd d t ∧ okJ t ∧ t.length ≤ 9 ∧ cnt d 1499 t ≤ 1500 ∧ (leaves d 1499 t).length ≤ 1500 := by
  obtain ⟨g1, g2⟩ := openS_gd F.wf F.gd t ht
  refine ⟨?_, g1, okJ_open F.wf F.gd F.okJ t ht, by have := F.len; omega, ?_, ?_⟩
  · rcases F.deep with h | h
    · rw [hr] at h; cases h
    · exact h t ht
  · have h : cnt d 1500 s = 1 + ((openS d s).map (cnt d 1499)).sum := cnt_open hr
    have := F.cnt
    have := sum_mem (f := cnt d 1499) ht
    omega
  · have h : leaves d 1500 s = (openS d s).flatMap (leaves d 1499) := leaves_open hr
    have h2 := F.lv
    rw [h] at h2
    have := flat_mem (f := leaves d 1499) ht
    omega

end Go.Proofs.YtilhjiopbbbgmaaDoor

/- HeadsOpen: its body answers true, whatever it is given. -/
namespace Go.Proofs.YtilhjiopbbbgmaaDoor
open Go Go.RowKit Am
set_option linter.unusedVariables false
set_option linter.unusedSimpArgs false
set_option maxHeartbeats 4000000
attribute [local irreducible] AWp AOps

theorem opens_ret (d : List Nd) (s : List It) (hl : d.length ≤ 140737488355328) (hs : ∀ n ∈ d, n.s.size ≤ 140737488355328) (hsl : s.length ≤ 140737488355328) : Ret Tryd.prog glD 4 [.agg (dC d), .c (stC s)] (bv true) := by
  refine retq (rs := [4]) 90 Tryd.func4 (by kernel_rfl) rfl (by kernel_rfl) rfl (by simp) (by simp) fun Z hN hX hR => ?_
  have haw := awake14_ret
  have hfew := few_ret glD d hl hs
  repeat (first | refine qq1 fun Z hN hX hR => ?_ | refine qq2 fun Z hN hX hR => ?_ | refine qq3 (by kernel_rfl) fun K hK => ?_ | ((first | refine qq4 fun R hRR => ?_ | with_reducible change ExpAll _ _ _); simp only [kS, Nat.reduceSub, Nat.reduceMul, Nat.reduceLeDiff, Nat.reducePow, Nat.reduceBEq, Nat.reduceAdd, Nat.reduceEqDiff, reduceCtorEq, Int.reduceToNat, dC_length, dC_take]) | (refine hRR _ ?_; clear hRR R) | refine qq5 ?_ | (refine hK _ ?_; clear hK K) | ((first | refine hN _ ?_ | refine hX _ _ ?_ | refine hR _ ?_); clear hN hX hR Z) | refine qq6 rfl ?_ | refine qq7 (by decide) ?_ | (refine qq8 ?_ ?_; focus (simp only [kS, Nat.reduceSub, Nat.reduceMul, Nat.reduceLeDiff, Nat.reducePow, Nat.reduceBEq, Nat.reduceAdd, Nat.reduceEqDiff, reduceCtorEq, Int.reduceToNat, dC_length, dC_take]; done)) | (refine qq9 ?_ ?_; focus (simp only [kS, Nat.reduceSub, Nat.reduceMul, Nat.reduceLeDiff, Nat.reducePow, Nat.reduceBEq, Nat.reduceAdd, Nat.reduceEqDiff, reduceCtorEq, Int.reduceToNat, dC_length, dC_take]; done)) | refine qqa ?_ | refine qqb ?_ | refine qqc ?_ | refine And.intro (by first | assumption | omega) ?_)
  refine ⟨_, haw, rfl, ?_⟩
  try simp only [kS, Nat.reduceSub, Nat.reduceMul, Nat.reduceLeDiff, Nat.reducePow, Nat.reduceBEq, Nat.reduceAdd, Nat.reduceEqDiff, reduceCtorEq, Int.reduceToNat, dC_length, dC_take, Bool.not_true, Bool.not_false]
  repeat (first | refine qq1 fun Z hN hX hR => ?_ | refine qq2 fun Z hN hX hR => ?_ | refine qq3 (by kernel_rfl) fun K hK => ?_ | ((first | refine qq4 fun R hRR => ?_ | with_reducible change ExpAll _ _ _); simp only [kS, Nat.reduceSub, Nat.reduceMul, Nat.reduceLeDiff, Nat.reducePow, Nat.reduceBEq, Nat.reduceAdd, Nat.reduceEqDiff, reduceCtorEq, Int.reduceToNat, dC_length, dC_take, Bool.not_true, Bool.not_false]) | (refine hRR _ ?_; clear hRR R) | refine qq5 ?_ | (refine hK _ ?_; clear hK K) | ((first | refine hN _ ?_ | refine hX _ _ ?_ | refine hR _ ?_); clear hN hX hR Z) | refine qq6 rfl ?_ | refine qq7 (by decide) ?_ | (refine qq8 ?_ ?_; focus (simp only [kS, Nat.reduceSub, Nat.reduceMul, Nat.reduceLeDiff, Nat.reducePow, Nat.reduceBEq, Nat.reduceAdd, Nat.reduceEqDiff, reduceCtorEq, Int.reduceToNat, dC_length, dC_take, Bool.not_true, Bool.not_false]; done)) | (refine qq9 ?_ ?_; focus (simp only [kS, Nat.reduceSub, Nat.reduceMul, Nat.reduceLeDiff, Nat.reducePow, Nat.reduceBEq, Nat.reduceAdd, Nat.reduceEqDiff, reduceCtorEq, Int.reduceToNat, dC_length, dC_take, Bool.not_true, Bool.not_false]; done)) | refine qqa ?_ | refine qqb ?_ | refine qqc ?_ | refine And.intro (by first | assumption | omega) ?_)
  cases gf : fewB d
  · rw [gf] at hfew
    refine ⟨_, hfew, rfl, ?_⟩
    try simp only [kS, Nat.reduceSub, Nat.reduceMul, Nat.reduceLeDiff, Nat.reducePow, Nat.reduceBEq, Nat.reduceAdd, Nat.reduceEqDiff, reduceCtorEq, Int.reduceToNat, dC_length, dC_take, Bool.not_true, Bool.not_false]
    repeat (first | refine qq1 fun Z hN hX hR => ?_ | refine qq2 fun Z hN hX hR => ?_ | refine qq3 (by kernel_rfl) fun K hK => ?_ | ((first | refine qq4 fun R hRR => ?_ | with_reducible change ExpAll _ _ _); simp only [kS, Nat.reduceSub, Nat.reduceMul, Nat.reduceLeDiff, Nat.reducePow, Nat.reduceBEq, Nat.reduceAdd, Nat.reduceEqDiff, reduceCtorEq, Int.reduceToNat, dC_length, dC_take, Bool.not_true, Bool.not_false]) | (refine hRR _ ?_; clear hRR R) | refine qq5 ?_ | (refine hK _ ?_; clear hK K) | ((first | refine hN _ ?_ | refine hX _ _ ?_ | refine hR _ ?_); clear hN hX hR Z) | refine qq6 rfl ?_ | refine qq7 (by decide) ?_ | (refine qq8 ?_ ?_; focus (simp only [kS, Nat.reduceSub, Nat.reduceMul, Nat.reduceLeDiff, Nat.reducePow, Nat.reduceBEq, Nat.reduceAdd, Nat.reduceEqDiff, reduceCtorEq, Int.reduceToNat, dC_length, dC_take, Bool.not_true, Bool.not_false]; done)) | (refine qq9 ?_ ?_; focus (simp only [kS, Nat.reduceSub, Nat.reduceMul, Nat.reduceLeDiff, Nat.reducePow, Nat.reduceBEq, Nat.reduceAdd, Nat.reduceEqDiff, reduceCtorEq, Int.reduceToNat, dC_length, dC_take, Bool.not_true, Bool.not_false]; done)) | refine qqa ?_ | refine qqb ?_ | refine qqc ?_ | refine And.intro (by first | assumption | omega) ?_)
    refine ⟨_, haw, rfl, ?_⟩
    try simp only [kS, Nat.reduceSub, Nat.reduceMul, Nat.reduceLeDiff, Nat.reducePow, Nat.reduceBEq, Nat.reduceAdd, Nat.reduceEqDiff, reduceCtorEq, Int.reduceToNat, dC_length, dC_take, Bool.not_true, Bool.not_false]
    repeat (first | refine qq1 fun Z hN hX hR => ?_ | refine qq2 fun Z hN hX hR => ?_ | refine qq3 (by kernel_rfl) fun K hK => ?_ | ((first | refine qq4 fun R hRR => ?_ | with_reducible change ExpAll _ _ _); simp only [kS, Nat.reduceSub, Nat.reduceMul, Nat.reduceLeDiff, Nat.reducePow, Nat.reduceBEq, Nat.reduceAdd, Nat.reduceEqDiff, reduceCtorEq, Int.reduceToNat, dC_length, dC_take, Bool.not_true, Bool.not_false]) | (refine hRR _ ?_; clear hRR R) | refine qq5 ?_ | (refine hK _ ?_; clear hK K) | ((first | refine hN _ ?_ | refine hX _ _ ?_ | refine hR _ ?_); clear hN hX hR Z) | refine qq6 rfl ?_ | refine qq7 (by decide) ?_ | (refine qq8 ?_ ?_; focus (simp only [kS, Nat.reduceSub, Nat.reduceMul, Nat.reduceLeDiff, Nat.reducePow, Nat.reduceBEq, Nat.reduceAdd, Nat.reduceEqDiff, reduceCtorEq, Int.reduceToNat, dC_length, dC_take, Bool.not_true, Bool.not_false]; done)) | (refine qq9 ?_ ?_; focus (simp only [kS, Nat.reduceSub, Nat.reduceMul, Nat.reduceLeDiff, Nat.reducePow, Nat.reduceBEq, Nat.reduceAdd, Nat.reduceEqDiff, reduceCtorEq, Int.reduceToNat, dC_length, dC_take, Bool.not_true, Bool.not_false]; done)) | refine qqa ?_ | refine qqb ?_ | refine qqc ?_ | refine And.intro (by first | assumption | omega) ?_)
    all_goals rfl
  rw [gf] at hfew
  obtain ⟨f1, f2⟩ := fewB_true gf
  have hright := right_ret glD d f1 hs
  refine ⟨_, hfew, rfl, ?_⟩
  try simp only [kS, Nat.reduceSub, Nat.reduceMul, Nat.reduceLeDiff, Nat.reducePow, Nat.reduceBEq, Nat.reduceAdd, Nat.reduceEqDiff, reduceCtorEq, Int.reduceToNat, dC_length, dC_take, Bool.not_true, Bool.not_false]
  repeat (first | refine qq1 fun Z hN hX hR => ?_ | refine qq2 fun Z hN hX hR => ?_ | refine qq3 (by kernel_rfl) fun K hK => ?_ | ((first | refine qq4 fun R hRR => ?_ | with_reducible change ExpAll _ _ _); simp only [kS, Nat.reduceSub, Nat.reduceMul, Nat.reduceLeDiff, Nat.reducePow, Nat.reduceBEq, Nat.reduceAdd, Nat.reduceEqDiff, reduceCtorEq, Int.reduceToNat, dC_length, dC_take, Bool.not_true, Bool.not_false]) | (refine hRR _ ?_; clear hRR R) | refine qq5 ?_ | (refine hK _ ?_; clear hK K) | ((first | refine hN _ ?_ | refine hX _ _ ?_ | refine hR _ ?_); clear hN hX hR Z) | refine qq6 rfl ?_ | refine qq7 (by decide) ?_ | (refine qq8 ?_ ?_; focus (simp only [kS, Nat.reduceSub, Nat.reduceMul, Nat.reduceLeDiff, Nat.reducePow, Nat.reduceBEq, Nat.reduceAdd, Nat.reduceEqDiff, reduceCtorEq, Int.reduceToNat, dC_length, dC_take, Bool.not_true, Bool.not_false]; done)) | (refine qq9 ?_ ?_; focus (simp only [kS, Nat.reduceSub, Nat.reduceMul, Nat.reduceLeDiff, Nat.reducePow, Nat.reduceBEq, Nat.reduceAdd, Nat.reduceEqDiff, reduceCtorEq, Int.reduceToNat, dC_length, dC_take, Bool.not_true, Bool.not_false]; done)) | refine qqa ?_ | refine qqb ?_ | refine qqc ?_ | refine And.intro (by first | assumption | omega) ?_)
  cases gr : rightB d
  · rw [gr] at hright
    refine ⟨_, hright, rfl, ?_⟩
    try simp only [kS, Nat.reduceSub, Nat.reduceMul, Nat.reduceLeDiff, Nat.reducePow, Nat.reduceBEq, Nat.reduceAdd, Nat.reduceEqDiff, reduceCtorEq, Int.reduceToNat, dC_length, dC_take, Bool.not_true, Bool.not_false]
    repeat (first | refine qq1 fun Z hN hX hR => ?_ | refine qq2 fun Z hN hX hR => ?_ | refine qq3 (by kernel_rfl) fun K hK => ?_ | ((first | refine qq4 fun R hRR => ?_ | with_reducible change ExpAll _ _ _); simp only [kS, Nat.reduceSub, Nat.reduceMul, Nat.reduceLeDiff, Nat.reducePow, Nat.reduceBEq, Nat.reduceAdd, Nat.reduceEqDiff, reduceCtorEq, Int.reduceToNat, dC_length, dC_take, Bool.not_true, Bool.not_false]) | (refine hRR _ ?_; clear hRR R) | refine qq5 ?_ | (refine hK _ ?_; clear hK K) | ((first | refine hN _ ?_ | refine hX _ _ ?_ | refine hR _ ?_); clear hN hX hR Z) | refine qq6 rfl ?_ | refine qq7 (by decide) ?_ | (refine qq8 ?_ ?_; focus (simp only [kS, Nat.reduceSub, Nat.reduceMul, Nat.reduceLeDiff, Nat.reducePow, Nat.reduceBEq, Nat.reduceAdd, Nat.reduceEqDiff, reduceCtorEq, Int.reduceToNat, dC_length, dC_take, Bool.not_true, Bool.not_false]; done)) | (refine qq9 ?_ ?_; focus (simp only [kS, Nat.reduceSub, Nat.reduceMul, Nat.reduceLeDiff, Nat.reducePow, Nat.reduceBEq, Nat.reduceAdd, Nat.reduceEqDiff, reduceCtorEq, Int.reduceToNat, dC_length, dC_take, Bool.not_true, Bool.not_false]; done)) | refine qqa ?_ | refine qqb ?_ | refine qqc ?_ | refine And.intro (by first | assumption | omega) ?_)
    refine ⟨_, haw, rfl, ?_⟩
    try simp only [kS, Nat.reduceSub, Nat.reduceMul, Nat.reduceLeDiff, Nat.reducePow, Nat.reduceBEq, Nat.reduceAdd, Nat.reduceEqDiff, reduceCtorEq, Int.reduceToNat, dC_length, dC_take, Bool.not_true, Bool.not_false]
    repeat (first | refine qq1 fun Z hN hX hR => ?_ | refine qq2 fun Z hN hX hR => ?_ | refine qq3 (by kernel_rfl) fun K hK => ?_ | ((first | refine qq4 fun R hRR => ?_ | with_reducible change ExpAll _ _ _); simp only [kS, Nat.reduceSub, Nat.reduceMul, Nat.reduceLeDiff, Nat.reducePow, Nat.reduceBEq, Nat.reduceAdd, Nat.reduceEqDiff, reduceCtorEq, Int.reduceToNat, dC_length, dC_take, Bool.not_true, Bool.not_false]) | (refine hRR _ ?_; clear hRR R) | refine qq5 ?_ | (refine hK _ ?_; clear hK K) | ((first | refine hN _ ?_ | refine hX _ _ ?_ | refine hR _ ?_); clear hN hX hR Z) | refine qq6 rfl ?_ | refine qq7 (by decide) ?_ | (refine qq8 ?_ ?_; focus (simp only [kS, Nat.reduceSub, Nat.reduceMul, Nat.reduceLeDiff, Nat.reducePow, Nat.reduceBEq, Nat.reduceAdd, Nat.reduceEqDiff, reduceCtorEq, Int.reduceToNat, dC_length, dC_take, Bool.not_true, Bool.not_false]; done)) | (refine qq9 ?_ ?_; focus (simp only [kS, Nat.reduceSub, Nat.reduceMul, Nat.reduceLeDiff, Nat.reducePow, Nat.reduceBEq, Nat.reduceAdd, Nat.reduceEqDiff, reduceCtorEq, Int.reduceToNat, dC_length, dC_take, Bool.not_true, Bool.not_false]; done)) | refine qqa ?_ | refine qqb ?_ | refine qqc ?_ | refine And.intro (by first | assumption | omega) ?_)
    all_goals rfl
  rw [gr] at hright
  obtain ⟨hwf, hwo⟩ := rightB_ok gr f1
  have hf6 : ∀ n ∈ d, n.s.size ≤ 1000000 := fun n hn => by have := f2 n hn; omega
  have hfit := fits_ret glD d s hwf hf6 gr hsl
  refine ⟨_, hright, rfl, ?_⟩
  try simp only [kS, Nat.reduceSub, Nat.reduceMul, Nat.reduceLeDiff, Nat.reducePow, Nat.reduceBEq, Nat.reduceAdd, Nat.reduceEqDiff, reduceCtorEq, Int.reduceToNat, dC_length, dC_take, Bool.not_true, Bool.not_false]
  repeat (first | refine qq1 fun Z hN hX hR => ?_ | refine qq2 fun Z hN hX hR => ?_ | refine qq3 (by kernel_rfl) fun K hK => ?_ | ((first | refine qq4 fun R hRR => ?_ | with_reducible change ExpAll _ _ _); simp only [kS, Nat.reduceSub, Nat.reduceMul, Nat.reduceLeDiff, Nat.reducePow, Nat.reduceBEq, Nat.reduceAdd, Nat.reduceEqDiff, reduceCtorEq, Int.reduceToNat, dC_length, dC_take, Bool.not_true, Bool.not_false]) | (refine hRR _ ?_; clear hRR R) | refine qq5 ?_ | (refine hK _ ?_; clear hK K) | ((first | refine hN _ ?_ | refine hX _ _ ?_ | refine hR _ ?_); clear hN hX hR Z) | refine qq6 rfl ?_ | refine qq7 (by decide) ?_ | (refine qq8 ?_ ?_; focus (simp only [kS, Nat.reduceSub, Nat.reduceMul, Nat.reduceLeDiff, Nat.reducePow, Nat.reduceBEq, Nat.reduceAdd, Nat.reduceEqDiff, reduceCtorEq, Int.reduceToNat, dC_length, dC_take, Bool.not_true, Bool.not_false]; done)) | (refine qq9 ?_ ?_; focus (simp only [kS, Nat.reduceSub, Nat.reduceMul, Nat.reduceLeDiff, Nat.reducePow, Nat.reduceBEq, Nat.reduceAdd, Nat.reduceEqDiff, reduceCtorEq, Int.reduceToNat, dC_length, dC_take, Bool.not_true, Bool.not_false]; done)) | refine qqa ?_ | refine qqb ?_ | refine qqc ?_ | refine And.intro (by first | assumption | omega) ?_)
  cases gt : fitsB d s
  · rw [gt] at hfit
    refine ⟨_, hfit, rfl, ?_⟩
    try simp only [kS, Nat.reduceSub, Nat.reduceMul, Nat.reduceLeDiff, Nat.reducePow, Nat.reduceBEq, Nat.reduceAdd, Nat.reduceEqDiff, reduceCtorEq, Int.reduceToNat, dC_length, dC_take, Bool.not_true, Bool.not_false]
    repeat (first | refine qq1 fun Z hN hX hR => ?_ | refine qq2 fun Z hN hX hR => ?_ | refine qq3 (by kernel_rfl) fun K hK => ?_ | ((first | refine qq4 fun R hRR => ?_ | with_reducible change ExpAll _ _ _); simp only [kS, Nat.reduceSub, Nat.reduceMul, Nat.reduceLeDiff, Nat.reducePow, Nat.reduceBEq, Nat.reduceAdd, Nat.reduceEqDiff, reduceCtorEq, Int.reduceToNat, dC_length, dC_take, Bool.not_true, Bool.not_false]) | (refine hRR _ ?_; clear hRR R) | refine qq5 ?_ | (refine hK _ ?_; clear hK K) | ((first | refine hN _ ?_ | refine hX _ _ ?_ | refine hR _ ?_); clear hN hX hR Z) | refine qq6 rfl ?_ | refine qq7 (by decide) ?_ | (refine qq8 ?_ ?_; focus (simp only [kS, Nat.reduceSub, Nat.reduceMul, Nat.reduceLeDiff, Nat.reducePow, Nat.reduceBEq, Nat.reduceAdd, Nat.reduceEqDiff, reduceCtorEq, Int.reduceToNat, dC_length, dC_take, Bool.not_true, Bool.not_false]; done)) | (refine qq9 ?_ ?_; focus (simp only [kS, Nat.reduceSub, Nat.reduceMul, Nat.reduceLeDiff, Nat.reducePow, Nat.reduceBEq, Nat.reduceAdd, Nat.reduceEqDiff, reduceCtorEq, Int.reduceToNat, dC_length, dC_take, Bool.not_true, Bool.not_false]; done)) | refine qqa ?_ | refine qqb ?_ | refine qqc ?_ | refine And.intro (by first | assumption | omega) ?_)
    refine ⟨_, haw, rfl, ?_⟩
    try simp only [kS, Nat.reduceSub, Nat.reduceMul, Nat.reduceLeDiff, Nat.reducePow, Nat.reduceBEq, Nat.reduceAdd, Nat.reduceEqDiff, reduceCtorEq, Int.reduceToNat, dC_length, dC_take, Bool.not_true, Bool.not_false]
    repeat (first | refine qq1 fun Z hN hX hR => ?_ | refine qq2 fun Z hN hX hR => ?_ | refine qq3 (by kernel_rfl) fun K hK => ?_ | ((first | refine qq4 fun R hRR => ?_ | with_reducible change ExpAll _ _ _); simp only [kS, Nat.reduceSub, Nat.reduceMul, Nat.reduceLeDiff, Nat.reducePow, Nat.reduceBEq, Nat.reduceAdd, Nat.reduceEqDiff, reduceCtorEq, Int.reduceToNat, dC_length, dC_take, Bool.not_true, Bool.not_false]) | (refine hRR _ ?_; clear hRR R) | refine qq5 ?_ | (refine hK _ ?_; clear hK K) | ((first | refine hN _ ?_ | refine hX _ _ ?_ | refine hR _ ?_); clear hN hX hR Z) | refine qq6 rfl ?_ | refine qq7 (by decide) ?_ | (refine qq8 ?_ ?_; focus (simp only [kS, Nat.reduceSub, Nat.reduceMul, Nat.reduceLeDiff, Nat.reducePow, Nat.reduceBEq, Nat.reduceAdd, Nat.reduceEqDiff, reduceCtorEq, Int.reduceToNat, dC_length, dC_take, Bool.not_true, Bool.not_false]; done)) | (refine qq9 ?_ ?_; focus (simp only [kS, Nat.reduceSub, Nat.reduceMul, Nat.reduceLeDiff, Nat.reducePow, Nat.reduceBEq, Nat.reduceAdd, Nat.reduceEqDiff, reduceCtorEq, Int.reduceToNat, dC_length, dC_take, Bool.not_true, Bool.not_false]; done)) | refine qqa ?_ | refine qqb ?_ | refine qqc ?_ | refine And.intro (by first | assumption | omega) ?_)
    all_goals rfl
  rw [gt] at hfit
  have F := fit14 hwf hf6 gt
  refine ⟨_, hfit, rfl, ?_⟩
  try simp only [kS, Nat.reduceSub, Nat.reduceMul, Nat.reduceLeDiff, Nat.reducePow, Nat.reduceBEq, Nat.reduceAdd, Nat.reduceEqDiff, reduceCtorEq, Int.reduceToNat, dC_length, dC_take, Bool.not_true, Bool.not_false]
  repeat (first | refine qq1 fun Z hN hX hR => ?_ | refine qq2 fun Z hN hX hR => ?_ | refine qq3 (by kernel_rfl) fun K hK => ?_ | ((first | refine qq4 fun R hRR => ?_ | with_reducible change ExpAll _ _ _); simp only [kS, Nat.reduceSub, Nat.reduceMul, Nat.reduceLeDiff, Nat.reducePow, Nat.reduceBEq, Nat.reduceAdd, Nat.reduceEqDiff, reduceCtorEq, Int.reduceToNat, dC_length, dC_take, Bool.not_true, Bool.not_false]) | (refine hRR _ ?_; clear hRR R) | refine qq5 ?_ | (refine hK _ ?_; clear hK K) | ((first | refine hN _ ?_ | refine hX _ _ ?_ | refine hR _ ?_); clear hN hX hR Z) | refine qq6 rfl ?_ | refine qq7 (by decide) ?_ | (refine qq8 ?_ ?_; focus (simp only [kS, Nat.reduceSub, Nat.reduceMul, Nat.reduceLeDiff, Nat.reducePow, Nat.reduceBEq, Nat.reduceAdd, Nat.reduceEqDiff, reduceCtorEq, Int.reduceToNat, dC_length, dC_take, Bool.not_true, Bool.not_false]; done)) | (refine qq9 ?_ ?_; focus (simp only [kS, Nat.reduceSub, Nat.reduceMul, Nat.reduceLeDiff, Nat.reducePow, Nat.reduceBEq, Nat.reduceAdd, Nat.reduceEqDiff, reduceCtorEq, Int.reduceToNat, dC_length, dC_take, Bool.not_true, Bool.not_false]; done)) | refine qqa ?_ | refine qqb ?_ | refine qqc ?_ | refine And.intro (by first | assumption | omega) ?_)
  have hr12 := ready12_ret glD rfl d hwf s (gd_inR F.gd)
  have hslen := F.len
  refine ⟨_, F.heads, rfl, ?_⟩
  try simp only [kS, Nat.reduceSub, Nat.reduceMul, Nat.reduceLeDiff, Nat.reducePow, Nat.reduceBEq, Nat.reduceAdd, Nat.reduceEqDiff, reduceCtorEq, Int.reduceToNat, dC_length, dC_take, Bool.not_true, Bool.not_false]
  repeat (first | refine qq1 fun Z hN hX hR => ?_ | refine qq2 fun Z hN hX hR => ?_ | refine qq3 (by kernel_rfl) fun K hK => ?_ | ((first | refine qq4 fun R hRR => ?_ | with_reducible change ExpAll _ _ _); simp only [kS, Nat.reduceSub, Nat.reduceMul, Nat.reduceLeDiff, Nat.reducePow, Nat.reduceBEq, Nat.reduceAdd, Nat.reduceEqDiff, reduceCtorEq, Int.reduceToNat, dC_length, dC_take, Bool.not_true, Bool.not_false]) | (refine hRR _ ?_; clear hRR R) | refine qq5 ?_ | (refine hK _ ?_; clear hK K) | ((first | refine hN _ ?_ | refine hX _ _ ?_ | refine hR _ ?_); clear hN hX hR Z) | refine qq6 rfl ?_ | refine qq7 (by decide) ?_ | (refine qq8 ?_ ?_; focus (simp only [kS, Nat.reduceSub, Nat.reduceMul, Nat.reduceLeDiff, Nat.reducePow, Nat.reduceBEq, Nat.reduceAdd, Nat.reduceEqDiff, reduceCtorEq, Int.reduceToNat, dC_length, dC_take, Bool.not_true, Bool.not_false]; done)) | (refine qq9 ?_ ?_; focus (simp only [kS, Nat.reduceSub, Nat.reduceMul, Nat.reduceLeDiff, Nat.reducePow, Nat.reduceBEq, Nat.reduceAdd, Nat.reduceEqDiff, reduceCtorEq, Int.reduceToNat, dC_length, dC_take, Bool.not_true, Bool.not_false]; done)) | refine qqa ?_ | refine qqb ?_ | refine qqc ?_ | refine And.intro (by first | assumption | omega) ?_)
  cases grd : rdy d s
  · rw [grd] at hr12
    refine ⟨_, hr12, rfl, ?_⟩
    try simp only [kS, Nat.reduceSub, Nat.reduceMul, Nat.reduceLeDiff, Nat.reducePow, Nat.reduceBEq, Nat.reduceAdd, Nat.reduceEqDiff, reduceCtorEq, Int.reduceToNat, dC_length, dC_take, Bool.not_true, Bool.not_false]
    repeat (first | refine qq1 fun Z hN hX hR => ?_ | refine qq2 fun Z hN hX hR => ?_ | refine qq3 (by kernel_rfl) fun K hK => ?_ | ((first | refine qq4 fun R hRR => ?_ | with_reducible change ExpAll _ _ _); simp only [kS, Nat.reduceSub, Nat.reduceMul, Nat.reduceLeDiff, Nat.reducePow, Nat.reduceBEq, Nat.reduceAdd, Nat.reduceEqDiff, reduceCtorEq, Int.reduceToNat, dC_length, dC_take, Bool.not_true, Bool.not_false]) | (refine hRR _ ?_; clear hRR R) | refine qq5 ?_ | (refine hK _ ?_; clear hK K) | ((first | refine hN _ ?_ | refine hX _ _ ?_ | refine hR _ ?_); clear hN hX hR Z) | refine qq6 rfl ?_ | refine qq7 (by decide) ?_ | (refine qq8 ?_ ?_; focus (simp only [kS, Nat.reduceSub, Nat.reduceMul, Nat.reduceLeDiff, Nat.reducePow, Nat.reduceBEq, Nat.reduceAdd, Nat.reduceEqDiff, reduceCtorEq, Int.reduceToNat, dC_length, dC_take, Bool.not_true, Bool.not_false]; done)) | (refine qq9 ?_ ?_; focus (simp only [kS, Nat.reduceSub, Nat.reduceMul, Nat.reduceLeDiff, Nat.reducePow, Nat.reduceBEq, Nat.reduceAdd, Nat.reduceEqDiff, reduceCtorEq, Int.reduceToNat, dC_length, dC_take, Bool.not_true, Bool.not_false]; done)) | refine qqa ?_ | refine qqb ?_ | refine qqc ?_ | refine And.intro (by first | assumption | omega) ?_)
    refine ⟨_, F.open_ glD grd, rfl, ?_⟩
    try simp only [kS, Nat.reduceSub, Nat.reduceMul, Nat.reduceLeDiff, Nat.reducePow, Nat.reduceBEq, Nat.reduceAdd, Nat.reduceEqDiff, reduceCtorEq, Int.reduceToNat, dC_length, dC_take, Bool.not_true, Bool.not_false]
    repeat (first | refine qq1 fun Z hN hX hR => ?_ | refine qq2 fun Z hN hX hR => ?_ | refine qq3 (by kernel_rfl) fun K hK => ?_ | ((first | refine qq4 fun R hRR => ?_ | with_reducible change ExpAll _ _ _); simp only [kS, Nat.reduceSub, Nat.reduceMul, Nat.reduceLeDiff, Nat.reducePow, Nat.reduceBEq, Nat.reduceAdd, Nat.reduceEqDiff, reduceCtorEq, Int.reduceToNat, dC_length, dC_take, Bool.not_true, Bool.not_false]) | (refine hRR _ ?_; clear hRR R) | refine qq5 ?_ | (refine hK _ ?_; clear hK K) | ((first | refine hN _ ?_ | refine hX _ _ ?_ | refine hR _ ?_); clear hN hX hR Z) | refine qq6 rfl ?_ | refine qq7 (by decide) ?_ | (refine qq8 ?_ ?_; focus (simp only [kS, Nat.reduceSub, Nat.reduceMul, Nat.reduceLeDiff, Nat.reducePow, Nat.reduceBEq, Nat.reduceAdd, Nat.reduceEqDiff, reduceCtorEq, Int.reduceToNat, dC_length, dC_take, Bool.not_true, Bool.not_false]; done)) | (refine qq9 ?_ ?_; focus (simp only [kS, Nat.reduceSub, Nat.reduceMul, Nat.reduceLeDiff, Nat.reducePow, Nat.reduceBEq, Nat.reduceAdd, Nat.reduceEqDiff, reduceCtorEq, Int.reduceToNat, dC_length, dC_take, Bool.not_true, Bool.not_false]; done)) | refine qqa ?_ | refine qqb ?_ | refine qqc ?_ | refine And.intro (by first | assumption | omega) ?_)
    have hol := openS_len d s
    have hop := fun t ht => fit_open F grd (t := t) ht
    refine awq_loop (fun c f => ∃ (i : Nat) (l : List Br), i ≤ (openS d s).length ∧ c = (openS d s).length - i ∧ f.t 8 = iv (i : Int) ∧ f.t 6 = .c (ssS (openS d s)) ∧ f.t 5 = .c (brC (headsS d 1500 s)) ∧
      OkL l (i * 1500) ∧ allH d 1499 ((openS d s).drop i) l = allH d 1499 (openS d s) [] ∧ (f.t 7 = .nil ∧ l = [] ∨ f.t 7 = .c (brC l)) ∧ f.t 2 = .ref 2 1 0 ∧ f.ob 2 1 = .box (dC d) ∧ 1 < f.k) (openS d s).length ?_ ?_
    · exact ⟨0, [], by omega, rfl, by first | (simp only [kS, Nat.reduceSub, Nat.reduceMul, Nat.reduceLeDiff, Nat.reducePow, Nat.reduceBEq, Nat.reduceAdd, Nat.reduceEqDiff, reduceCtorEq, Int.reduceToNat]; done) | (simp only [kS, Nat.reduceSub, Nat.reduceMul, Nat.reduceLeDiff, Nat.reducePow, Nat.reduceBEq, Nat.reduceAdd, Nat.reduceEqDiff, reduceCtorEq, Int.reduceToNat]; omega) | (simp only [kS, Nat.reduceSub, Nat.reduceMul, Nat.reduceLeDiff, Nat.reducePow, Nat.reduceBEq, Nat.reduceAdd, Nat.reduceEqDiff, reduceCtorEq, Int.reduceToNat]; rfl), by first | (simp only [kS, Nat.reduceSub, Nat.reduceMul, Nat.reduceLeDiff, Nat.reducePow, Nat.reduceBEq, Nat.reduceAdd, Nat.reduceEqDiff, reduceCtorEq, Int.reduceToNat]; done) | (simp only [kS, Nat.reduceSub, Nat.reduceMul, Nat.reduceLeDiff, Nat.reducePow, Nat.reduceBEq, Nat.reduceAdd, Nat.reduceEqDiff, reduceCtorEq, Int.reduceToNat]; omega) | (simp only [kS, Nat.reduceSub, Nat.reduceMul, Nat.reduceLeDiff, Nat.reducePow, Nat.reduceBEq, Nat.reduceAdd, Nat.reduceEqDiff, reduceCtorEq, Int.reduceToNat]; rfl), by first | (simp only [kS, Nat.reduceSub, Nat.reduceMul, Nat.reduceLeDiff, Nat.reducePow, Nat.reduceBEq, Nat.reduceAdd, Nat.reduceEqDiff, reduceCtorEq, Int.reduceToNat]; done) | (simp only [kS, Nat.reduceSub, Nat.reduceMul, Nat.reduceLeDiff, Nat.reducePow, Nat.reduceBEq, Nat.reduceAdd, Nat.reduceEqDiff, reduceCtorEq, Int.reduceToNat]; omega) | (simp only [kS, Nat.reduceSub, Nat.reduceMul, Nat.reduceLeDiff, Nat.reducePow, Nat.reduceBEq, Nat.reduceAdd, Nat.reduceEqDiff, reduceCtorEq, Int.reduceToNat]; rfl), ⟨fun x hx => (by cases hx), fun x hx => (by cases hx), Nat.le_refl _⟩, by rw [List.drop_zero], .inl ⟨by first | (simp only [kS, Nat.reduceSub, Nat.reduceMul, Nat.reduceLeDiff, Nat.reducePow, Nat.reduceBEq, Nat.reduceAdd, Nat.reduceEqDiff, reduceCtorEq, Int.reduceToNat]; done) | (simp only [kS, Nat.reduceSub, Nat.reduceMul, Nat.reduceLeDiff, Nat.reducePow, Nat.reduceBEq, Nat.reduceAdd, Nat.reduceEqDiff, reduceCtorEq, Int.reduceToNat]; omega) | (simp only [kS, Nat.reduceSub, Nat.reduceMul, Nat.reduceLeDiff, Nat.reducePow, Nat.reduceBEq, Nat.reduceAdd, Nat.reduceEqDiff, reduceCtorEq, Int.reduceToNat]; rfl), rfl⟩, by first | (simp only [kS, Nat.reduceSub, Nat.reduceMul, Nat.reduceLeDiff, Nat.reducePow, Nat.reduceBEq, Nat.reduceAdd, Nat.reduceEqDiff, reduceCtorEq, Int.reduceToNat]; done) | (simp only [kS, Nat.reduceSub, Nat.reduceMul, Nat.reduceLeDiff, Nat.reducePow, Nat.reduceBEq, Nat.reduceAdd, Nat.reduceEqDiff, reduceCtorEq, Int.reduceToNat]; omega) | (simp only [kS, Nat.reduceSub, Nat.reduceMul, Nat.reduceLeDiff, Nat.reducePow, Nat.reduceBEq, Nat.reduceAdd, Nat.reduceEqDiff, reduceCtorEq, Int.reduceToNat]; rfl), by first | (simp only [kS, Nat.reduceSub, Nat.reduceMul, Nat.reduceLeDiff, Nat.reducePow, Nat.reduceBEq, Nat.reduceAdd, Nat.reduceEqDiff, reduceCtorEq, Int.reduceToNat]; done) | (simp only [kS, Nat.reduceSub, Nat.reduceMul, Nat.reduceLeDiff, Nat.reducePow, Nat.reduceBEq, Nat.reduceAdd, Nat.reduceEqDiff, reduceCtorEq, Int.reduceToNat]; omega) | (simp only [kS, Nat.reduceSub, Nat.reduceMul, Nat.reduceLeDiff, Nat.reducePow, Nat.reduceBEq, Nat.reduceAdd, Nat.reduceEqDiff, reduceCtorEq, Int.reduceToNat]; rfl), by first | (simp only [kS, Nat.reduceSub, Nat.reduceMul, Nat.reduceLeDiff, Nat.reducePow, Nat.reduceBEq, Nat.reduceAdd, Nat.reduceEqDiff, reduceCtorEq, Int.reduceToNat]; done) | (simp only [kS, Nat.reduceSub, Nat.reduceMul, Nat.reduceLeDiff, Nat.reducePow, Nat.reduceBEq, Nat.reduceAdd, Nat.reduceEqDiff, reduceCtorEq, Int.reduceToNat]; omega) | (simp only [kS, Nat.reduceSub, Nat.reduceMul, Nat.reduceLeDiff, Nat.reducePow, Nat.reduceBEq, Nat.reduceAdd, Nat.reduceEqDiff, reduceCtorEq, Int.reduceToNat]; rfl)⟩
    rintro Z c f hN hX hR ⟨i, l, hi, rfl, h8, h6, h5, hok, hc, h7, h2, hb, hk⟩
    have el := ssC_length (openS d s)
    by_cases hlt : i < (openS d s).length
    · have hlt' : (i : Int) < ((openS d s).length : Int) := by omega
      have e := ssC_drop (openS d s) i hlt
      have hmem := List.getElem_mem hlt
      obtain ⟨o1, o2, o3, o4, o5, o6⟩ := hop _ hmem
      have hh := heads15_ret d hwf 1499 (openS d s)[i] o1 o2 o3 (by omega) (by omega) (by omega)
      have gok := heads_okL hwf (k := 1499) o2 (by omega)
      rw [List.drop_eq_getElem_cons hlt] at hc
      generalize (openS d s)[i] = t at *
      have hc : allH d 1499 ((openS d s).drop (i + 1)) (addH l (headsS d 1499 t)) = allH d 1499 (openS d s) [] := hc
      generalize headsS d 1499 t = g at *
      repeat (first | refine qq1 fun Z hN hX hR => ?_ | refine qq2 fun Z hN hX hR => ?_ | refine qq3 (by kernel_rfl) fun K hK => ?_ | ((first | refine qq4 fun R hRR => ?_ | with_reducible change ExpAll _ _ _); simp only [kS, Nat.reduceSub, Nat.reduceMul, Nat.reduceLeDiff, Nat.reducePow, Nat.reduceBEq, Nat.reduceAdd, Nat.reduceEqDiff, reduceCtorEq, Int.reduceToNat, h8, h6, h5, h2, hb, hlt, hlt', e, el, decide_true, dC_length, dC_take]) | (refine hRR _ ?_; clear hRR R) | refine qq5 ?_ | (refine hK _ ?_; clear hK K) | ((first | refine hN _ ?_ | refine hX _ _ ?_ | refine hR _ ?_); clear hN hX hR Z) | refine qq6 rfl ?_ | refine qq7 (by decide) ?_ | (refine qq8 ?_ ?_; focus (simp only [kS, Nat.reduceSub, Nat.reduceMul, Nat.reduceLeDiff, Nat.reducePow, Nat.reduceBEq, Nat.reduceAdd, Nat.reduceEqDiff, reduceCtorEq, Int.reduceToNat, h8, h6, h5, h2, hb, hlt, hlt', e, el, decide_true, dC_length, dC_take]; done)) | (refine qq9 ?_ ?_; focus (simp only [kS, Nat.reduceSub, Nat.reduceMul, Nat.reduceLeDiff, Nat.reducePow, Nat.reduceBEq, Nat.reduceAdd, Nat.reduceEqDiff, reduceCtorEq, Int.reduceToNat, h8, h6, h5, h2, hb, hlt, hlt', e, el, decide_true, dC_length, dC_take]; done)) | refine qqa ?_ | refine qqb ?_ | refine qqc ?_ | refine And.intro (by first | assumption | omega) ?_)
      refine ⟨_, hh, rfl, ?_⟩
      try simp only [kS, Nat.reduceSub, Nat.reduceMul, Nat.reduceLeDiff, Nat.reducePow, Nat.reduceBEq, Nat.reduceAdd, Nat.reduceEqDiff, reduceCtorEq, Int.reduceToNat, h8, h6, h5, h2, hb]
      repeat (first | refine qq1 fun Z hN hX hR => ?_ | refine qq2 fun Z hN hX hR => ?_ | refine qq3 (by kernel_rfl) fun K hK => ?_ | ((first | refine qq4 fun R hRR => ?_ | with_reducible change ExpAll _ _ _); simp only [kS, Nat.reduceSub, Nat.reduceMul, Nat.reduceLeDiff, Nat.reducePow, Nat.reduceBEq, Nat.reduceAdd, Nat.reduceEqDiff, reduceCtorEq, Int.reduceToNat, h8, h6, h5, h2, hb]) | (refine hRR _ ?_; clear hRR R) | refine qq5 ?_ | (refine hK _ ?_; clear hK K) | ((first | refine hN _ ?_ | refine hX _ _ ?_ | refine hR _ ?_); clear hN hX hR Z) | refine qq6 rfl ?_ | refine qq7 (by decide) ?_ | (refine qq8 ?_ ?_; focus (simp only [kS, Nat.reduceSub, Nat.reduceMul, Nat.reduceLeDiff, Nat.reducePow, Nat.reduceBEq, Nat.reduceAdd, Nat.reduceEqDiff, reduceCtorEq, Int.reduceToNat, h8, h6, h5, h2, hb]; done)) | (refine qq9 ?_ ?_; focus (simp only [kS, Nat.reduceSub, Nat.reduceMul, Nat.reduceLeDiff, Nat.reducePow, Nat.reduceBEq, Nat.reduceAdd, Nat.reduceEqDiff, reduceCtorEq, Int.reduceToNat, h8, h6, h5, h2, hb]; done)) | refine qqa ?_ | refine qqb ?_ | refine qqc ?_ | refine And.intro (by first | assumption | omega) ?_)
      have hglen := gok.len
      refine awq_loop (fun c f => ∃ (j : Nat) (m : List Br), j ≤ g.length ∧ c = g.length - j ∧ f.t 10 = iv (j : Int) ∧ f.t 9 = .c (brC g) ∧ f.t 8 = iv (i : Int) ∧ f.t 6 = .c (ssS (openS d s)) ∧ f.t 5 = .c (brC (headsS d 1500 s)) ∧
        OkL m (i * 1500 + j) ∧ addH m (g.drop j) = addH l g ∧ (f.t 7 = .nil ∧ m = [] ∨ f.t 7 = .c (brC m)) ∧ f.t 2 = .ref 2 1 0 ∧ f.ob 2 1 = .box (dC d) ∧ 1 < f.k) g.length ?_ ?_
      · exact ⟨0, l, by omega, rfl, by first | (simp only [kS, Nat.reduceSub, Nat.reduceMul, Nat.reduceLeDiff, Nat.reducePow, Nat.reduceBEq, Nat.reduceAdd, Nat.reduceEqDiff, reduceCtorEq, Int.reduceToNat]; done) | (simp only [kS, Nat.reduceSub, Nat.reduceMul, Nat.reduceLeDiff, Nat.reducePow, Nat.reduceBEq, Nat.reduceAdd, Nat.reduceEqDiff, reduceCtorEq, Int.reduceToNat]; omega) | (simp only [kS, Nat.reduceSub, Nat.reduceMul, Nat.reduceLeDiff, Nat.reducePow, Nat.reduceBEq, Nat.reduceAdd, Nat.reduceEqDiff, reduceCtorEq, Int.reduceToNat]; rfl), by first | (simp only [kS, Nat.reduceSub, Nat.reduceMul, Nat.reduceLeDiff, Nat.reducePow, Nat.reduceBEq, Nat.reduceAdd, Nat.reduceEqDiff, reduceCtorEq, Int.reduceToNat]; done) | (simp only [kS, Nat.reduceSub, Nat.reduceMul, Nat.reduceLeDiff, Nat.reducePow, Nat.reduceBEq, Nat.reduceAdd, Nat.reduceEqDiff, reduceCtorEq, Int.reduceToNat]; omega) | (simp only [kS, Nat.reduceSub, Nat.reduceMul, Nat.reduceLeDiff, Nat.reducePow, Nat.reduceBEq, Nat.reduceAdd, Nat.reduceEqDiff, reduceCtorEq, Int.reduceToNat]; rfl), by simp only [kS, Nat.reduceSub, Nat.reduceMul, Nat.reduceLeDiff, Nat.reducePow, Nat.reduceBEq, Nat.reduceAdd, Nat.reduceEqDiff, reduceCtorEq, Int.reduceToNat, h8], by simp only [kS, Nat.reduceSub, Nat.reduceMul, Nat.reduceLeDiff, Nat.reducePow, Nat.reduceBEq, Nat.reduceAdd, Nat.reduceEqDiff, reduceCtorEq, Int.reduceToNat, h6], by simp only [kS, Nat.reduceSub, Nat.reduceMul, Nat.reduceLeDiff, Nat.reducePow, Nat.reduceBEq, Nat.reduceAdd, Nat.reduceEqDiff, reduceCtorEq, Int.reduceToNat, h5], by rw [Nat.add_zero]; exact hok, by rw [List.drop_zero], by rcases h7 with ⟨h7, h7'⟩ | h7; exact .inl ⟨by simp only [kS, Nat.reduceSub, Nat.reduceMul, Nat.reduceLeDiff, Nat.reducePow, Nat.reduceBEq, Nat.reduceAdd, Nat.reduceEqDiff, reduceCtorEq, Int.reduceToNat, h7], h7'⟩; exact .inr (by simp only [kS, Nat.reduceSub, Nat.reduceMul, Nat.reduceLeDiff, Nat.reducePow, Nat.reduceBEq, Nat.reduceAdd, Nat.reduceEqDiff, reduceCtorEq, Int.reduceToNat, h7]), by simp only [kS, Nat.reduceSub, Nat.reduceMul, Nat.reduceLeDiff, Nat.reducePow, Nat.reduceBEq, Nat.reduceAdd, Nat.reduceEqDiff, reduceCtorEq, Int.reduceToNat, h2], by simp only [kS, Nat.reduceSub, Nat.reduceMul, Nat.reduceLeDiff, Nat.reducePow, Nat.reduceBEq, Nat.reduceAdd, Nat.reduceEqDiff, reduceCtorEq, Int.reduceToNat, hb], by first | (simp only [kS, Nat.reduceSub, Nat.reduceMul, Nat.reduceLeDiff, Nat.reducePow, Nat.reduceBEq, Nat.reduceAdd, Nat.reduceEqDiff, reduceCtorEq, Int.reduceToNat]; done) | (simp only [kS, Nat.reduceSub, Nat.reduceMul, Nat.reduceLeDiff, Nat.reducePow, Nat.reduceBEq, Nat.reduceAdd, Nat.reduceEqDiff, reduceCtorEq, Int.reduceToNat]; omega) | (simp only [kS, Nat.reduceSub, Nat.reduceMul, Nat.reduceLeDiff, Nat.reducePow, Nat.reduceBEq, Nat.reduceAdd, Nat.reduceEqDiff, reduceCtorEq, Int.reduceToNat]; rfl)⟩
      rintro Z c f' hN hX hR ⟨j, m, hj, rfl, k10, k9, k8, k6, k5, mok, mc, k7, k2, kb, kk⟩
      by_cases hjt : j < g.length
      · have d1 := bsC_drop g j hjt
        have bl := bsC_length g
        have hbm := List.getElem_mem hjt
        have b1 := gok.short _ hbm
        obtain ⟨b2, b3⟩ := gok.many _ hbm
        rw [List.drop_eq_getElem_cons hjt] at mc
        generalize g[j] = b at *
        have hadd := add_ret glD m b.to b.many mok.short b1 (by have := mok.len; omega) mok.many ⟨b2, b3⟩
        rcases k7 with ⟨k7, rfl⟩ | k7
        · repeat (first | refine qq1 fun Z hN hX hR => ?_ | refine qq2 fun Z hN hX hR => ?_ | refine qq3 (by kernel_rfl) fun K hK => ?_ | ((first | refine qq4 fun R hRR => ?_ | with_reducible change ExpAll _ _ _); simp only [kS, Nat.reduceSub, Nat.reduceMul, Nat.reduceLeDiff, Nat.reducePow, Nat.reduceBEq, Nat.reduceAdd, Nat.reduceEqDiff, reduceCtorEq, Int.reduceToNat, k10, k9, k8, k7, k6, k5, k2, kb, hjt, d1, bl, decide_true]) | (refine hRR _ ?_; clear hRR R) | refine qq5 ?_ | (refine hK _ ?_; clear hK K) | ((first | refine hN _ ?_ | refine hX _ _ ?_ | refine hR _ ?_); clear hN hX hR Z) | refine qq6 rfl ?_ | refine qq7 (by decide) ?_ | (refine qq8 ?_ ?_; focus (simp only [kS, Nat.reduceSub, Nat.reduceMul, Nat.reduceLeDiff, Nat.reducePow, Nat.reduceBEq, Nat.reduceAdd, Nat.reduceEqDiff, reduceCtorEq, Int.reduceToNat, k10, k9, k8, k7, k6, k5, k2, kb, hjt, d1, bl, decide_true]; done)) | (refine qq9 ?_ ?_; focus (simp only [kS, Nat.reduceSub, Nat.reduceMul, Nat.reduceLeDiff, Nat.reducePow, Nat.reduceBEq, Nat.reduceAdd, Nat.reduceEqDiff, reduceCtorEq, Int.reduceToNat, k10, k9, k8, k7, k6, k5, k2, kb, hjt, d1, bl, decide_true]; done)) | refine qqa ?_ | refine qqb ?_ | refine qqc ?_ | refine And.intro (by first | assumption | omega) ?_)
          refine ⟨_, hadd, rfl, ?_⟩
          try simp only [kS, Nat.reduceSub, Nat.reduceMul, Nat.reduceLeDiff, Nat.reducePow, Nat.reduceBEq, Nat.reduceAdd, Nat.reduceEqDiff, reduceCtorEq, Int.reduceToNat, k10, k9, k8, k7, k6, k5, k2, kb]
          repeat (first | refine qq1 fun Z hN hX hR => ?_ | refine qq2 fun Z hN hX hR => ?_ | refine qq3 (by kernel_rfl) fun K hK => ?_ | ((first | refine qq4 fun R hRR => ?_ | with_reducible change ExpAll _ _ _); simp only [kS, Nat.reduceSub, Nat.reduceMul, Nat.reduceLeDiff, Nat.reducePow, Nat.reduceBEq, Nat.reduceAdd, Nat.reduceEqDiff, reduceCtorEq, Int.reduceToNat, k10, k9, k8, k7, k6, k5, k2, kb]) | (refine hRR _ ?_; clear hRR R) | refine qq5 ?_ | (refine hK _ ?_; clear hK K) | ((first | refine hN _ ?_ | refine hX _ _ ?_ | refine hR _ ?_); clear hN hX hR Z) | refine qq6 rfl ?_ | refine qq7 (by decide) ?_ | (refine qq8 ?_ ?_; focus (simp only [kS, Nat.reduceSub, Nat.reduceMul, Nat.reduceLeDiff, Nat.reducePow, Nat.reduceBEq, Nat.reduceAdd, Nat.reduceEqDiff, reduceCtorEq, Int.reduceToNat, k10, k9, k8, k7, k6, k5, k2, kb]; done)) | (refine qq9 ?_ ?_; focus (simp only [kS, Nat.reduceSub, Nat.reduceMul, Nat.reduceLeDiff, Nat.reducePow, Nat.reduceBEq, Nat.reduceAdd, Nat.reduceEqDiff, reduceCtorEq, Int.reduceToNat, k10, k9, k8, k7, k6, k5, k2, kb]; done)) | refine qqa ?_ | refine qqb ?_ | refine qqc ?_ | refine And.intro (by first | assumption | omega) ?_)
          refine ⟨g.length - (j + 1), by omega, j + 1, addB [] b.to b.many false, by omega, rfl, ?_, by simp only [kS, Nat.reduceSub, Nat.reduceMul, Nat.reduceLeDiff, Nat.reducePow, Nat.reduceBEq, Nat.reduceAdd, Nat.reduceEqDiff, reduceCtorEq, Int.reduceToNat, k9], by simp only [kS, Nat.reduceSub, Nat.reduceMul, Nat.reduceLeDiff, Nat.reducePow, Nat.reduceBEq, Nat.reduceAdd, Nat.reduceEqDiff, reduceCtorEq, Int.reduceToNat, k8], by simp only [kS, Nat.reduceSub, Nat.reduceMul, Nat.reduceLeDiff, Nat.reducePow, Nat.reduceBEq, Nat.reduceAdd, Nat.reduceEqDiff, reduceCtorEq, Int.reduceToNat, k6], by simp only [kS, Nat.reduceSub, Nat.reduceMul, Nat.reduceLeDiff, Nat.reducePow, Nat.reduceBEq, Nat.reduceAdd, Nat.reduceEqDiff, reduceCtorEq, Int.reduceToNat, k5], by rw [← Nat.add_assoc]; exact addB_ok mok b1 ⟨b2, b3⟩, mc, .inr (by simp only [kS, Nat.reduceSub, Nat.reduceMul, Nat.reduceLeDiff, Nat.reducePow, Nat.reduceBEq, Nat.reduceAdd, Nat.reduceEqDiff, reduceCtorEq, Int.reduceToNat]), by simp only [kS, Nat.reduceSub, Nat.reduceMul, Nat.reduceLeDiff, Nat.reducePow, Nat.reduceBEq, Nat.reduceAdd, Nat.reduceEqDiff, reduceCtorEq, Int.reduceToNat, k2], by simp only [kS, Nat.reduceSub, Nat.reduceMul, Nat.reduceLeDiff, Nat.reducePow, Nat.reduceBEq, Nat.reduceAdd, Nat.reduceEqDiff, reduceCtorEq, Int.reduceToNat, kb], by first | (simp only [kS, Nat.reduceSub, Nat.reduceMul, Nat.reduceLeDiff, Nat.reducePow, Nat.reduceBEq, Nat.reduceAdd, Nat.reduceEqDiff, reduceCtorEq, Int.reduceToNat]; done) | (simp only [kS, Nat.reduceSub, Nat.reduceMul, Nat.reduceLeDiff, Nat.reducePow, Nat.reduceBEq, Nat.reduceAdd, Nat.reduceEqDiff, reduceCtorEq, Int.reduceToNat]; omega) | (simp only [kS, Nat.reduceSub, Nat.reduceMul, Nat.reduceLeDiff, Nat.reducePow, Nat.reduceBEq, Nat.reduceAdd, Nat.reduceEqDiff, reduceCtorEq, Int.reduceToNat]; rfl)⟩
          simp only [kS, Nat.reduceSub, Nat.reduceMul, Nat.reduceLeDiff, Nat.reducePow, Nat.reduceBEq, Nat.reduceAdd, Nat.reduceEqDiff, reduceCtorEq, Int.reduceToNat]
          rw [wrap_i64 (by omega) (by omega)]; rfl
        · repeat (first | refine qq1 fun Z hN hX hR => ?_ | refine qq2 fun Z hN hX hR => ?_ | refine qq3 (by kernel_rfl) fun K hK => ?_ | ((first | refine qq4 fun R hRR => ?_ | with_reducible change ExpAll _ _ _); simp only [kS, Nat.reduceSub, Nat.reduceMul, Nat.reduceLeDiff, Nat.reducePow, Nat.reduceBEq, Nat.reduceAdd, Nat.reduceEqDiff, reduceCtorEq, Int.reduceToNat, k10, k9, k8, k7, k6, k5, k2, kb, hjt, d1, bl, decide_true]) | (refine hRR _ ?_; clear hRR R) | refine qq5 ?_ | (refine hK _ ?_; clear hK K) | ((first | refine hN _ ?_ | refine hX _ _ ?_ | refine hR _ ?_); clear hN hX hR Z) | refine qq6 rfl ?_ | refine qq7 (by decide) ?_ | (refine qq8 ?_ ?_; focus (simp only [kS, Nat.reduceSub, Nat.reduceMul, Nat.reduceLeDiff, Nat.reducePow, Nat.reduceBEq, Nat.reduceAdd, Nat.reduceEqDiff, reduceCtorEq, Int.reduceToNat, k10, k9, k8, k7, k6, k5, k2, kb, hjt, d1, bl, decide_true]; done)) | (refine qq9 ?_ ?_; focus (simp only [kS, Nat.reduceSub, Nat.reduceMul, Nat.reduceLeDiff, Nat.reducePow, Nat.reduceBEq, Nat.reduceAdd, Nat.reduceEqDiff, reduceCtorEq, Int.reduceToNat, k10, k9, k8, k7, k6, k5, k2, kb, hjt, d1, bl, decide_true]; done)) | refine qqa ?_ | refine qqb ?_ | refine qqc ?_ | refine And.intro (by first | assumption | omega) ?_)
          refine ⟨_, hadd, rfl, ?_⟩
          try simp only [kS, Nat.reduceSub, Nat.reduceMul, Nat.reduceLeDiff, Nat.reducePow, Nat.reduceBEq, Nat.reduceAdd, Nat.reduceEqDiff, reduceCtorEq, Int.reduceToNat, k10, k9, k8, k7, k6, k5, k2, kb]
          repeat (first | refine qq1 fun Z hN hX hR => ?_ | refine qq2 fun Z hN hX hR => ?_ | refine qq3 (by kernel_rfl) fun K hK => ?_ | ((first | refine qq4 fun R hRR => ?_ | with_reducible change ExpAll _ _ _); simp only [kS, Nat.reduceSub, Nat.reduceMul, Nat.reduceLeDiff, Nat.reducePow, Nat.reduceBEq, Nat.reduceAdd, Nat.reduceEqDiff, reduceCtorEq, Int.reduceToNat, k10, k9, k8, k7, k6, k5, k2, kb]) | (refine hRR _ ?_; clear hRR R) | refine qq5 ?_ | (refine hK _ ?_; clear hK K) | ((first | refine hN _ ?_ | refine hX _ _ ?_ | refine hR _ ?_); clear hN hX hR Z) | refine qq6 rfl ?_ | refine qq7 (by decide) ?_ | (refine qq8 ?_ ?_; focus (simp only [kS, Nat.reduceSub, Nat.reduceMul, Nat.reduceLeDiff, Nat.reducePow, Nat.reduceBEq, Nat.reduceAdd, Nat.reduceEqDiff, reduceCtorEq, Int.reduceToNat, k10, k9, k8, k7, k6, k5, k2, kb]; done)) | (refine qq9 ?_ ?_; focus (simp only [kS, Nat.reduceSub, Nat.reduceMul, Nat.reduceLeDiff, Nat.reducePow, Nat.reduceBEq, Nat.reduceAdd, Nat.reduceEqDiff, reduceCtorEq, Int.reduceToNat, k10, k9, k8, k7, k6, k5, k2, kb]; done)) | refine qqa ?_ | refine qqb ?_ | refine qqc ?_ | refine And.intro (by first | assumption | omega) ?_)
          refine ⟨g.length - (j + 1), by omega, j + 1, addB m b.to b.many false, by omega, rfl, ?_, by simp only [kS, Nat.reduceSub, Nat.reduceMul, Nat.reduceLeDiff, Nat.reducePow, Nat.reduceBEq, Nat.reduceAdd, Nat.reduceEqDiff, reduceCtorEq, Int.reduceToNat, k9], by simp only [kS, Nat.reduceSub, Nat.reduceMul, Nat.reduceLeDiff, Nat.reducePow, Nat.reduceBEq, Nat.reduceAdd, Nat.reduceEqDiff, reduceCtorEq, Int.reduceToNat, k8], by simp only [kS, Nat.reduceSub, Nat.reduceMul, Nat.reduceLeDiff, Nat.reducePow, Nat.reduceBEq, Nat.reduceAdd, Nat.reduceEqDiff, reduceCtorEq, Int.reduceToNat, k6], by simp only [kS, Nat.reduceSub, Nat.reduceMul, Nat.reduceLeDiff, Nat.reducePow, Nat.reduceBEq, Nat.reduceAdd, Nat.reduceEqDiff, reduceCtorEq, Int.reduceToNat, k5], by rw [← Nat.add_assoc]; exact addB_ok mok b1 ⟨b2, b3⟩, mc, .inr (by simp only [kS, Nat.reduceSub, Nat.reduceMul, Nat.reduceLeDiff, Nat.reducePow, Nat.reduceBEq, Nat.reduceAdd, Nat.reduceEqDiff, reduceCtorEq, Int.reduceToNat]), by simp only [kS, Nat.reduceSub, Nat.reduceMul, Nat.reduceLeDiff, Nat.reducePow, Nat.reduceBEq, Nat.reduceAdd, Nat.reduceEqDiff, reduceCtorEq, Int.reduceToNat, k2], by simp only [kS, Nat.reduceSub, Nat.reduceMul, Nat.reduceLeDiff, Nat.reducePow, Nat.reduceBEq, Nat.reduceAdd, Nat.reduceEqDiff, reduceCtorEq, Int.reduceToNat, kb], by first | (simp only [kS, Nat.reduceSub, Nat.reduceMul, Nat.reduceLeDiff, Nat.reducePow, Nat.reduceBEq, Nat.reduceAdd, Nat.reduceEqDiff, reduceCtorEq, Int.reduceToNat]; done) | (simp only [kS, Nat.reduceSub, Nat.reduceMul, Nat.reduceLeDiff, Nat.reducePow, Nat.reduceBEq, Nat.reduceAdd, Nat.reduceEqDiff, reduceCtorEq, Int.reduceToNat]; omega) | (simp only [kS, Nat.reduceSub, Nat.reduceMul, Nat.reduceLeDiff, Nat.reducePow, Nat.reduceBEq, Nat.reduceAdd, Nat.reduceEqDiff, reduceCtorEq, Int.reduceToNat]; rfl)⟩
          simp only [kS, Nat.reduceSub, Nat.reduceMul, Nat.reduceLeDiff, Nat.reducePow, Nat.reduceBEq, Nat.reduceAdd, Nat.reduceEqDiff, reduceCtorEq, Int.reduceToNat]
          rw [wrap_i64 (by omega) (by omega)]; rfl
      · have hjt' : ¬ (j : Int) < (g.length : Int) := by omega
        rw [List.drop_eq_nil_of_le (by omega)] at mc
        have mc : m = addH l g := mc
        repeat (first | refine qq1 fun Z hN hX hR => ?_ | refine qq2 fun Z hN hX hR => ?_ | refine qq3 (by kernel_rfl) fun K hK => ?_ | ((first | refine qq4 fun R hRR => ?_ | with_reducible change ExpAll _ _ _); simp only [kS, Nat.reduceSub, Nat.reduceMul, Nat.reduceLeDiff, Nat.reducePow, Nat.reduceBEq, Nat.reduceAdd, Nat.reduceEqDiff, reduceCtorEq, Int.reduceToNat, k10, k9, k8, k6, k5, k2, kb, hjt', decide_false]) | (refine hRR _ ?_; clear hRR R) | refine qq5 ?_ | (refine hK _ ?_; clear hK K) | ((first | refine hN _ ?_ | refine hX _ _ ?_ | refine hR _ ?_); clear hN hX hR Z) | refine qq6 rfl ?_ | refine qq7 (by decide) ?_ | (refine qq8 ?_ ?_; focus (simp only [kS, Nat.reduceSub, Nat.reduceMul, Nat.reduceLeDiff, Nat.reducePow, Nat.reduceBEq, Nat.reduceAdd, Nat.reduceEqDiff, reduceCtorEq, Int.reduceToNat, k10, k9, k8, k6, k5, k2, kb, hjt', decide_false]; done)) | (refine qq9 ?_ ?_; focus (simp only [kS, Nat.reduceSub, Nat.reduceMul, Nat.reduceLeDiff, Nat.reducePow, Nat.reduceBEq, Nat.reduceAdd, Nat.reduceEqDiff, reduceCtorEq, Int.reduceToNat, k10, k9, k8, k6, k5, k2, kb, hjt', decide_false]; done)) | refine qqa ?_ | refine qqb ?_ | refine qqc ?_ | refine And.intro (by first | assumption | omega) ?_)
        refine ⟨(openS d s).length - (i + 1), by omega, i + 1, m, by omega, rfl, ?_, by simp only [kS, Nat.reduceSub, Nat.reduceMul, Nat.reduceLeDiff, Nat.reducePow, Nat.reduceBEq, Nat.reduceAdd, Nat.reduceEqDiff, reduceCtorEq, Int.reduceToNat, k6], by simp only [kS, Nat.reduceSub, Nat.reduceMul, Nat.reduceLeDiff, Nat.reducePow, Nat.reduceBEq, Nat.reduceAdd, Nat.reduceEqDiff, reduceCtorEq, Int.reduceToNat, k5], ⟨mok.short, mok.many, by have := mok.len; omega⟩, by rw [mc]; exact hc, by rcases k7 with ⟨k7, k7'⟩ | k7; exact .inl ⟨by simp only [kS, Nat.reduceSub, Nat.reduceMul, Nat.reduceLeDiff, Nat.reducePow, Nat.reduceBEq, Nat.reduceAdd, Nat.reduceEqDiff, reduceCtorEq, Int.reduceToNat, k7], k7'⟩; exact .inr (by simp only [kS, Nat.reduceSub, Nat.reduceMul, Nat.reduceLeDiff, Nat.reducePow, Nat.reduceBEq, Nat.reduceAdd, Nat.reduceEqDiff, reduceCtorEq, Int.reduceToNat, k7]), by simp only [kS, Nat.reduceSub, Nat.reduceMul, Nat.reduceLeDiff, Nat.reducePow, Nat.reduceBEq, Nat.reduceAdd, Nat.reduceEqDiff, reduceCtorEq, Int.reduceToNat, k2], by simp only [kS, Nat.reduceSub, Nat.reduceMul, Nat.reduceLeDiff, Nat.reducePow, Nat.reduceBEq, Nat.reduceAdd, Nat.reduceEqDiff, reduceCtorEq, Int.reduceToNat, kb], by first | (simp only [kS, Nat.reduceSub, Nat.reduceMul, Nat.reduceLeDiff, Nat.reducePow, Nat.reduceBEq, Nat.reduceAdd, Nat.reduceEqDiff, reduceCtorEq, Int.reduceToNat]; done) | (simp only [kS, Nat.reduceSub, Nat.reduceMul, Nat.reduceLeDiff, Nat.reducePow, Nat.reduceBEq, Nat.reduceAdd, Nat.reduceEqDiff, reduceCtorEq, Int.reduceToNat]; omega) | (simp only [kS, Nat.reduceSub, Nat.reduceMul, Nat.reduceLeDiff, Nat.reducePow, Nat.reduceBEq, Nat.reduceAdd, Nat.reduceEqDiff, reduceCtorEq, Int.reduceToNat]; rfl)⟩
        simp only [kS, Nat.reduceSub, Nat.reduceMul, Nat.reduceLeDiff, Nat.reducePow, Nat.reduceBEq, Nat.reduceAdd, Nat.reduceEqDiff, reduceCtorEq, Int.reduceToNat]
        rw [wrap_i64 (by omega) (by omega)]; rfl
    · have hlt' : ¬ (i : Int) < ((openS d s).length : Int) := by omega
      rw [List.drop_eq_nil_of_le (by omega)] at hc
      have hc : l = headsS d 1500 s := (show l = allH d 1499 (openS d s) [] from hc).trans (allH_eq grd)
      have hsame := same14_ret glD (headsS d 1500 s) (headsS d 1500 s) F.ok.short F.ok.short (by have := F.ok.len; omega)
      rw [sameB_refl] at hsame
      rcases h7 with ⟨h7, e7⟩ | h7
      · have e9 : headsS d 1500 s = [] := by rw [← hc, e7]
        rw [e9] at hsame h5
        repeat (first | refine qq1 fun Z hN hX hR => ?_ | refine qq2 fun Z hN hX hR => ?_ | refine qq3 (by kernel_rfl) fun K hK => ?_ | ((first | refine qq4 fun R hRR => ?_ | with_reducible change ExpAll _ _ _); simp only [kS, Nat.reduceSub, Nat.reduceMul, Nat.reduceLeDiff, Nat.reducePow, Nat.reduceBEq, Nat.reduceAdd, Nat.reduceEqDiff, reduceCtorEq, Int.reduceToNat, h8, h6, h5, h7, hlt', el, decide_false]) | (refine hRR _ ?_; clear hRR R) | refine qq5 ?_ | (refine hK _ ?_; clear hK K) | ((first | refine hN _ ?_ | refine hX _ _ ?_ | refine hR _ ?_); clear hN hX hR Z) | refine qq6 rfl ?_ | refine qq7 (by decide) ?_ | (refine qq8 ?_ ?_; focus (simp only [kS, Nat.reduceSub, Nat.reduceMul, Nat.reduceLeDiff, Nat.reducePow, Nat.reduceBEq, Nat.reduceAdd, Nat.reduceEqDiff, reduceCtorEq, Int.reduceToNat, h8, h6, h5, h7, hlt', el, decide_false]; done)) | (refine qq9 ?_ ?_; focus (simp only [kS, Nat.reduceSub, Nat.reduceMul, Nat.reduceLeDiff, Nat.reducePow, Nat.reduceBEq, Nat.reduceAdd, Nat.reduceEqDiff, reduceCtorEq, Int.reduceToNat, h8, h6, h5, h7, hlt', el, decide_false]; done)) | refine qqa ?_ | refine qqb ?_ | refine qqc ?_ | refine And.intro (by first | assumption | omega) ?_)
        refine ⟨_, hsame, rfl, ?_⟩
        try simp only [kS, Nat.reduceSub, Nat.reduceMul, Nat.reduceLeDiff, Nat.reducePow, Nat.reduceBEq, Nat.reduceAdd, Nat.reduceEqDiff, reduceCtorEq, Int.reduceToNat, dC_length, dC_take, Bool.not_true, Bool.not_false]
        repeat (first | refine qq1 fun Z hN hX hR => ?_ | refine qq2 fun Z hN hX hR => ?_ | refine qq3 (by kernel_rfl) fun K hK => ?_ | ((first | refine qq4 fun R hRR => ?_ | with_reducible change ExpAll _ _ _); simp only [kS, Nat.reduceSub, Nat.reduceMul, Nat.reduceLeDiff, Nat.reducePow, Nat.reduceBEq, Nat.reduceAdd, Nat.reduceEqDiff, reduceCtorEq, Int.reduceToNat, dC_length, dC_take, Bool.not_true, Bool.not_false]) | (refine hRR _ ?_; clear hRR R) | refine qq5 ?_ | (refine hK _ ?_; clear hK K) | ((first | refine hN _ ?_ | refine hX _ _ ?_ | refine hR _ ?_); clear hN hX hR Z) | refine qq6 rfl ?_ | refine qq7 (by decide) ?_ | (refine qq8 ?_ ?_; focus (simp only [kS, Nat.reduceSub, Nat.reduceMul, Nat.reduceLeDiff, Nat.reducePow, Nat.reduceBEq, Nat.reduceAdd, Nat.reduceEqDiff, reduceCtorEq, Int.reduceToNat, dC_length, dC_take, Bool.not_true, Bool.not_false]; done)) | (refine qq9 ?_ ?_; focus (simp only [kS, Nat.reduceSub, Nat.reduceMul, Nat.reduceLeDiff, Nat.reducePow, Nat.reduceBEq, Nat.reduceAdd, Nat.reduceEqDiff, reduceCtorEq, Int.reduceToNat, dC_length, dC_take, Bool.not_true, Bool.not_false]; done)) | refine qqa ?_ | refine qqb ?_ | refine qqc ?_ | refine And.intro (by first | assumption | omega) ?_)
        all_goals rfl
      · rw [hc] at h7
        repeat (first | refine qq1 fun Z hN hX hR => ?_ | refine qq2 fun Z hN hX hR => ?_ | refine qq3 (by kernel_rfl) fun K hK => ?_ | ((first | refine qq4 fun R hRR => ?_ | with_reducible change ExpAll _ _ _); simp only [kS, Nat.reduceSub, Nat.reduceMul, Nat.reduceLeDiff, Nat.reducePow, Nat.reduceBEq, Nat.reduceAdd, Nat.reduceEqDiff, reduceCtorEq, Int.reduceToNat, h8, h6, h5, h7, hlt', el, decide_false]) | (refine hRR _ ?_; clear hRR R) | refine qq5 ?_ | (refine hK _ ?_; clear hK K) | ((first | refine hN _ ?_ | refine hX _ _ ?_ | refine hR _ ?_); clear hN hX hR Z) | refine qq6 rfl ?_ | refine qq7 (by decide) ?_ | (refine qq8 ?_ ?_; focus (simp only [kS, Nat.reduceSub, Nat.reduceMul, Nat.reduceLeDiff, Nat.reducePow, Nat.reduceBEq, Nat.reduceAdd, Nat.reduceEqDiff, reduceCtorEq, Int.reduceToNat, h8, h6, h5, h7, hlt', el, decide_false]; done)) | (refine qq9 ?_ ?_; focus (simp only [kS, Nat.reduceSub, Nat.reduceMul, Nat.reduceLeDiff, Nat.reducePow, Nat.reduceBEq, Nat.reduceAdd, Nat.reduceEqDiff, reduceCtorEq, Int.reduceToNat, h8, h6, h5, h7, hlt', el, decide_false]; done)) | refine qqa ?_ | refine qqb ?_ | refine qqc ?_ | refine And.intro (by first | assumption | omega) ?_)
        refine ⟨_, hsame, rfl, ?_⟩
        try simp only [kS, Nat.reduceSub, Nat.reduceMul, Nat.reduceLeDiff, Nat.reducePow, Nat.reduceBEq, Nat.reduceAdd, Nat.reduceEqDiff, reduceCtorEq, Int.reduceToNat, dC_length, dC_take, Bool.not_true, Bool.not_false]
        repeat (first | refine qq1 fun Z hN hX hR => ?_ | refine qq2 fun Z hN hX hR => ?_ | refine qq3 (by kernel_rfl) fun K hK => ?_ | ((first | refine qq4 fun R hRR => ?_ | with_reducible change ExpAll _ _ _); simp only [kS, Nat.reduceSub, Nat.reduceMul, Nat.reduceLeDiff, Nat.reducePow, Nat.reduceBEq, Nat.reduceAdd, Nat.reduceEqDiff, reduceCtorEq, Int.reduceToNat, dC_length, dC_take, Bool.not_true, Bool.not_false]) | (refine hRR _ ?_; clear hRR R) | refine qq5 ?_ | (refine hK _ ?_; clear hK K) | ((first | refine hN _ ?_ | refine hX _ _ ?_ | refine hR _ ?_); clear hN hX hR Z) | refine qq6 rfl ?_ | refine qq7 (by decide) ?_ | (refine qq8 ?_ ?_; focus (simp only [kS, Nat.reduceSub, Nat.reduceMul, Nat.reduceLeDiff, Nat.reducePow, Nat.reduceBEq, Nat.reduceAdd, Nat.reduceEqDiff, reduceCtorEq, Int.reduceToNat, dC_length, dC_take, Bool.not_true, Bool.not_false]; done)) | (refine qq9 ?_ ?_; focus (simp only [kS, Nat.reduceSub, Nat.reduceMul, Nat.reduceLeDiff, Nat.reducePow, Nat.reduceBEq, Nat.reduceAdd, Nat.reduceEqDiff, reduceCtorEq, Int.reduceToNat, dC_length, dC_take, Bool.not_true, Bool.not_false]; done)) | refine qqa ?_ | refine qqb ?_ | refine qqc ?_ | refine And.intro (by first | assumption | omega) ?_)
        all_goals rfl
  · rw [grd] at hr12
    have hhr : headsS d 1500 s = [⟨s, 1⟩] := heads_ready grd
    have hsm := same13_ret glD s s (by omega) (by omega)
    rw [scmp_refl] at hsm
    have hsm : Ret Tryd.prog glD 19 [.c (stC s), .c (stC s)] (bv true) := hsm
    have e1 : (((1 : Nat) : Int) == 1) = true := rfl
    have e2 : ((1 : Int) == 1) = true := rfl
    refine ⟨_, hr12, rfl, ?_⟩
    try simp only [kS, Nat.reduceSub, Nat.reduceMul, Nat.reduceLeDiff, Nat.reducePow, Nat.reduceBEq, Nat.reduceAdd, Nat.reduceEqDiff, reduceCtorEq, Int.reduceToNat, dC_length, dC_take, Bool.not_true, Bool.not_false]
    repeat (first | refine qq1 fun Z hN hX hR => ?_ | refine qq2 fun Z hN hX hR => ?_ | refine qq3 (by kernel_rfl) fun K hK => ?_ | ((first | refine qq4 fun R hRR => ?_ | with_reducible change ExpAll _ _ _); simp only [kS, Nat.reduceSub, Nat.reduceMul, Nat.reduceLeDiff, Nat.reducePow, Nat.reduceBEq, Nat.reduceAdd, Nat.reduceEqDiff, reduceCtorEq, Int.reduceToNat, dC_length, dC_take, Bool.not_true, Bool.not_false, hhr, bsC_cons, e1, e2]) | (refine hRR _ ?_; clear hRR R) | refine qq5 ?_ | (refine hK _ ?_; clear hK K) | ((first | refine hN _ ?_ | refine hX _ _ ?_ | refine hR _ ?_); clear hN hX hR Z) | refine qq6 rfl ?_ | refine qq7 (by decide) ?_ | (refine qq8 ?_ ?_; focus (simp only [kS, Nat.reduceSub, Nat.reduceMul, Nat.reduceLeDiff, Nat.reducePow, Nat.reduceBEq, Nat.reduceAdd, Nat.reduceEqDiff, reduceCtorEq, Int.reduceToNat, dC_length, dC_take, Bool.not_true, Bool.not_false, hhr, bsC_cons, e1, e2]; done)) | (refine qq9 ?_ ?_; focus (simp only [kS, Nat.reduceSub, Nat.reduceMul, Nat.reduceLeDiff, Nat.reducePow, Nat.reduceBEq, Nat.reduceAdd, Nat.reduceEqDiff, reduceCtorEq, Int.reduceToNat, dC_length, dC_take, Bool.not_true, Bool.not_false, hhr, bsC_cons, e1, e2]; done)) | refine qqa ?_ | refine qqb ?_ | refine qqc ?_ | refine And.intro (by first | assumption | omega) ?_)
    refine ⟨_, hsm, rfl, ?_⟩
    try simp only [kS, Nat.reduceSub, Nat.reduceMul, Nat.reduceLeDiff, Nat.reducePow, Nat.reduceBEq, Nat.reduceAdd, Nat.reduceEqDiff, reduceCtorEq, Int.reduceToNat, dC_length, dC_take, Bool.not_true, Bool.not_false]
    repeat (first | refine qq1 fun Z hN hX hR => ?_ | refine qq2 fun Z hN hX hR => ?_ | refine qq3 (by kernel_rfl) fun K hK => ?_ | ((first | refine qq4 fun R hRR => ?_ | with_reducible change ExpAll _ _ _); simp only [kS, Nat.reduceSub, Nat.reduceMul, Nat.reduceLeDiff, Nat.reducePow, Nat.reduceBEq, Nat.reduceAdd, Nat.reduceEqDiff, reduceCtorEq, Int.reduceToNat, dC_length, dC_take, Bool.not_true, Bool.not_false]) | (refine hRR _ ?_; clear hRR R) | refine qq5 ?_ | (refine hK _ ?_; clear hK K) | ((first | refine hN _ ?_ | refine hX _ _ ?_ | refine hR _ ?_); clear hN hX hR Z) | refine qq6 rfl ?_ | refine qq7 (by decide) ?_ | (refine qq8 ?_ ?_; focus (simp only [kS, Nat.reduceSub, Nat.reduceMul, Nat.reduceLeDiff, Nat.reducePow, Nat.reduceBEq, Nat.reduceAdd, Nat.reduceEqDiff, reduceCtorEq, Int.reduceToNat, dC_length, dC_take, Bool.not_true, Bool.not_false]; done)) | (refine qq9 ?_ ?_; focus (simp only [kS, Nat.reduceSub, Nat.reduceMul, Nat.reduceLeDiff, Nat.reducePow, Nat.reduceBEq, Nat.reduceAdd, Nat.reduceEqDiff, reduceCtorEq, Int.reduceToNat, dC_length, dC_take, Bool.not_true, Bool.not_false]; done)) | refine qqa ?_ | refine qqb ?_ | refine qqc ?_ | refine And.intro (by first | assumption | omega) ?_)
    all_goals rfl

end Go.Proofs.YtilhjiopbbbgmaaDoor
