/- Proved: HeadsOpen of chapter 14, as a tied card: for every description and state the law's body answers true, and what was handed in reads as it did. This is part 4 of 7 of that proof (first the abstract machine and its soundness, then the walks, the plain law, the card): no condition beyond the statement's own. -/
import Derived.Test.YtilhjiopbbbgmaaDoorOpens3
import Derived.Shelf.SlSortCmp.NoneTotal

/- How states are compared: as the document's answer compares them. -/
namespace Go.Proofs.YtilhjiopbbbgmaaDoor
open Go Go.RowKit Am
set_option linter.unusedVariables false
set_option linter.unusedSimpArgs false
set_option maxHeartbeats 4000000
attribute [local irreducible] AWp AOps

theorem isnan_ret (gl : Gl) (x : Int) : Ret Tryd.prog gl 82 [iv x] (bv false) := by
  refine retq (rs := [2]) 6 Tryd.func82 (by kernel_rfl) rfl (by kernel_rfl) rfl (by simp) (by simp) fun Z hN hX hR => ?_
  repeat (first | refine qq1 fun Z hN hX hR => ?_ | refine qq2 fun Z hN hX hR => ?_ | refine qq3 (by kernel_rfl) fun K hK => ?_ | ((first | refine qq4 fun R hRR => ?_ | with_reducible change ExpAll _ _ _); simp only [kS, Nat.reduceSub, Nat.reduceMul, Nat.reduceLeDiff, Nat.reducePow, Nat.reduceBEq, Nat.reduceAdd, Nat.reduceEqDiff, reduceCtorEq, Int.reduceToNat, bne_self_eq_false]) | (refine hRR _ ?_; clear hRR R) | refine qq5 ?_ | (refine hK _ ?_; clear hK K) | ((first | refine hN _ ?_ | refine hX _ _ ?_ | refine hR _ ?_); clear hN hX hR Z) | refine qq6 rfl ?_ | refine qq7 (by decide) ?_ | (refine qq8 ?_ ?_; focus (simp only [kS, Nat.reduceSub, Nat.reduceMul, Nat.reduceLeDiff, Nat.reducePow, Nat.reduceBEq, Nat.reduceAdd, Nat.reduceEqDiff, reduceCtorEq, Int.reduceToNat, bne_self_eq_false]; done)) | (refine qq9 ?_ ?_; focus (simp only [kS, Nat.reduceSub, Nat.reduceMul, Nat.reduceLeDiff, Nat.reducePow, Nat.reduceBEq, Nat.reduceAdd, Nat.reduceEqDiff, reduceCtorEq, Int.reduceToNat, bne_self_eq_false]; done)) | refine qqa ?_ | refine qqb ?_ | refine qqc ?_ | refine And.intro (by first | assumption | omega) ?_)
  all_goals rfl

def icmp (x y : Int) : Int := if x < y then -1 else if y < x then 1 else 0

theorem cmp60_ret (gl : Gl) (x y : Int) : Ret Tryd.prog gl 60 [iv x, iv y] (iv (icmp x y)) := by
  refine retq (rs := [4]) 20 Tryd.func60 (by kernel_rfl) rfl (by kernel_rfl) rfl (by simp) (by simp) fun Z hN hX hR => ?_
  have c1 := isnan_ret gl x
  have c2 := isnan_ret gl y
  repeat (first | refine qq1 fun Z hN hX hR => ?_ | refine qq2 fun Z hN hX hR => ?_ | refine qq3 (by kernel_rfl) fun K hK => ?_ | ((first | refine qq4 fun R hRR => ?_ | with_reducible change ExpAll _ _ _); simp only [kS, Nat.reduceSub, Nat.reduceMul, Nat.reduceLeDiff, Nat.reducePow, Nat.reduceBEq, Nat.reduceAdd, Nat.reduceEqDiff, reduceCtorEq, Int.reduceToNat]) | (refine hRR _ ?_; clear hRR R) | refine qq5 ?_ | (refine hK _ ?_; clear hK K) | ((first | refine hN _ ?_ | refine hX _ _ ?_ | refine hR _ ?_); clear hN hX hR Z) | refine qq6 rfl ?_ | refine qq7 (by decide) ?_ | (refine qq8 ?_ ?_; focus (simp only [kS, Nat.reduceSub, Nat.reduceMul, Nat.reduceLeDiff, Nat.reducePow, Nat.reduceBEq, Nat.reduceAdd, Nat.reduceEqDiff, reduceCtorEq, Int.reduceToNat]; done)) | (refine qq9 ?_ ?_; focus (simp only [kS, Nat.reduceSub, Nat.reduceMul, Nat.reduceLeDiff, Nat.reducePow, Nat.reduceBEq, Nat.reduceAdd, Nat.reduceEqDiff, reduceCtorEq, Int.reduceToNat]; done)) | refine qqa ?_ | refine qqb ?_ | refine qqc ?_ | refine And.intro (by first | assumption | omega) ?_)
  refine ⟨_, c1, rfl, ?_⟩
  simp only [kS, Nat.reduceSub, Nat.reduceMul, Nat.reduceLeDiff, Nat.reducePow, Nat.reduceBEq, Nat.reduceAdd, Nat.reduceEqDiff, reduceCtorEq, Int.reduceToNat]
  repeat (first | refine qq1 fun Z hN hX hR => ?_ | refine qq2 fun Z hN hX hR => ?_ | refine qq3 (by kernel_rfl) fun K hK => ?_ | ((first | refine qq4 fun R hRR => ?_ | with_reducible change ExpAll _ _ _); simp only [kS, Nat.reduceSub, Nat.reduceMul, Nat.reduceLeDiff, Nat.reducePow, Nat.reduceBEq, Nat.reduceAdd, Nat.reduceEqDiff, reduceCtorEq, Int.reduceToNat]) | (refine hRR _ ?_; clear hRR R) | refine qq5 ?_ | (refine hK _ ?_; clear hK K) | ((first | refine hN _ ?_ | refine hX _ _ ?_ | refine hR _ ?_); clear hN hX hR Z) | refine qq6 rfl ?_ | refine qq7 (by decide) ?_ | (refine qq8 ?_ ?_; focus (simp only [kS, Nat.reduceSub, Nat.reduceMul, Nat.reduceLeDiff, Nat.reducePow, Nat.reduceBEq, Nat.reduceAdd, Nat.reduceEqDiff, reduceCtorEq, Int.reduceToNat]; done)) | (refine qq9 ?_ ?_; focus (simp only [kS, Nat.reduceSub, Nat.reduceMul, Nat.reduceLeDiff, Nat.reducePow, Nat.reduceBEq, Nat.reduceAdd, Nat.reduceEqDiff, reduceCtorEq, Int.reduceToNat]; done)) | refine qqa ?_ | refine qqb ?_ | refine qqc ?_ | refine And.intro (by first | assumption | omega) ?_)
  refine ⟨_, c2, rfl, ?_⟩
  simp only [kS, Nat.reduceSub, Nat.reduceMul, Nat.reduceLeDiff, Nat.reducePow, Nat.reduceBEq, Nat.reduceAdd, Nat.reduceEqDiff, reduceCtorEq, Int.reduceToNat]
  by_cases h1 : x < y
  · repeat (first | refine qq1 fun Z hN hX hR => ?_ | refine qq2 fun Z hN hX hR => ?_ | refine qq3 (by kernel_rfl) fun K hK => ?_ | ((first | refine qq4 fun R hRR => ?_ | with_reducible change ExpAll _ _ _); simp only [kS, Nat.reduceSub, Nat.reduceMul, Nat.reduceLeDiff, Nat.reducePow, Nat.reduceBEq, Nat.reduceAdd, Nat.reduceEqDiff, reduceCtorEq, Int.reduceToNat, h1, decide_true]) | (refine hRR _ ?_; clear hRR R) | refine qq5 ?_ | (refine hK _ ?_; clear hK K) | ((first | refine hN _ ?_ | refine hX _ _ ?_ | refine hR _ ?_); clear hN hX hR Z) | refine qq6 rfl ?_ | refine qq7 (by decide) ?_ | (refine qq8 ?_ ?_; focus (simp only [kS, Nat.reduceSub, Nat.reduceMul, Nat.reduceLeDiff, Nat.reducePow, Nat.reduceBEq, Nat.reduceAdd, Nat.reduceEqDiff, reduceCtorEq, Int.reduceToNat, h1, decide_true]; done)) | (refine qq9 ?_ ?_; focus (simp only [kS, Nat.reduceSub, Nat.reduceMul, Nat.reduceLeDiff, Nat.reducePow, Nat.reduceBEq, Nat.reduceAdd, Nat.reduceEqDiff, reduceCtorEq, Int.reduceToNat, h1, decide_true]; done)) | refine qqa ?_ | refine qqb ?_ | refine qqc ?_ | refine And.intro (by first | assumption | omega) ?_)
    simp only [icmp, h1, if_true]
  · by_cases h2 : y < x
    · have h2' : x > y := h2
      repeat (first | refine qq1 fun Z hN hX hR => ?_ | refine qq2 fun Z hN hX hR => ?_ | refine qq3 (by kernel_rfl) fun K hK => ?_ | ((first | refine qq4 fun R hRR => ?_ | with_reducible change ExpAll _ _ _); simp only [kS, Nat.reduceSub, Nat.reduceMul, Nat.reduceLeDiff, Nat.reducePow, Nat.reduceBEq, Nat.reduceAdd, Nat.reduceEqDiff, reduceCtorEq, Int.reduceToNat, h1, h2, decide_true, decide_false, gt_iff_lt]) | (refine hRR _ ?_; clear hRR R) | refine qq5 ?_ | (refine hK _ ?_; clear hK K) | ((first | refine hN _ ?_ | refine hX _ _ ?_ | refine hR _ ?_); clear hN hX hR Z) | refine qq6 rfl ?_ | refine qq7 (by decide) ?_ | (refine qq8 ?_ ?_; focus (simp only [kS, Nat.reduceSub, Nat.reduceMul, Nat.reduceLeDiff, Nat.reducePow, Nat.reduceBEq, Nat.reduceAdd, Nat.reduceEqDiff, reduceCtorEq, Int.reduceToNat, h1, h2, decide_true, decide_false, gt_iff_lt]; done)) | (refine qq9 ?_ ?_; focus (simp only [kS, Nat.reduceSub, Nat.reduceMul, Nat.reduceLeDiff, Nat.reducePow, Nat.reduceBEq, Nat.reduceAdd, Nat.reduceEqDiff, reduceCtorEq, Int.reduceToNat, h1, h2, decide_true, decide_false, gt_iff_lt]; done)) | refine qqa ?_ | refine qqb ?_ | refine qqc ?_ | refine And.intro (by first | assumption | omega) ?_)
      simp only [icmp, h1, h2, if_true, if_false]
    · repeat (first | refine qq1 fun Z hN hX hR => ?_ | refine qq2 fun Z hN hX hR => ?_ | refine qq3 (by kernel_rfl) fun K hK => ?_ | ((first | refine qq4 fun R hRR => ?_ | with_reducible change ExpAll _ _ _); simp only [kS, Nat.reduceSub, Nat.reduceMul, Nat.reduceLeDiff, Nat.reducePow, Nat.reduceBEq, Nat.reduceAdd, Nat.reduceEqDiff, reduceCtorEq, Int.reduceToNat, h1, h2, decide_true, decide_false, gt_iff_lt]) | (refine hRR _ ?_; clear hRR R) | refine qq5 ?_ | (refine hK _ ?_; clear hK K) | ((first | refine hN _ ?_ | refine hX _ _ ?_ | refine hR _ ?_); clear hN hX hR Z) | refine qq6 rfl ?_ | refine qq7 (by decide) ?_ | (refine qq8 ?_ ?_; focus (simp only [kS, Nat.reduceSub, Nat.reduceMul, Nat.reduceLeDiff, Nat.reducePow, Nat.reduceBEq, Nat.reduceAdd, Nat.reduceEqDiff, reduceCtorEq, Int.reduceToNat, h1, h2, decide_true, decide_false, gt_iff_lt]; done)) | (refine qq9 ?_ ?_; focus (simp only [kS, Nat.reduceSub, Nat.reduceMul, Nat.reduceLeDiff, Nat.reducePow, Nat.reduceBEq, Nat.reduceAdd, Nat.reduceEqDiff, reduceCtorEq, Int.reduceToNat, h1, h2, decide_true, decide_false, gt_iff_lt]; done)) | refine qqa ?_ | refine qqb ?_ | refine qqc ?_ | refine And.intro (by first | assumption | omega) ?_)
      simp only [icmp, h1, h2, if_false]

def orF : List Int → Int
  | [] => 0
  | x :: l => if x = 0 then orF l else x

theorem or_ret (gl : Gl) (l : List Int) (hl : l.length ≤ 1000000) : Ret Tryd.prog gl 63 [.c (.sl l.length (intsC l))] (iv (orF l)) := by
  refine retq (rs := [2]) 18 Tryd.func63 (by kernel_rfl) rfl (by kernel_rfl) rfl (by simp) (by simp) fun Z hN hX hR => ?_
  repeat (first | refine qq1 fun Z hN hX hR => ?_ | refine qq2 fun Z hN hX hR => ?_ | refine qq3 (by kernel_rfl) fun K hK => ?_ | ((first | refine qq4 fun R hRR => ?_ | with_reducible change ExpAll _ _ _); simp only [kS, Nat.reduceSub, Nat.reduceMul, Nat.reduceLeDiff, Nat.reducePow, Nat.reduceBEq, Nat.reduceAdd, Nat.reduceEqDiff, reduceCtorEq, Int.reduceToNat]) | (refine hRR _ ?_; clear hRR R) | refine qq5 ?_ | (refine hK _ ?_; clear hK K) | ((first | refine hN _ ?_ | refine hX _ _ ?_ | refine hR _ ?_); clear hN hX hR Z) | refine qq6 rfl ?_ | refine qq7 (by decide) ?_ | (refine qq8 ?_ ?_; focus (simp only [kS, Nat.reduceSub, Nat.reduceMul, Nat.reduceLeDiff, Nat.reducePow, Nat.reduceBEq, Nat.reduceAdd, Nat.reduceEqDiff, reduceCtorEq, Int.reduceToNat]; done)) | (refine qq9 ?_ ?_; focus (simp only [kS, Nat.reduceSub, Nat.reduceMul, Nat.reduceLeDiff, Nat.reducePow, Nat.reduceBEq, Nat.reduceAdd, Nat.reduceEqDiff, reduceCtorEq, Int.reduceToNat]; done)) | refine qqa ?_ | refine qqb ?_ | refine qqc ?_ | refine And.intro (by first | assumption | omega) ?_)
  refine awq_loop (fun c f => ∃ (i : Nat), i ≤ l.length ∧ c = l.length - i ∧ f.t 8 = iv (i : Int) ∧ f.t 7 = iv (l.length : Int) ∧ f.t 6 = .c (.sl l.length (intsC l)) ∧ f.t 3 = iv 0 ∧ orF (l.drop i) = orF l) l.length ?_ ?_
  · exact ⟨0, by omega, rfl, by first | (simp only [kS, Nat.reduceSub, Nat.reduceMul, Nat.reduceLeDiff, Nat.reducePow, Nat.reduceBEq, Nat.reduceAdd, Nat.reduceEqDiff, reduceCtorEq, Int.reduceToNat]; done) | (simp only [kS, Nat.reduceSub, Nat.reduceMul, Nat.reduceLeDiff, Nat.reducePow, Nat.reduceBEq, Nat.reduceAdd, Nat.reduceEqDiff, reduceCtorEq, Int.reduceToNat]; omega) | (simp only [kS, Nat.reduceSub, Nat.reduceMul, Nat.reduceLeDiff, Nat.reducePow, Nat.reduceBEq, Nat.reduceAdd, Nat.reduceEqDiff, reduceCtorEq, Int.reduceToNat]; rfl), by first | (simp only [kS, Nat.reduceSub, Nat.reduceMul, Nat.reduceLeDiff, Nat.reducePow, Nat.reduceBEq, Nat.reduceAdd, Nat.reduceEqDiff, reduceCtorEq, Int.reduceToNat]; done) | (simp only [kS, Nat.reduceSub, Nat.reduceMul, Nat.reduceLeDiff, Nat.reducePow, Nat.reduceBEq, Nat.reduceAdd, Nat.reduceEqDiff, reduceCtorEq, Int.reduceToNat]; omega) | (simp only [kS, Nat.reduceSub, Nat.reduceMul, Nat.reduceLeDiff, Nat.reducePow, Nat.reduceBEq, Nat.reduceAdd, Nat.reduceEqDiff, reduceCtorEq, Int.reduceToNat]; rfl), by first | (simp only [kS, Nat.reduceSub, Nat.reduceMul, Nat.reduceLeDiff, Nat.reducePow, Nat.reduceBEq, Nat.reduceAdd, Nat.reduceEqDiff, reduceCtorEq, Int.reduceToNat]; done) | (simp only [kS, Nat.reduceSub, Nat.reduceMul, Nat.reduceLeDiff, Nat.reducePow, Nat.reduceBEq, Nat.reduceAdd, Nat.reduceEqDiff, reduceCtorEq, Int.reduceToNat]; omega) | (simp only [kS, Nat.reduceSub, Nat.reduceMul, Nat.reduceLeDiff, Nat.reducePow, Nat.reduceBEq, Nat.reduceAdd, Nat.reduceEqDiff, reduceCtorEq, Int.reduceToNat]; rfl), by first | (simp only [kS, Nat.reduceSub, Nat.reduceMul, Nat.reduceLeDiff, Nat.reducePow, Nat.reduceBEq, Nat.reduceAdd, Nat.reduceEqDiff, reduceCtorEq, Int.reduceToNat]; done) | (simp only [kS, Nat.reduceSub, Nat.reduceMul, Nat.reduceLeDiff, Nat.reducePow, Nat.reduceBEq, Nat.reduceAdd, Nat.reduceEqDiff, reduceCtorEq, Int.reduceToNat]; omega) | (simp only [kS, Nat.reduceSub, Nat.reduceMul, Nat.reduceLeDiff, Nat.reducePow, Nat.reduceBEq, Nat.reduceAdd, Nat.reduceEqDiff, reduceCtorEq, Int.reduceToNat]; rfl), rfl⟩
  rintro Z c f hN hX hR ⟨i, hi, rfl, h8, h7, h6, h3, ho⟩
  have el := intsC_length l
  by_cases hlt : i < l.length
  · have hlt' : (i : Int) < (l.length : Int) := by omega
    have e := intsC_drop l i hlt
    rw [List.drop_eq_getElem_cons hlt] at ho
    by_cases h0 : l[i] = 0
    · have h0' : (l[i] != 0) = false := by rw [h0]; rfl
      simp only [orF, h0, if_true] at ho
      repeat (first | refine qq1 fun Z hN hX hR => ?_ | refine qq2 fun Z hN hX hR => ?_ | refine qq3 (by kernel_rfl) fun K hK => ?_ | ((first | refine qq4 fun R hRR => ?_ | with_reducible change ExpAll _ _ _); simp only [kS, Nat.reduceSub, Nat.reduceMul, Nat.reduceLeDiff, Nat.reducePow, Nat.reduceBEq, Nat.reduceAdd, Nat.reduceEqDiff, reduceCtorEq, Int.reduceToNat, h8, h7, h6, h3, hlt, hlt', e, el, h0', decide_true]) | (refine hRR _ ?_; clear hRR R) | refine qq5 ?_ | (refine hK _ ?_; clear hK K) | ((first | refine hN _ ?_ | refine hX _ _ ?_ | refine hR _ ?_); clear hN hX hR Z) | refine qq6 rfl ?_ | refine qq7 (by decide) ?_ | (refine qq8 ?_ ?_; focus (simp only [kS, Nat.reduceSub, Nat.reduceMul, Nat.reduceLeDiff, Nat.reducePow, Nat.reduceBEq, Nat.reduceAdd, Nat.reduceEqDiff, reduceCtorEq, Int.reduceToNat, h8, h7, h6, h3, hlt, hlt', e, el, h0', decide_true]; done)) | (refine qq9 ?_ ?_; focus (simp only [kS, Nat.reduceSub, Nat.reduceMul, Nat.reduceLeDiff, Nat.reducePow, Nat.reduceBEq, Nat.reduceAdd, Nat.reduceEqDiff, reduceCtorEq, Int.reduceToNat, h8, h7, h6, h3, hlt, hlt', e, el, h0', decide_true]; done)) | refine qqa ?_ | refine qqb ?_ | refine qqc ?_ | refine And.intro (by first | assumption | omega) ?_)
      refine ⟨l.length - (i + 1), by omega, i + 1, by omega, rfl, ?_, by simp only [kS, Nat.reduceSub, Nat.reduceMul, Nat.reduceLeDiff, Nat.reducePow, Nat.reduceBEq, Nat.reduceAdd, Nat.reduceEqDiff, reduceCtorEq, Int.reduceToNat, h7], by simp only [kS, Nat.reduceSub, Nat.reduceMul, Nat.reduceLeDiff, Nat.reducePow, Nat.reduceBEq, Nat.reduceAdd, Nat.reduceEqDiff, reduceCtorEq, Int.reduceToNat, h6], by simp only [kS, Nat.reduceSub, Nat.reduceMul, Nat.reduceLeDiff, Nat.reducePow, Nat.reduceBEq, Nat.reduceAdd, Nat.reduceEqDiff, reduceCtorEq, Int.reduceToNat, h3], ho⟩
      simp only [kS, Nat.reduceSub, Nat.reduceMul, Nat.reduceLeDiff, Nat.reducePow, Nat.reduceBEq, Nat.reduceAdd, Nat.reduceEqDiff, reduceCtorEq, Int.reduceToNat]
      rw [wrap_i64 (by omega) (by omega)]; rfl
    · have h0' : (l[i] != 0) = true := by rw [bne_iff_ne]; exact h0
      simp only [orF, h0, if_false] at ho
      repeat (first | refine qq1 fun Z hN hX hR => ?_ | refine qq2 fun Z hN hX hR => ?_ | refine qq3 (by kernel_rfl) fun K hK => ?_ | ((first | refine qq4 fun R hRR => ?_ | with_reducible change ExpAll _ _ _); simp only [kS, Nat.reduceSub, Nat.reduceMul, Nat.reduceLeDiff, Nat.reducePow, Nat.reduceBEq, Nat.reduceAdd, Nat.reduceEqDiff, reduceCtorEq, Int.reduceToNat, h8, h7, h6, h3, hlt, hlt', e, el, h0', decide_true]) | (refine hRR _ ?_; clear hRR R) | refine qq5 ?_ | (refine hK _ ?_; clear hK K) | ((first | refine hN _ ?_ | refine hX _ _ ?_ | refine hR _ ?_); clear hN hX hR Z) | refine qq6 rfl ?_ | refine qq7 (by decide) ?_ | (refine qq8 ?_ ?_; focus (simp only [kS, Nat.reduceSub, Nat.reduceMul, Nat.reduceLeDiff, Nat.reducePow, Nat.reduceBEq, Nat.reduceAdd, Nat.reduceEqDiff, reduceCtorEq, Int.reduceToNat, h8, h7, h6, h3, hlt, hlt', e, el, h0', decide_true]; done)) | (refine qq9 ?_ ?_; focus (simp only [kS, Nat.reduceSub, Nat.reduceMul, Nat.reduceLeDiff, Nat.reducePow, Nat.reduceBEq, Nat.reduceAdd, Nat.reduceEqDiff, reduceCtorEq, Int.reduceToNat, h8, h7, h6, h3, hlt, hlt', e, el, h0', decide_true]; done)) | refine qqa ?_ | refine qqb ?_ | refine qqc ?_ | refine And.intro (by first | assumption | omega) ?_)
      rw [ho]
  · have hlt' : ¬ (i : Int) < (l.length : Int) := by omega
    rw [List.drop_eq_nil_of_le (by omega)] at ho
    repeat (first | refine qq1 fun Z hN hX hR => ?_ | refine qq2 fun Z hN hX hR => ?_ | refine qq3 (by kernel_rfl) fun K hK => ?_ | ((first | refine qq4 fun R hRR => ?_ | with_reducible change ExpAll _ _ _); simp only [kS, Nat.reduceSub, Nat.reduceMul, Nat.reduceLeDiff, Nat.reducePow, Nat.reduceBEq, Nat.reduceAdd, Nat.reduceEqDiff, reduceCtorEq, Int.reduceToNat, h8, h7, h6, h3, hlt', el, decide_false]) | (refine hRR _ ?_; clear hRR R) | refine qq5 ?_ | (refine hK _ ?_; clear hK K) | ((first | refine hN _ ?_ | refine hX _ _ ?_ | refine hR _ ?_); clear hN hX hR Z) | refine qq6 rfl ?_ | refine qq7 (by decide) ?_ | (refine qq8 ?_ ?_; focus (simp only [kS, Nat.reduceSub, Nat.reduceMul, Nat.reduceLeDiff, Nat.reducePow, Nat.reduceBEq, Nat.reduceAdd, Nat.reduceEqDiff, reduceCtorEq, Int.reduceToNat, h8, h7, h6, h3, hlt', el, decide_false]; done)) | (refine qq9 ?_ ?_; focus (simp only [kS, Nat.reduceSub, Nat.reduceMul, Nat.reduceLeDiff, Nat.reducePow, Nat.reduceBEq, Nat.reduceAdd, Nat.reduceEqDiff, reduceCtorEq, Int.reduceToNat, h8, h7, h6, h3, hlt', el, decide_false]; done)) | refine qqa ?_ | refine qqb ?_ | refine qqc ?_ | refine And.intro (by first | assumption | omega) ?_)
    rw [← ho]; rfl

def itF (x y : It) : Int := orF [icmp x.k y.k, icmp x.n y.n, icmp x.lo y.lo, icmp x.hi y.hi]

theorem cmpIt_ret (gl : Gl) (x y : It) : Ret Tryd.prog gl 62 [.agg x.c, .agg y.c] (iv (itF x y)) := by
  refine retq (rs := [4]) 27 Tryd.func62 (by kernel_rfl) rfl (by kernel_rfl) rfl (by simp) (by simp) fun Z hN hX hR => ?_
  obtain ⟨k, n, lo, hi⟩ := x
  obtain ⟨k', n', lo', hi'⟩ := y
  simp only [It.c]
  repeat (first | refine qq1 fun Z hN hX hR => ?_ | refine qq2 fun Z hN hX hR => ?_ | refine qq3 (by kernel_rfl) fun K hK => ?_ | ((first | refine qq4 fun R hRR => ?_ | with_reducible change ExpAll _ _ _); simp only [kS, Nat.reduceSub, Nat.reduceMul, Nat.reduceLeDiff, Nat.reducePow, Nat.reduceBEq, Nat.reduceAdd, Nat.reduceEqDiff, reduceCtorEq, Int.reduceToNat]) | (refine hRR _ ?_; clear hRR R) | refine qq5 ?_ | (refine hK _ ?_; clear hK K) | ((first | refine hN _ ?_ | refine hX _ _ ?_ | refine hR _ ?_); clear hN hX hR Z) | refine qq6 rfl ?_ | refine qq7 (by decide) ?_ | (refine qq8 ?_ ?_; focus (simp only [kS, Nat.reduceSub, Nat.reduceMul, Nat.reduceLeDiff, Nat.reducePow, Nat.reduceBEq, Nat.reduceAdd, Nat.reduceEqDiff, reduceCtorEq, Int.reduceToNat]; done)) | (refine qq9 ?_ ?_; focus (simp only [kS, Nat.reduceSub, Nat.reduceMul, Nat.reduceLeDiff, Nat.reducePow, Nat.reduceBEq, Nat.reduceAdd, Nat.reduceEqDiff, reduceCtorEq, Int.reduceToNat]; done)) | refine qqa ?_ | refine qqb ?_ | refine qqc ?_ | refine And.intro (by first | assumption | omega) ?_)
  refine ⟨_, cmp60_ret gl k k', rfl, ?_⟩
  simp only [kS, Nat.reduceSub, Nat.reduceMul, Nat.reduceLeDiff, Nat.reducePow, Nat.reduceBEq, Nat.reduceAdd, Nat.reduceEqDiff, reduceCtorEq, Int.reduceToNat]
  repeat (first | refine qq1 fun Z hN hX hR => ?_ | refine qq2 fun Z hN hX hR => ?_ | refine qq3 (by kernel_rfl) fun K hK => ?_ | ((first | refine qq4 fun R hRR => ?_ | with_reducible change ExpAll _ _ _); simp only [kS, Nat.reduceSub, Nat.reduceMul, Nat.reduceLeDiff, Nat.reducePow, Nat.reduceBEq, Nat.reduceAdd, Nat.reduceEqDiff, reduceCtorEq, Int.reduceToNat]) | (refine hRR _ ?_; clear hRR R) | refine qq5 ?_ | (refine hK _ ?_; clear hK K) | ((first | refine hN _ ?_ | refine hX _ _ ?_ | refine hR _ ?_); clear hN hX hR Z) | refine qq6 rfl ?_ | refine qq7 (by decide) ?_ | (refine qq8 ?_ ?_; focus (simp only [kS, Nat.reduceSub, Nat.reduceMul, Nat.reduceLeDiff, Nat.reducePow, Nat.reduceBEq, Nat.reduceAdd, Nat.reduceEqDiff, reduceCtorEq, Int.reduceToNat]; done)) | (refine qq9 ?_ ?_; focus (simp only [kS, Nat.reduceSub, Nat.reduceMul, Nat.reduceLeDiff, Nat.reducePow, Nat.reduceBEq, Nat.reduceAdd, Nat.reduceEqDiff, reduceCtorEq, Int.reduceToNat]; done)) | refine qqa ?_ | refine qqb ?_ | refine qqc ?_ | refine And.intro (by first | assumption | omega) ?_)
  refine ⟨_, cmp60_ret gl n n', rfl, ?_⟩
  simp only [kS, Nat.reduceSub, Nat.reduceMul, Nat.reduceLeDiff, Nat.reducePow, Nat.reduceBEq, Nat.reduceAdd, Nat.reduceEqDiff, reduceCtorEq, Int.reduceToNat]
  repeat (first | refine qq1 fun Z hN hX hR => ?_ | refine qq2 fun Z hN hX hR => ?_ | refine qq3 (by kernel_rfl) fun K hK => ?_ | ((first | refine qq4 fun R hRR => ?_ | with_reducible change ExpAll _ _ _); simp only [kS, Nat.reduceSub, Nat.reduceMul, Nat.reduceLeDiff, Nat.reducePow, Nat.reduceBEq, Nat.reduceAdd, Nat.reduceEqDiff, reduceCtorEq, Int.reduceToNat]) | (refine hRR _ ?_; clear hRR R) | refine qq5 ?_ | (refine hK _ ?_; clear hK K) | ((first | refine hN _ ?_ | refine hX _ _ ?_ | refine hR _ ?_); clear hN hX hR Z) | refine qq6 rfl ?_ | refine qq7 (by decide) ?_ | (refine qq8 ?_ ?_; focus (simp only [kS, Nat.reduceSub, Nat.reduceMul, Nat.reduceLeDiff, Nat.reducePow, Nat.reduceBEq, Nat.reduceAdd, Nat.reduceEqDiff, reduceCtorEq, Int.reduceToNat]; done)) | (refine qq9 ?_ ?_; focus (simp only [kS, Nat.reduceSub, Nat.reduceMul, Nat.reduceLeDiff, Nat.reducePow, Nat.reduceBEq, Nat.reduceAdd, Nat.reduceEqDiff, reduceCtorEq, Int.reduceToNat]; done)) | refine qqa ?_ | refine qqb ?_ | refine qqc ?_ | refine And.intro (by first | assumption | omega) ?_)
  refine ⟨_, cmp60_ret gl lo lo', rfl, ?_⟩
  simp only [kS, Nat.reduceSub, Nat.reduceMul, Nat.reduceLeDiff, Nat.reducePow, Nat.reduceBEq, Nat.reduceAdd, Nat.reduceEqDiff, reduceCtorEq, Int.reduceToNat]
  repeat (first | refine qq1 fun Z hN hX hR => ?_ | refine qq2 fun Z hN hX hR => ?_ | refine qq3 (by kernel_rfl) fun K hK => ?_ | ((first | refine qq4 fun R hRR => ?_ | with_reducible change ExpAll _ _ _); simp only [kS, Nat.reduceSub, Nat.reduceMul, Nat.reduceLeDiff, Nat.reducePow, Nat.reduceBEq, Nat.reduceAdd, Nat.reduceEqDiff, reduceCtorEq, Int.reduceToNat]) | (refine hRR _ ?_; clear hRR R) | refine qq5 ?_ | (refine hK _ ?_; clear hK K) | ((first | refine hN _ ?_ | refine hX _ _ ?_ | refine hR _ ?_); clear hN hX hR Z) | refine qq6 rfl ?_ | refine qq7 (by decide) ?_ | (refine qq8 ?_ ?_; focus (simp only [kS, Nat.reduceSub, Nat.reduceMul, Nat.reduceLeDiff, Nat.reducePow, Nat.reduceBEq, Nat.reduceAdd, Nat.reduceEqDiff, reduceCtorEq, Int.reduceToNat]; done)) | (refine qq9 ?_ ?_; focus (simp only [kS, Nat.reduceSub, Nat.reduceMul, Nat.reduceLeDiff, Nat.reducePow, Nat.reduceBEq, Nat.reduceAdd, Nat.reduceEqDiff, reduceCtorEq, Int.reduceToNat]; done)) | refine qqa ?_ | refine qqb ?_ | refine qqc ?_ | refine And.intro (by first | assumption | omega) ?_)
  refine ⟨_, cmp60_ret gl hi hi', rfl, ?_⟩
  simp only [kS, Nat.reduceSub, Nat.reduceMul, Nat.reduceLeDiff, Nat.reducePow, Nat.reduceBEq, Nat.reduceAdd, Nat.reduceEqDiff, reduceCtorEq, Int.reduceToNat]
  repeat (first | refine qq1 fun Z hN hX hR => ?_ | refine qq2 fun Z hN hX hR => ?_ | refine qq3 (by kernel_rfl) fun K hK => ?_ | ((first | refine qq4 fun R hRR => ?_ | with_reducible change ExpAll _ _ _); simp only [kS, Nat.reduceSub, Nat.reduceMul, Nat.reduceLeDiff, Nat.reducePow, Nat.reduceBEq, Nat.reduceAdd, Nat.reduceEqDiff, reduceCtorEq, Int.reduceToNat]) | (refine hRR _ ?_; clear hRR R) | refine qq5 ?_ | (refine hK _ ?_; clear hK K) | ((first | refine hN _ ?_ | refine hX _ _ ?_ | refine hR _ ?_); clear hN hX hR Z) | refine qq6 rfl ?_ | refine qq7 (by decide) ?_ | (refine qq8 ?_ ?_; focus (simp only [kS, Nat.reduceSub, Nat.reduceMul, Nat.reduceLeDiff, Nat.reducePow, Nat.reduceBEq, Nat.reduceAdd, Nat.reduceEqDiff, reduceCtorEq, Int.reduceToNat]; done)) | (refine qq9 ?_ ?_; focus (simp only [kS, Nat.reduceSub, Nat.reduceMul, Nat.reduceLeDiff, Nat.reducePow, Nat.reduceBEq, Nat.reduceAdd, Nat.reduceEqDiff, reduceCtorEq, Int.reduceToNat]; done)) | refine qqa ?_ | refine qqb ?_ | refine qqc ?_ | refine And.intro (by first | assumption | omega) ?_)
  refine ⟨_, or_ret gl [icmp k k', icmp n n', icmp lo lo', icmp hi hi'] (by simp), rfl, ?_⟩
  simp only [kS, Nat.reduceSub, Nat.reduceMul, Nat.reduceLeDiff, Nat.reducePow, Nat.reduceBEq, Nat.reduceAdd, Nat.reduceEqDiff, reduceCtorEq, Int.reduceToNat]
  repeat (first | refine qq1 fun Z hN hX hR => ?_ | refine qq2 fun Z hN hX hR => ?_ | refine qq3 (by kernel_rfl) fun K hK => ?_ | ((first | refine qq4 fun R hRR => ?_ | with_reducible change ExpAll _ _ _); simp only [kS, Nat.reduceSub, Nat.reduceMul, Nat.reduceLeDiff, Nat.reducePow, Nat.reduceBEq, Nat.reduceAdd, Nat.reduceEqDiff, reduceCtorEq, Int.reduceToNat]) | (refine hRR _ ?_; clear hRR R) | refine qq5 ?_ | (refine hK _ ?_; clear hK K) | ((first | refine hN _ ?_ | refine hX _ _ ?_ | refine hR _ ?_); clear hN hX hR Z) | refine qq6 rfl ?_ | refine qq7 (by decide) ?_ | (refine qq8 ?_ ?_; focus (simp only [kS, Nat.reduceSub, Nat.reduceMul, Nat.reduceLeDiff, Nat.reducePow, Nat.reduceBEq, Nat.reduceAdd, Nat.reduceEqDiff, reduceCtorEq, Int.reduceToNat]; done)) | (refine qq9 ?_ ?_; focus (simp only [kS, Nat.reduceSub, Nat.reduceMul, Nat.reduceLeDiff, Nat.reducePow, Nat.reduceBEq, Nat.reduceAdd, Nat.reduceEqDiff, reduceCtorEq, Int.reduceToNat]; done)) | refine qqa ?_ | refine qqb ?_ | refine qqc ?_ | refine And.intro (by first | assumption | omega) ?_)
  all_goals rfl

def cmpF : List It → List It → Int
  | x :: a, y :: b => if itF x y = 0 then cmpF a b else itF x y
  | _, _ => 0

theorem itF_cmpL (x y : It) (a b : List Int) : cmpL (x.k :: x.n :: x.lo :: x.hi :: a) (y.k :: y.n :: y.lo :: y.hi :: b) = if itF x y = 0 then cmpL a b else itF x y := by
  have ic : ∀ (u v : Int) (c d : List Int), cmpL (u :: c) (v :: d) = if icmp u v = 0 then cmpL c d else icmp u v := fun u v c d => by
    simp only [cmpL, icmp]
    split
    · rfl
    · split
      · rfl
      · rfl
  rw [ic, ic, ic, ic]
  simp only [itF, orF]
  by_cases h1 : icmp x.k y.k = 0
  · by_cases h2 : icmp x.n y.n = 0
    · by_cases h3 : icmp x.lo y.lo = 0
      · by_cases h4 : icmp x.hi y.hi = 0
        · simp only [h1, h2, h3, h4, if_true]
        · simp only [h1, h2, h3, h4, if_true, if_false]
      · simp only [h1, h2, h3, if_true, if_false]
    · simp only [h1, h2, if_true, if_false]
  · simp only [h1, if_false]

theorem cmpF_eq : ∀ (a b : List It), cmpF a b = cmpL (fl a) (fl b)
  | [], b => by cases b <;> rfl
  | x :: a, [] => rfl
  | x :: a, y :: b => by
    have := itF_cmpL x y (fl a) (fl b)
    simp only [cmpF]
    rw [cmpF_eq a b]
    exact this.symm

theorem cmpF_drop (a b : List It) (i : Nat) (h1 : i < a.length) (h2 : i < b.length) : cmpF (a.drop i) (b.drop i) = if itF a[i] b[i] = 0 then cmpF (a.drop (i + 1)) (b.drop (i + 1)) else itF a[i] b[i] := by
  rw [List.drop_eq_getElem_cons h1, List.drop_eq_getElem_cons h2]; rfl

theorem cmp61_ret (gl : Gl) (a b : List It) (ha : a.length ≤ 1000000) (hl : b.length = a.length) :
    Ret Tryd.prog gl 61 [.c (stC a), .c (stC b), .c (.v (.func (.func 62) #[] #[]))] (iv (cmpF a b)) := by
  refine retq (rs := [6]) 39 Tryd.func61 (by kernel_rfl) rfl (by kernel_rfl) rfl (by simp) (by simp) fun Z hN hX hR => ?_
  simp only [stC, hl]
  repeat (first | refine qq1 fun Z hN hX hR => ?_ | refine qq2 fun Z hN hX hR => ?_ | refine qq3 (by kernel_rfl) fun K hK => ?_ | ((first | refine qq4 fun R hRR => ?_ | with_reducible change ExpAll _ _ _); simp only [kS, Nat.reduceSub, Nat.reduceMul, Nat.reduceLeDiff, Nat.reducePow, Nat.reduceBEq, Nat.reduceAdd, Nat.reduceEqDiff, reduceCtorEq, Int.reduceToNat]) | (refine hRR _ ?_; clear hRR R) | refine qq5 ?_ | (refine hK _ ?_; clear hK K) | ((first | refine hN _ ?_ | refine hX _ _ ?_ | refine hR _ ?_); clear hN hX hR Z) | refine qq6 rfl ?_ | refine qq7 (by decide) ?_ | (refine qq8 ?_ ?_; focus (simp only [kS, Nat.reduceSub, Nat.reduceMul, Nat.reduceLeDiff, Nat.reducePow, Nat.reduceBEq, Nat.reduceAdd, Nat.reduceEqDiff, reduceCtorEq, Int.reduceToNat]; done)) | (refine qq9 ?_ ?_; focus (simp only [kS, Nat.reduceSub, Nat.reduceMul, Nat.reduceLeDiff, Nat.reducePow, Nat.reduceBEq, Nat.reduceAdd, Nat.reduceEqDiff, reduceCtorEq, Int.reduceToNat]; done)) | refine qqa ?_ | refine qqb ?_ | refine qqc ?_ | refine And.intro (by first | assumption | omega) ?_)
  refine awq_loop (fun c f => ∃ (i : Nat), i ≤ a.length ∧ c = a.length - i ∧ f.t 13 = iv (i : Int) ∧ f.t 12 = iv (a.length : Int) ∧ f.t 11 = .c (.sl a.length (itsC a)) ∧ f.t 0 = .c (.sl a.length (itsC a)) ∧ f.t 1 = .c (.sl a.length (itsC b)) ∧
    f.t 2 = .c (.v (.func (.func 62) #[] #[])) ∧ cmpF (a.drop i) (b.drop i) = cmpF a b) a.length ?_ ?_
  · exact ⟨0, by omega, rfl, by first | (simp only [kS, Nat.reduceSub, Nat.reduceMul, Nat.reduceLeDiff, Nat.reducePow, Nat.reduceBEq, Nat.reduceAdd, Nat.reduceEqDiff, reduceCtorEq, Int.reduceToNat]; done) | (simp only [kS, Nat.reduceSub, Nat.reduceMul, Nat.reduceLeDiff, Nat.reducePow, Nat.reduceBEq, Nat.reduceAdd, Nat.reduceEqDiff, reduceCtorEq, Int.reduceToNat]; omega) | (simp only [kS, Nat.reduceSub, Nat.reduceMul, Nat.reduceLeDiff, Nat.reducePow, Nat.reduceBEq, Nat.reduceAdd, Nat.reduceEqDiff, reduceCtorEq, Int.reduceToNat]; rfl), by first | (simp only [kS, Nat.reduceSub, Nat.reduceMul, Nat.reduceLeDiff, Nat.reducePow, Nat.reduceBEq, Nat.reduceAdd, Nat.reduceEqDiff, reduceCtorEq, Int.reduceToNat]; done) | (simp only [kS, Nat.reduceSub, Nat.reduceMul, Nat.reduceLeDiff, Nat.reducePow, Nat.reduceBEq, Nat.reduceAdd, Nat.reduceEqDiff, reduceCtorEq, Int.reduceToNat]; omega) | (simp only [kS, Nat.reduceSub, Nat.reduceMul, Nat.reduceLeDiff, Nat.reducePow, Nat.reduceBEq, Nat.reduceAdd, Nat.reduceEqDiff, reduceCtorEq, Int.reduceToNat]; rfl), by first | (simp only [kS, Nat.reduceSub, Nat.reduceMul, Nat.reduceLeDiff, Nat.reducePow, Nat.reduceBEq, Nat.reduceAdd, Nat.reduceEqDiff, reduceCtorEq, Int.reduceToNat]; done) | (simp only [kS, Nat.reduceSub, Nat.reduceMul, Nat.reduceLeDiff, Nat.reducePow, Nat.reduceBEq, Nat.reduceAdd, Nat.reduceEqDiff, reduceCtorEq, Int.reduceToNat]; omega) | (simp only [kS, Nat.reduceSub, Nat.reduceMul, Nat.reduceLeDiff, Nat.reducePow, Nat.reduceBEq, Nat.reduceAdd, Nat.reduceEqDiff, reduceCtorEq, Int.reduceToNat]; rfl), by first | (simp only [kS, Nat.reduceSub, Nat.reduceMul, Nat.reduceLeDiff, Nat.reducePow, Nat.reduceBEq, Nat.reduceAdd, Nat.reduceEqDiff, reduceCtorEq, Int.reduceToNat]; done) | (simp only [kS, Nat.reduceSub, Nat.reduceMul, Nat.reduceLeDiff, Nat.reducePow, Nat.reduceBEq, Nat.reduceAdd, Nat.reduceEqDiff, reduceCtorEq, Int.reduceToNat]; omega) | (simp only [kS, Nat.reduceSub, Nat.reduceMul, Nat.reduceLeDiff, Nat.reducePow, Nat.reduceBEq, Nat.reduceAdd, Nat.reduceEqDiff, reduceCtorEq, Int.reduceToNat]; rfl), by first | (simp only [kS, Nat.reduceSub, Nat.reduceMul, Nat.reduceLeDiff, Nat.reducePow, Nat.reduceBEq, Nat.reduceAdd, Nat.reduceEqDiff, reduceCtorEq, Int.reduceToNat]; done) | (simp only [kS, Nat.reduceSub, Nat.reduceMul, Nat.reduceLeDiff, Nat.reducePow, Nat.reduceBEq, Nat.reduceAdd, Nat.reduceEqDiff, reduceCtorEq, Int.reduceToNat]; omega) | (simp only [kS, Nat.reduceSub, Nat.reduceMul, Nat.reduceLeDiff, Nat.reducePow, Nat.reduceBEq, Nat.reduceAdd, Nat.reduceEqDiff, reduceCtorEq, Int.reduceToNat]; rfl), by first | (simp only [kS, Nat.reduceSub, Nat.reduceMul, Nat.reduceLeDiff, Nat.reducePow, Nat.reduceBEq, Nat.reduceAdd, Nat.reduceEqDiff, reduceCtorEq, Int.reduceToNat]; done) | (simp only [kS, Nat.reduceSub, Nat.reduceMul, Nat.reduceLeDiff, Nat.reducePow, Nat.reduceBEq, Nat.reduceAdd, Nat.reduceEqDiff, reduceCtorEq, Int.reduceToNat]; omega) | (simp only [kS, Nat.reduceSub, Nat.reduceMul, Nat.reduceLeDiff, Nat.reducePow, Nat.reduceBEq, Nat.reduceAdd, Nat.reduceEqDiff, reduceCtorEq, Int.reduceToNat]; rfl), rfl⟩
  rintro Z c f hN hX hR ⟨i, hi, rfl, h13, h12, h11, h0, h1, h2, ho⟩
  have el := itsC_length a
  have el2 := itsC_length b
  rw [hl] at el2
  by_cases hlt : i < a.length
  · have hlt' : (i : Int) < (a.length : Int) := by omega
    have hlt2 : i < b.length := by omega
    have hge : ¬ (a.length : Int) ≤ (i : Int) := by omega
    have e := itsC_drop a i hlt
    have e2 := itsC_drop b i hlt2
    rw [cmpF_drop a b i hlt hlt2] at ho
    have hc := cmpIt_ret gl a[i] b[i]
    simp only [It.c] at hc
    by_cases g : itF a[i] b[i] = 0
    · have g' : (itF a[i] b[i] != 0) = false := by rw [g]; rfl
      rw [if_pos g] at ho
      repeat (first | refine qq1 fun Z hN hX hR => ?_ | refine qq2 fun Z hN hX hR => ?_ | refine qq3 (by kernel_rfl) fun K hK => ?_ | ((first | refine qq4 fun R hRR => ?_ | with_reducible change ExpAll _ _ _); simp only [kS, Nat.reduceSub, Nat.reduceMul, Nat.reduceLeDiff, Nat.reducePow, Nat.reduceBEq, Nat.reduceAdd, Nat.reduceEqDiff, reduceCtorEq, Int.reduceToNat, tk1, tk2, tk3, tk4, tk5, tk6, tk7, tk8, and_false, false_and, h13, h12, h11, h0, h1, h2, hlt, hlt', hge, e, e2, el, el2, decide_true, decide_false, ge_iff_le]) | (refine hRR _ ?_; clear hRR R) | refine qq5 ?_ | (refine hK _ ?_; clear hK K) | ((first | refine hN _ ?_ | refine hX _ _ ?_ | refine hR _ ?_); clear hN hX hR Z) | refine qq6 rfl ?_ | refine qq7 (by decide) ?_ | (refine qq8 ?_ ?_; focus (simp only [kS, Nat.reduceSub, Nat.reduceMul, Nat.reduceLeDiff, Nat.reducePow, Nat.reduceBEq, Nat.reduceAdd, Nat.reduceEqDiff, reduceCtorEq, Int.reduceToNat, tk1, tk2, tk3, tk4, tk5, tk6, tk7, tk8, and_false, false_and, h13, h12, h11, h0, h1, h2, hlt, hlt', hge, e, e2, el, el2, decide_true, decide_false, ge_iff_le]; done)) | (refine qq9 ?_ ?_; focus (simp only [kS, Nat.reduceSub, Nat.reduceMul, Nat.reduceLeDiff, Nat.reducePow, Nat.reduceBEq, Nat.reduceAdd, Nat.reduceEqDiff, reduceCtorEq, Int.reduceToNat, tk1, tk2, tk3, tk4, tk5, tk6, tk7, tk8, and_false, false_and, h13, h12, h11, h0, h1, h2, hlt, hlt', hge, e, e2, el, el2, decide_true, decide_false, ge_iff_le]; done)) | refine qqa ?_ | refine qqb ?_ | refine qqc ?_ | refine And.intro (by first | assumption | omega) ?_)
      refine ⟨_, hc, rfl, ?_⟩
      simp only [kS, Nat.reduceSub, Nat.reduceMul, Nat.reduceLeDiff, Nat.reducePow, Nat.reduceBEq, Nat.reduceAdd, Nat.reduceEqDiff, reduceCtorEq, Int.reduceToNat, tk1, tk2, tk3, tk4, tk5, tk6, tk7, tk8, and_false, false_and, h13, h12, h11, h0, h1, h2, hlt, hlt', e, e2, el, el2, decide_true, g']
      repeat (first | refine qq1 fun Z hN hX hR => ?_ | refine qq2 fun Z hN hX hR => ?_ | refine qq3 (by kernel_rfl) fun K hK => ?_ | ((first | refine qq4 fun R hRR => ?_ | with_reducible change ExpAll _ _ _); simp only [kS, Nat.reduceSub, Nat.reduceMul, Nat.reduceLeDiff, Nat.reducePow, Nat.reduceBEq, Nat.reduceAdd, Nat.reduceEqDiff, reduceCtorEq, Int.reduceToNat, tk1, tk2, tk3, tk4, tk5, tk6, tk7, tk8, and_false, false_and, h13, h12, h11, h0, h1, h2, hlt, hlt', e, e2, el, el2, decide_true, g']) | (refine hRR _ ?_; clear hRR R) | refine qq5 ?_ | (refine hK _ ?_; clear hK K) | ((first | refine hN _ ?_ | refine hX _ _ ?_ | refine hR _ ?_); clear hN hX hR Z) | refine qq6 rfl ?_ | refine qq7 (by decide) ?_ | (refine qq8 ?_ ?_; focus (simp only [kS, Nat.reduceSub, Nat.reduceMul, Nat.reduceLeDiff, Nat.reducePow, Nat.reduceBEq, Nat.reduceAdd, Nat.reduceEqDiff, reduceCtorEq, Int.reduceToNat, tk1, tk2, tk3, tk4, tk5, tk6, tk7, tk8, and_false, false_and, h13, h12, h11, h0, h1, h2, hlt, hlt', e, e2, el, el2, decide_true, g']; done)) | (refine qq9 ?_ ?_; focus (simp only [kS, Nat.reduceSub, Nat.reduceMul, Nat.reduceLeDiff, Nat.reducePow, Nat.reduceBEq, Nat.reduceAdd, Nat.reduceEqDiff, reduceCtorEq, Int.reduceToNat, tk1, tk2, tk3, tk4, tk5, tk6, tk7, tk8, and_false, false_and, h13, h12, h11, h0, h1, h2, hlt, hlt', e, e2, el, el2, decide_true, g']; done)) | refine qqa ?_ | refine qqb ?_ | refine qqc ?_ | refine And.intro (by first | assumption | omega) ?_)
      refine ⟨a.length - (i + 1), by omega, i + 1, by omega, rfl, ?_, by simp only [kS, Nat.reduceSub, Nat.reduceMul, Nat.reduceLeDiff, Nat.reducePow, Nat.reduceBEq, Nat.reduceAdd, Nat.reduceEqDiff, reduceCtorEq, Int.reduceToNat, h12], by simp only [kS, Nat.reduceSub, Nat.reduceMul, Nat.reduceLeDiff, Nat.reducePow, Nat.reduceBEq, Nat.reduceAdd, Nat.reduceEqDiff, reduceCtorEq, Int.reduceToNat, h11], by simp only [kS, Nat.reduceSub, Nat.reduceMul, Nat.reduceLeDiff, Nat.reducePow, Nat.reduceBEq, Nat.reduceAdd, Nat.reduceEqDiff, reduceCtorEq, Int.reduceToNat, h0], by simp only [kS, Nat.reduceSub, Nat.reduceMul, Nat.reduceLeDiff, Nat.reducePow, Nat.reduceBEq, Nat.reduceAdd, Nat.reduceEqDiff, reduceCtorEq, Int.reduceToNat, h1], by simp only [kS, Nat.reduceSub, Nat.reduceMul, Nat.reduceLeDiff, Nat.reducePow, Nat.reduceBEq, Nat.reduceAdd, Nat.reduceEqDiff, reduceCtorEq, Int.reduceToNat, h2], ho⟩
      simp only [kS, Nat.reduceSub, Nat.reduceMul, Nat.reduceLeDiff, Nat.reducePow, Nat.reduceBEq, Nat.reduceAdd, Nat.reduceEqDiff, reduceCtorEq, Int.reduceToNat]
      rw [wrap_i64 (by omega) (by omega)]; rfl
    · have g' : (itF a[i] b[i] != 0) = true := by rw [bne_iff_ne]; exact g
      rw [if_neg g] at ho
      repeat (first | refine qq1 fun Z hN hX hR => ?_ | refine qq2 fun Z hN hX hR => ?_ | refine qq3 (by kernel_rfl) fun K hK => ?_ | ((first | refine qq4 fun R hRR => ?_ | with_reducible change ExpAll _ _ _); simp only [kS, Nat.reduceSub, Nat.reduceMul, Nat.reduceLeDiff, Nat.reducePow, Nat.reduceBEq, Nat.reduceAdd, Nat.reduceEqDiff, reduceCtorEq, Int.reduceToNat, tk1, tk2, tk3, tk4, tk5, tk6, tk7, tk8, and_false, false_and, h13, h12, h11, h0, h1, h2, hlt, hlt', hge, e, e2, el, el2, decide_true, decide_false, ge_iff_le]) | (refine hRR _ ?_; clear hRR R) | refine qq5 ?_ | (refine hK _ ?_; clear hK K) | ((first | refine hN _ ?_ | refine hX _ _ ?_ | refine hR _ ?_); clear hN hX hR Z) | refine qq6 rfl ?_ | refine qq7 (by decide) ?_ | (refine qq8 ?_ ?_; focus (simp only [kS, Nat.reduceSub, Nat.reduceMul, Nat.reduceLeDiff, Nat.reducePow, Nat.reduceBEq, Nat.reduceAdd, Nat.reduceEqDiff, reduceCtorEq, Int.reduceToNat, tk1, tk2, tk3, tk4, tk5, tk6, tk7, tk8, and_false, false_and, h13, h12, h11, h0, h1, h2, hlt, hlt', hge, e, e2, el, el2, decide_true, decide_false, ge_iff_le]; done)) | (refine qq9 ?_ ?_; focus (simp only [kS, Nat.reduceSub, Nat.reduceMul, Nat.reduceLeDiff, Nat.reducePow, Nat.reduceBEq, Nat.reduceAdd, Nat.reduceEqDiff, reduceCtorEq, Int.reduceToNat, tk1, tk2, tk3, tk4, tk5, tk6, tk7, tk8, and_false, false_and, h13, h12, h11, h0, h1, h2, hlt, hlt', hge, e, e2, el, el2, decide_true, decide_false, ge_iff_le]; done)) | refine qqa ?_ | refine qqb ?_ | refine qqc ?_ | refine And.intro (by first | assumption | omega) ?_)
      refine ⟨_, hc, rfl, ?_⟩
      simp only [kS, Nat.reduceSub, Nat.reduceMul, Nat.reduceLeDiff, Nat.reducePow, Nat.reduceBEq, Nat.reduceAdd, Nat.reduceEqDiff, reduceCtorEq, Int.reduceToNat, tk1, tk2, tk3, tk4, tk5, tk6, tk7, tk8, and_false, false_and, h13, h12, h11, h0, h1, h2, hlt, hlt', e, e2, el, el2, decide_true, g']
      repeat (first | refine qq1 fun Z hN hX hR => ?_ | refine qq2 fun Z hN hX hR => ?_ | refine qq3 (by kernel_rfl) fun K hK => ?_ | ((first | refine qq4 fun R hRR => ?_ | with_reducible change ExpAll _ _ _); simp only [kS, Nat.reduceSub, Nat.reduceMul, Nat.reduceLeDiff, Nat.reducePow, Nat.reduceBEq, Nat.reduceAdd, Nat.reduceEqDiff, reduceCtorEq, Int.reduceToNat, tk1, tk2, tk3, tk4, tk5, tk6, tk7, tk8, and_false, false_and, h13, h12, h11, h0, h1, h2, hlt, hlt', e, e2, el, el2, decide_true, g']) | (refine hRR _ ?_; clear hRR R) | refine qq5 ?_ | (refine hK _ ?_; clear hK K) | ((first | refine hN _ ?_ | refine hX _ _ ?_ | refine hR _ ?_); clear hN hX hR Z) | refine qq6 rfl ?_ | refine qq7 (by decide) ?_ | (refine qq8 ?_ ?_; focus (simp only [kS, Nat.reduceSub, Nat.reduceMul, Nat.reduceLeDiff, Nat.reducePow, Nat.reduceBEq, Nat.reduceAdd, Nat.reduceEqDiff, reduceCtorEq, Int.reduceToNat, tk1, tk2, tk3, tk4, tk5, tk6, tk7, tk8, and_false, false_and, h13, h12, h11, h0, h1, h2, hlt, hlt', e, e2, el, el2, decide_true, g']; done)) | (refine qq9 ?_ ?_; focus (simp only [kS, Nat.reduceSub, Nat.reduceMul, Nat.reduceLeDiff, Nat.reducePow, Nat.reduceBEq, Nat.reduceAdd, Nat.reduceEqDiff, reduceCtorEq, Int.reduceToNat, tk1, tk2, tk3, tk4, tk5, tk6, tk7, tk8, and_false, false_and, h13, h12, h11, h0, h1, h2, hlt, hlt', e, e2, el, el2, decide_true, g']; done)) | refine qqa ?_ | refine qqb ?_ | refine qqc ?_ | refine And.intro (by first | assumption | omega) ?_)
      rw [ho]
  · have hlt' : ¬ (i : Int) < (a.length : Int) := by omega
    have hself : ¬ (a.length : Int) < (a.length : Int) := by omega
    rw [List.drop_eq_nil_of_le (by omega)] at ho
    repeat (first | refine qq1 fun Z hN hX hR => ?_ | refine qq2 fun Z hN hX hR => ?_ | refine qq3 (by kernel_rfl) fun K hK => ?_ | ((first | refine qq4 fun R hRR => ?_ | with_reducible change ExpAll _ _ _); simp only [kS, Nat.reduceSub, Nat.reduceMul, Nat.reduceLeDiff, Nat.reducePow, Nat.reduceBEq, Nat.reduceAdd, Nat.reduceEqDiff, reduceCtorEq, Int.reduceToNat, h13, h12, h11, h0, h1, h2, hlt', hself, el, el2, decide_false]) | (refine hRR _ ?_; clear hRR R) | refine qq5 ?_ | (refine hK _ ?_; clear hK K) | ((first | refine hN _ ?_ | refine hX _ _ ?_ | refine hR _ ?_); clear hN hX hR Z) | refine qq6 rfl ?_ | refine qq7 (by decide) ?_ | (refine qq8 ?_ ?_; focus (simp only [kS, Nat.reduceSub, Nat.reduceMul, Nat.reduceLeDiff, Nat.reducePow, Nat.reduceBEq, Nat.reduceAdd, Nat.reduceEqDiff, reduceCtorEq, Int.reduceToNat, h13, h12, h11, h0, h1, h2, hlt', hself, el, el2, decide_false]; done)) | (refine qq9 ?_ ?_; focus (simp only [kS, Nat.reduceSub, Nat.reduceMul, Nat.reduceLeDiff, Nat.reducePow, Nat.reduceBEq, Nat.reduceAdd, Nat.reduceEqDiff, reduceCtorEq, Int.reduceToNat, h13, h12, h11, h0, h1, h2, hlt', hself, el, el2, decide_false]; done)) | refine qqa ?_ | refine qqb ?_ | refine qqc ?_ | refine And.intro (by first | assumption | omega) ?_)
    rw [← ho]; rfl

theorem cmp38_ret (gl : Gl) (a b : List It) (ha : a.length ≤ 1000000) (hb : b.length ≤ 1000000) : Ret Tryd.prog gl 38 [.c (stC a), .c (stC b)] (iv (scmp a b)) := by
  refine retq (rs := [4]) 17 Tryd.func38 (by kernel_rfl) rfl (by kernel_rfl) rfl (by simp) (by simp) fun Z hN hX hR => ?_
  repeat (first | refine qq1 fun Z hN hX hR => ?_ | refine qq2 fun Z hN hX hR => ?_ | refine qq3 (by kernel_rfl) fun K hK => ?_ | ((first | refine qq4 fun R hRR => ?_ | with_reducible change ExpAll _ _ _); simp only [kS, Nat.reduceSub, Nat.reduceMul, Nat.reduceLeDiff, Nat.reducePow, Nat.reduceBEq, Nat.reduceAdd, Nat.reduceEqDiff, reduceCtorEq, Int.reduceToNat]) | (refine hRR _ ?_; clear hRR R) | refine qq5 ?_ | (refine hK _ ?_; clear hK K) | ((first | refine hN _ ?_ | refine hX _ _ ?_ | refine hR _ ?_); clear hN hX hR Z) | refine qq6 rfl ?_ | refine qq7 (by decide) ?_ | (refine qq8 ?_ ?_; focus (simp only [kS, Nat.reduceSub, Nat.reduceMul, Nat.reduceLeDiff, Nat.reducePow, Nat.reduceBEq, Nat.reduceAdd, Nat.reduceEqDiff, reduceCtorEq, Int.reduceToNat]; done)) | (refine qq9 ?_ ?_; focus (simp only [kS, Nat.reduceSub, Nat.reduceMul, Nat.reduceLeDiff, Nat.reducePow, Nat.reduceBEq, Nat.reduceAdd, Nat.reduceEqDiff, reduceCtorEq, Int.reduceToNat]; done)) | refine qqa ?_ | refine qqb ?_ | refine qqc ?_ | refine And.intro (by first | assumption | omega) ?_)
  refine ⟨_, cmp60_ret gl a.length b.length, rfl, ?_⟩
  simp only [kS, Nat.reduceSub, Nat.reduceMul, Nat.reduceLeDiff, Nat.reducePow, Nat.reduceBEq, Nat.reduceAdd, Nat.reduceEqDiff, reduceCtorEq, Int.reduceToNat]
  by_cases h1 : (a.length : Int) < b.length
  · have : icmp a.length b.length = -1 := by simp only [icmp, h1, if_true]
    rw [this]
    repeat (first | refine qq1 fun Z hN hX hR => ?_ | refine qq2 fun Z hN hX hR => ?_ | refine qq3 (by kernel_rfl) fun K hK => ?_ | ((first | refine qq4 fun R hRR => ?_ | with_reducible change ExpAll _ _ _); simp only [kS, Nat.reduceSub, Nat.reduceMul, Nat.reduceLeDiff, Nat.reducePow, Nat.reduceBEq, Nat.reduceAdd, Nat.reduceEqDiff, reduceCtorEq, Int.reduceToNat, Int.reduceBNe]) | (refine hRR _ ?_; clear hRR R) | refine qq5 ?_ | (refine hK _ ?_; clear hK K) | ((first | refine hN _ ?_ | refine hX _ _ ?_ | refine hR _ ?_); clear hN hX hR Z) | refine qq6 rfl ?_ | refine qq7 (by decide) ?_ | (refine qq8 ?_ ?_; focus (simp only [kS, Nat.reduceSub, Nat.reduceMul, Nat.reduceLeDiff, Nat.reducePow, Nat.reduceBEq, Nat.reduceAdd, Nat.reduceEqDiff, reduceCtorEq, Int.reduceToNat, Int.reduceBNe]; done)) | (refine qq9 ?_ ?_; focus (simp only [kS, Nat.reduceSub, Nat.reduceMul, Nat.reduceLeDiff, Nat.reducePow, Nat.reduceBEq, Nat.reduceAdd, Nat.reduceEqDiff, reduceCtorEq, Int.reduceToNat, Int.reduceBNe]; done)) | refine qqa ?_ | refine qqb ?_ | refine qqc ?_ | refine And.intro (by first | assumption | omega) ?_)
    rw [scmp_def, if_pos h1]
  · by_cases h2 : (b.length : Int) < a.length
    · have : icmp a.length b.length = 1 := by simp only [icmp, h1, h2, if_true, if_false]
      rw [this]
      repeat (first | refine qq1 fun Z hN hX hR => ?_ | refine qq2 fun Z hN hX hR => ?_ | refine qq3 (by kernel_rfl) fun K hK => ?_ | ((first | refine qq4 fun R hRR => ?_ | with_reducible change ExpAll _ _ _); simp only [kS, Nat.reduceSub, Nat.reduceMul, Nat.reduceLeDiff, Nat.reducePow, Nat.reduceBEq, Nat.reduceAdd, Nat.reduceEqDiff, reduceCtorEq, Int.reduceToNat, Int.reduceBNe]) | (refine hRR _ ?_; clear hRR R) | refine qq5 ?_ | (refine hK _ ?_; clear hK K) | ((first | refine hN _ ?_ | refine hX _ _ ?_ | refine hR _ ?_); clear hN hX hR Z) | refine qq6 rfl ?_ | refine qq7 (by decide) ?_ | (refine qq8 ?_ ?_; focus (simp only [kS, Nat.reduceSub, Nat.reduceMul, Nat.reduceLeDiff, Nat.reducePow, Nat.reduceBEq, Nat.reduceAdd, Nat.reduceEqDiff, reduceCtorEq, Int.reduceToNat, Int.reduceBNe]; done)) | (refine qq9 ?_ ?_; focus (simp only [kS, Nat.reduceSub, Nat.reduceMul, Nat.reduceLeDiff, Nat.reducePow, Nat.reduceBEq, Nat.reduceAdd, Nat.reduceEqDiff, reduceCtorEq, Int.reduceToNat, Int.reduceBNe]; done)) | refine qqa ?_ | refine qqb ?_ | refine qqc ?_ | refine And.intro (by first | assumption | omega) ?_)
      rw [scmp_def, if_neg h1, if_pos h2]
    · have : icmp a.length b.length = 0 := by simp only [icmp, h1, h2, if_false]
      rw [this]
      have hc := cmp61_ret gl a b ha (by omega)
      rw [cmpF_eq] at hc
      repeat (first | refine qq1 fun Z hN hX hR => ?_ | refine qq2 fun Z hN hX hR => ?_ | refine qq3 (by kernel_rfl) fun K hK => ?_ | ((first | refine qq4 fun R hRR => ?_ | with_reducible change ExpAll _ _ _); simp only [kS, Nat.reduceSub, Nat.reduceMul, Nat.reduceLeDiff, Nat.reducePow, Nat.reduceBEq, Nat.reduceAdd, Nat.reduceEqDiff, reduceCtorEq, Int.reduceToNat, Int.reduceBNe, bne_self_eq_false]) | (refine hRR _ ?_; clear hRR R) | refine qq5 ?_ | (refine hK _ ?_; clear hK K) | ((first | refine hN _ ?_ | refine hX _ _ ?_ | refine hR _ ?_); clear hN hX hR Z) | refine qq6 rfl ?_ | refine qq7 (by decide) ?_ | (refine qq8 ?_ ?_; focus (simp only [kS, Nat.reduceSub, Nat.reduceMul, Nat.reduceLeDiff, Nat.reducePow, Nat.reduceBEq, Nat.reduceAdd, Nat.reduceEqDiff, reduceCtorEq, Int.reduceToNat, Int.reduceBNe, bne_self_eq_false]; done)) | (refine qq9 ?_ ?_; focus (simp only [kS, Nat.reduceSub, Nat.reduceMul, Nat.reduceLeDiff, Nat.reducePow, Nat.reduceBEq, Nat.reduceAdd, Nat.reduceEqDiff, reduceCtorEq, Int.reduceToNat, Int.reduceBNe, bne_self_eq_false]; done)) | refine qqa ?_ | refine qqb ?_ | refine qqc ?_ | refine And.intro (by first | assumption | omega) ?_)
      refine ⟨_, hc, rfl, ?_⟩
      simp only [kS, Nat.reduceSub, Nat.reduceMul, Nat.reduceLeDiff, Nat.reducePow, Nat.reduceBEq, Nat.reduceAdd, Nat.reduceEqDiff, reduceCtorEq, Int.reduceToNat]
      repeat (first | refine qq1 fun Z hN hX hR => ?_ | refine qq2 fun Z hN hX hR => ?_ | refine qq3 (by kernel_rfl) fun K hK => ?_ | ((first | refine qq4 fun R hRR => ?_ | with_reducible change ExpAll _ _ _); simp only [kS, Nat.reduceSub, Nat.reduceMul, Nat.reduceLeDiff, Nat.reducePow, Nat.reduceBEq, Nat.reduceAdd, Nat.reduceEqDiff, reduceCtorEq, Int.reduceToNat]) | (refine hRR _ ?_; clear hRR R) | refine qq5 ?_ | (refine hK _ ?_; clear hK K) | ((first | refine hN _ ?_ | refine hX _ _ ?_ | refine hR _ ?_); clear hN hX hR Z) | refine qq6 rfl ?_ | refine qq7 (by decide) ?_ | (refine qq8 ?_ ?_; focus (simp only [kS, Nat.reduceSub, Nat.reduceMul, Nat.reduceLeDiff, Nat.reducePow, Nat.reduceBEq, Nat.reduceAdd, Nat.reduceEqDiff, reduceCtorEq, Int.reduceToNat]; done)) | (refine qq9 ?_ ?_; focus (simp only [kS, Nat.reduceSub, Nat.reduceMul, Nat.reduceLeDiff, Nat.reducePow, Nat.reduceBEq, Nat.reduceAdd, Nat.reduceEqDiff, reduceCtorEq, Int.reduceToNat]; done)) | refine qqa ?_ | refine qqb ?_ | refine qqc ?_ | refine And.intro (by first | assumption | omega) ?_)
      rw [scmp_def, if_neg h1, if_neg h2]

theorem cmp37_ret (gl : Gl) (a b : Br) (ha : a.to.length ≤ 1000000) (hb : b.to.length ≤ 1000000) : Ret Tryd.prog gl 37 [.agg a.c, .agg b.c] (iv (scmp a.to b.to)) := by
  refine retq (rs := [4]) 10 Tryd.func37 (by kernel_rfl) rfl (by kernel_rfl) rfl (by simp) (by simp) fun Z hN hX hR => ?_
  simp only [Br.c]
  repeat (first | refine qq1 fun Z hN hX hR => ?_ | refine qq2 fun Z hN hX hR => ?_ | refine qq3 (by kernel_rfl) fun K hK => ?_ | ((first | refine qq4 fun R hRR => ?_ | with_reducible change ExpAll _ _ _); simp only [kS, Nat.reduceSub, Nat.reduceMul, Nat.reduceLeDiff, Nat.reducePow, Nat.reduceBEq, Nat.reduceAdd, Nat.reduceEqDiff, reduceCtorEq, Int.reduceToNat]) | (refine hRR _ ?_; clear hRR R) | refine qq5 ?_ | (refine hK _ ?_; clear hK K) | ((first | refine hN _ ?_ | refine hX _ _ ?_ | refine hR _ ?_); clear hN hX hR Z) | refine qq6 rfl ?_ | refine qq7 (by decide) ?_ | (refine qq8 ?_ ?_; focus (simp only [kS, Nat.reduceSub, Nat.reduceMul, Nat.reduceLeDiff, Nat.reducePow, Nat.reduceBEq, Nat.reduceAdd, Nat.reduceEqDiff, reduceCtorEq, Int.reduceToNat]; done)) | (refine qq9 ?_ ?_; focus (simp only [kS, Nat.reduceSub, Nat.reduceMul, Nat.reduceLeDiff, Nat.reducePow, Nat.reduceBEq, Nat.reduceAdd, Nat.reduceEqDiff, reduceCtorEq, Int.reduceToNat]; done)) | refine qqa ?_ | refine qqb ?_ | refine qqc ?_ | refine And.intro (by first | assumption | omega) ?_)
  refine ⟨_, cmp38_ret gl a.to b.to ha hb, rfl, ?_⟩
  simp only [kS, Nat.reduceSub, Nat.reduceMul, Nat.reduceLeDiff, Nat.reducePow, Nat.reduceBEq, Nat.reduceAdd, Nat.reduceEqDiff, reduceCtorEq, Int.reduceToNat]
  repeat (first | refine qq1 fun Z hN hX hR => ?_ | refine qq2 fun Z hN hX hR => ?_ | refine qq3 (by kernel_rfl) fun K hK => ?_ | ((first | refine qq4 fun R hRR => ?_ | with_reducible change ExpAll _ _ _); simp only [kS, Nat.reduceSub, Nat.reduceMul, Nat.reduceLeDiff, Nat.reducePow, Nat.reduceBEq, Nat.reduceAdd, Nat.reduceEqDiff, reduceCtorEq, Int.reduceToNat]) | (refine hRR _ ?_; clear hRR R) | refine qq5 ?_ | (refine hK _ ?_; clear hK K) | ((first | refine hN _ ?_ | refine hX _ _ ?_ | refine hR _ ?_); clear hN hX hR Z) | refine qq6 rfl ?_ | refine qq7 (by decide) ?_ | (refine qq8 ?_ ?_; focus (simp only [kS, Nat.reduceSub, Nat.reduceMul, Nat.reduceLeDiff, Nat.reducePow, Nat.reduceBEq, Nat.reduceAdd, Nat.reduceEqDiff, reduceCtorEq, Int.reduceToNat]; done)) | (refine qq9 ?_ ?_; focus (simp only [kS, Nat.reduceSub, Nat.reduceMul, Nat.reduceLeDiff, Nat.reducePow, Nat.reduceBEq, Nat.reduceAdd, Nat.reduceEqDiff, reduceCtorEq, Int.reduceToNat]; done)) | refine qqa ?_ | refine qqb ?_ | refine qqc ?_ | refine And.intro (by first | assumption | omega) ?_)
  all_goals rfl

end Go.Proofs.YtilhjiopbbbgmaaDoor

/- Branches sorted by the library's own sort. -/
namespace Go.Proofs.YtilhjiopbbbgmaaDoor
open Go Go.RowKit Am Go.Shelf Go.Sort Go.Proofs
set_option linter.unusedVariables false
set_option linter.unusedSimpArgs false

theorem grow_of_below {W w' : World} (hb : Go.RowKit.Below W.heap.size W w') (hd : W.drawn ≤ w'.drawn) : ∃ q os, w' = grow (W.drewN q) os := by
  refine ⟨w'.drawn - W.drawn, w'.heap.extract W.heap.size w'.heap.size, ?_⟩
  obtain ⟨heap, tape, drawn, os, output⟩ := w'
  obtain ⟨b1, b2, b3, b4, b5⟩ := hb
  simp only at b1 b2 b3 b4 b5 hd
  subst b1 b2 b3
  have e1 : W.drawn + (drawn - W.drawn) = drawn := by omega
  have e2 : W.heap ++ heap.extract W.heap.size heap.size = heap := by
    apply Array.ext_getElem?
    intro i
    by_cases hi : i < W.heap.size
    · rw [Array.getElem?_append_left hi]; exact (b5 i hi).symm
    · rw [Array.getElem?_append_right (by omega), Array.getElem?_extract]
      by_cases h2 : i < heap.size
      · rw [if_pos (by omega), show W.heap.size + (i - W.heap.size) = i by omega]
      · rw [if_neg (by omega), Array.getElem?_eq_none (by omega)]
  show (⟨heap, W.tape, drawn, W.os, W.output⟩ : World) = ⟨W.heap ++ heap.extract W.heap.size heap.size, W.tape, W.drawn + (drawn - W.drawn), W.os, W.output⟩
  rw [e1, e2]

/-- A branch's two cells, in a world. -/
structure SE (w : World) (G : Am.Good) where
  to : List It
  a : Option Addr
  c : Nat
  q : Int
  ok : RepC w G (stC to) (.slice a to.length c)
  short : to.length ≤ 1000000

instance {w : World} {G : Am.Good} : Inhabited (SE w G) := ⟨⟨[], none, 0, 0, by simp only [RepC]; exact ⟨none, 0, rfl, Nat.le_refl _, .inl rfl⟩, by simp⟩⟩

section
variable {w : World} {G : Am.Good}
def SE.enc (x : SE w G) : List Value := [.slice x.a x.to.length x.c, .int .i64 x.q]
def SE.br (x : SE w G) : Br := ⟨x.to, x.q⟩
abbrev cfS (x y : SE w G) : Int := scmp x.to y.to

theorem swo_scmp : SWO (ltOf (cfS (w := w) (G := G))) where
  irrefl x := by simp [ltOf, cfS, scmp_refl]
  trans x y z h1 h2 := by
    simp only [ltOf, cfS, decide_eq_true_eq] at h1 h2 ⊢
    have a := scmp_val x.to y.to
    have b := scmp_val y.to z.to
    rw [scmp_trans (show scmp x.to y.to = -1 by omega) (show scmp y.to z.to = -1 by omega)]
    omega
  ntrans x y z h1 h2 := by
    simp only [ltOf, cfS, decide_eq_false_iff_not] at h1 h2 ⊢
    intro h3
    have a := scmp_val x.to y.to
    have b := scmp_val y.to z.to
    have c := scmp_val x.to z.to
    have c' : scmp x.to z.to = -1 := by omega
    rcases a with a | a | a
    · omega
    · rw [scmp_eq] at a
      rw [a] at c'
      omega
    · have a' : scmp y.to x.to = -1 := by rw [scmp_neg x.to y.to]; omega
      have := scmp_trans a' c'
      omega

theorem sw_heap (g m : Nat) (dk : Array (SE w G)) (os : Array Obj) {b : Nat} (hb : b < w.heap.size) (hne : b ≠ g) : (sortWorldK SE.enc 2 w g 0 m dk os).heap[b]? = w.heap[b]? := by
  unfold sortWorldK putRowK
  rw [heap_grow_old _ _ (by simpa using hb)]
  have : g ≠ b := fun e => hne e.symm
  simp [putRow, mapBlock, Sort.ahead, Array.getElem?_modify, this]

theorem sw_size (g m : Nat) (dk : Array (SE w G)) (os : Array Obj) : w.heap.size ≤ (sortWorldK SE.enc 2 w g 0 m dk os).heap.size := by
  unfold sortWorldK putRowK
  show w.heap.size ≤ ((putRow id (Sort.ahead w m) g 0 (flatK SE.enc 2 dk)).heap ++ os).size
  simp [putRow, mapBlock, Sort.ahead]

theorem sw_grown (g m : Nat) (dk : Array (SE w G)) (os : Array Obj) : w.grownBy (sortWorldK SE.enc 2 w g 0 m dk os) (some g) :=
  ⟨rfl, rfl, rfl, sw_size g m dk os, fun k hk hne => sw_heap g m dk os hk (fun e => hne (by rw [e]))⟩

def glS : Gl := ⟨fun _ => none, fun _ => True, fun _ _ _ _ => trivial, True⟩

theorem cmp_lays (hG : ∀ b o, G b o → b < w.heap.size) (g n : Nat) (hgG : ∀ o, ¬ G g o) : CmpLays Tryd.prog 37 #[] (SE.enc (w := w) (G := G)) 2 cfS g 0 n w := by
  intro m os dk hs x y
  have S : Settled w (sortWorldK SE.enc 2 w g 0 m dk os) G G := Settled.of_grown (sw_grown g m dk os) hG fun b e => by cases e; exact hgG
  have rep : ∀ z : SE w G, RepL (sortWorldK SE.enc 2 w g 0 m dk os) G z.br.c z.enc := fun z => ⟨RepC.mono S _ _ z.ok, by simp only [RepC]; exact ⟨rfl, rfl⟩, trivial⟩
  refine ((cmp37_ret glS x.br y.br x.short y.short).2 (sortWorldK SE.enc 2 w g 0 m dk os) G #[.agg x.enc.toArray, .agg y.enc.toArray] (fun b o h => Nat.lt_of_lt_of_le (hG b o h) (sw_size g m dk os)) ⟨fun i cs h => (by cases h), trivial⟩
    ⟨⟨_, rfl, rep x⟩, ⟨_, rfl, rep y⟩, trivial⟩).mono ?_
  rintro e w' ⟨v, rfl, hb, hdr, G', _, _, _, hr⟩
  simp only [RepR, RepC] at hr
  obtain ⟨q, os', h⟩ := grow_of_below hb (hdr trivial)
  exact ⟨by rw [hr.1]; rfl, q, os', h⟩

theorem sort36_c (hG : ∀ b o, G b o → b < w.heap.size) (g cap : Nat) (d : Array (SE w G)) (hH : HoldsK SE.enc 2 w g 0 d) (hg : g < w.heap.size) (hgG : ∀ o, ¬ G g o) (hsz : d.size ≤ 1000000) :
    Calls Tryd.prog 36 #[.slice (some ⟨g, 0, none⟩) d.size cap, .func (.func 37) #[] #[]] w fun e w' =>
      e = .returned (.tuple #[]) ∧ w.grownBy w' (some g) ∧ ∃ d' : Array (SE w G), d'.toList.Perm d.toList ∧ d'.size = d.size ∧ SortedIn (ltOf cfS) 0 d.size d' ∧ HoldsK SE.enc 2 w' g 0 d' := by
  have eg : ∀ args w, (callFunc 37 args).run Tryd.prog w = .ok (.enter 37 args) w := callF Tryd.func37 (by kernel_rfl) rfl
  refine (AnyQ.slices_SortFunc sort36 2 Tryd.isAgg37 Tryd.sizeOf37 SE.enc (fun _ => rfl) (fun x v hv => by simp [SE.enc] at hv; rcases hv with rfl | rfl <;> rfl) cfS swo_scmp 37 #[] g 0 cap d w eg (cmp_lays hG g d.size hgG) hH hg (by omega)).mono ?_
  rintro e w' ⟨rfl, d', n, os, ⟨p1, p2, p3⟩, hs, rfl⟩
  refine ⟨rfl, sw_grown g n d' os, d', ?_, p1, hs, holdsK_sortWorldK_c SE.enc 2 w g 0 d d' n os hH hg p1⟩
  have e1 : d'.extract 0 d.size = d' := by rw [← p1]; simp
  have e2 : d.extract 0 d.size = d := by simp
  rw [e1, e2] at p3
  exact p3
end

end Go.Proofs.YtilhjiopbbbgmaaDoor

/- The program's own Heads: plain parts of its walk. -/
namespace Go.Proofs.YtilhjiopbbbgmaaDoor
open Go Go.RowKit Am Go.Shelf Go.Sort Go.Proofs
set_option linter.unusedVariables false
set_option linter.unusedSimpArgs false

theorem flat2 {α : Type} (f : α → List Value) (hf : ∀ x, (f x).length = 2) : ∀ (l : List α) (j : Nat), (l.flatMap f)[j]? = (l[j / 2]?).bind fun x => (f x)[j % 2]?
  | [], j => by simp
  | x :: l, j => by
    rw [List.flatMap_cons]
    by_cases h : j < 2
    · rw [List.getElem?_append_left (by rw [hf]; exact h), show j / 2 = 0 by omega, show j % 2 = j by omega]
      simp
    · rw [List.getElem?_append_right (by rw [hf]; omega), hf, flat2 f hf l (j - 2), show (j - 2) % 2 = j % 2 by omega, show j / 2 = (j - 2) / 2 + 1 by omega]
      simp

section
variable {w w' : World} {G G' : Am.Good}

theorem flatK_get (d : Array (SE w G)) (j : Nat) (hj : j < d.size * 2) : (d.toList.flatMap SE.enc)[j]? = some (flatK SE.enc 2 d)[j]! := by
  rw [flat2 SE.enc (fun _ => rfl), get_flatK _ _ _ _ hj]
  have h1 : j / 2 < d.size := by omega
  have h2 : j % 2 = 0 ∨ j % 2 = 1 := by omega
  rw [Array.getElem?_toList, Array.getElem?_eq_getElem h1, getElem!_pos d (j / 2) h1]
  rcases h2 with h2 | h2 <;> rw [h2] <;> rfl

theorem holdsK_row {g cap : Nat} {d : Array (SE w G)} {cur : Array Value} {e : TypeId} (hb : w.heap[g]? = some (.cells cur e (0, 0))) (ht : cur.toList.take (d.size * 2) = d.toList.flatMap SE.enc) : HoldsK SE.enc 2 w g 0 d := by
  intro j hj
  rw [size_flatK] at hj
  have h1 := flatK_get d j hj
  rw [← ht, List.getElem?_take_of_lt hj] at h1
  refine ⟨?_, by simp [World.frozen?, hb]⟩
  simp only [World.cell?, hb, id_eq, Nat.zero_add]
  simpa using h1

theorem rep_flat (S : Settled w w' G G') : ∀ l : List (SE w G), RepL w' G' (bsC (l.map SE.br)) (l.flatMap SE.enc)
  | [] => trivial
  | x :: l => ⟨RepC.mono S _ _ x.ok, by simp only [RepC]; exact ⟨rfl, rfl⟩, rep_flat S l⟩

theorem rep_row (S : Settled w w' G G') {g cap : Nat} {d : Array (SE w G)} (hH : HoldsK SE.enc 2 w' g 0 d) (hcap : d.size ≤ cap) (hg : ∀ o, o < d.size * 2 → G' g o) : RepC w' G' (brC (d.toList.map SE.br)) (.slice (some ⟨g, 0, none⟩) d.size cap) := by
  simp only [RepC]
  refine ⟨some ⟨g, 0, none⟩, cap, by simp, by simpa using hcap, .inr ⟨g, 0, rfl, RepM.of_vals (rep_flat S d.toList) (fun j v hj => ?_) (fun j hj => ?_)⟩⟩
  · have hlt : j < d.size * 2 := by
      have := (List.getElem?_eq_some_iff.1 hj).1
      rw [← (rep_flat S d.toList).length, bsC_length] at this
      simpa using this
    rw [flatK_get d j hlt] at hj
    injection hj with hj
    have := (hH j (by rw [size_flatK]; exact hlt)).1
    rw [this, id_eq, hj]
  · rw [bsC_length] at hj
    rw [Nat.zero_add]
    exact hg j (by simpa using hj)

theorem heads_eq {L : List (List It)} {bs : List Br} (hs : srt bs) (hi : Is bs L) : bs = addL [] L := by
  have h := addL_is L is_nil.1 is_nil.2
  exact eq_of_srt hs h.1 fun y => by rw [hi y, h.2 y]; simp

theorem srt_of {d : Array (SE w G)} (hs : SortedIn (ltOf cfS) 0 d.size d) (hn : (d.toList.map SE.to).Nodup) : srt (d.toList.map SE.br) := by
  unfold srt
  rw [List.pairwise_map, List.pairwise_iff_getElem]
  intro i j hi hj hij
  have hi' : i < d.size := by simpa using hi
  have hj' : j < d.size := by simpa using hj
  have h1 := hs i j (Nat.zero_le _) hij hj'
  rw [getElem!_pos d i hi', getElem!_pos d j hj'] at h1
  simp only [ltOf, cfS, decide_eq_false_iff_not] at h1
  have hne : d[i].to ≠ d[j].to := by
    rw [List.nodup_iff_pairwise_ne, List.pairwise_map, List.pairwise_iff_getElem] at hn
    exact hn i j hi hj hij
  have h2 := scmp_val d[j].to d[i].to
  have h3 : scmp d[j].to d[i].to ≠ 0 := fun e => hne (scmp_eq.1 e).symm
  show scmp d.toList[i].to d.toList[j].to = -1
  simp only [Array.getElem_toList]
  rw [scmp_neg d[j].to d[i].to]
  omega
end

end Go.Proofs.YtilhjiopbbbgmaaDoor

/- The program's own Heads, walked. -/
namespace Go.Proofs.YtilhjiopbbbgmaaDoor
open Go Go.RowKit Am Go.Shelf Go.Maps Go.WideMaps
set_option linter.unusedVariables false
set_option linter.unusedSimpArgs false

theorem info37 : (Tryd.prog.info? 37).map (fun i => (i.zero, i.size, i.bytes)) = some (some (.agg #[.slice none 0 0, .int .i64 0]), 2, 32) := by kernel_rfl

abbrev Ent := List It × Option Addr × Nat
def entC (L : List (List It)) (e : Ent) : List Value := [.slice e.2.1 e.1.length e.2.2, .int .i64 (mn (L.count e.1))]

def HRel (w : World) (G4 : Am.Good) (base m r : Nat) (L : List (List It)) (D2 : DV) (g : Nat) (x : Value) (wy : World) : Prop :=
  ∃ (left : Lit → Bool) (c : Nat) (es : List Ent), c ≤ g ∧ es.length + c ≤ L.length ∧ wy.ranges Tryd.prog 9 Rb m r L.length D2 left c ∧ Holds wy G4 D2 L ∧ wy.ownsRow base 37 2 x es.length (es.flatMap (entC L)) ∧
    (∀ e, e ∈ es → e.1 ∈ L ∧ left (kl e.1) = false ∧ RepC wy G4 (stC e.1) (.slice e.2.1 e.1.length e.2.2)) ∧ (es.map (·.1)).Nodup ∧ (∀ t, t ∈ L → left (kl t) = false → t ∈ es.map (·.1)) ∧ w.grownBy wy none ∧ base ≤ wy.heap.size

section
variable {w : World} {G : Am.Good}
def mkSE (L : List (List It)) (e : Ent) (h : RepC w G (stC e.1) (.slice e.2.1 e.1.length e.2.2) ∧ e.1.length ≤ 1000000) : SE w G := ⟨e.1, e.2.1, e.2.2, mn (L.count e.1), h.1, h.2⟩
theorem pm_enc (L : List (List It)) : ∀ (es : List Ent) (h : ∀ e ∈ es, RepC w G (stC e.1) (.slice e.2.1 e.1.length e.2.2) ∧ e.1.length ≤ 1000000), (es.pmap (mkSE L) h).flatMap SE.enc = es.flatMap (entC L)
  | [], _ => rfl
  | e :: es, h => by
    simp only [List.pmap, List.flatMap_cons, pm_enc L es fun e he => h e (by simp [he])]
    rfl
theorem pm_to (L : List (List It)) : ∀ (es : List Ent) (h : ∀ e ∈ es, RepC w G (stC e.1) (.slice e.2.1 e.1.length e.2.2) ∧ e.1.length ≤ 1000000), (es.pmap (mkSE L) h).map SE.to = es.map (·.1)
  | [], _ => rfl
  | e :: es, h => by
    simp only [List.pmap, List.map_cons, pm_to L es fun e he => h e (by simp [he])]
    rfl
theorem pm_br (L : List (List It)) : ∀ (es : List Ent) (h : ∀ e ∈ es, RepC w G (stC e.1) (.slice e.2.1 e.1.length e.2.2) ∧ e.1.length ≤ 1000000), (es.pmap (mkSE L) h).map SE.br = es.map fun e => ⟨e.1, mn (L.count e.1)⟩
  | [], _ => rfl
  | e :: es, h => by
    simp only [List.pmap, List.map_cons, pm_br L es fun e he => h e (by simp [he])]
    rfl
end

theorem grown_below {w w' : World} (h : w.grownBy w' none) : Below w.heap.size w w' := ⟨h.os, h.tape, h.output, h.size, fun k hk => h.block k hk (by simp)⟩

set_option maxHeartbeats 4000000 in
set_option maxRecDepth 1000000 in
theorem heads15_c (d : List Nd) (hd : WFd d) (k : Nat) (s : List It) (w : World) (G : Am.Good) (vd vs : Value) (hdp : deep d k s) (hs : gd d s) (hj : okJ s) (hl : s.length + k ≤ 100000) (hn : cnt d k s ≤ 1000000) (hlv : (leaves d k s).length ≤ 1000000)
    (hG : ∀ b o, G b o → b < w.heap.size) (hgl : GlOk glD w G) (hvd : RepL w G (dC d) [vd]) (hv : RepC w G (stC s) vs) : Calls Tryd.prog 15 #[.agg #[vd], vs] w (BackC w G (brC (headsS d k s))) := by
  obtain ⟨i0, hi0, hz0, hs0, hb0⟩ := info_parts info37
  have hmm := @run_makeMap Tryd.prog
  have hsh := leaves_len hd k s hs
  obtain ⟨L, hL⟩ : ∃ L, leaves d k s = L := ⟨_, rfl⟩
  have hLl : L.length ≤ 1000000 := by rw [← hL]; exact hlv
  have hg3 : w.grownBy (((w.alloc (.cells #[vd] 24)).alloc (.map #[] 0)).alloc (.cells #[vd, .map (some (w.heap.size + 1))] 65)) none :=
    ((World.grownBy_alloc w _ none).trans (World.grownBy_alloc _ _ none)).trans (World.grownBy_alloc _ _ none)
  have S3 := Settled.of_grown hg3 hG fun b e => by cases e
  have E3 : Env (((w.alloc (.cells #[vd] 24)).alloc (.map #[] 0)).alloc (.cells #[vd, .map (some (w.heap.size + 1))] 65)) G d (w.heap.size + 2) (w.heap.size + 1) 0 (fun _ => False) vd := {
    hG := fun b o h => Nat.lt_of_lt_of_le (hG b o h) hg3.size
    rdy := RepM.mono S3 _ _ _ (hgl.1 0 readiesC rfl)
    pow := tabPow2 hgl.2 fun h => hg3.block 2 h (by simp)
    rd := RepL.mono S3 _ _ hvd
    fin := by
      have := heap_alloc_new ((w.alloc (.cells #[vd] 24)).alloc (.map #[] 0)) (.cells #[vd, .map (some (w.heap.size + 1))] 65)
      simpa using this
    seen := ⟨.map [], by
      have := (World.ownsMap_made (w.alloc (.cells #[vd] 24)) Tryd.prog 9 Rm).alloc (.cells #[vd, .map (some (w.heap.size + 1))] 65)
      simpa using this, fun k hk => by cases hk⟩
    bmG := fun o h => by have := hG _ _ h; omega
    bmA := fun h => h
    Aok := fun a h => h.elim }
  have hv3 : RepC (((w.alloc (.cells #[vd] 24)).alloc (.map #[] 0)).alloc (.cells #[vd, .map (some (w.heap.size + 1))] 65)) G (stC s) vs := RepC.mono S3 _ _ hv
  have hf := find35 d hd vd (w.heap.size + 2) (w.heap.size + 1) k s _ G 0 (fun _ => False) vs hdp hs hj hl E3 hv3 (by omega) hlv
  rw [hL] at hf
  go_enter Tryd.func15, Tryd.ntmps15
  go_wp2_with (first
    | (go_at_call 35; refine hf.mono ?_; rintro e w4 ⟨m, G4, rfl, hg4, k1, k2, E4, ⟨D2, hm2, hH2⟩, hAm, hmb⟩)
    | (at_range; refine wpList_range_own _ rfl _ 66 rfl 9 37 law9 Tryd.underlying66 Rb m _ D2 rfl hm2 ?_; intro w5 hrg5 hg5 hs5))
  go_frame
  have hg5w : w.grownBy w5 none := (hg3.andThen hg4 (fun j e => .inl (by cases e; omega))).trans hg5
  have hw4 : w.heap.size ≤ w4.heap.size := by have := hg4.size; simp at this; omega
  have hmlt := hm2.lt
  have S5 : Settled w4 w5 G4 G4 := Settled.of_grown hg5 E4.hG fun b e => by cases e
  have hst : HRel w G4 w5.heap.size m w4.heap.size L D2 (Maps.size D2) (.slice none 0 0) w5 :=
    ⟨_, _, [], Nat.le_refl _, by simpa using hm2.size_le, hrg5, hH2.mono S5, ⟨rfl, .inl ⟨rfl, rfl⟩⟩, fun e h => (by cases h), List.nodup_nil, fun t ht hl => (by rw [(hH2.2 t ht).1] at hl; cases hl), hg5w, Nat.le_refl _⟩
  have hG4 : ∀ b o, G4 b o → b < w5.heap.size := fun b o h => by have := E4.hG b o h; omega
  clear hrg5 hm2 hH2 S5 hf hv3 E3
  go_loopg [6] (Maps.size D2) (fun g x wy => HRel w G4 w5.heap.size m w4.heap.size L D2 g x wy)
  case atStart => exact hst
  case round =>
    clear hst
    obtain ⟨left, c, es, hcg, hes, hrg, hH2, hrow, hE, hnd, hall, hgw, hbs⟩ := hrel
    go_wp2_with (first
      | (at_next; refine wpList_next_ranges _ rfl _ rfl 9 law9 Rb Value.string (fun c : Option Addr × Nat × Nat × Int => .agg #[.slice c.1 c.2.1 c.2.2.1, .int .i64 c.2.2.2]) (fun key kl hk => by obtain ⟨x, hx, _⟩ := keyOf9_inv hk; exact ⟨x, hx⟩) (fun v y hv => by obtain ⟨c, hc, _⟩ := Rb_inv hv; exact ⟨c, hc⟩) m w4.heap.size _ D2 left c rfl hrg ?_ ?_))
    · intro hc0 hl0
      have hallL : ∀ t, t ∈ L ↔ t ∈ es.map (·.1) := fun t => by
        refine ⟨fun h => hall t h (hl0 _), fun h => ?_⟩
        obtain ⟨e, he, rfl⟩ := List.mem_map.1 h
        exact (hE e he).1
      have hhead : headsS d k s = addL [] L := by rw [headsS, hL]
      rcases hrow.2 with ⟨rfl, h0⟩ | ⟨gb, cap, cur, rfl, hB, hb, hncap, hcm, hsz, htake⟩
      · have hes0 : es = [] := List.eq_nil_of_length_eq_zero h0
        have hL0 : L = [] := by
          cases L with
          | nil => rfl
          | cons t L =>
            have := (hallL t).1 (by simp)
            rw [hes0] at this
            cases this
        have hc36 := AnyF.slices_SortFunc_none sort36 none 0 (.func (.func 37) #[] #[]) wr
        go_wp2_with (go_at_call 36; refine hc36.mono ?_; rintro e w' ⟨rfl, rfl⟩)
        go_ret
        refine ⟨_, rfl, grown_below hgw, G4, k1, fun b o h => (k2 b o h).imp id fun h' => (by simp at h'; omega), fun b o h => by have := hG4 b o h; omega, ?_⟩
        rw [hhead, hL0]
        simp only [RepC]
        exact ⟨none, 0, rfl, Nat.le_refl _, .inl rfl⟩
      · have hok : ∀ e ∈ es, RepC wr G4 (stC e.1) (.slice e.2.1 e.1.length e.2.2) ∧ e.1.length ≤ 1000000 := fun e he => by
          obtain ⟨h1, _, h3⟩ := hE e he
          have := (hsh e.1 (by rw [hL]; exact h1)).2
          exact ⟨h3, by omega⟩
        have hds : (es.pmap (mkSE L) hok).toArray.size = es.length := by simp
        have hwr4 : ∀ b o, G4 b o → b < wr.heap.size := fun b o h => by have := hG4 b o h; omega
        have hgbG : ∀ o, ¬ G4 gb o := fun o h => by have := hG4 gb o h; omega
        have hgl' : gb < wr.heap.size := (Array.getElem?_eq_some_iff.1 hb).1
        have hH : Go.Sort.HoldsK SE.enc 2 wr gb 0 (es.pmap (mkSE L) hok).toArray := holdsK_row (cap := cap) hb (by rw [hds]; simp only [pm_enc]; exact htake)
        have hc36 := sort36_c hwr4 gb cap (es.pmap (mkSE L) hok).toArray hH hgl' hgbG (by rw [hds]; omega)
        rw [hds] at hc36
        clear hH
        go_wp2_with (go_at_call 36; refine hc36.mono ?_; rintro e w7 ⟨rfl, hg7, d', hp7, hd7, hs7, hH7⟩)
        go_ret
        have hp7' : d'.toList.Perm (es.pmap (mkSE L) hok) := by simpa using hp7
        have S7 : Settled wr w7 G4 (fun b o => G4 b o ∨ (b = gb ∧ o < es.length * 2)) := ⟨fun _ _ h => .inl h, (Settled.of_grown hg7 hwr4 fun b e => by cases e; exact hgbG).cell⟩
        have hbs : d'.toList.map SE.br = headsS d k s := by
          rw [hhead]
          refine heads_eq (srt_of (by rw [hd7]; exact hs7) ?_) fun y => ?_
          · rw [(hp7'.map SE.to).nodup_iff, pm_to]; exact hnd
          · rw [(hp7'.map SE.br).mem_iff, pm_br, List.mem_map]
            constructor
            · rintro ⟨e, he, rfl⟩
              exact ⟨(hE e he).1, rfl⟩
            · rintro ⟨h1, h2⟩
              obtain ⟨e, he, h3⟩ := List.mem_map.1 ((hallL y.to).1 h1)
              refine ⟨e, he, ?_⟩
              cases y
              simp only at h1 h2 h3
              rw [h3, h2]
        have hd8 : d'.size = es.length := hd7
        have hrep := rep_row S7 hH7 (cap := cap) (by omega) (fun o h => .inr ⟨rfl, by omega⟩)
        rw [hbs, hd8] at hrep
        refine ⟨_, rfl, grown_below (hgw.andThen hg7 (fun j e => .inl (by cases e; omega))), _, fun b o h => .inl (k1 b o h), fun b o h => ?_, fun b o h => ?_, hrep⟩
        · rcases h with h | ⟨rfl, _⟩
          · exact (k2 b o h).imp id fun h' => (by simp at h'; omega)
          · exact .inr (by omega)
        · rcases h with h | ⟨rfl, _⟩
          · exact Nat.lt_of_lt_of_le (hwr4 b o h) hg7.size
          · exact Nat.lt_of_lt_of_le hgl' hg7.size
    · intro x a2 n2 cc2 q2 k2' yd yp w6 c6 hkey6 hlk hv6 hat6 hrg6 hlt6 hg6 hs6 hen
      obtain ⟨t, ht, rfl⟩ := hH2.1 _ (has_true_of_atKey hat6)
      obtain ⟨_, v0, hv0, ad, cc, rfl, hrc⟩ := hH2.2 t ht
      have hcv : a2 = ad ∧ n2 = t.length ∧ cc2 = cc ∧ q2 = mn (L.count t) := by
        obtain ⟨_, _, hy⟩ := Rb_inv hv6
        have hy' := congrArg Prod.fst hy
        simp only at hy'
        rw [← hat6 (.held (.map none)), hv0] at hy'
        injection hy' with hy'
        simp only [Value.agg.injEq, Array.mk.injEq, List.cons.injEq, Value.slice.injEq, Value.int.injEq, and_true, true_and] at hy'
        obtain ⟨⟨e1, e2, e3⟩, e4⟩ := hy'
        exact ⟨e1.symm, e2.symm, e3.symm, e4.symm⟩
      obtain ⟨rfl, rfl, rfl, rfl⟩ := hcv
      have hrow6 := hrow.kept hg6 (by
        rcases h : Value.ownBlock _ with _ | b
        · exact .inl rfl
        · exact .inr (fun e => by cases e; have := (hrow.lt _ h).1; omega))
      have hsz6 : wr.heap.size ≤ w6.heap.size := hg6.size
      have hbs6 : w5.heap.size ≤ w6.heap.size := Nat.le_trans hbs hsz6
      clear hs6
      go_wp2_with (first
        | (at_builtin; refine wpList_append_own _ rfl _ _ 31 rfl w5.heap.size 37 i0 _ 2 32 Tryd.underlying31 hi0 hz0 hs0 hb0 rfl (by decide) _ _ _ rfl ((hrow6.alloc _).alloc _) ⟨w6.heap.size + 1, 0, none⟩ 1 1 [.slice a2 t.length cc2, .int .i64 (mn (L.count t))] rfl rfl ?_ ?_ ?_ ?_ ?_ ?_; rotate_left 5; intro v7 w7 hrow7 hg7 hnil7))
      · go_roundg c6
        case measure => omega
        case rel =>
          have hrG : ∀ o, ¬ G4 w4.heap.size o := fun o h => Nat.lt_irrefl _ (E4.hG _ _ h)
          have hG6 : ∀ b o, G4 b o → b < wr.heap.size := fun b o h => by have := hG4 b o h; omega
          have hrb := fun b h => (hrow.lt b h).1
          have S7 : Settled wr w7 G4 G4 := ⟨fun _ _ h => h, fun b o h => by
            have hb4 := E4.hG b o h
            exact cell_same ((hg7.block b (by simp; omega) (fun e => by have := hrb _ e.symm; omega)).trans ((alloc_old _ _ (by simp; omega)).trans ((alloc_old _ _ (by omega)).trans (hg6.block b (by omega) (fun e => by cases e; omega))))) o⟩
          have hsk : ∀ u, (kl u).sameKey (kl t) = true ↔ u = t := fun u => by
            rw [WideAt.sameKey_iff (by trivial)]
            exact ⟨kl_inj, fun e => by rw [e]⟩
          have hlf : ∀ u, (left (kl u) && !(kl u).sameKey (kl t)) = false ↔ left (kl u) = false ∨ u = t := fun u => by
            rw [← hsk u]
            cases left (kl u) <;> cases (kl u).sameKey (kl t) <;> simp
          have hnot : t ∉ es.map (·.1) := fun h => by
            obtain ⟨e, he, h2⟩ := List.mem_map.1 h
            have := (hE e he).2.1
            rw [h2, hlk] at this
            cases this
          refine ⟨_, c6, es ++ [(t, a2, cc2)], Nat.le_refl _, by simp; omega, ((hrg6.alloc _).alloc _).kept hg7 (fun e => ?_) (fun e => ?_), hH2.mono S7, by simpa [entC] using hrow7, fun e he => ?_, ?_, fun u hu hl => ?_, ?_, ?_⟩
          · have := hrb _ e.symm; omega
          · have := hrb _ e.symm; omega
          · rcases List.mem_append.1 he with he | he
            · obtain ⟨h1, h2, h3⟩ := hE e he
              exact ⟨h1, by rw [h2]; rfl, RepC.mono S7 _ _ h3⟩
            · simp only [List.mem_singleton] at he
              subst he
              exact ⟨ht, (hlf t).2 (.inr rfl), RepC.mono S7 _ _ hrc⟩
          · rw [List.map_append, List.nodup_append]
            refine ⟨hnd, by simp, ?_⟩
            intro a ha b hb
            simp only [List.map_cons, List.map_nil, List.mem_singleton] at hb
            subst hb
            intro e
            exact hnot (e ▸ ha)
          · rw [List.map_append]
            rcases (hlf u).1 hl with h | h
            · exact List.mem_append.2 (.inl (hall u hu h))
            · exact List.mem_append.2 (.inr (by simp [h]))
          · exact (((hgw.andThen hg6 (fun j e => .inl (by cases e; exact hw4))).trans (World.grownBy_alloc _ _ none)).trans (World.grownBy_alloc _ _ none)).andThen hg7 (fun j e => .inl (by have := hrb j e; omega))
          · have := hg7.size
            simp at this
            omega
      · exact ⟨rfl, rfl⟩
      · simp only [maxLen]; omega
      · omega
      · have := hbs6; omega

end Go.Proofs.YtilhjiopbbbgmaaDoor

/- Is a text UTF-8? -/
namespace Go.Proofs.YtilhjiopbbbgmaaDoor
open Go Go.RowKit Am
set_option linter.unusedVariables false
set_option linter.unusedSimpArgs false
set_option maxHeartbeats 4000000
attribute [local irreducible] AWp AOps

def byt (s : ByteArray) (i : Nat) : Int := IntKind.i64.wrap (bAt s (i : Int))
def inB (s : ByteArray) (i : Nat) (a b : Int) : Bool := decide (i < s.size) && (decide (a ≤ byt s i) && decide (byt s i ≤ b))

theorem in_ret (gl : Gl) (s : ByteArray) (i : Nat) (a b : Int) : Ret Tryd.prog gl 93 [.c (.v (.string s)), iv (i : Int), iv a, iv b] (bv (inB s i a b)) := by
  refine retq (rs := [8]) 29 Tryd.func93 (by kernel_rfl) rfl (by kernel_rfl) rfl (by simp) (by simp) fun Z hN hX hR => ?_
  have hb : IntKind.i64.wrap (bAt s (i : Int)) = byt s i := rfl
  by_cases h1 : i < s.size
  · cases g1 : (decide (a ≤ byt s i))
    · repeat (first | refine qq1 fun Z hN hX hR => ?_ | refine qq2 fun Z hN hX hR => ?_ | refine qq3 (by kernel_rfl) fun K hK => ?_ | ((first | refine qq4 fun R hRR => ?_ | with_reducible change ExpAll _ _ _); simp only [kS, Nat.reduceSub, Nat.reduceMul, Nat.reduceLeDiff, Nat.reducePow, Nat.reduceBEq, Nat.reduceAdd, Nat.reduceEqDiff, reduceCtorEq, Int.reduceToNat, hb, h1, decide_true, g1]) | (refine hRR _ ?_; clear hRR R) | refine qq5 ?_ | (refine hK _ ?_; clear hK K) | ((first | refine hN _ ?_ | refine hX _ _ ?_ | refine hR _ ?_); clear hN hX hR Z) | refine qq6 rfl ?_ | refine qq7 (by decide) ?_ | (refine qq8 ?_ ?_; focus (simp only [kS, Nat.reduceSub, Nat.reduceMul, Nat.reduceLeDiff, Nat.reducePow, Nat.reduceBEq, Nat.reduceAdd, Nat.reduceEqDiff, reduceCtorEq, Int.reduceToNat, hb, h1, decide_true, g1]; done)) | (refine qq9 ?_ ?_; focus (simp only [kS, Nat.reduceSub, Nat.reduceMul, Nat.reduceLeDiff, Nat.reducePow, Nat.reduceBEq, Nat.reduceAdd, Nat.reduceEqDiff, reduceCtorEq, Int.reduceToNat, hb, h1, decide_true, g1]; done)) | refine qqa ?_ | refine qqb ?_ | refine qqc ?_ | refine And.intro (by first | assumption | omega) ?_)
      simp only [inB, h1, decide_true, Bool.false_and, Bool.true_and, g1]
    · cases g2 : (decide (byt s i ≤ b))
      · repeat (first | refine qq1 fun Z hN hX hR => ?_ | refine qq2 fun Z hN hX hR => ?_ | refine qq3 (by kernel_rfl) fun K hK => ?_ | ((first | refine qq4 fun R hRR => ?_ | with_reducible change ExpAll _ _ _); simp only [kS, Nat.reduceSub, Nat.reduceMul, Nat.reduceLeDiff, Nat.reducePow, Nat.reduceBEq, Nat.reduceAdd, Nat.reduceEqDiff, reduceCtorEq, Int.reduceToNat, hb, h1, decide_true, g1, g2]) | (refine hRR _ ?_; clear hRR R) | refine qq5 ?_ | (refine hK _ ?_; clear hK K) | ((first | refine hN _ ?_ | refine hX _ _ ?_ | refine hR _ ?_); clear hN hX hR Z) | refine qq6 rfl ?_ | refine qq7 (by decide) ?_ | (refine qq8 ?_ ?_; focus (simp only [kS, Nat.reduceSub, Nat.reduceMul, Nat.reduceLeDiff, Nat.reducePow, Nat.reduceBEq, Nat.reduceAdd, Nat.reduceEqDiff, reduceCtorEq, Int.reduceToNat, hb, h1, decide_true, g1, g2]; done)) | (refine qq9 ?_ ?_; focus (simp only [kS, Nat.reduceSub, Nat.reduceMul, Nat.reduceLeDiff, Nat.reducePow, Nat.reduceBEq, Nat.reduceAdd, Nat.reduceEqDiff, reduceCtorEq, Int.reduceToNat, hb, h1, decide_true, g1, g2]; done)) | refine qqa ?_ | refine qqb ?_ | refine qqc ?_ | refine And.intro (by first | assumption | omega) ?_)
        simp only [inB, h1, decide_true, Bool.false_and, Bool.true_and, g1, g2]
      · repeat (first | refine qq1 fun Z hN hX hR => ?_ | refine qq2 fun Z hN hX hR => ?_ | refine qq3 (by kernel_rfl) fun K hK => ?_ | ((first | refine qq4 fun R hRR => ?_ | with_reducible change ExpAll _ _ _); simp only [kS, Nat.reduceSub, Nat.reduceMul, Nat.reduceLeDiff, Nat.reducePow, Nat.reduceBEq, Nat.reduceAdd, Nat.reduceEqDiff, reduceCtorEq, Int.reduceToNat, hb, h1, decide_true, g1, g2]) | (refine hRR _ ?_; clear hRR R) | refine qq5 ?_ | (refine hK _ ?_; clear hK K) | ((first | refine hN _ ?_ | refine hX _ _ ?_ | refine hR _ ?_); clear hN hX hR Z) | refine qq6 rfl ?_ | refine qq7 (by decide) ?_ | (refine qq8 ?_ ?_; focus (simp only [kS, Nat.reduceSub, Nat.reduceMul, Nat.reduceLeDiff, Nat.reducePow, Nat.reduceBEq, Nat.reduceAdd, Nat.reduceEqDiff, reduceCtorEq, Int.reduceToNat, hb, h1, decide_true, g1, g2]; done)) | (refine qq9 ?_ ?_; focus (simp only [kS, Nat.reduceSub, Nat.reduceMul, Nat.reduceLeDiff, Nat.reducePow, Nat.reduceBEq, Nat.reduceAdd, Nat.reduceEqDiff, reduceCtorEq, Int.reduceToNat, hb, h1, decide_true, g1, g2]; done)) | refine qqa ?_ | refine qqb ?_ | refine qqc ?_ | refine And.intro (by first | assumption | omega) ?_)
        simp only [inB, h1, decide_true, Bool.false_and, Bool.true_and, g1, g2]
  · repeat (first | refine qq1 fun Z hN hX hR => ?_ | refine qq2 fun Z hN hX hR => ?_ | refine qq3 (by kernel_rfl) fun K hK => ?_ | ((first | refine qq4 fun R hRR => ?_ | with_reducible change ExpAll _ _ _); simp only [kS, Nat.reduceSub, Nat.reduceMul, Nat.reduceLeDiff, Nat.reducePow, Nat.reduceBEq, Nat.reduceAdd, Nat.reduceEqDiff, reduceCtorEq, Int.reduceToNat, hb, h1, decide_false]) | (refine hRR _ ?_; clear hRR R) | refine qq5 ?_ | (refine hK _ ?_; clear hK K) | ((first | refine hN _ ?_ | refine hX _ _ ?_ | refine hR _ ?_); clear hN hX hR Z) | refine qq6 rfl ?_ | refine qq7 (by decide) ?_ | (refine qq8 ?_ ?_; focus (simp only [kS, Nat.reduceSub, Nat.reduceMul, Nat.reduceLeDiff, Nat.reducePow, Nat.reduceBEq, Nat.reduceAdd, Nat.reduceEqDiff, reduceCtorEq, Int.reduceToNat, hb, h1, decide_false]; done)) | (refine qq9 ?_ ?_; focus (simp only [kS, Nat.reduceSub, Nat.reduceMul, Nat.reduceLeDiff, Nat.reducePow, Nat.reduceBEq, Nat.reduceAdd, Nat.reduceEqDiff, reduceCtorEq, Int.reduceToNat, hb, h1, decide_false]; done)) | refine qqa ?_ | refine qqb ?_ | refine qqc ?_ | refine And.intro (by first | assumption | omega) ?_)
    simp only [inB, h1, decide_false, Bool.false_and]

def stepU (s : ByteArray) (i : Nat) : Option Nat :=
  if decide (byt s i < 128) = true then some (i + 1)
  else if (decide (194 ≤ byt s i) && (decide (byt s i ≤ 223) && inB s (i + 1) 128 191)) = true then some (i + 2)
  else if (byt s i == 224 && (inB s (i + 1) 160 191 && inB s (i + 2) 128 191)) = true then some (i + 3)
  else if (((decide (225 ≤ byt s i) && decide (byt s i ≤ 236)) || (byt s i == 238 || byt s i == 239)) && (inB s (i + 1) 128 191 && inB s (i + 2) 128 191)) = true then some (i + 3)
  else if (byt s i == 237 && (inB s (i + 1) 128 159 && inB s (i + 2) 128 191)) = true then some (i + 3)
  else if (byt s i == 240 && (inB s (i + 1) 144 191 && (inB s (i + 2) 128 191 && inB s (i + 3) 128 191))) = true then some (i + 4)
  else if (decide (241 ≤ byt s i) && (decide (byt s i ≤ 243) && (inB s (i + 1) 128 191 && (inB s (i + 2) 128 191 && inB s (i + 3) 128 191)))) = true then some (i + 4)
  else if (byt s i == 244 && (inB s (i + 1) 128 143 && (inB s (i + 2) 128 191 && inB s (i + 3) 128 191))) = true then some (i + 4)
  else none

def utfF : Nat → ByteArray → Nat → Bool
  | 0, _, _ => true
  | k + 1, s, i => if i < s.size then (match stepU s i with | some j => utfF k s j | none => false) else true

def utfB (s : ByteArray) : Bool := utfF s.size s 0

theorem utf_ret (gl : Gl) (s : ByteArray) (hs : s.size ≤ 140737488355328) : Ret Tryd.prog gl 85 [.c (.v (.string s))] (bv (utfB s)) := by
  refine retq (rs := [2]) 148 Tryd.func85 (by kernel_rfl) rfl (by kernel_rfl) rfl (by simp) (by simp) fun Z hN hX hR => ?_
  repeat (first | refine qq1 fun Z hN hX hR => ?_ | refine qq2 fun Z hN hX hR => ?_ | refine qq3 (by kernel_rfl) fun K hK => ?_ | ((first | refine qq4 fun R hRR => ?_ | with_reducible change ExpAll _ _ _); simp only [kS, Nat.reduceSub, Nat.reduceMul, Nat.reduceLeDiff, Nat.reducePow, Nat.reduceBEq, Nat.reduceAdd, Nat.reduceEqDiff, reduceCtorEq, Int.reduceToNat]) | (refine hRR _ ?_; clear hRR R) | refine qq5 ?_ | (refine hK _ ?_; clear hK K) | ((first | refine hN _ ?_ | refine hX _ _ ?_ | refine hR _ ?_); clear hN hX hR Z) | refine qq6 rfl ?_ | refine qq7 (by decide) ?_ | (refine qq8 ?_ ?_; focus (simp only [kS, Nat.reduceSub, Nat.reduceMul, Nat.reduceLeDiff, Nat.reducePow, Nat.reduceBEq, Nat.reduceAdd, Nat.reduceEqDiff, reduceCtorEq, Int.reduceToNat]; done)) | (refine qq9 ?_ ?_; focus (simp only [kS, Nat.reduceSub, Nat.reduceMul, Nat.reduceLeDiff, Nat.reducePow, Nat.reduceBEq, Nat.reduceAdd, Nat.reduceEqDiff, reduceCtorEq, Int.reduceToNat]; done)) | refine qqa ?_ | refine qqb ?_ | refine qqc ?_ | refine And.intro (by first | assumption | omega) ?_)
  refine awq_loop (fun c f => ∃ (i : Nat), s.size ≤ i + c ∧ i ≤ s.size + 4 ∧ f.t 0 = .c (.v (.string s)) ∧ f.t 3 = iv (i : Int) ∧ utfF c s i = utfB s) s.size ?_ ?_
  · exact ⟨0, by omega, by omega, by simp only [kS, Nat.reduceSub, Nat.reduceMul, Nat.reduceLeDiff, Nat.reducePow, Nat.reduceBEq, Nat.reduceAdd, Nat.reduceEqDiff, reduceCtorEq, Int.reduceToNat], by simp only [kS, Nat.reduceSub, Nat.reduceMul, Nat.reduceLeDiff, Nat.reducePow, Nat.reduceBEq, Nat.reduceAdd, Nat.reduceEqDiff, reduceCtorEq, Int.reduceToNat]; rfl, rfl⟩
  rintro Z k f hN hX hR ⟨i, hk, hi, h0, h3, hc⟩
  by_cases hlt : i < s.size
  · obtain ⟨k, rfl⟩ : ∃ k', k = k' + 1 := ⟨k - 1, by omega⟩
    have hb : IntKind.i64.wrap (bAt s (i : Int)) = byt s i := rfl
    have w1 : IntKind.i64.wrap ((i : Int) + 1) = ((i + 1 : Nat) : Int) := by rw [wrap_i64 (by omega) (by omega)]; rfl
    have w2 : IntKind.i64.wrap ((i : Int) + 2) = ((i + 2 : Nat) : Int) := by rw [wrap_i64 (by omega) (by omega)]; rfl
    have w3 : IntKind.i64.wrap ((i : Int) + 3) = ((i + 3 : Nat) : Int) := by rw [wrap_i64 (by omega) (by omega)]; rfl
    have w4 : IntKind.i64.wrap ((i : Int) + 4) = ((i + 4 : Nat) : Int) := by rw [wrap_i64 (by omega) (by omega)]; rfl
    have i1 := in_ret gl s (i + 1) 128 191
    have i2 := in_ret gl s (i + 2) 128 191
    have i3 := in_ret gl s (i + 3) 128 191
    have j1 := in_ret gl s (i + 1) 160 191
    have j2 := in_ret gl s (i + 1) 128 159
    have j3 := in_ret gl s (i + 1) 144 191
    have j4 := in_ret gl s (i + 1) 128 143
    simp only [utfF, if_pos hlt, stepU] at hc
    generalize inB s (i + 1) 128 191 = q1 at hc i1
    generalize inB s (i + 2) 128 191 = q2 at hc i2
    generalize inB s (i + 3) 128 191 = q3 at hc i3
    generalize inB s (i + 1) 160 191 = p1 at hc j1
    generalize inB s (i + 1) 128 159 = p2 at hc j2
    generalize inB s (i + 1) 144 191 = p3 at hc j3
    generalize inB s (i + 1) 128 143 = p4 at hc j4
    repeat (first | refine qq1 fun Z hN hX hR => ?_ | refine qq2 fun Z hN hX hR => ?_ | refine qq3 (by kernel_rfl) fun K hK => ?_ | ((first | refine qq4 fun R hRR => ?_ | with_reducible change ExpAll _ _ _); simp only [kS, Nat.reduceSub, Nat.reduceMul, Nat.reduceLeDiff, Nat.reducePow, Nat.reduceBEq, Nat.reduceAdd, Nat.reduceEqDiff, reduceCtorEq, Int.reduceToNat, h0, h3, hlt, hb, w1, w2, w3, w4, decide_true]) | (refine hRR _ ?_; clear hRR R) | refine qq5 ?_ | (refine hK _ ?_; clear hK K) | ((first | refine hN _ ?_ | refine hX _ _ ?_ | refine hR _ ?_); clear hN hX hR Z) | refine qq6 rfl ?_ | refine qq7 (by decide) ?_ | (refine qq8 ?_ ?_; focus (simp only [kS, Nat.reduceSub, Nat.reduceMul, Nat.reduceLeDiff, Nat.reducePow, Nat.reduceBEq, Nat.reduceAdd, Nat.reduceEqDiff, reduceCtorEq, Int.reduceToNat, h0, h3, hlt, hb, w1, w2, w3, w4, decide_true]; done)) | (refine qq9 ?_ ?_; focus (simp only [kS, Nat.reduceSub, Nat.reduceMul, Nat.reduceLeDiff, Nat.reducePow, Nat.reduceBEq, Nat.reduceAdd, Nat.reduceEqDiff, reduceCtorEq, Int.reduceToNat, h0, h3, hlt, hb, w1, w2, w3, w4, decide_true]; done)) | refine qqa ?_ | refine qqb ?_ | refine qqc ?_ | refine And.intro (by first | assumption | omega) ?_)
    refine ⟨_, i1, rfl, ?_⟩
    simp only [kS, Nat.reduceSub, Nat.reduceMul, Nat.reduceLeDiff, Nat.reducePow, Nat.reduceBEq, Nat.reduceAdd, Nat.reduceEqDiff, reduceCtorEq, Int.reduceToNat]
    repeat (first | refine qq1 fun Z hN hX hR => ?_ | refine qq2 fun Z hN hX hR => ?_ | refine qq3 (by kernel_rfl) fun K hK => ?_ | ((first | refine qq4 fun R hRR => ?_ | with_reducible change ExpAll _ _ _); simp only [kS, Nat.reduceSub, Nat.reduceMul, Nat.reduceLeDiff, Nat.reducePow, Nat.reduceBEq, Nat.reduceAdd, Nat.reduceEqDiff, reduceCtorEq, Int.reduceToNat, h0, h3, w1, w2, w3, w4]) | (refine hRR _ ?_; clear hRR R) | refine qq5 ?_ | (refine hK _ ?_; clear hK K) | ((first | refine hN _ ?_ | refine hX _ _ ?_ | refine hR _ ?_); clear hN hX hR Z) | refine qq6 rfl ?_ | refine qq7 (by decide) ?_ | (refine qq8 ?_ ?_; focus (simp only [kS, Nat.reduceSub, Nat.reduceMul, Nat.reduceLeDiff, Nat.reducePow, Nat.reduceBEq, Nat.reduceAdd, Nat.reduceEqDiff, reduceCtorEq, Int.reduceToNat, h0, h3, w1, w2, w3, w4]; done)) | (refine qq9 ?_ ?_; focus (simp only [kS, Nat.reduceSub, Nat.reduceMul, Nat.reduceLeDiff, Nat.reducePow, Nat.reduceBEq, Nat.reduceAdd, Nat.reduceEqDiff, reduceCtorEq, Int.reduceToNat, h0, h3, w1, w2, w3, w4]; done)) | refine qqa ?_ | refine qqb ?_ | refine qqc ?_ | refine And.intro (by first | assumption | omega) ?_)
    refine ⟨_, i2, rfl, ?_⟩
    simp only [kS, Nat.reduceSub, Nat.reduceMul, Nat.reduceLeDiff, Nat.reducePow, Nat.reduceBEq, Nat.reduceAdd, Nat.reduceEqDiff, reduceCtorEq, Int.reduceToNat]
    repeat (first | refine qq1 fun Z hN hX hR => ?_ | refine qq2 fun Z hN hX hR => ?_ | refine qq3 (by kernel_rfl) fun K hK => ?_ | ((first | refine qq4 fun R hRR => ?_ | with_reducible change ExpAll _ _ _); simp only [kS, Nat.reduceSub, Nat.reduceMul, Nat.reduceLeDiff, Nat.reducePow, Nat.reduceBEq, Nat.reduceAdd, Nat.reduceEqDiff, reduceCtorEq, Int.reduceToNat, h0, h3, w1, w2, w3, w4]) | (refine hRR _ ?_; clear hRR R) | refine qq5 ?_ | (refine hK _ ?_; clear hK K) | ((first | refine hN _ ?_ | refine hX _ _ ?_ | refine hR _ ?_); clear hN hX hR Z) | refine qq6 rfl ?_ | refine qq7 (by decide) ?_ | (refine qq8 ?_ ?_; focus (simp only [kS, Nat.reduceSub, Nat.reduceMul, Nat.reduceLeDiff, Nat.reducePow, Nat.reduceBEq, Nat.reduceAdd, Nat.reduceEqDiff, reduceCtorEq, Int.reduceToNat, h0, h3, w1, w2, w3, w4]; done)) | (refine qq9 ?_ ?_; focus (simp only [kS, Nat.reduceSub, Nat.reduceMul, Nat.reduceLeDiff, Nat.reducePow, Nat.reduceBEq, Nat.reduceAdd, Nat.reduceEqDiff, reduceCtorEq, Int.reduceToNat, h0, h3, w1, w2, w3, w4]; done)) | refine qqa ?_ | refine qqb ?_ | refine qqc ?_ | refine And.intro (by first | assumption | omega) ?_)
    refine ⟨_, i3, rfl, ?_⟩
    simp only [kS, Nat.reduceSub, Nat.reduceMul, Nat.reduceLeDiff, Nat.reducePow, Nat.reduceBEq, Nat.reduceAdd, Nat.reduceEqDiff, reduceCtorEq, Int.reduceToNat]
    clear hb
    generalize byt s i = b at hc ⊢
    cases u1 : decide (b < 128)
    · simp only [u1, Bool.false_eq_true, if_false] at hc
      repeat (first | refine qq1 fun Z hN hX hR => ?_ | refine qq2 fun Z hN hX hR => ?_ | refine qq3 (by kernel_rfl) fun K hK => ?_ | ((first | refine qq4 fun R hRR => ?_ | with_reducible change ExpAll _ _ _); simp only [kS, Nat.reduceSub, Nat.reduceMul, Nat.reduceLeDiff, Nat.reducePow, Nat.reduceBEq, Nat.reduceAdd, Nat.reduceEqDiff, reduceCtorEq, Int.reduceToNat, h0, h3, w1, w2, w3, w4]) | (refine hRR _ ?_; clear hRR R) | refine qq5 ?_ | (refine hK _ ?_; clear hK K) | ((first | refine hN _ ?_ | refine hX _ _ ?_ | refine hR _ ?_); clear hN hX hR Z) | refine qq6 rfl ?_ | refine qq7 (by decide) ?_ | (refine qq8 ?_ ?_; focus (simp only [kS, Nat.reduceSub, Nat.reduceMul, Nat.reduceLeDiff, Nat.reducePow, Nat.reduceBEq, Nat.reduceAdd, Nat.reduceEqDiff, reduceCtorEq, Int.reduceToNat, h0, h3, w1, w2, w3, w4]; done)) | (refine qq9 ?_ ?_; focus (simp only [kS, Nat.reduceSub, Nat.reduceMul, Nat.reduceLeDiff, Nat.reducePow, Nat.reduceBEq, Nat.reduceAdd, Nat.reduceEqDiff, reduceCtorEq, Int.reduceToNat, h0, h3, w1, w2, w3, w4]; done)) | refine qqa ?_ | refine qqb ?_ | refine qqc ?_ | refine And.intro (by first | assumption | omega) ?_)
      refine awp_condF (by simp only [kS, Nat.reduceSub, Nat.reduceMul, Nat.reduceLeDiff, Nat.reducePow, Nat.reduceBEq, Nat.reduceAdd, Nat.reduceEqDiff, reduceCtorEq, Int.reduceToNat, u1]) ?_
      refine awq_cut (fun f => f.t 0 = .c (.v (.string s)) ∧ f.t 3 = iv (i : Int) ∧ f.t 4 = iv b ∧ f.t 5 = bv q1 ∧ f.t 6 = bv q2 ∧ f.t 7 = bv q3 ∧ f.t 33 = bv (decide (194 ≤ b) && (decide (b ≤ 223) && q1))) (fun Z hN hX hR => ?_) ?_
      · have h4 : True := trivial
        have h5 : True := trivial
        have h6 : True := trivial
        have h7 : True := trivial
        cases g1 : (decide (194 ≤ b))
        · repeat (first | refine qq1 fun Z hN hX hR => ?_ | refine qq2 fun Z hN hX hR => ?_ | refine qq3 (by kernel_rfl) fun K hK => ?_ | ((first | refine qq4 fun R hRR => ?_ | with_reducible change ExpAll _ _ _); simp only [kS, Nat.reduceSub, Nat.reduceMul, Nat.reduceLeDiff, Nat.reducePow, Nat.reduceBEq, Nat.reduceAdd, Nat.reduceEqDiff, reduceCtorEq, Int.reduceToNat, h0, h3, h4, h5, h6, h7, w1, w2, w3, w4, g1]) | (refine hRR _ ?_; clear hRR R) | refine qq5 ?_ | (refine hK _ ?_; clear hK K) | ((first | refine hN _ ?_ | refine hX _ _ ?_ | refine hR _ ?_); clear hN hX hR Z) | refine qq6 rfl ?_ | refine qq7 (by decide) ?_ | (refine qq8 ?_ ?_; focus (simp only [kS, Nat.reduceSub, Nat.reduceMul, Nat.reduceLeDiff, Nat.reducePow, Nat.reduceBEq, Nat.reduceAdd, Nat.reduceEqDiff, reduceCtorEq, Int.reduceToNat, h0, h3, h4, h5, h6, h7, w1, w2, w3, w4, g1]; done)) | (refine qq9 ?_ ?_; focus (simp only [kS, Nat.reduceSub, Nat.reduceMul, Nat.reduceLeDiff, Nat.reducePow, Nat.reduceBEq, Nat.reduceAdd, Nat.reduceEqDiff, reduceCtorEq, Int.reduceToNat, h0, h3, h4, h5, h6, h7, w1, w2, w3, w4, g1]; done)) | refine qqa ?_ | refine qqb ?_ | refine qqc ?_ | refine And.intro (by first | assumption | omega) ?_)
          repeat (refine And.intro (by first | (simp only [kS, Nat.reduceSub, Nat.reduceMul, Nat.reduceLeDiff, Nat.reducePow, Nat.reduceBEq, Nat.reduceAdd, Nat.reduceEqDiff, reduceCtorEq, Int.reduceToNat, h0, h3, h4, h5, h6, h7]; done) | assumption) ?_)
          simp only [kS, Nat.reduceSub, Nat.reduceMul, Nat.reduceLeDiff, Nat.reducePow, Nat.reduceBEq, Nat.reduceAdd, Nat.reduceEqDiff, reduceCtorEq, Int.reduceToNat, Bool.false_and, Bool.true_and, Bool.false_or, Bool.true_or, g1]
        · cases g2 : (decide (b ≤ 223))
          · repeat (first | refine qq1 fun Z hN hX hR => ?_ | refine qq2 fun Z hN hX hR => ?_ | refine qq3 (by kernel_rfl) fun K hK => ?_ | ((first | refine qq4 fun R hRR => ?_ | with_reducible change ExpAll _ _ _); simp only [kS, Nat.reduceSub, Nat.reduceMul, Nat.reduceLeDiff, Nat.reducePow, Nat.reduceBEq, Nat.reduceAdd, Nat.reduceEqDiff, reduceCtorEq, Int.reduceToNat, h0, h3, h4, h5, h6, h7, w1, w2, w3, w4, g1, g2]) | (refine hRR _ ?_; clear hRR R) | refine qq5 ?_ | (refine hK _ ?_; clear hK K) | ((first | refine hN _ ?_ | refine hX _ _ ?_ | refine hR _ ?_); clear hN hX hR Z) | refine qq6 rfl ?_ | refine qq7 (by decide) ?_ | (refine qq8 ?_ ?_; focus (simp only [kS, Nat.reduceSub, Nat.reduceMul, Nat.reduceLeDiff, Nat.reducePow, Nat.reduceBEq, Nat.reduceAdd, Nat.reduceEqDiff, reduceCtorEq, Int.reduceToNat, h0, h3, h4, h5, h6, h7, w1, w2, w3, w4, g1, g2]; done)) | (refine qq9 ?_ ?_; focus (simp only [kS, Nat.reduceSub, Nat.reduceMul, Nat.reduceLeDiff, Nat.reducePow, Nat.reduceBEq, Nat.reduceAdd, Nat.reduceEqDiff, reduceCtorEq, Int.reduceToNat, h0, h3, h4, h5, h6, h7, w1, w2, w3, w4, g1, g2]; done)) | refine qqa ?_ | refine qqb ?_ | refine qqc ?_ | refine And.intro (by first | assumption | omega) ?_)
            repeat (refine And.intro (by first | (simp only [kS, Nat.reduceSub, Nat.reduceMul, Nat.reduceLeDiff, Nat.reducePow, Nat.reduceBEq, Nat.reduceAdd, Nat.reduceEqDiff, reduceCtorEq, Int.reduceToNat, h0, h3, h4, h5, h6, h7]; done) | assumption) ?_)
            simp only [kS, Nat.reduceSub, Nat.reduceMul, Nat.reduceLeDiff, Nat.reducePow, Nat.reduceBEq, Nat.reduceAdd, Nat.reduceEqDiff, reduceCtorEq, Int.reduceToNat, Bool.false_and, Bool.true_and, Bool.false_or, Bool.true_or, g1, g2]
          · cases q1
            · repeat (first | refine qq1 fun Z hN hX hR => ?_ | refine qq2 fun Z hN hX hR => ?_ | refine qq3 (by kernel_rfl) fun K hK => ?_ | ((first | refine qq4 fun R hRR => ?_ | with_reducible change ExpAll _ _ _); simp only [kS, Nat.reduceSub, Nat.reduceMul, Nat.reduceLeDiff, Nat.reducePow, Nat.reduceBEq, Nat.reduceAdd, Nat.reduceEqDiff, reduceCtorEq, Int.reduceToNat, h0, h3, h4, h5, h6, h7, w1, w2, w3, w4, g1, g2]) | (refine hRR _ ?_; clear hRR R) | refine qq5 ?_ | (refine hK _ ?_; clear hK K) | ((first | refine hN _ ?_ | refine hX _ _ ?_ | refine hR _ ?_); clear hN hX hR Z) | refine qq6 rfl ?_ | refine qq7 (by decide) ?_ | (refine qq8 ?_ ?_; focus (simp only [kS, Nat.reduceSub, Nat.reduceMul, Nat.reduceLeDiff, Nat.reducePow, Nat.reduceBEq, Nat.reduceAdd, Nat.reduceEqDiff, reduceCtorEq, Int.reduceToNat, h0, h3, h4, h5, h6, h7, w1, w2, w3, w4, g1, g2]; done)) | (refine qq9 ?_ ?_; focus (simp only [kS, Nat.reduceSub, Nat.reduceMul, Nat.reduceLeDiff, Nat.reducePow, Nat.reduceBEq, Nat.reduceAdd, Nat.reduceEqDiff, reduceCtorEq, Int.reduceToNat, h0, h3, h4, h5, h6, h7, w1, w2, w3, w4, g1, g2]; done)) | refine qqa ?_ | refine qqb ?_ | refine qqc ?_ | refine And.intro (by first | assumption | omega) ?_)
              repeat (refine And.intro (by first | (simp only [kS, Nat.reduceSub, Nat.reduceMul, Nat.reduceLeDiff, Nat.reducePow, Nat.reduceBEq, Nat.reduceAdd, Nat.reduceEqDiff, reduceCtorEq, Int.reduceToNat, h0, h3, h4, h5, h6, h7]; done) | assumption) ?_)
              simp only [kS, Nat.reduceSub, Nat.reduceMul, Nat.reduceLeDiff, Nat.reducePow, Nat.reduceBEq, Nat.reduceAdd, Nat.reduceEqDiff, reduceCtorEq, Int.reduceToNat, Bool.false_and, Bool.true_and, Bool.false_or, Bool.true_or, g1, g2]
            · repeat (first | refine qq1 fun Z hN hX hR => ?_ | refine qq2 fun Z hN hX hR => ?_ | refine qq3 (by kernel_rfl) fun K hK => ?_ | ((first | refine qq4 fun R hRR => ?_ | with_reducible change ExpAll _ _ _); simp only [kS, Nat.reduceSub, Nat.reduceMul, Nat.reduceLeDiff, Nat.reducePow, Nat.reduceBEq, Nat.reduceAdd, Nat.reduceEqDiff, reduceCtorEq, Int.reduceToNat, h0, h3, h4, h5, h6, h7, w1, w2, w3, w4, g1, g2]) | (refine hRR _ ?_; clear hRR R) | refine qq5 ?_ | (refine hK _ ?_; clear hK K) | ((first | refine hN _ ?_ | refine hX _ _ ?_ | refine hR _ ?_); clear hN hX hR Z) | refine qq6 rfl ?_ | refine qq7 (by decide) ?_ | (refine qq8 ?_ ?_; focus (simp only [kS, Nat.reduceSub, Nat.reduceMul, Nat.reduceLeDiff, Nat.reducePow, Nat.reduceBEq, Nat.reduceAdd, Nat.reduceEqDiff, reduceCtorEq, Int.reduceToNat, h0, h3, h4, h5, h6, h7, w1, w2, w3, w4, g1, g2]; done)) | (refine qq9 ?_ ?_; focus (simp only [kS, Nat.reduceSub, Nat.reduceMul, Nat.reduceLeDiff, Nat.reducePow, Nat.reduceBEq, Nat.reduceAdd, Nat.reduceEqDiff, reduceCtorEq, Int.reduceToNat, h0, h3, h4, h5, h6, h7, w1, w2, w3, w4, g1, g2]; done)) | refine qqa ?_ | refine qqb ?_ | refine qqc ?_ | refine And.intro (by first | assumption | omega) ?_)
              repeat (refine And.intro (by first | (simp only [kS, Nat.reduceSub, Nat.reduceMul, Nat.reduceLeDiff, Nat.reducePow, Nat.reduceBEq, Nat.reduceAdd, Nat.reduceEqDiff, reduceCtorEq, Int.reduceToNat, h0, h3, h4, h5, h6, h7]; done) | assumption) ?_)
              simp only [kS, Nat.reduceSub, Nat.reduceMul, Nat.reduceLeDiff, Nat.reducePow, Nat.reduceBEq, Nat.reduceAdd, Nat.reduceEqDiff, reduceCtorEq, Int.reduceToNat, Bool.false_and, Bool.true_and, Bool.false_or, Bool.true_or, g1, g2]
      clear h0 h3
      rintro f ⟨h0, h3, h4, h5, h6, h7, hf⟩
      by_cases hq : (decide (194 ≤ b) && (decide (b ≤ 223) && q1)) = true
      · rw [hq] at hf
        rw [if_pos hq] at hc
        repeat (first | refine qq1 fun Z hN hX hR => ?_ | refine qq2 fun Z hN hX hR => ?_ | refine qq3 (by kernel_rfl) fun K hK => ?_ | ((first | refine qq4 fun R hRR => ?_ | with_reducible change ExpAll _ _ _); simp only [kS, Nat.reduceSub, Nat.reduceMul, Nat.reduceLeDiff, Nat.reducePow, Nat.reduceBEq, Nat.reduceAdd, Nat.reduceEqDiff, reduceCtorEq, Int.reduceToNat, h0, h3, h4, h5, h6, h7, w1, w2, w3, w4, hf]) | (refine hRR _ ?_; clear hRR R) | refine qq5 ?_ | (refine hK _ ?_; clear hK K) | ((first | refine hN _ ?_ | refine hX _ _ ?_ | refine hR _ ?_); clear hN hX hR Z) | refine qq6 rfl ?_ | refine qq7 (by decide) ?_ | (refine qq8 ?_ ?_; focus (simp only [kS, Nat.reduceSub, Nat.reduceMul, Nat.reduceLeDiff, Nat.reducePow, Nat.reduceBEq, Nat.reduceAdd, Nat.reduceEqDiff, reduceCtorEq, Int.reduceToNat, h0, h3, h4, h5, h6, h7, w1, w2, w3, w4, hf]; done)) | (refine qq9 ?_ ?_; focus (simp only [kS, Nat.reduceSub, Nat.reduceMul, Nat.reduceLeDiff, Nat.reducePow, Nat.reduceBEq, Nat.reduceAdd, Nat.reduceEqDiff, reduceCtorEq, Int.reduceToNat, h0, h3, h4, h5, h6, h7, w1, w2, w3, w4, hf]; done)) | refine qqa ?_ | refine qqb ?_ | refine qqc ?_ | refine And.intro (by first | assumption | omega) ?_)
        exact ⟨k, by omega, i + 2, by omega, by omega, by simp only [kS, Nat.reduceSub, Nat.reduceMul, Nat.reduceLeDiff, Nat.reducePow, Nat.reduceBEq, Nat.reduceAdd, Nat.reduceEqDiff, reduceCtorEq, Int.reduceToNat, h0], by simp only [kS, Nat.reduceSub, Nat.reduceMul, Nat.reduceLeDiff, Nat.reducePow, Nat.reduceBEq, Nat.reduceAdd, Nat.reduceEqDiff, reduceCtorEq, Int.reduceToNat], hc⟩
      rw [if_neg hq] at hc
      rw [Bool.eq_false_iff.2 hq] at hf
      refine awp_condF (by simp only [kS, Nat.reduceSub, Nat.reduceMul, Nat.reduceLeDiff, Nat.reducePow, Nat.reduceBEq, Nat.reduceAdd, Nat.reduceEqDiff, reduceCtorEq, Int.reduceToNat, hf]) ?_
      refine awq_cut (fun f => f.t 0 = .c (.v (.string s)) ∧ f.t 3 = iv (i : Int) ∧ f.t 4 = iv b ∧ f.t 5 = bv q1 ∧ f.t 6 = bv q2 ∧ f.t 7 = bv q3 ∧ f.t 45 = bv (b == 224 && (p1 && q2))) (fun Z hN hX hR => ?_) ?_
      · cases g3 : (b == 224)
        · repeat (first | refine qq1 fun Z hN hX hR => ?_ | refine qq2 fun Z hN hX hR => ?_ | refine qq3 (by kernel_rfl) fun K hK => ?_ | ((first | refine qq4 fun R hRR => ?_ | with_reducible change ExpAll _ _ _); simp only [kS, Nat.reduceSub, Nat.reduceMul, Nat.reduceLeDiff, Nat.reducePow, Nat.reduceBEq, Nat.reduceAdd, Nat.reduceEqDiff, reduceCtorEq, Int.reduceToNat, h0, h3, h4, h5, h6, h7, w1, w2, w3, w4, g3]) | (refine hRR _ ?_; clear hRR R) | refine qq5 ?_ | (refine hK _ ?_; clear hK K) | ((first | refine hN _ ?_ | refine hX _ _ ?_ | refine hR _ ?_); clear hN hX hR Z) | refine qq6 rfl ?_ | refine qq7 (by decide) ?_ | (refine qq8 ?_ ?_; focus (simp only [kS, Nat.reduceSub, Nat.reduceMul, Nat.reduceLeDiff, Nat.reducePow, Nat.reduceBEq, Nat.reduceAdd, Nat.reduceEqDiff, reduceCtorEq, Int.reduceToNat, h0, h3, h4, h5, h6, h7, w1, w2, w3, w4, g3]; done)) | (refine qq9 ?_ ?_; focus (simp only [kS, Nat.reduceSub, Nat.reduceMul, Nat.reduceLeDiff, Nat.reducePow, Nat.reduceBEq, Nat.reduceAdd, Nat.reduceEqDiff, reduceCtorEq, Int.reduceToNat, h0, h3, h4, h5, h6, h7, w1, w2, w3, w4, g3]; done)) | refine qqa ?_ | refine qqb ?_ | refine qqc ?_ | refine And.intro (by first | assumption | omega) ?_)
          repeat (refine And.intro (by first | (simp only [kS, Nat.reduceSub, Nat.reduceMul, Nat.reduceLeDiff, Nat.reducePow, Nat.reduceBEq, Nat.reduceAdd, Nat.reduceEqDiff, reduceCtorEq, Int.reduceToNat, h0, h3, h4, h5, h6, h7]; done) | assumption) ?_)
          simp only [kS, Nat.reduceSub, Nat.reduceMul, Nat.reduceLeDiff, Nat.reducePow, Nat.reduceBEq, Nat.reduceAdd, Nat.reduceEqDiff, reduceCtorEq, Int.reduceToNat, Bool.false_and, Bool.true_and, Bool.false_or, Bool.true_or, g3]
        · repeat (first | refine qq1 fun Z hN hX hR => ?_ | refine qq2 fun Z hN hX hR => ?_ | refine qq3 (by kernel_rfl) fun K hK => ?_ | ((first | refine qq4 fun R hRR => ?_ | with_reducible change ExpAll _ _ _); simp only [kS, Nat.reduceSub, Nat.reduceMul, Nat.reduceLeDiff, Nat.reducePow, Nat.reduceBEq, Nat.reduceAdd, Nat.reduceEqDiff, reduceCtorEq, Int.reduceToNat, h0, h3, h4, h5, h6, h7, w1, w2, w3, w4, g3]) | (refine hRR _ ?_; clear hRR R) | refine qq5 ?_ | (refine hK _ ?_; clear hK K) | ((first | refine hN _ ?_ | refine hX _ _ ?_ | refine hR _ ?_); clear hN hX hR Z) | refine qq6 rfl ?_ | refine qq7 (by decide) ?_ | (refine qq8 ?_ ?_; focus (simp only [kS, Nat.reduceSub, Nat.reduceMul, Nat.reduceLeDiff, Nat.reducePow, Nat.reduceBEq, Nat.reduceAdd, Nat.reduceEqDiff, reduceCtorEq, Int.reduceToNat, h0, h3, h4, h5, h6, h7, w1, w2, w3, w4, g3]; done)) | (refine qq9 ?_ ?_; focus (simp only [kS, Nat.reduceSub, Nat.reduceMul, Nat.reduceLeDiff, Nat.reducePow, Nat.reduceBEq, Nat.reduceAdd, Nat.reduceEqDiff, reduceCtorEq, Int.reduceToNat, h0, h3, h4, h5, h6, h7, w1, w2, w3, w4, g3]; done)) | refine qqa ?_ | refine qqb ?_ | refine qqc ?_ | refine And.intro (by first | assumption | omega) ?_)
          refine ⟨_, j1, rfl, ?_⟩
          simp only [kS, Nat.reduceSub, Nat.reduceMul, Nat.reduceLeDiff, Nat.reducePow, Nat.reduceBEq, Nat.reduceAdd, Nat.reduceEqDiff, reduceCtorEq, Int.reduceToNat, h0, h3, h4, h5, h6, h7, w1, w2, w3, w4, g3]
          cases p1
          · repeat (first | refine qq1 fun Z hN hX hR => ?_ | refine qq2 fun Z hN hX hR => ?_ | refine qq3 (by kernel_rfl) fun K hK => ?_ | ((first | refine qq4 fun R hRR => ?_ | with_reducible change ExpAll _ _ _); simp only [kS, Nat.reduceSub, Nat.reduceMul, Nat.reduceLeDiff, Nat.reducePow, Nat.reduceBEq, Nat.reduceAdd, Nat.reduceEqDiff, reduceCtorEq, Int.reduceToNat, h0, h3, h4, h5, h6, h7, w1, w2, w3, w4, g3]) | (refine hRR _ ?_; clear hRR R) | refine qq5 ?_ | (refine hK _ ?_; clear hK K) | ((first | refine hN _ ?_ | refine hX _ _ ?_ | refine hR _ ?_); clear hN hX hR Z) | refine qq6 rfl ?_ | refine qq7 (by decide) ?_ | (refine qq8 ?_ ?_; focus (simp only [kS, Nat.reduceSub, Nat.reduceMul, Nat.reduceLeDiff, Nat.reducePow, Nat.reduceBEq, Nat.reduceAdd, Nat.reduceEqDiff, reduceCtorEq, Int.reduceToNat, h0, h3, h4, h5, h6, h7, w1, w2, w3, w4, g3]; done)) | (refine qq9 ?_ ?_; focus (simp only [kS, Nat.reduceSub, Nat.reduceMul, Nat.reduceLeDiff, Nat.reducePow, Nat.reduceBEq, Nat.reduceAdd, Nat.reduceEqDiff, reduceCtorEq, Int.reduceToNat, h0, h3, h4, h5, h6, h7, w1, w2, w3, w4, g3]; done)) | refine qqa ?_ | refine qqb ?_ | refine qqc ?_ | refine And.intro (by first | assumption | omega) ?_)
            repeat (refine And.intro (by first | (simp only [kS, Nat.reduceSub, Nat.reduceMul, Nat.reduceLeDiff, Nat.reducePow, Nat.reduceBEq, Nat.reduceAdd, Nat.reduceEqDiff, reduceCtorEq, Int.reduceToNat, h0, h3, h4, h5, h6, h7]; done) | assumption) ?_)
            simp only [kS, Nat.reduceSub, Nat.reduceMul, Nat.reduceLeDiff, Nat.reducePow, Nat.reduceBEq, Nat.reduceAdd, Nat.reduceEqDiff, reduceCtorEq, Int.reduceToNat, Bool.false_and, Bool.true_and, Bool.false_or, Bool.true_or, g3]
          · cases q2
            · repeat (first | refine qq1 fun Z hN hX hR => ?_ | refine qq2 fun Z hN hX hR => ?_ | refine qq3 (by kernel_rfl) fun K hK => ?_ | ((first | refine qq4 fun R hRR => ?_ | with_reducible change ExpAll _ _ _); simp only [kS, Nat.reduceSub, Nat.reduceMul, Nat.reduceLeDiff, Nat.reducePow, Nat.reduceBEq, Nat.reduceAdd, Nat.reduceEqDiff, reduceCtorEq, Int.reduceToNat, h0, h3, h4, h5, h6, h7, w1, w2, w3, w4, g3]) | (refine hRR _ ?_; clear hRR R) | refine qq5 ?_ | (refine hK _ ?_; clear hK K) | ((first | refine hN _ ?_ | refine hX _ _ ?_ | refine hR _ ?_); clear hN hX hR Z) | refine qq6 rfl ?_ | refine qq7 (by decide) ?_ | (refine qq8 ?_ ?_; focus (simp only [kS, Nat.reduceSub, Nat.reduceMul, Nat.reduceLeDiff, Nat.reducePow, Nat.reduceBEq, Nat.reduceAdd, Nat.reduceEqDiff, reduceCtorEq, Int.reduceToNat, h0, h3, h4, h5, h6, h7, w1, w2, w3, w4, g3]; done)) | (refine qq9 ?_ ?_; focus (simp only [kS, Nat.reduceSub, Nat.reduceMul, Nat.reduceLeDiff, Nat.reducePow, Nat.reduceBEq, Nat.reduceAdd, Nat.reduceEqDiff, reduceCtorEq, Int.reduceToNat, h0, h3, h4, h5, h6, h7, w1, w2, w3, w4, g3]; done)) | refine qqa ?_ | refine qqb ?_ | refine qqc ?_ | refine And.intro (by first | assumption | omega) ?_)
              repeat (refine And.intro (by first | (simp only [kS, Nat.reduceSub, Nat.reduceMul, Nat.reduceLeDiff, Nat.reducePow, Nat.reduceBEq, Nat.reduceAdd, Nat.reduceEqDiff, reduceCtorEq, Int.reduceToNat, h0, h3, h4, h5, h6, h7]; done) | assumption) ?_)
              simp only [kS, Nat.reduceSub, Nat.reduceMul, Nat.reduceLeDiff, Nat.reducePow, Nat.reduceBEq, Nat.reduceAdd, Nat.reduceEqDiff, reduceCtorEq, Int.reduceToNat, Bool.false_and, Bool.true_and, Bool.false_or, Bool.true_or, g3]
            · repeat (first | refine qq1 fun Z hN hX hR => ?_ | refine qq2 fun Z hN hX hR => ?_ | refine qq3 (by kernel_rfl) fun K hK => ?_ | ((first | refine qq4 fun R hRR => ?_ | with_reducible change ExpAll _ _ _); simp only [kS, Nat.reduceSub, Nat.reduceMul, Nat.reduceLeDiff, Nat.reducePow, Nat.reduceBEq, Nat.reduceAdd, Nat.reduceEqDiff, reduceCtorEq, Int.reduceToNat, h0, h3, h4, h5, h6, h7, w1, w2, w3, w4, g3]) | (refine hRR _ ?_; clear hRR R) | refine qq5 ?_ | (refine hK _ ?_; clear hK K) | ((first | refine hN _ ?_ | refine hX _ _ ?_ | refine hR _ ?_); clear hN hX hR Z) | refine qq6 rfl ?_ | refine qq7 (by decide) ?_ | (refine qq8 ?_ ?_; focus (simp only [kS, Nat.reduceSub, Nat.reduceMul, Nat.reduceLeDiff, Nat.reducePow, Nat.reduceBEq, Nat.reduceAdd, Nat.reduceEqDiff, reduceCtorEq, Int.reduceToNat, h0, h3, h4, h5, h6, h7, w1, w2, w3, w4, g3]; done)) | (refine qq9 ?_ ?_; focus (simp only [kS, Nat.reduceSub, Nat.reduceMul, Nat.reduceLeDiff, Nat.reducePow, Nat.reduceBEq, Nat.reduceAdd, Nat.reduceEqDiff, reduceCtorEq, Int.reduceToNat, h0, h3, h4, h5, h6, h7, w1, w2, w3, w4, g3]; done)) | refine qqa ?_ | refine qqb ?_ | refine qqc ?_ | refine And.intro (by first | assumption | omega) ?_)
              repeat (refine And.intro (by first | (simp only [kS, Nat.reduceSub, Nat.reduceMul, Nat.reduceLeDiff, Nat.reducePow, Nat.reduceBEq, Nat.reduceAdd, Nat.reduceEqDiff, reduceCtorEq, Int.reduceToNat, h0, h3, h4, h5, h6, h7]; done) | assumption) ?_)
              simp only [kS, Nat.reduceSub, Nat.reduceMul, Nat.reduceLeDiff, Nat.reducePow, Nat.reduceBEq, Nat.reduceAdd, Nat.reduceEqDiff, reduceCtorEq, Int.reduceToNat, Bool.false_and, Bool.true_and, Bool.false_or, Bool.true_or, g3]
      clear h0 h3
      rintro f ⟨h0, h3, h4, h5, h6, h7, hf⟩
      by_cases hq : (b == 224 && (p1 && q2)) = true
      · rw [hq] at hf
        rw [if_pos hq] at hc
        repeat (first | refine qq1 fun Z hN hX hR => ?_ | refine qq2 fun Z hN hX hR => ?_ | refine qq3 (by kernel_rfl) fun K hK => ?_ | ((first | refine qq4 fun R hRR => ?_ | with_reducible change ExpAll _ _ _); simp only [kS, Nat.reduceSub, Nat.reduceMul, Nat.reduceLeDiff, Nat.reducePow, Nat.reduceBEq, Nat.reduceAdd, Nat.reduceEqDiff, reduceCtorEq, Int.reduceToNat, h0, h3, h4, h5, h6, h7, w1, w2, w3, w4, hf]) | (refine hRR _ ?_; clear hRR R) | refine qq5 ?_ | (refine hK _ ?_; clear hK K) | ((first | refine hN _ ?_ | refine hX _ _ ?_ | refine hR _ ?_); clear hN hX hR Z) | refine qq6 rfl ?_ | refine qq7 (by decide) ?_ | (refine qq8 ?_ ?_; focus (simp only [kS, Nat.reduceSub, Nat.reduceMul, Nat.reduceLeDiff, Nat.reducePow, Nat.reduceBEq, Nat.reduceAdd, Nat.reduceEqDiff, reduceCtorEq, Int.reduceToNat, h0, h3, h4, h5, h6, h7, w1, w2, w3, w4, hf]; done)) | (refine qq9 ?_ ?_; focus (simp only [kS, Nat.reduceSub, Nat.reduceMul, Nat.reduceLeDiff, Nat.reducePow, Nat.reduceBEq, Nat.reduceAdd, Nat.reduceEqDiff, reduceCtorEq, Int.reduceToNat, h0, h3, h4, h5, h6, h7, w1, w2, w3, w4, hf]; done)) | refine qqa ?_ | refine qqb ?_ | refine qqc ?_ | refine And.intro (by first | assumption | omega) ?_)
        exact ⟨k, by omega, i + 3, by omega, by omega, by simp only [kS, Nat.reduceSub, Nat.reduceMul, Nat.reduceLeDiff, Nat.reducePow, Nat.reduceBEq, Nat.reduceAdd, Nat.reduceEqDiff, reduceCtorEq, Int.reduceToNat, h0], by simp only [kS, Nat.reduceSub, Nat.reduceMul, Nat.reduceLeDiff, Nat.reducePow, Nat.reduceBEq, Nat.reduceAdd, Nat.reduceEqDiff, reduceCtorEq, Int.reduceToNat], hc⟩
      rw [if_neg hq] at hc
      rw [Bool.eq_false_iff.2 hq] at hf
      refine awp_condF (by simp only [kS, Nat.reduceSub, Nat.reduceMul, Nat.reduceLeDiff, Nat.reducePow, Nat.reduceBEq, Nat.reduceAdd, Nat.reduceEqDiff, reduceCtorEq, Int.reduceToNat, hf]) ?_
      refine awq_cut (fun f => f.t 0 = .c (.v (.string s)) ∧ f.t 3 = iv (i : Int) ∧ f.t 4 = iv b ∧ f.t 5 = bv q1 ∧ f.t 6 = bv q2 ∧ f.t 7 = bv q3 ∧ f.t 59 = bv (((decide (225 ≤ b) && decide (b ≤ 236)) || (b == 238 || b == 239)) && (q1 && q2))) (fun Z hN hX hR => ?_) ?_
      · cases ga : (decide (225 ≤ b))
        · cases gc : (b == 238)
          · cases gd : (b == 239)
            · repeat (first | refine qq1 fun Z hN hX hR => ?_ | refine qq2 fun Z hN hX hR => ?_ | refine qq3 (by kernel_rfl) fun K hK => ?_ | ((first | refine qq4 fun R hRR => ?_ | with_reducible change ExpAll _ _ _); simp only [kS, Nat.reduceSub, Nat.reduceMul, Nat.reduceLeDiff, Nat.reducePow, Nat.reduceBEq, Nat.reduceAdd, Nat.reduceEqDiff, reduceCtorEq, Int.reduceToNat, h0, h3, h4, h5, h6, h7, w1, w2, w3, w4, ga, gc, gd]) | (refine hRR _ ?_; clear hRR R) | refine qq5 ?_ | (refine hK _ ?_; clear hK K) | ((first | refine hN _ ?_ | refine hX _ _ ?_ | refine hR _ ?_); clear hN hX hR Z) | refine qq6 rfl ?_ | refine qq7 (by decide) ?_ | (refine qq8 ?_ ?_; focus (simp only [kS, Nat.reduceSub, Nat.reduceMul, Nat.reduceLeDiff, Nat.reducePow, Nat.reduceBEq, Nat.reduceAdd, Nat.reduceEqDiff, reduceCtorEq, Int.reduceToNat, h0, h3, h4, h5, h6, h7, w1, w2, w3, w4, ga, gc, gd]; done)) | (refine qq9 ?_ ?_; focus (simp only [kS, Nat.reduceSub, Nat.reduceMul, Nat.reduceLeDiff, Nat.reducePow, Nat.reduceBEq, Nat.reduceAdd, Nat.reduceEqDiff, reduceCtorEq, Int.reduceToNat, h0, h3, h4, h5, h6, h7, w1, w2, w3, w4, ga, gc, gd]; done)) | refine qqa ?_ | refine qqb ?_ | refine qqc ?_ | refine And.intro (by first | assumption | omega) ?_)
              repeat (refine And.intro (by first | (simp only [kS, Nat.reduceSub, Nat.reduceMul, Nat.reduceLeDiff, Nat.reducePow, Nat.reduceBEq, Nat.reduceAdd, Nat.reduceEqDiff, reduceCtorEq, Int.reduceToNat, h0, h3, h4, h5, h6, h7]; done) | assumption) ?_)
              simp only [kS, Nat.reduceSub, Nat.reduceMul, Nat.reduceLeDiff, Nat.reducePow, Nat.reduceBEq, Nat.reduceAdd, Nat.reduceEqDiff, reduceCtorEq, Int.reduceToNat, Bool.false_and, Bool.true_and, Bool.false_or, Bool.true_or, ga, gc, gd]
            · cases q1
              · repeat (first | refine qq1 fun Z hN hX hR => ?_ | refine qq2 fun Z hN hX hR => ?_ | refine qq3 (by kernel_rfl) fun K hK => ?_ | ((first | refine qq4 fun R hRR => ?_ | with_reducible change ExpAll _ _ _); simp only [kS, Nat.reduceSub, Nat.reduceMul, Nat.reduceLeDiff, Nat.reducePow, Nat.reduceBEq, Nat.reduceAdd, Nat.reduceEqDiff, reduceCtorEq, Int.reduceToNat, h0, h3, h4, h5, h6, h7, w1, w2, w3, w4, ga, gc, gd]) | (refine hRR _ ?_; clear hRR R) | refine qq5 ?_ | (refine hK _ ?_; clear hK K) | ((first | refine hN _ ?_ | refine hX _ _ ?_ | refine hR _ ?_); clear hN hX hR Z) | refine qq6 rfl ?_ | refine qq7 (by decide) ?_ | (refine qq8 ?_ ?_; focus (simp only [kS, Nat.reduceSub, Nat.reduceMul, Nat.reduceLeDiff, Nat.reducePow, Nat.reduceBEq, Nat.reduceAdd, Nat.reduceEqDiff, reduceCtorEq, Int.reduceToNat, h0, h3, h4, h5, h6, h7, w1, w2, w3, w4, ga, gc, gd]; done)) | (refine qq9 ?_ ?_; focus (simp only [kS, Nat.reduceSub, Nat.reduceMul, Nat.reduceLeDiff, Nat.reducePow, Nat.reduceBEq, Nat.reduceAdd, Nat.reduceEqDiff, reduceCtorEq, Int.reduceToNat, h0, h3, h4, h5, h6, h7, w1, w2, w3, w4, ga, gc, gd]; done)) | refine qqa ?_ | refine qqb ?_ | refine qqc ?_ | refine And.intro (by first | assumption | omega) ?_)
                repeat (refine And.intro (by first | (simp only [kS, Nat.reduceSub, Nat.reduceMul, Nat.reduceLeDiff, Nat.reducePow, Nat.reduceBEq, Nat.reduceAdd, Nat.reduceEqDiff, reduceCtorEq, Int.reduceToNat, h0, h3, h4, h5, h6, h7]; done) | assumption) ?_)
                simp only [kS, Nat.reduceSub, Nat.reduceMul, Nat.reduceLeDiff, Nat.reducePow, Nat.reduceBEq, Nat.reduceAdd, Nat.reduceEqDiff, reduceCtorEq, Int.reduceToNat, Bool.false_and, Bool.true_and, Bool.false_or, Bool.true_or, ga, gc, gd]
              · cases q2
                · repeat (first | refine qq1 fun Z hN hX hR => ?_ | refine qq2 fun Z hN hX hR => ?_ | refine qq3 (by kernel_rfl) fun K hK => ?_ | ((first | refine qq4 fun R hRR => ?_ | with_reducible change ExpAll _ _ _); simp only [kS, Nat.reduceSub, Nat.reduceMul, Nat.reduceLeDiff, Nat.reducePow, Nat.reduceBEq, Nat.reduceAdd, Nat.reduceEqDiff, reduceCtorEq, Int.reduceToNat, h0, h3, h4, h5, h6, h7, w1, w2, w3, w4, ga, gc, gd]) | (refine hRR _ ?_; clear hRR R) | refine qq5 ?_ | (refine hK _ ?_; clear hK K) | ((first | refine hN _ ?_ | refine hX _ _ ?_ | refine hR _ ?_); clear hN hX hR Z) | refine qq6 rfl ?_ | refine qq7 (by decide) ?_ | (refine qq8 ?_ ?_; focus (simp only [kS, Nat.reduceSub, Nat.reduceMul, Nat.reduceLeDiff, Nat.reducePow, Nat.reduceBEq, Nat.reduceAdd, Nat.reduceEqDiff, reduceCtorEq, Int.reduceToNat, h0, h3, h4, h5, h6, h7, w1, w2, w3, w4, ga, gc, gd]; done)) | (refine qq9 ?_ ?_; focus (simp only [kS, Nat.reduceSub, Nat.reduceMul, Nat.reduceLeDiff, Nat.reducePow, Nat.reduceBEq, Nat.reduceAdd, Nat.reduceEqDiff, reduceCtorEq, Int.reduceToNat, h0, h3, h4, h5, h6, h7, w1, w2, w3, w4, ga, gc, gd]; done)) | refine qqa ?_ | refine qqb ?_ | refine qqc ?_ | refine And.intro (by first | assumption | omega) ?_)
                  repeat (refine And.intro (by first | (simp only [kS, Nat.reduceSub, Nat.reduceMul, Nat.reduceLeDiff, Nat.reducePow, Nat.reduceBEq, Nat.reduceAdd, Nat.reduceEqDiff, reduceCtorEq, Int.reduceToNat, h0, h3, h4, h5, h6, h7]; done) | assumption) ?_)
                  simp only [kS, Nat.reduceSub, Nat.reduceMul, Nat.reduceLeDiff, Nat.reducePow, Nat.reduceBEq, Nat.reduceAdd, Nat.reduceEqDiff, reduceCtorEq, Int.reduceToNat, Bool.false_and, Bool.true_and, Bool.false_or, Bool.true_or, ga, gc, gd]
                · repeat (first | refine qq1 fun Z hN hX hR => ?_ | refine qq2 fun Z hN hX hR => ?_ | refine qq3 (by kernel_rfl) fun K hK => ?_ | ((first | refine qq4 fun R hRR => ?_ | with_reducible change ExpAll _ _ _); simp only [kS, Nat.reduceSub, Nat.reduceMul, Nat.reduceLeDiff, Nat.reducePow, Nat.reduceBEq, Nat.reduceAdd, Nat.reduceEqDiff, reduceCtorEq, Int.reduceToNat, h0, h3, h4, h5, h6, h7, w1, w2, w3, w4, ga, gc, gd]) | (refine hRR _ ?_; clear hRR R) | refine qq5 ?_ | (refine hK _ ?_; clear hK K) | ((first | refine hN _ ?_ | refine hX _ _ ?_ | refine hR _ ?_); clear hN hX hR Z) | refine qq6 rfl ?_ | refine qq7 (by decide) ?_ | (refine qq8 ?_ ?_; focus (simp only [kS, Nat.reduceSub, Nat.reduceMul, Nat.reduceLeDiff, Nat.reducePow, Nat.reduceBEq, Nat.reduceAdd, Nat.reduceEqDiff, reduceCtorEq, Int.reduceToNat, h0, h3, h4, h5, h6, h7, w1, w2, w3, w4, ga, gc, gd]; done)) | (refine qq9 ?_ ?_; focus (simp only [kS, Nat.reduceSub, Nat.reduceMul, Nat.reduceLeDiff, Nat.reducePow, Nat.reduceBEq, Nat.reduceAdd, Nat.reduceEqDiff, reduceCtorEq, Int.reduceToNat, h0, h3, h4, h5, h6, h7, w1, w2, w3, w4, ga, gc, gd]; done)) | refine qqa ?_ | refine qqb ?_ | refine qqc ?_ | refine And.intro (by first | assumption | omega) ?_)
                  repeat (refine And.intro (by first | (simp only [kS, Nat.reduceSub, Nat.reduceMul, Nat.reduceLeDiff, Nat.reducePow, Nat.reduceBEq, Nat.reduceAdd, Nat.reduceEqDiff, reduceCtorEq, Int.reduceToNat, h0, h3, h4, h5, h6, h7]; done) | assumption) ?_)
                  simp only [kS, Nat.reduceSub, Nat.reduceMul, Nat.reduceLeDiff, Nat.reducePow, Nat.reduceBEq, Nat.reduceAdd, Nat.reduceEqDiff, reduceCtorEq, Int.reduceToNat, Bool.false_and, Bool.true_and, Bool.false_or, Bool.true_or, ga, gc, gd]
          · cases q1
            · repeat (first | refine qq1 fun Z hN hX hR => ?_ | refine qq2 fun Z hN hX hR => ?_ | refine qq3 (by kernel_rfl) fun K hK => ?_ | ((first | refine qq4 fun R hRR => ?_ | with_reducible change ExpAll _ _ _); simp only [kS, Nat.reduceSub, Nat.reduceMul, Nat.reduceLeDiff, Nat.reducePow, Nat.reduceBEq, Nat.reduceAdd, Nat.reduceEqDiff, reduceCtorEq, Int.reduceToNat, h0, h3, h4, h5, h6, h7, w1, w2, w3, w4, ga, gc]) | (refine hRR _ ?_; clear hRR R) | refine qq5 ?_ | (refine hK _ ?_; clear hK K) | ((first | refine hN _ ?_ | refine hX _ _ ?_ | refine hR _ ?_); clear hN hX hR Z) | refine qq6 rfl ?_ | refine qq7 (by decide) ?_ | (refine qq8 ?_ ?_; focus (simp only [kS, Nat.reduceSub, Nat.reduceMul, Nat.reduceLeDiff, Nat.reducePow, Nat.reduceBEq, Nat.reduceAdd, Nat.reduceEqDiff, reduceCtorEq, Int.reduceToNat, h0, h3, h4, h5, h6, h7, w1, w2, w3, w4, ga, gc]; done)) | (refine qq9 ?_ ?_; focus (simp only [kS, Nat.reduceSub, Nat.reduceMul, Nat.reduceLeDiff, Nat.reducePow, Nat.reduceBEq, Nat.reduceAdd, Nat.reduceEqDiff, reduceCtorEq, Int.reduceToNat, h0, h3, h4, h5, h6, h7, w1, w2, w3, w4, ga, gc]; done)) | refine qqa ?_ | refine qqb ?_ | refine qqc ?_ | refine And.intro (by first | assumption | omega) ?_)
              repeat (refine And.intro (by first | (simp only [kS, Nat.reduceSub, Nat.reduceMul, Nat.reduceLeDiff, Nat.reducePow, Nat.reduceBEq, Nat.reduceAdd, Nat.reduceEqDiff, reduceCtorEq, Int.reduceToNat, h0, h3, h4, h5, h6, h7]; done) | assumption) ?_)
              simp only [kS, Nat.reduceSub, Nat.reduceMul, Nat.reduceLeDiff, Nat.reducePow, Nat.reduceBEq, Nat.reduceAdd, Nat.reduceEqDiff, reduceCtorEq, Int.reduceToNat, Bool.false_and, Bool.true_and, Bool.false_or, Bool.true_or, ga, gc]
            · cases q2
              · repeat (first | refine qq1 fun Z hN hX hR => ?_ | refine qq2 fun Z hN hX hR => ?_ | refine qq3 (by kernel_rfl) fun K hK => ?_ | ((first | refine qq4 fun R hRR => ?_ | with_reducible change ExpAll _ _ _); simp only [kS, Nat.reduceSub, Nat.reduceMul, Nat.reduceLeDiff, Nat.reducePow, Nat.reduceBEq, Nat.reduceAdd, Nat.reduceEqDiff, reduceCtorEq, Int.reduceToNat, h0, h3, h4, h5, h6, h7, w1, w2, w3, w4, ga, gc]) | (refine hRR _ ?_; clear hRR R) | refine qq5 ?_ | (refine hK _ ?_; clear hK K) | ((first | refine hN _ ?_ | refine hX _ _ ?_ | refine hR _ ?_); clear hN hX hR Z) | refine qq6 rfl ?_ | refine qq7 (by decide) ?_ | (refine qq8 ?_ ?_; focus (simp only [kS, Nat.reduceSub, Nat.reduceMul, Nat.reduceLeDiff, Nat.reducePow, Nat.reduceBEq, Nat.reduceAdd, Nat.reduceEqDiff, reduceCtorEq, Int.reduceToNat, h0, h3, h4, h5, h6, h7, w1, w2, w3, w4, ga, gc]; done)) | (refine qq9 ?_ ?_; focus (simp only [kS, Nat.reduceSub, Nat.reduceMul, Nat.reduceLeDiff, Nat.reducePow, Nat.reduceBEq, Nat.reduceAdd, Nat.reduceEqDiff, reduceCtorEq, Int.reduceToNat, h0, h3, h4, h5, h6, h7, w1, w2, w3, w4, ga, gc]; done)) | refine qqa ?_ | refine qqb ?_ | refine qqc ?_ | refine And.intro (by first | assumption | omega) ?_)
                repeat (refine And.intro (by first | (simp only [kS, Nat.reduceSub, Nat.reduceMul, Nat.reduceLeDiff, Nat.reducePow, Nat.reduceBEq, Nat.reduceAdd, Nat.reduceEqDiff, reduceCtorEq, Int.reduceToNat, h0, h3, h4, h5, h6, h7]; done) | assumption) ?_)
                simp only [kS, Nat.reduceSub, Nat.reduceMul, Nat.reduceLeDiff, Nat.reducePow, Nat.reduceBEq, Nat.reduceAdd, Nat.reduceEqDiff, reduceCtorEq, Int.reduceToNat, Bool.false_and, Bool.true_and, Bool.false_or, Bool.true_or, ga, gc]
              · repeat (first | refine qq1 fun Z hN hX hR => ?_ | refine qq2 fun Z hN hX hR => ?_ | refine qq3 (by kernel_rfl) fun K hK => ?_ | ((first | refine qq4 fun R hRR => ?_ | with_reducible change ExpAll _ _ _); simp only [kS, Nat.reduceSub, Nat.reduceMul, Nat.reduceLeDiff, Nat.reducePow, Nat.reduceBEq, Nat.reduceAdd, Nat.reduceEqDiff, reduceCtorEq, Int.reduceToNat, h0, h3, h4, h5, h6, h7, w1, w2, w3, w4, ga, gc]) | (refine hRR _ ?_; clear hRR R) | refine qq5 ?_ | (refine hK _ ?_; clear hK K) | ((first | refine hN _ ?_ | refine hX _ _ ?_ | refine hR _ ?_); clear hN hX hR Z) | refine qq6 rfl ?_ | refine qq7 (by decide) ?_ | (refine qq8 ?_ ?_; focus (simp only [kS, Nat.reduceSub, Nat.reduceMul, Nat.reduceLeDiff, Nat.reducePow, Nat.reduceBEq, Nat.reduceAdd, Nat.reduceEqDiff, reduceCtorEq, Int.reduceToNat, h0, h3, h4, h5, h6, h7, w1, w2, w3, w4, ga, gc]; done)) | (refine qq9 ?_ ?_; focus (simp only [kS, Nat.reduceSub, Nat.reduceMul, Nat.reduceLeDiff, Nat.reducePow, Nat.reduceBEq, Nat.reduceAdd, Nat.reduceEqDiff, reduceCtorEq, Int.reduceToNat, h0, h3, h4, h5, h6, h7, w1, w2, w3, w4, ga, gc]; done)) | refine qqa ?_ | refine qqb ?_ | refine qqc ?_ | refine And.intro (by first | assumption | omega) ?_)
                repeat (refine And.intro (by first | (simp only [kS, Nat.reduceSub, Nat.reduceMul, Nat.reduceLeDiff, Nat.reducePow, Nat.reduceBEq, Nat.reduceAdd, Nat.reduceEqDiff, reduceCtorEq, Int.reduceToNat, h0, h3, h4, h5, h6, h7]; done) | assumption) ?_)
                simp only [kS, Nat.reduceSub, Nat.reduceMul, Nat.reduceLeDiff, Nat.reducePow, Nat.reduceBEq, Nat.reduceAdd, Nat.reduceEqDiff, reduceCtorEq, Int.reduceToNat, Bool.false_and, Bool.true_and, Bool.false_or, Bool.true_or, ga, gc]
        · cases gb : (decide (b ≤ 236))
          · cases gc : (b == 238)
            · cases gd : (b == 239)
              · repeat (first | refine qq1 fun Z hN hX hR => ?_ | refine qq2 fun Z hN hX hR => ?_ | refine qq3 (by kernel_rfl) fun K hK => ?_ | ((first | refine qq4 fun R hRR => ?_ | with_reducible change ExpAll _ _ _); simp only [kS, Nat.reduceSub, Nat.reduceMul, Nat.reduceLeDiff, Nat.reducePow, Nat.reduceBEq, Nat.reduceAdd, Nat.reduceEqDiff, reduceCtorEq, Int.reduceToNat, h0, h3, h4, h5, h6, h7, w1, w2, w3, w4, ga, gb, gc, gd]) | (refine hRR _ ?_; clear hRR R) | refine qq5 ?_ | (refine hK _ ?_; clear hK K) | ((first | refine hN _ ?_ | refine hX _ _ ?_ | refine hR _ ?_); clear hN hX hR Z) | refine qq6 rfl ?_ | refine qq7 (by decide) ?_ | (refine qq8 ?_ ?_; focus (simp only [kS, Nat.reduceSub, Nat.reduceMul, Nat.reduceLeDiff, Nat.reducePow, Nat.reduceBEq, Nat.reduceAdd, Nat.reduceEqDiff, reduceCtorEq, Int.reduceToNat, h0, h3, h4, h5, h6, h7, w1, w2, w3, w4, ga, gb, gc, gd]; done)) | (refine qq9 ?_ ?_; focus (simp only [kS, Nat.reduceSub, Nat.reduceMul, Nat.reduceLeDiff, Nat.reducePow, Nat.reduceBEq, Nat.reduceAdd, Nat.reduceEqDiff, reduceCtorEq, Int.reduceToNat, h0, h3, h4, h5, h6, h7, w1, w2, w3, w4, ga, gb, gc, gd]; done)) | refine qqa ?_ | refine qqb ?_ | refine qqc ?_ | refine And.intro (by first | assumption | omega) ?_)
                repeat (refine And.intro (by first | (simp only [kS, Nat.reduceSub, Nat.reduceMul, Nat.reduceLeDiff, Nat.reducePow, Nat.reduceBEq, Nat.reduceAdd, Nat.reduceEqDiff, reduceCtorEq, Int.reduceToNat, h0, h3, h4, h5, h6, h7]; done) | assumption) ?_)
                simp only [kS, Nat.reduceSub, Nat.reduceMul, Nat.reduceLeDiff, Nat.reducePow, Nat.reduceBEq, Nat.reduceAdd, Nat.reduceEqDiff, reduceCtorEq, Int.reduceToNat, Bool.false_and, Bool.true_and, Bool.false_or, Bool.true_or, ga, gb, gc, gd]
              · cases q1
                · repeat (first | refine qq1 fun Z hN hX hR => ?_ | refine qq2 fun Z hN hX hR => ?_ | refine qq3 (by kernel_rfl) fun K hK => ?_ | ((first | refine qq4 fun R hRR => ?_ | with_reducible change ExpAll _ _ _); simp only [kS, Nat.reduceSub, Nat.reduceMul, Nat.reduceLeDiff, Nat.reducePow, Nat.reduceBEq, Nat.reduceAdd, Nat.reduceEqDiff, reduceCtorEq, Int.reduceToNat, h0, h3, h4, h5, h6, h7, w1, w2, w3, w4, ga, gb, gc, gd]) | (refine hRR _ ?_; clear hRR R) | refine qq5 ?_ | (refine hK _ ?_; clear hK K) | ((first | refine hN _ ?_ | refine hX _ _ ?_ | refine hR _ ?_); clear hN hX hR Z) | refine qq6 rfl ?_ | refine qq7 (by decide) ?_ | (refine qq8 ?_ ?_; focus (simp only [kS, Nat.reduceSub, Nat.reduceMul, Nat.reduceLeDiff, Nat.reducePow, Nat.reduceBEq, Nat.reduceAdd, Nat.reduceEqDiff, reduceCtorEq, Int.reduceToNat, h0, h3, h4, h5, h6, h7, w1, w2, w3, w4, ga, gb, gc, gd]; done)) | (refine qq9 ?_ ?_; focus (simp only [kS, Nat.reduceSub, Nat.reduceMul, Nat.reduceLeDiff, Nat.reducePow, Nat.reduceBEq, Nat.reduceAdd, Nat.reduceEqDiff, reduceCtorEq, Int.reduceToNat, h0, h3, h4, h5, h6, h7, w1, w2, w3, w4, ga, gb, gc, gd]; done)) | refine qqa ?_ | refine qqb ?_ | refine qqc ?_ | refine And.intro (by first | assumption | omega) ?_)
                  repeat (refine And.intro (by first | (simp only [kS, Nat.reduceSub, Nat.reduceMul, Nat.reduceLeDiff, Nat.reducePow, Nat.reduceBEq, Nat.reduceAdd, Nat.reduceEqDiff, reduceCtorEq, Int.reduceToNat, h0, h3, h4, h5, h6, h7]; done) | assumption) ?_)
                  simp only [kS, Nat.reduceSub, Nat.reduceMul, Nat.reduceLeDiff, Nat.reducePow, Nat.reduceBEq, Nat.reduceAdd, Nat.reduceEqDiff, reduceCtorEq, Int.reduceToNat, Bool.false_and, Bool.true_and, Bool.false_or, Bool.true_or, ga, gb, gc, gd]
                · cases q2
                  · repeat (first | refine qq1 fun Z hN hX hR => ?_ | refine qq2 fun Z hN hX hR => ?_ | refine qq3 (by kernel_rfl) fun K hK => ?_ | ((first | refine qq4 fun R hRR => ?_ | with_reducible change ExpAll _ _ _); simp only [kS, Nat.reduceSub, Nat.reduceMul, Nat.reduceLeDiff, Nat.reducePow, Nat.reduceBEq, Nat.reduceAdd, Nat.reduceEqDiff, reduceCtorEq, Int.reduceToNat, h0, h3, h4, h5, h6, h7, w1, w2, w3, w4, ga, gb, gc, gd]) | (refine hRR _ ?_; clear hRR R) | refine qq5 ?_ | (refine hK _ ?_; clear hK K) | ((first | refine hN _ ?_ | refine hX _ _ ?_ | refine hR _ ?_); clear hN hX hR Z) | refine qq6 rfl ?_ | refine qq7 (by decide) ?_ | (refine qq8 ?_ ?_; focus (simp only [kS, Nat.reduceSub, Nat.reduceMul, Nat.reduceLeDiff, Nat.reducePow, Nat.reduceBEq, Nat.reduceAdd, Nat.reduceEqDiff, reduceCtorEq, Int.reduceToNat, h0, h3, h4, h5, h6, h7, w1, w2, w3, w4, ga, gb, gc, gd]; done)) | (refine qq9 ?_ ?_; focus (simp only [kS, Nat.reduceSub, Nat.reduceMul, Nat.reduceLeDiff, Nat.reducePow, Nat.reduceBEq, Nat.reduceAdd, Nat.reduceEqDiff, reduceCtorEq, Int.reduceToNat, h0, h3, h4, h5, h6, h7, w1, w2, w3, w4, ga, gb, gc, gd]; done)) | refine qqa ?_ | refine qqb ?_ | refine qqc ?_ | refine And.intro (by first | assumption | omega) ?_)
                    repeat (refine And.intro (by first | (simp only [kS, Nat.reduceSub, Nat.reduceMul, Nat.reduceLeDiff, Nat.reducePow, Nat.reduceBEq, Nat.reduceAdd, Nat.reduceEqDiff, reduceCtorEq, Int.reduceToNat, h0, h3, h4, h5, h6, h7]; done) | assumption) ?_)
                    simp only [kS, Nat.reduceSub, Nat.reduceMul, Nat.reduceLeDiff, Nat.reducePow, Nat.reduceBEq, Nat.reduceAdd, Nat.reduceEqDiff, reduceCtorEq, Int.reduceToNat, Bool.false_and, Bool.true_and, Bool.false_or, Bool.true_or, ga, gb, gc, gd]
                  · repeat (first | refine qq1 fun Z hN hX hR => ?_ | refine qq2 fun Z hN hX hR => ?_ | refine qq3 (by kernel_rfl) fun K hK => ?_ | ((first | refine qq4 fun R hRR => ?_ | with_reducible change ExpAll _ _ _); simp only [kS, Nat.reduceSub, Nat.reduceMul, Nat.reduceLeDiff, Nat.reducePow, Nat.reduceBEq, Nat.reduceAdd, Nat.reduceEqDiff, reduceCtorEq, Int.reduceToNat, h0, h3, h4, h5, h6, h7, w1, w2, w3, w4, ga, gb, gc, gd]) | (refine hRR _ ?_; clear hRR R) | refine qq5 ?_ | (refine hK _ ?_; clear hK K) | ((first | refine hN _ ?_ | refine hX _ _ ?_ | refine hR _ ?_); clear hN hX hR Z) | refine qq6 rfl ?_ | refine qq7 (by decide) ?_ | (refine qq8 ?_ ?_; focus (simp only [kS, Nat.reduceSub, Nat.reduceMul, Nat.reduceLeDiff, Nat.reducePow, Nat.reduceBEq, Nat.reduceAdd, Nat.reduceEqDiff, reduceCtorEq, Int.reduceToNat, h0, h3, h4, h5, h6, h7, w1, w2, w3, w4, ga, gb, gc, gd]; done)) | (refine qq9 ?_ ?_; focus (simp only [kS, Nat.reduceSub, Nat.reduceMul, Nat.reduceLeDiff, Nat.reducePow, Nat.reduceBEq, Nat.reduceAdd, Nat.reduceEqDiff, reduceCtorEq, Int.reduceToNat, h0, h3, h4, h5, h6, h7, w1, w2, w3, w4, ga, gb, gc, gd]; done)) | refine qqa ?_ | refine qqb ?_ | refine qqc ?_ | refine And.intro (by first | assumption | omega) ?_)
                    repeat (refine And.intro (by first | (simp only [kS, Nat.reduceSub, Nat.reduceMul, Nat.reduceLeDiff, Nat.reducePow, Nat.reduceBEq, Nat.reduceAdd, Nat.reduceEqDiff, reduceCtorEq, Int.reduceToNat, h0, h3, h4, h5, h6, h7]; done) | assumption) ?_)
                    simp only [kS, Nat.reduceSub, Nat.reduceMul, Nat.reduceLeDiff, Nat.reducePow, Nat.reduceBEq, Nat.reduceAdd, Nat.reduceEqDiff, reduceCtorEq, Int.reduceToNat, Bool.false_and, Bool.true_and, Bool.false_or, Bool.true_or, ga, gb, gc, gd]
            · cases q1
              · repeat (first | refine qq1 fun Z hN hX hR => ?_ | refine qq2 fun Z hN hX hR => ?_ | refine qq3 (by kernel_rfl) fun K hK => ?_ | ((first | refine qq4 fun R hRR => ?_ | with_reducible change ExpAll _ _ _); simp only [kS, Nat.reduceSub, Nat.reduceMul, Nat.reduceLeDiff, Nat.reducePow, Nat.reduceBEq, Nat.reduceAdd, Nat.reduceEqDiff, reduceCtorEq, Int.reduceToNat, h0, h3, h4, h5, h6, h7, w1, w2, w3, w4, ga, gb, gc]) | (refine hRR _ ?_; clear hRR R) | refine qq5 ?_ | (refine hK _ ?_; clear hK K) | ((first | refine hN _ ?_ | refine hX _ _ ?_ | refine hR _ ?_); clear hN hX hR Z) | refine qq6 rfl ?_ | refine qq7 (by decide) ?_ | (refine qq8 ?_ ?_; focus (simp only [kS, Nat.reduceSub, Nat.reduceMul, Nat.reduceLeDiff, Nat.reducePow, Nat.reduceBEq, Nat.reduceAdd, Nat.reduceEqDiff, reduceCtorEq, Int.reduceToNat, h0, h3, h4, h5, h6, h7, w1, w2, w3, w4, ga, gb, gc]; done)) | (refine qq9 ?_ ?_; focus (simp only [kS, Nat.reduceSub, Nat.reduceMul, Nat.reduceLeDiff, Nat.reducePow, Nat.reduceBEq, Nat.reduceAdd, Nat.reduceEqDiff, reduceCtorEq, Int.reduceToNat, h0, h3, h4, h5, h6, h7, w1, w2, w3, w4, ga, gb, gc]; done)) | refine qqa ?_ | refine qqb ?_ | refine qqc ?_ | refine And.intro (by first | assumption | omega) ?_)
                repeat (refine And.intro (by first | (simp only [kS, Nat.reduceSub, Nat.reduceMul, Nat.reduceLeDiff, Nat.reducePow, Nat.reduceBEq, Nat.reduceAdd, Nat.reduceEqDiff, reduceCtorEq, Int.reduceToNat, h0, h3, h4, h5, h6, h7]; done) | assumption) ?_)
                simp only [kS, Nat.reduceSub, Nat.reduceMul, Nat.reduceLeDiff, Nat.reducePow, Nat.reduceBEq, Nat.reduceAdd, Nat.reduceEqDiff, reduceCtorEq, Int.reduceToNat, Bool.false_and, Bool.true_and, Bool.false_or, Bool.true_or, ga, gb, gc]
              · cases q2
                · repeat (first | refine qq1 fun Z hN hX hR => ?_ | refine qq2 fun Z hN hX hR => ?_ | refine qq3 (by kernel_rfl) fun K hK => ?_ | ((first | refine qq4 fun R hRR => ?_ | with_reducible change ExpAll _ _ _); simp only [kS, Nat.reduceSub, Nat.reduceMul, Nat.reduceLeDiff, Nat.reducePow, Nat.reduceBEq, Nat.reduceAdd, Nat.reduceEqDiff, reduceCtorEq, Int.reduceToNat, h0, h3, h4, h5, h6, h7, w1, w2, w3, w4, ga, gb, gc]) | (refine hRR _ ?_; clear hRR R) | refine qq5 ?_ | (refine hK _ ?_; clear hK K) | ((first | refine hN _ ?_ | refine hX _ _ ?_ | refine hR _ ?_); clear hN hX hR Z) | refine qq6 rfl ?_ | refine qq7 (by decide) ?_ | (refine qq8 ?_ ?_; focus (simp only [kS, Nat.reduceSub, Nat.reduceMul, Nat.reduceLeDiff, Nat.reducePow, Nat.reduceBEq, Nat.reduceAdd, Nat.reduceEqDiff, reduceCtorEq, Int.reduceToNat, h0, h3, h4, h5, h6, h7, w1, w2, w3, w4, ga, gb, gc]; done)) | (refine qq9 ?_ ?_; focus (simp only [kS, Nat.reduceSub, Nat.reduceMul, Nat.reduceLeDiff, Nat.reducePow, Nat.reduceBEq, Nat.reduceAdd, Nat.reduceEqDiff, reduceCtorEq, Int.reduceToNat, h0, h3, h4, h5, h6, h7, w1, w2, w3, w4, ga, gb, gc]; done)) | refine qqa ?_ | refine qqb ?_ | refine qqc ?_ | refine And.intro (by first | assumption | omega) ?_)
                  repeat (refine And.intro (by first | (simp only [kS, Nat.reduceSub, Nat.reduceMul, Nat.reduceLeDiff, Nat.reducePow, Nat.reduceBEq, Nat.reduceAdd, Nat.reduceEqDiff, reduceCtorEq, Int.reduceToNat, h0, h3, h4, h5, h6, h7]; done) | assumption) ?_)
                  simp only [kS, Nat.reduceSub, Nat.reduceMul, Nat.reduceLeDiff, Nat.reducePow, Nat.reduceBEq, Nat.reduceAdd, Nat.reduceEqDiff, reduceCtorEq, Int.reduceToNat, Bool.false_and, Bool.true_and, Bool.false_or, Bool.true_or, ga, gb, gc]
                · repeat (first | refine qq1 fun Z hN hX hR => ?_ | refine qq2 fun Z hN hX hR => ?_ | refine qq3 (by kernel_rfl) fun K hK => ?_ | ((first | refine qq4 fun R hRR => ?_ | with_reducible change ExpAll _ _ _); simp only [kS, Nat.reduceSub, Nat.reduceMul, Nat.reduceLeDiff, Nat.reducePow, Nat.reduceBEq, Nat.reduceAdd, Nat.reduceEqDiff, reduceCtorEq, Int.reduceToNat, h0, h3, h4, h5, h6, h7, w1, w2, w3, w4, ga, gb, gc]) | (refine hRR _ ?_; clear hRR R) | refine qq5 ?_ | (refine hK _ ?_; clear hK K) | ((first | refine hN _ ?_ | refine hX _ _ ?_ | refine hR _ ?_); clear hN hX hR Z) | refine qq6 rfl ?_ | refine qq7 (by decide) ?_ | (refine qq8 ?_ ?_; focus (simp only [kS, Nat.reduceSub, Nat.reduceMul, Nat.reduceLeDiff, Nat.reducePow, Nat.reduceBEq, Nat.reduceAdd, Nat.reduceEqDiff, reduceCtorEq, Int.reduceToNat, h0, h3, h4, h5, h6, h7, w1, w2, w3, w4, ga, gb, gc]; done)) | (refine qq9 ?_ ?_; focus (simp only [kS, Nat.reduceSub, Nat.reduceMul, Nat.reduceLeDiff, Nat.reducePow, Nat.reduceBEq, Nat.reduceAdd, Nat.reduceEqDiff, reduceCtorEq, Int.reduceToNat, h0, h3, h4, h5, h6, h7, w1, w2, w3, w4, ga, gb, gc]; done)) | refine qqa ?_ | refine qqb ?_ | refine qqc ?_ | refine And.intro (by first | assumption | omega) ?_)
                  repeat (refine And.intro (by first | (simp only [kS, Nat.reduceSub, Nat.reduceMul, Nat.reduceLeDiff, Nat.reducePow, Nat.reduceBEq, Nat.reduceAdd, Nat.reduceEqDiff, reduceCtorEq, Int.reduceToNat, h0, h3, h4, h5, h6, h7]; done) | assumption) ?_)
                  simp only [kS, Nat.reduceSub, Nat.reduceMul, Nat.reduceLeDiff, Nat.reducePow, Nat.reduceBEq, Nat.reduceAdd, Nat.reduceEqDiff, reduceCtorEq, Int.reduceToNat, Bool.false_and, Bool.true_and, Bool.false_or, Bool.true_or, ga, gb, gc]
          · cases q1
            · repeat (first | refine qq1 fun Z hN hX hR => ?_ | refine qq2 fun Z hN hX hR => ?_ | refine qq3 (by kernel_rfl) fun K hK => ?_ | ((first | refine qq4 fun R hRR => ?_ | with_reducible change ExpAll _ _ _); simp only [kS, Nat.reduceSub, Nat.reduceMul, Nat.reduceLeDiff, Nat.reducePow, Nat.reduceBEq, Nat.reduceAdd, Nat.reduceEqDiff, reduceCtorEq, Int.reduceToNat, h0, h3, h4, h5, h6, h7, w1, w2, w3, w4, ga, gb]) | (refine hRR _ ?_; clear hRR R) | refine qq5 ?_ | (refine hK _ ?_; clear hK K) | ((first | refine hN _ ?_ | refine hX _ _ ?_ | refine hR _ ?_); clear hN hX hR Z) | refine qq6 rfl ?_ | refine qq7 (by decide) ?_ | (refine qq8 ?_ ?_; focus (simp only [kS, Nat.reduceSub, Nat.reduceMul, Nat.reduceLeDiff, Nat.reducePow, Nat.reduceBEq, Nat.reduceAdd, Nat.reduceEqDiff, reduceCtorEq, Int.reduceToNat, h0, h3, h4, h5, h6, h7, w1, w2, w3, w4, ga, gb]; done)) | (refine qq9 ?_ ?_; focus (simp only [kS, Nat.reduceSub, Nat.reduceMul, Nat.reduceLeDiff, Nat.reducePow, Nat.reduceBEq, Nat.reduceAdd, Nat.reduceEqDiff, reduceCtorEq, Int.reduceToNat, h0, h3, h4, h5, h6, h7, w1, w2, w3, w4, ga, gb]; done)) | refine qqa ?_ | refine qqb ?_ | refine qqc ?_ | refine And.intro (by first | assumption | omega) ?_)
              repeat (refine And.intro (by first | (simp only [kS, Nat.reduceSub, Nat.reduceMul, Nat.reduceLeDiff, Nat.reducePow, Nat.reduceBEq, Nat.reduceAdd, Nat.reduceEqDiff, reduceCtorEq, Int.reduceToNat, h0, h3, h4, h5, h6, h7]; done) | assumption) ?_)
              simp only [kS, Nat.reduceSub, Nat.reduceMul, Nat.reduceLeDiff, Nat.reducePow, Nat.reduceBEq, Nat.reduceAdd, Nat.reduceEqDiff, reduceCtorEq, Int.reduceToNat, Bool.false_and, Bool.true_and, Bool.false_or, Bool.true_or, ga, gb]
            · cases q2
              · repeat (first | refine qq1 fun Z hN hX hR => ?_ | refine qq2 fun Z hN hX hR => ?_ | refine qq3 (by kernel_rfl) fun K hK => ?_ | ((first | refine qq4 fun R hRR => ?_ | with_reducible change ExpAll _ _ _); simp only [kS, Nat.reduceSub, Nat.reduceMul, Nat.reduceLeDiff, Nat.reducePow, Nat.reduceBEq, Nat.reduceAdd, Nat.reduceEqDiff, reduceCtorEq, Int.reduceToNat, h0, h3, h4, h5, h6, h7, w1, w2, w3, w4, ga, gb]) | (refine hRR _ ?_; clear hRR R) | refine qq5 ?_ | (refine hK _ ?_; clear hK K) | ((first | refine hN _ ?_ | refine hX _ _ ?_ | refine hR _ ?_); clear hN hX hR Z) | refine qq6 rfl ?_ | refine qq7 (by decide) ?_ | (refine qq8 ?_ ?_; focus (simp only [kS, Nat.reduceSub, Nat.reduceMul, Nat.reduceLeDiff, Nat.reducePow, Nat.reduceBEq, Nat.reduceAdd, Nat.reduceEqDiff, reduceCtorEq, Int.reduceToNat, h0, h3, h4, h5, h6, h7, w1, w2, w3, w4, ga, gb]; done)) | (refine qq9 ?_ ?_; focus (simp only [kS, Nat.reduceSub, Nat.reduceMul, Nat.reduceLeDiff, Nat.reducePow, Nat.reduceBEq, Nat.reduceAdd, Nat.reduceEqDiff, reduceCtorEq, Int.reduceToNat, h0, h3, h4, h5, h6, h7, w1, w2, w3, w4, ga, gb]; done)) | refine qqa ?_ | refine qqb ?_ | refine qqc ?_ | refine And.intro (by first | assumption | omega) ?_)
                repeat (refine And.intro (by first | (simp only [kS, Nat.reduceSub, Nat.reduceMul, Nat.reduceLeDiff, Nat.reducePow, Nat.reduceBEq, Nat.reduceAdd, Nat.reduceEqDiff, reduceCtorEq, Int.reduceToNat, h0, h3, h4, h5, h6, h7]; done) | assumption) ?_)
                simp only [kS, Nat.reduceSub, Nat.reduceMul, Nat.reduceLeDiff, Nat.reducePow, Nat.reduceBEq, Nat.reduceAdd, Nat.reduceEqDiff, reduceCtorEq, Int.reduceToNat, Bool.false_and, Bool.true_and, Bool.false_or, Bool.true_or, ga, gb]
              · repeat (first | refine qq1 fun Z hN hX hR => ?_ | refine qq2 fun Z hN hX hR => ?_ | refine qq3 (by kernel_rfl) fun K hK => ?_ | ((first | refine qq4 fun R hRR => ?_ | with_reducible change ExpAll _ _ _); simp only [kS, Nat.reduceSub, Nat.reduceMul, Nat.reduceLeDiff, Nat.reducePow, Nat.reduceBEq, Nat.reduceAdd, Nat.reduceEqDiff, reduceCtorEq, Int.reduceToNat, h0, h3, h4, h5, h6, h7, w1, w2, w3, w4, ga, gb]) | (refine hRR _ ?_; clear hRR R) | refine qq5 ?_ | (refine hK _ ?_; clear hK K) | ((first | refine hN _ ?_ | refine hX _ _ ?_ | refine hR _ ?_); clear hN hX hR Z) | refine qq6 rfl ?_ | refine qq7 (by decide) ?_ | (refine qq8 ?_ ?_; focus (simp only [kS, Nat.reduceSub, Nat.reduceMul, Nat.reduceLeDiff, Nat.reducePow, Nat.reduceBEq, Nat.reduceAdd, Nat.reduceEqDiff, reduceCtorEq, Int.reduceToNat, h0, h3, h4, h5, h6, h7, w1, w2, w3, w4, ga, gb]; done)) | (refine qq9 ?_ ?_; focus (simp only [kS, Nat.reduceSub, Nat.reduceMul, Nat.reduceLeDiff, Nat.reducePow, Nat.reduceBEq, Nat.reduceAdd, Nat.reduceEqDiff, reduceCtorEq, Int.reduceToNat, h0, h3, h4, h5, h6, h7, w1, w2, w3, w4, ga, gb]; done)) | refine qqa ?_ | refine qqb ?_ | refine qqc ?_ | refine And.intro (by first | assumption | omega) ?_)
                repeat (refine And.intro (by first | (simp only [kS, Nat.reduceSub, Nat.reduceMul, Nat.reduceLeDiff, Nat.reducePow, Nat.reduceBEq, Nat.reduceAdd, Nat.reduceEqDiff, reduceCtorEq, Int.reduceToNat, h0, h3, h4, h5, h6, h7]; done) | assumption) ?_)
                simp only [kS, Nat.reduceSub, Nat.reduceMul, Nat.reduceLeDiff, Nat.reducePow, Nat.reduceBEq, Nat.reduceAdd, Nat.reduceEqDiff, reduceCtorEq, Int.reduceToNat, Bool.false_and, Bool.true_and, Bool.false_or, Bool.true_or, ga, gb]
      clear h0 h3
      rintro f ⟨h0, h3, h4, h5, h6, h7, hf⟩
      by_cases hq : (((decide (225 ≤ b) && decide (b ≤ 236)) || (b == 238 || b == 239)) && (q1 && q2)) = true
      · rw [hq] at hf
        rw [if_pos hq] at hc
        repeat (first | refine qq1 fun Z hN hX hR => ?_ | refine qq2 fun Z hN hX hR => ?_ | refine qq3 (by kernel_rfl) fun K hK => ?_ | ((first | refine qq4 fun R hRR => ?_ | with_reducible change ExpAll _ _ _); simp only [kS, Nat.reduceSub, Nat.reduceMul, Nat.reduceLeDiff, Nat.reducePow, Nat.reduceBEq, Nat.reduceAdd, Nat.reduceEqDiff, reduceCtorEq, Int.reduceToNat, h0, h3, h4, h5, h6, h7, w1, w2, w3, w4, hf]) | (refine hRR _ ?_; clear hRR R) | refine qq5 ?_ | (refine hK _ ?_; clear hK K) | ((first | refine hN _ ?_ | refine hX _ _ ?_ | refine hR _ ?_); clear hN hX hR Z) | refine qq6 rfl ?_ | refine qq7 (by decide) ?_ | (refine qq8 ?_ ?_; focus (simp only [kS, Nat.reduceSub, Nat.reduceMul, Nat.reduceLeDiff, Nat.reducePow, Nat.reduceBEq, Nat.reduceAdd, Nat.reduceEqDiff, reduceCtorEq, Int.reduceToNat, h0, h3, h4, h5, h6, h7, w1, w2, w3, w4, hf]; done)) | (refine qq9 ?_ ?_; focus (simp only [kS, Nat.reduceSub, Nat.reduceMul, Nat.reduceLeDiff, Nat.reducePow, Nat.reduceBEq, Nat.reduceAdd, Nat.reduceEqDiff, reduceCtorEq, Int.reduceToNat, h0, h3, h4, h5, h6, h7, w1, w2, w3, w4, hf]; done)) | refine qqa ?_ | refine qqb ?_ | refine qqc ?_ | refine And.intro (by first | assumption | omega) ?_)
        exact ⟨k, by omega, i + 3, by omega, by omega, by simp only [kS, Nat.reduceSub, Nat.reduceMul, Nat.reduceLeDiff, Nat.reducePow, Nat.reduceBEq, Nat.reduceAdd, Nat.reduceEqDiff, reduceCtorEq, Int.reduceToNat, h0], by simp only [kS, Nat.reduceSub, Nat.reduceMul, Nat.reduceLeDiff, Nat.reducePow, Nat.reduceBEq, Nat.reduceAdd, Nat.reduceEqDiff, reduceCtorEq, Int.reduceToNat], hc⟩
      rw [if_neg hq] at hc
      rw [Bool.eq_false_iff.2 hq] at hf
      refine awp_condF (by simp only [kS, Nat.reduceSub, Nat.reduceMul, Nat.reduceLeDiff, Nat.reducePow, Nat.reduceBEq, Nat.reduceAdd, Nat.reduceEqDiff, reduceCtorEq, Int.reduceToNat, hf]) ?_
      refine awq_cut (fun f => f.t 0 = .c (.v (.string s)) ∧ f.t 3 = iv (i : Int) ∧ f.t 4 = iv b ∧ f.t 5 = bv q1 ∧ f.t 6 = bv q2 ∧ f.t 7 = bv q3 ∧ f.t 82 = bv (b == 237 && (p2 && q2))) (fun Z hN hX hR => ?_) ?_
      · cases g4 : (b == 237)
        · repeat (first | refine qq1 fun Z hN hX hR => ?_ | refine qq2 fun Z hN hX hR => ?_ | refine qq3 (by kernel_rfl) fun K hK => ?_ | ((first | refine qq4 fun R hRR => ?_ | with_reducible change ExpAll _ _ _); simp only [kS, Nat.reduceSub, Nat.reduceMul, Nat.reduceLeDiff, Nat.reducePow, Nat.reduceBEq, Nat.reduceAdd, Nat.reduceEqDiff, reduceCtorEq, Int.reduceToNat, h0, h3, h4, h5, h6, h7, w1, w2, w3, w4, g4]) | (refine hRR _ ?_; clear hRR R) | refine qq5 ?_ | (refine hK _ ?_; clear hK K) | ((first | refine hN _ ?_ | refine hX _ _ ?_ | refine hR _ ?_); clear hN hX hR Z) | refine qq6 rfl ?_ | refine qq7 (by decide) ?_ | (refine qq8 ?_ ?_; focus (simp only [kS, Nat.reduceSub, Nat.reduceMul, Nat.reduceLeDiff, Nat.reducePow, Nat.reduceBEq, Nat.reduceAdd, Nat.reduceEqDiff, reduceCtorEq, Int.reduceToNat, h0, h3, h4, h5, h6, h7, w1, w2, w3, w4, g4]; done)) | (refine qq9 ?_ ?_; focus (simp only [kS, Nat.reduceSub, Nat.reduceMul, Nat.reduceLeDiff, Nat.reducePow, Nat.reduceBEq, Nat.reduceAdd, Nat.reduceEqDiff, reduceCtorEq, Int.reduceToNat, h0, h3, h4, h5, h6, h7, w1, w2, w3, w4, g4]; done)) | refine qqa ?_ | refine qqb ?_ | refine qqc ?_ | refine And.intro (by first | assumption | omega) ?_)
          repeat (refine And.intro (by first | (simp only [kS, Nat.reduceSub, Nat.reduceMul, Nat.reduceLeDiff, Nat.reducePow, Nat.reduceBEq, Nat.reduceAdd, Nat.reduceEqDiff, reduceCtorEq, Int.reduceToNat, h0, h3, h4, h5, h6, h7]; done) | assumption) ?_)
          simp only [kS, Nat.reduceSub, Nat.reduceMul, Nat.reduceLeDiff, Nat.reducePow, Nat.reduceBEq, Nat.reduceAdd, Nat.reduceEqDiff, reduceCtorEq, Int.reduceToNat, Bool.false_and, Bool.true_and, Bool.false_or, Bool.true_or, g4]
        · repeat (first | refine qq1 fun Z hN hX hR => ?_ | refine qq2 fun Z hN hX hR => ?_ | refine qq3 (by kernel_rfl) fun K hK => ?_ | ((first | refine qq4 fun R hRR => ?_ | with_reducible change ExpAll _ _ _); simp only [kS, Nat.reduceSub, Nat.reduceMul, Nat.reduceLeDiff, Nat.reducePow, Nat.reduceBEq, Nat.reduceAdd, Nat.reduceEqDiff, reduceCtorEq, Int.reduceToNat, h0, h3, h4, h5, h6, h7, w1, w2, w3, w4, g4]) | (refine hRR _ ?_; clear hRR R) | refine qq5 ?_ | (refine hK _ ?_; clear hK K) | ((first | refine hN _ ?_ | refine hX _ _ ?_ | refine hR _ ?_); clear hN hX hR Z) | refine qq6 rfl ?_ | refine qq7 (by decide) ?_ | (refine qq8 ?_ ?_; focus (simp only [kS, Nat.reduceSub, Nat.reduceMul, Nat.reduceLeDiff, Nat.reducePow, Nat.reduceBEq, Nat.reduceAdd, Nat.reduceEqDiff, reduceCtorEq, Int.reduceToNat, h0, h3, h4, h5, h6, h7, w1, w2, w3, w4, g4]; done)) | (refine qq9 ?_ ?_; focus (simp only [kS, Nat.reduceSub, Nat.reduceMul, Nat.reduceLeDiff, Nat.reducePow, Nat.reduceBEq, Nat.reduceAdd, Nat.reduceEqDiff, reduceCtorEq, Int.reduceToNat, h0, h3, h4, h5, h6, h7, w1, w2, w3, w4, g4]; done)) | refine qqa ?_ | refine qqb ?_ | refine qqc ?_ | refine And.intro (by first | assumption | omega) ?_)
          refine ⟨_, j2, rfl, ?_⟩
          simp only [kS, Nat.reduceSub, Nat.reduceMul, Nat.reduceLeDiff, Nat.reducePow, Nat.reduceBEq, Nat.reduceAdd, Nat.reduceEqDiff, reduceCtorEq, Int.reduceToNat, h0, h3, h4, h5, h6, h7, w1, w2, w3, w4, g4]
          cases p2
          · repeat (first | refine qq1 fun Z hN hX hR => ?_ | refine qq2 fun Z hN hX hR => ?_ | refine qq3 (by kernel_rfl) fun K hK => ?_ | ((first | refine qq4 fun R hRR => ?_ | with_reducible change ExpAll _ _ _); simp only [kS, Nat.reduceSub, Nat.reduceMul, Nat.reduceLeDiff, Nat.reducePow, Nat.reduceBEq, Nat.reduceAdd, Nat.reduceEqDiff, reduceCtorEq, Int.reduceToNat, h0, h3, h4, h5, h6, h7, w1, w2, w3, w4, g4]) | (refine hRR _ ?_; clear hRR R) | refine qq5 ?_ | (refine hK _ ?_; clear hK K) | ((first | refine hN _ ?_ | refine hX _ _ ?_ | refine hR _ ?_); clear hN hX hR Z) | refine qq6 rfl ?_ | refine qq7 (by decide) ?_ | (refine qq8 ?_ ?_; focus (simp only [kS, Nat.reduceSub, Nat.reduceMul, Nat.reduceLeDiff, Nat.reducePow, Nat.reduceBEq, Nat.reduceAdd, Nat.reduceEqDiff, reduceCtorEq, Int.reduceToNat, h0, h3, h4, h5, h6, h7, w1, w2, w3, w4, g4]; done)) | (refine qq9 ?_ ?_; focus (simp only [kS, Nat.reduceSub, Nat.reduceMul, Nat.reduceLeDiff, Nat.reducePow, Nat.reduceBEq, Nat.reduceAdd, Nat.reduceEqDiff, reduceCtorEq, Int.reduceToNat, h0, h3, h4, h5, h6, h7, w1, w2, w3, w4, g4]; done)) | refine qqa ?_ | refine qqb ?_ | refine qqc ?_ | refine And.intro (by first | assumption | omega) ?_)
            repeat (refine And.intro (by first | (simp only [kS, Nat.reduceSub, Nat.reduceMul, Nat.reduceLeDiff, Nat.reducePow, Nat.reduceBEq, Nat.reduceAdd, Nat.reduceEqDiff, reduceCtorEq, Int.reduceToNat, h0, h3, h4, h5, h6, h7]; done) | assumption) ?_)
            simp only [kS, Nat.reduceSub, Nat.reduceMul, Nat.reduceLeDiff, Nat.reducePow, Nat.reduceBEq, Nat.reduceAdd, Nat.reduceEqDiff, reduceCtorEq, Int.reduceToNat, Bool.false_and, Bool.true_and, Bool.false_or, Bool.true_or, g4]
          · cases q2
            · repeat (first | refine qq1 fun Z hN hX hR => ?_ | refine qq2 fun Z hN hX hR => ?_ | refine qq3 (by kernel_rfl) fun K hK => ?_ | ((first | refine qq4 fun R hRR => ?_ | with_reducible change ExpAll _ _ _); simp only [kS, Nat.reduceSub, Nat.reduceMul, Nat.reduceLeDiff, Nat.reducePow, Nat.reduceBEq, Nat.reduceAdd, Nat.reduceEqDiff, reduceCtorEq, Int.reduceToNat, h0, h3, h4, h5, h6, h7, w1, w2, w3, w4, g4]) | (refine hRR _ ?_; clear hRR R) | refine qq5 ?_ | (refine hK _ ?_; clear hK K) | ((first | refine hN _ ?_ | refine hX _ _ ?_ | refine hR _ ?_); clear hN hX hR Z) | refine qq6 rfl ?_ | refine qq7 (by decide) ?_ | (refine qq8 ?_ ?_; focus (simp only [kS, Nat.reduceSub, Nat.reduceMul, Nat.reduceLeDiff, Nat.reducePow, Nat.reduceBEq, Nat.reduceAdd, Nat.reduceEqDiff, reduceCtorEq, Int.reduceToNat, h0, h3, h4, h5, h6, h7, w1, w2, w3, w4, g4]; done)) | (refine qq9 ?_ ?_; focus (simp only [kS, Nat.reduceSub, Nat.reduceMul, Nat.reduceLeDiff, Nat.reducePow, Nat.reduceBEq, Nat.reduceAdd, Nat.reduceEqDiff, reduceCtorEq, Int.reduceToNat, h0, h3, h4, h5, h6, h7, w1, w2, w3, w4, g4]; done)) | refine qqa ?_ | refine qqb ?_ | refine qqc ?_ | refine And.intro (by first | assumption | omega) ?_)
              repeat (refine And.intro (by first | (simp only [kS, Nat.reduceSub, Nat.reduceMul, Nat.reduceLeDiff, Nat.reducePow, Nat.reduceBEq, Nat.reduceAdd, Nat.reduceEqDiff, reduceCtorEq, Int.reduceToNat, h0, h3, h4, h5, h6, h7]; done) | assumption) ?_)
              simp only [kS, Nat.reduceSub, Nat.reduceMul, Nat.reduceLeDiff, Nat.reducePow, Nat.reduceBEq, Nat.reduceAdd, Nat.reduceEqDiff, reduceCtorEq, Int.reduceToNat, Bool.false_and, Bool.true_and, Bool.false_or, Bool.true_or, g4]
            · repeat (first | refine qq1 fun Z hN hX hR => ?_ | refine qq2 fun Z hN hX hR => ?_ | refine qq3 (by kernel_rfl) fun K hK => ?_ | ((first | refine qq4 fun R hRR => ?_ | with_reducible change ExpAll _ _ _); simp only [kS, Nat.reduceSub, Nat.reduceMul, Nat.reduceLeDiff, Nat.reducePow, Nat.reduceBEq, Nat.reduceAdd, Nat.reduceEqDiff, reduceCtorEq, Int.reduceToNat, h0, h3, h4, h5, h6, h7, w1, w2, w3, w4, g4]) | (refine hRR _ ?_; clear hRR R) | refine qq5 ?_ | (refine hK _ ?_; clear hK K) | ((first | refine hN _ ?_ | refine hX _ _ ?_ | refine hR _ ?_); clear hN hX hR Z) | refine qq6 rfl ?_ | refine qq7 (by decide) ?_ | (refine qq8 ?_ ?_; focus (simp only [kS, Nat.reduceSub, Nat.reduceMul, Nat.reduceLeDiff, Nat.reducePow, Nat.reduceBEq, Nat.reduceAdd, Nat.reduceEqDiff, reduceCtorEq, Int.reduceToNat, h0, h3, h4, h5, h6, h7, w1, w2, w3, w4, g4]; done)) | (refine qq9 ?_ ?_; focus (simp only [kS, Nat.reduceSub, Nat.reduceMul, Nat.reduceLeDiff, Nat.reducePow, Nat.reduceBEq, Nat.reduceAdd, Nat.reduceEqDiff, reduceCtorEq, Int.reduceToNat, h0, h3, h4, h5, h6, h7, w1, w2, w3, w4, g4]; done)) | refine qqa ?_ | refine qqb ?_ | refine qqc ?_ | refine And.intro (by first | assumption | omega) ?_)
              repeat (refine And.intro (by first | (simp only [kS, Nat.reduceSub, Nat.reduceMul, Nat.reduceLeDiff, Nat.reducePow, Nat.reduceBEq, Nat.reduceAdd, Nat.reduceEqDiff, reduceCtorEq, Int.reduceToNat, h0, h3, h4, h5, h6, h7]; done) | assumption) ?_)
              simp only [kS, Nat.reduceSub, Nat.reduceMul, Nat.reduceLeDiff, Nat.reducePow, Nat.reduceBEq, Nat.reduceAdd, Nat.reduceEqDiff, reduceCtorEq, Int.reduceToNat, Bool.false_and, Bool.true_and, Bool.false_or, Bool.true_or, g4]
      clear h0 h3
      rintro f ⟨h0, h3, h4, h5, h6, h7, hf⟩
      by_cases hq : (b == 237 && (p2 && q2)) = true
      · rw [hq] at hf
        rw [if_pos hq] at hc
        repeat (first | refine qq1 fun Z hN hX hR => ?_ | refine qq2 fun Z hN hX hR => ?_ | refine qq3 (by kernel_rfl) fun K hK => ?_ | ((first | refine qq4 fun R hRR => ?_ | with_reducible change ExpAll _ _ _); simp only [kS, Nat.reduceSub, Nat.reduceMul, Nat.reduceLeDiff, Nat.reducePow, Nat.reduceBEq, Nat.reduceAdd, Nat.reduceEqDiff, reduceCtorEq, Int.reduceToNat, h0, h3, h4, h5, h6, h7, w1, w2, w3, w4, hf]) | (refine hRR _ ?_; clear hRR R) | refine qq5 ?_ | (refine hK _ ?_; clear hK K) | ((first | refine hN _ ?_ | refine hX _ _ ?_ | refine hR _ ?_); clear hN hX hR Z) | refine qq6 rfl ?_ | refine qq7 (by decide) ?_ | (refine qq8 ?_ ?_; focus (simp only [kS, Nat.reduceSub, Nat.reduceMul, Nat.reduceLeDiff, Nat.reducePow, Nat.reduceBEq, Nat.reduceAdd, Nat.reduceEqDiff, reduceCtorEq, Int.reduceToNat, h0, h3, h4, h5, h6, h7, w1, w2, w3, w4, hf]; done)) | (refine qq9 ?_ ?_; focus (simp only [kS, Nat.reduceSub, Nat.reduceMul, Nat.reduceLeDiff, Nat.reducePow, Nat.reduceBEq, Nat.reduceAdd, Nat.reduceEqDiff, reduceCtorEq, Int.reduceToNat, h0, h3, h4, h5, h6, h7, w1, w2, w3, w4, hf]; done)) | refine qqa ?_ | refine qqb ?_ | refine qqc ?_ | refine And.intro (by first | assumption | omega) ?_)
        exact ⟨k, by omega, i + 3, by omega, by omega, by simp only [kS, Nat.reduceSub, Nat.reduceMul, Nat.reduceLeDiff, Nat.reducePow, Nat.reduceBEq, Nat.reduceAdd, Nat.reduceEqDiff, reduceCtorEq, Int.reduceToNat, h0], by simp only [kS, Nat.reduceSub, Nat.reduceMul, Nat.reduceLeDiff, Nat.reducePow, Nat.reduceBEq, Nat.reduceAdd, Nat.reduceEqDiff, reduceCtorEq, Int.reduceToNat], hc⟩
      rw [if_neg hq] at hc
      rw [Bool.eq_false_iff.2 hq] at hf
      refine awp_condF (by simp only [kS, Nat.reduceSub, Nat.reduceMul, Nat.reduceLeDiff, Nat.reducePow, Nat.reduceBEq, Nat.reduceAdd, Nat.reduceEqDiff, reduceCtorEq, Int.reduceToNat, hf]) ?_
      refine awq_cut (fun f => f.t 0 = .c (.v (.string s)) ∧ f.t 3 = iv (i : Int) ∧ f.t 4 = iv b ∧ f.t 5 = bv q1 ∧ f.t 6 = bv q2 ∧ f.t 7 = bv q3 ∧ f.t 96 = bv (b == 240 && (p3 && (q2 && q3)))) (fun Z hN hX hR => ?_) ?_
      · cases g5 : (b == 240)
        · repeat (first | refine qq1 fun Z hN hX hR => ?_ | refine qq2 fun Z hN hX hR => ?_ | refine qq3 (by kernel_rfl) fun K hK => ?_ | ((first | refine qq4 fun R hRR => ?_ | with_reducible change ExpAll _ _ _); simp only [kS, Nat.reduceSub, Nat.reduceMul, Nat.reduceLeDiff, Nat.reducePow, Nat.reduceBEq, Nat.reduceAdd, Nat.reduceEqDiff, reduceCtorEq, Int.reduceToNat, h0, h3, h4, h5, h6, h7, w1, w2, w3, w4, g5]) | (refine hRR _ ?_; clear hRR R) | refine qq5 ?_ | (refine hK _ ?_; clear hK K) | ((first | refine hN _ ?_ | refine hX _ _ ?_ | refine hR _ ?_); clear hN hX hR Z) | refine qq6 rfl ?_ | refine qq7 (by decide) ?_ | (refine qq8 ?_ ?_; focus (simp only [kS, Nat.reduceSub, Nat.reduceMul, Nat.reduceLeDiff, Nat.reducePow, Nat.reduceBEq, Nat.reduceAdd, Nat.reduceEqDiff, reduceCtorEq, Int.reduceToNat, h0, h3, h4, h5, h6, h7, w1, w2, w3, w4, g5]; done)) | (refine qq9 ?_ ?_; focus (simp only [kS, Nat.reduceSub, Nat.reduceMul, Nat.reduceLeDiff, Nat.reducePow, Nat.reduceBEq, Nat.reduceAdd, Nat.reduceEqDiff, reduceCtorEq, Int.reduceToNat, h0, h3, h4, h5, h6, h7, w1, w2, w3, w4, g5]; done)) | refine qqa ?_ | refine qqb ?_ | refine qqc ?_ | refine And.intro (by first | assumption | omega) ?_)
          repeat (refine And.intro (by first | (simp only [kS, Nat.reduceSub, Nat.reduceMul, Nat.reduceLeDiff, Nat.reducePow, Nat.reduceBEq, Nat.reduceAdd, Nat.reduceEqDiff, reduceCtorEq, Int.reduceToNat, h0, h3, h4, h5, h6, h7]; done) | assumption) ?_)
          simp only [kS, Nat.reduceSub, Nat.reduceMul, Nat.reduceLeDiff, Nat.reducePow, Nat.reduceBEq, Nat.reduceAdd, Nat.reduceEqDiff, reduceCtorEq, Int.reduceToNat, Bool.false_and, Bool.true_and, Bool.false_or, Bool.true_or, g5]
        · repeat (first | refine qq1 fun Z hN hX hR => ?_ | refine qq2 fun Z hN hX hR => ?_ | refine qq3 (by kernel_rfl) fun K hK => ?_ | ((first | refine qq4 fun R hRR => ?_ | with_reducible change ExpAll _ _ _); simp only [kS, Nat.reduceSub, Nat.reduceMul, Nat.reduceLeDiff, Nat.reducePow, Nat.reduceBEq, Nat.reduceAdd, Nat.reduceEqDiff, reduceCtorEq, Int.reduceToNat, h0, h3, h4, h5, h6, h7, w1, w2, w3, w4, g5]) | (refine hRR _ ?_; clear hRR R) | refine qq5 ?_ | (refine hK _ ?_; clear hK K) | ((first | refine hN _ ?_ | refine hX _ _ ?_ | refine hR _ ?_); clear hN hX hR Z) | refine qq6 rfl ?_ | refine qq7 (by decide) ?_ | (refine qq8 ?_ ?_; focus (simp only [kS, Nat.reduceSub, Nat.reduceMul, Nat.reduceLeDiff, Nat.reducePow, Nat.reduceBEq, Nat.reduceAdd, Nat.reduceEqDiff, reduceCtorEq, Int.reduceToNat, h0, h3, h4, h5, h6, h7, w1, w2, w3, w4, g5]; done)) | (refine qq9 ?_ ?_; focus (simp only [kS, Nat.reduceSub, Nat.reduceMul, Nat.reduceLeDiff, Nat.reducePow, Nat.reduceBEq, Nat.reduceAdd, Nat.reduceEqDiff, reduceCtorEq, Int.reduceToNat, h0, h3, h4, h5, h6, h7, w1, w2, w3, w4, g5]; done)) | refine qqa ?_ | refine qqb ?_ | refine qqc ?_ | refine And.intro (by first | assumption | omega) ?_)
          refine ⟨_, j3, rfl, ?_⟩
          simp only [kS, Nat.reduceSub, Nat.reduceMul, Nat.reduceLeDiff, Nat.reducePow, Nat.reduceBEq, Nat.reduceAdd, Nat.reduceEqDiff, reduceCtorEq, Int.reduceToNat, h0, h3, h4, h5, h6, h7, w1, w2, w3, w4, g5]
          cases p3
          · repeat (first | refine qq1 fun Z hN hX hR => ?_ | refine qq2 fun Z hN hX hR => ?_ | refine qq3 (by kernel_rfl) fun K hK => ?_ | ((first | refine qq4 fun R hRR => ?_ | with_reducible change ExpAll _ _ _); simp only [kS, Nat.reduceSub, Nat.reduceMul, Nat.reduceLeDiff, Nat.reducePow, Nat.reduceBEq, Nat.reduceAdd, Nat.reduceEqDiff, reduceCtorEq, Int.reduceToNat, h0, h3, h4, h5, h6, h7, w1, w2, w3, w4, g5]) | (refine hRR _ ?_; clear hRR R) | refine qq5 ?_ | (refine hK _ ?_; clear hK K) | ((first | refine hN _ ?_ | refine hX _ _ ?_ | refine hR _ ?_); clear hN hX hR Z) | refine qq6 rfl ?_ | refine qq7 (by decide) ?_ | (refine qq8 ?_ ?_; focus (simp only [kS, Nat.reduceSub, Nat.reduceMul, Nat.reduceLeDiff, Nat.reducePow, Nat.reduceBEq, Nat.reduceAdd, Nat.reduceEqDiff, reduceCtorEq, Int.reduceToNat, h0, h3, h4, h5, h6, h7, w1, w2, w3, w4, g5]; done)) | (refine qq9 ?_ ?_; focus (simp only [kS, Nat.reduceSub, Nat.reduceMul, Nat.reduceLeDiff, Nat.reducePow, Nat.reduceBEq, Nat.reduceAdd, Nat.reduceEqDiff, reduceCtorEq, Int.reduceToNat, h0, h3, h4, h5, h6, h7, w1, w2, w3, w4, g5]; done)) | refine qqa ?_ | refine qqb ?_ | refine qqc ?_ | refine And.intro (by first | assumption | omega) ?_)
            repeat (refine And.intro (by first | (simp only [kS, Nat.reduceSub, Nat.reduceMul, Nat.reduceLeDiff, Nat.reducePow, Nat.reduceBEq, Nat.reduceAdd, Nat.reduceEqDiff, reduceCtorEq, Int.reduceToNat, h0, h3, h4, h5, h6, h7]; done) | assumption) ?_)
            simp only [kS, Nat.reduceSub, Nat.reduceMul, Nat.reduceLeDiff, Nat.reducePow, Nat.reduceBEq, Nat.reduceAdd, Nat.reduceEqDiff, reduceCtorEq, Int.reduceToNat, Bool.false_and, Bool.true_and, Bool.false_or, Bool.true_or, g5]
          · cases q2
            · repeat (first | refine qq1 fun Z hN hX hR => ?_ | refine qq2 fun Z hN hX hR => ?_ | refine qq3 (by kernel_rfl) fun K hK => ?_ | ((first | refine qq4 fun R hRR => ?_ | with_reducible change ExpAll _ _ _); simp only [kS, Nat.reduceSub, Nat.reduceMul, Nat.reduceLeDiff, Nat.reducePow, Nat.reduceBEq, Nat.reduceAdd, Nat.reduceEqDiff, reduceCtorEq, Int.reduceToNat, h0, h3, h4, h5, h6, h7, w1, w2, w3, w4, g5]) | (refine hRR _ ?_; clear hRR R) | refine qq5 ?_ | (refine hK _ ?_; clear hK K) | ((first | refine hN _ ?_ | refine hX _ _ ?_ | refine hR _ ?_); clear hN hX hR Z) | refine qq6 rfl ?_ | refine qq7 (by decide) ?_ | (refine qq8 ?_ ?_; focus (simp only [kS, Nat.reduceSub, Nat.reduceMul, Nat.reduceLeDiff, Nat.reducePow, Nat.reduceBEq, Nat.reduceAdd, Nat.reduceEqDiff, reduceCtorEq, Int.reduceToNat, h0, h3, h4, h5, h6, h7, w1, w2, w3, w4, g5]; done)) | (refine qq9 ?_ ?_; focus (simp only [kS, Nat.reduceSub, Nat.reduceMul, Nat.reduceLeDiff, Nat.reducePow, Nat.reduceBEq, Nat.reduceAdd, Nat.reduceEqDiff, reduceCtorEq, Int.reduceToNat, h0, h3, h4, h5, h6, h7, w1, w2, w3, w4, g5]; done)) | refine qqa ?_ | refine qqb ?_ | refine qqc ?_ | refine And.intro (by first | assumption | omega) ?_)
              repeat (refine And.intro (by first | (simp only [kS, Nat.reduceSub, Nat.reduceMul, Nat.reduceLeDiff, Nat.reducePow, Nat.reduceBEq, Nat.reduceAdd, Nat.reduceEqDiff, reduceCtorEq, Int.reduceToNat, h0, h3, h4, h5, h6, h7]; done) | assumption) ?_)
              simp only [kS, Nat.reduceSub, Nat.reduceMul, Nat.reduceLeDiff, Nat.reducePow, Nat.reduceBEq, Nat.reduceAdd, Nat.reduceEqDiff, reduceCtorEq, Int.reduceToNat, Bool.false_and, Bool.true_and, Bool.false_or, Bool.true_or, g5]
            · cases q3
              · repeat (first | refine qq1 fun Z hN hX hR => ?_ | refine qq2 fun Z hN hX hR => ?_ | refine qq3 (by kernel_rfl) fun K hK => ?_ | ((first | refine qq4 fun R hRR => ?_ | with_reducible change ExpAll _ _ _); simp only [kS, Nat.reduceSub, Nat.reduceMul, Nat.reduceLeDiff, Nat.reducePow, Nat.reduceBEq, Nat.reduceAdd, Nat.reduceEqDiff, reduceCtorEq, Int.reduceToNat, h0, h3, h4, h5, h6, h7, w1, w2, w3, w4, g5]) | (refine hRR _ ?_; clear hRR R) | refine qq5 ?_ | (refine hK _ ?_; clear hK K) | ((first | refine hN _ ?_ | refine hX _ _ ?_ | refine hR _ ?_); clear hN hX hR Z) | refine qq6 rfl ?_ | refine qq7 (by decide) ?_ | (refine qq8 ?_ ?_; focus (simp only [kS, Nat.reduceSub, Nat.reduceMul, Nat.reduceLeDiff, Nat.reducePow, Nat.reduceBEq, Nat.reduceAdd, Nat.reduceEqDiff, reduceCtorEq, Int.reduceToNat, h0, h3, h4, h5, h6, h7, w1, w2, w3, w4, g5]; done)) | (refine qq9 ?_ ?_; focus (simp only [kS, Nat.reduceSub, Nat.reduceMul, Nat.reduceLeDiff, Nat.reducePow, Nat.reduceBEq, Nat.reduceAdd, Nat.reduceEqDiff, reduceCtorEq, Int.reduceToNat, h0, h3, h4, h5, h6, h7, w1, w2, w3, w4, g5]; done)) | refine qqa ?_ | refine qqb ?_ | refine qqc ?_ | refine And.intro (by first | assumption | omega) ?_)
                repeat (refine And.intro (by first | (simp only [kS, Nat.reduceSub, Nat.reduceMul, Nat.reduceLeDiff, Nat.reducePow, Nat.reduceBEq, Nat.reduceAdd, Nat.reduceEqDiff, reduceCtorEq, Int.reduceToNat, h0, h3, h4, h5, h6, h7]; done) | assumption) ?_)
                simp only [kS, Nat.reduceSub, Nat.reduceMul, Nat.reduceLeDiff, Nat.reducePow, Nat.reduceBEq, Nat.reduceAdd, Nat.reduceEqDiff, reduceCtorEq, Int.reduceToNat, Bool.false_and, Bool.true_and, Bool.false_or, Bool.true_or, g5]
              · repeat (first | refine qq1 fun Z hN hX hR => ?_ | refine qq2 fun Z hN hX hR => ?_ | refine qq3 (by kernel_rfl) fun K hK => ?_ | ((first | refine qq4 fun R hRR => ?_ | with_reducible change ExpAll _ _ _); simp only [kS, Nat.reduceSub, Nat.reduceMul, Nat.reduceLeDiff, Nat.reducePow, Nat.reduceBEq, Nat.reduceAdd, Nat.reduceEqDiff, reduceCtorEq, Int.reduceToNat, h0, h3, h4, h5, h6, h7, w1, w2, w3, w4, g5]) | (refine hRR _ ?_; clear hRR R) | refine qq5 ?_ | (refine hK _ ?_; clear hK K) | ((first | refine hN _ ?_ | refine hX _ _ ?_ | refine hR _ ?_); clear hN hX hR Z) | refine qq6 rfl ?_ | refine qq7 (by decide) ?_ | (refine qq8 ?_ ?_; focus (simp only [kS, Nat.reduceSub, Nat.reduceMul, Nat.reduceLeDiff, Nat.reducePow, Nat.reduceBEq, Nat.reduceAdd, Nat.reduceEqDiff, reduceCtorEq, Int.reduceToNat, h0, h3, h4, h5, h6, h7, w1, w2, w3, w4, g5]; done)) | (refine qq9 ?_ ?_; focus (simp only [kS, Nat.reduceSub, Nat.reduceMul, Nat.reduceLeDiff, Nat.reducePow, Nat.reduceBEq, Nat.reduceAdd, Nat.reduceEqDiff, reduceCtorEq, Int.reduceToNat, h0, h3, h4, h5, h6, h7, w1, w2, w3, w4, g5]; done)) | refine qqa ?_ | refine qqb ?_ | refine qqc ?_ | refine And.intro (by first | assumption | omega) ?_)
                repeat (refine And.intro (by first | (simp only [kS, Nat.reduceSub, Nat.reduceMul, Nat.reduceLeDiff, Nat.reducePow, Nat.reduceBEq, Nat.reduceAdd, Nat.reduceEqDiff, reduceCtorEq, Int.reduceToNat, h0, h3, h4, h5, h6, h7]; done) | assumption) ?_)
                simp only [kS, Nat.reduceSub, Nat.reduceMul, Nat.reduceLeDiff, Nat.reducePow, Nat.reduceBEq, Nat.reduceAdd, Nat.reduceEqDiff, reduceCtorEq, Int.reduceToNat, Bool.false_and, Bool.true_and, Bool.false_or, Bool.true_or, g5]
      clear h0 h3
      rintro f ⟨h0, h3, h4, h5, h6, h7, hf⟩
      by_cases hq : (b == 240 && (p3 && (q2 && q3))) = true
      · rw [hq] at hf
        rw [if_pos hq] at hc
        repeat (first | refine qq1 fun Z hN hX hR => ?_ | refine qq2 fun Z hN hX hR => ?_ | refine qq3 (by kernel_rfl) fun K hK => ?_ | ((first | refine qq4 fun R hRR => ?_ | with_reducible change ExpAll _ _ _); simp only [kS, Nat.reduceSub, Nat.reduceMul, Nat.reduceLeDiff, Nat.reducePow, Nat.reduceBEq, Nat.reduceAdd, Nat.reduceEqDiff, reduceCtorEq, Int.reduceToNat, h0, h3, h4, h5, h6, h7, w1, w2, w3, w4, hf]) | (refine hRR _ ?_; clear hRR R) | refine qq5 ?_ | (refine hK _ ?_; clear hK K) | ((first | refine hN _ ?_ | refine hX _ _ ?_ | refine hR _ ?_); clear hN hX hR Z) | refine qq6 rfl ?_ | refine qq7 (by decide) ?_ | (refine qq8 ?_ ?_; focus (simp only [kS, Nat.reduceSub, Nat.reduceMul, Nat.reduceLeDiff, Nat.reducePow, Nat.reduceBEq, Nat.reduceAdd, Nat.reduceEqDiff, reduceCtorEq, Int.reduceToNat, h0, h3, h4, h5, h6, h7, w1, w2, w3, w4, hf]; done)) | (refine qq9 ?_ ?_; focus (simp only [kS, Nat.reduceSub, Nat.reduceMul, Nat.reduceLeDiff, Nat.reducePow, Nat.reduceBEq, Nat.reduceAdd, Nat.reduceEqDiff, reduceCtorEq, Int.reduceToNat, h0, h3, h4, h5, h6, h7, w1, w2, w3, w4, hf]; done)) | refine qqa ?_ | refine qqb ?_ | refine qqc ?_ | refine And.intro (by first | assumption | omega) ?_)
        exact ⟨k, by omega, i + 4, by omega, by omega, by simp only [kS, Nat.reduceSub, Nat.reduceMul, Nat.reduceLeDiff, Nat.reducePow, Nat.reduceBEq, Nat.reduceAdd, Nat.reduceEqDiff, reduceCtorEq, Int.reduceToNat, h0], by simp only [kS, Nat.reduceSub, Nat.reduceMul, Nat.reduceLeDiff, Nat.reducePow, Nat.reduceBEq, Nat.reduceAdd, Nat.reduceEqDiff, reduceCtorEq, Int.reduceToNat], hc⟩
      rw [if_neg hq] at hc
      rw [Bool.eq_false_iff.2 hq] at hf
      refine awp_condF (by simp only [kS, Nat.reduceSub, Nat.reduceMul, Nat.reduceLeDiff, Nat.reducePow, Nat.reduceBEq, Nat.reduceAdd, Nat.reduceEqDiff, reduceCtorEq, Int.reduceToNat, hf]) ?_
      refine awq_cut (fun f => f.t 0 = .c (.v (.string s)) ∧ f.t 3 = iv (i : Int) ∧ f.t 4 = iv b ∧ f.t 5 = bv q1 ∧ f.t 6 = bv q2 ∧ f.t 7 = bv q3 ∧ f.t 113 = bv (decide (241 ≤ b) && (decide (b ≤ 243) && (q1 && (q2 && q3))))) (fun Z hN hX hR => ?_) ?_
      · cases g6 : (decide (241 ≤ b))
        · repeat (first | refine qq1 fun Z hN hX hR => ?_ | refine qq2 fun Z hN hX hR => ?_ | refine qq3 (by kernel_rfl) fun K hK => ?_ | ((first | refine qq4 fun R hRR => ?_ | with_reducible change ExpAll _ _ _); simp only [kS, Nat.reduceSub, Nat.reduceMul, Nat.reduceLeDiff, Nat.reducePow, Nat.reduceBEq, Nat.reduceAdd, Nat.reduceEqDiff, reduceCtorEq, Int.reduceToNat, h0, h3, h4, h5, h6, h7, w1, w2, w3, w4, g6]) | (refine hRR _ ?_; clear hRR R) | refine qq5 ?_ | (refine hK _ ?_; clear hK K) | ((first | refine hN _ ?_ | refine hX _ _ ?_ | refine hR _ ?_); clear hN hX hR Z) | refine qq6 rfl ?_ | refine qq7 (by decide) ?_ | (refine qq8 ?_ ?_; focus (simp only [kS, Nat.reduceSub, Nat.reduceMul, Nat.reduceLeDiff, Nat.reducePow, Nat.reduceBEq, Nat.reduceAdd, Nat.reduceEqDiff, reduceCtorEq, Int.reduceToNat, h0, h3, h4, h5, h6, h7, w1, w2, w3, w4, g6]; done)) | (refine qq9 ?_ ?_; focus (simp only [kS, Nat.reduceSub, Nat.reduceMul, Nat.reduceLeDiff, Nat.reducePow, Nat.reduceBEq, Nat.reduceAdd, Nat.reduceEqDiff, reduceCtorEq, Int.reduceToNat, h0, h3, h4, h5, h6, h7, w1, w2, w3, w4, g6]; done)) | refine qqa ?_ | refine qqb ?_ | refine qqc ?_ | refine And.intro (by first | assumption | omega) ?_)
          repeat (refine And.intro (by first | (simp only [kS, Nat.reduceSub, Nat.reduceMul, Nat.reduceLeDiff, Nat.reducePow, Nat.reduceBEq, Nat.reduceAdd, Nat.reduceEqDiff, reduceCtorEq, Int.reduceToNat, h0, h3, h4, h5, h6, h7]; done) | assumption) ?_)
          simp only [kS, Nat.reduceSub, Nat.reduceMul, Nat.reduceLeDiff, Nat.reducePow, Nat.reduceBEq, Nat.reduceAdd, Nat.reduceEqDiff, reduceCtorEq, Int.reduceToNat, Bool.false_and, Bool.true_and, Bool.false_or, Bool.true_or, g6]
        · cases g7 : (decide (b ≤ 243))
          · repeat (first | refine qq1 fun Z hN hX hR => ?_ | refine qq2 fun Z hN hX hR => ?_ | refine qq3 (by kernel_rfl) fun K hK => ?_ | ((first | refine qq4 fun R hRR => ?_ | with_reducible change ExpAll _ _ _); simp only [kS, Nat.reduceSub, Nat.reduceMul, Nat.reduceLeDiff, Nat.reducePow, Nat.reduceBEq, Nat.reduceAdd, Nat.reduceEqDiff, reduceCtorEq, Int.reduceToNat, h0, h3, h4, h5, h6, h7, w1, w2, w3, w4, g6, g7]) | (refine hRR _ ?_; clear hRR R) | refine qq5 ?_ | (refine hK _ ?_; clear hK K) | ((first | refine hN _ ?_ | refine hX _ _ ?_ | refine hR _ ?_); clear hN hX hR Z) | refine qq6 rfl ?_ | refine qq7 (by decide) ?_ | (refine qq8 ?_ ?_; focus (simp only [kS, Nat.reduceSub, Nat.reduceMul, Nat.reduceLeDiff, Nat.reducePow, Nat.reduceBEq, Nat.reduceAdd, Nat.reduceEqDiff, reduceCtorEq, Int.reduceToNat, h0, h3, h4, h5, h6, h7, w1, w2, w3, w4, g6, g7]; done)) | (refine qq9 ?_ ?_; focus (simp only [kS, Nat.reduceSub, Nat.reduceMul, Nat.reduceLeDiff, Nat.reducePow, Nat.reduceBEq, Nat.reduceAdd, Nat.reduceEqDiff, reduceCtorEq, Int.reduceToNat, h0, h3, h4, h5, h6, h7, w1, w2, w3, w4, g6, g7]; done)) | refine qqa ?_ | refine qqb ?_ | refine qqc ?_ | refine And.intro (by first | assumption | omega) ?_)
            repeat (refine And.intro (by first | (simp only [kS, Nat.reduceSub, Nat.reduceMul, Nat.reduceLeDiff, Nat.reducePow, Nat.reduceBEq, Nat.reduceAdd, Nat.reduceEqDiff, reduceCtorEq, Int.reduceToNat, h0, h3, h4, h5, h6, h7]; done) | assumption) ?_)
            simp only [kS, Nat.reduceSub, Nat.reduceMul, Nat.reduceLeDiff, Nat.reducePow, Nat.reduceBEq, Nat.reduceAdd, Nat.reduceEqDiff, reduceCtorEq, Int.reduceToNat, Bool.false_and, Bool.true_and, Bool.false_or, Bool.true_or, g6, g7]
          · cases q1
            · repeat (first | refine qq1 fun Z hN hX hR => ?_ | refine qq2 fun Z hN hX hR => ?_ | refine qq3 (by kernel_rfl) fun K hK => ?_ | ((first | refine qq4 fun R hRR => ?_ | with_reducible change ExpAll _ _ _); simp only [kS, Nat.reduceSub, Nat.reduceMul, Nat.reduceLeDiff, Nat.reducePow, Nat.reduceBEq, Nat.reduceAdd, Nat.reduceEqDiff, reduceCtorEq, Int.reduceToNat, h0, h3, h4, h5, h6, h7, w1, w2, w3, w4, g6, g7]) | (refine hRR _ ?_; clear hRR R) | refine qq5 ?_ | (refine hK _ ?_; clear hK K) | ((first | refine hN _ ?_ | refine hX _ _ ?_ | refine hR _ ?_); clear hN hX hR Z) | refine qq6 rfl ?_ | refine qq7 (by decide) ?_ | (refine qq8 ?_ ?_; focus (simp only [kS, Nat.reduceSub, Nat.reduceMul, Nat.reduceLeDiff, Nat.reducePow, Nat.reduceBEq, Nat.reduceAdd, Nat.reduceEqDiff, reduceCtorEq, Int.reduceToNat, h0, h3, h4, h5, h6, h7, w1, w2, w3, w4, g6, g7]; done)) | (refine qq9 ?_ ?_; focus (simp only [kS, Nat.reduceSub, Nat.reduceMul, Nat.reduceLeDiff, Nat.reducePow, Nat.reduceBEq, Nat.reduceAdd, Nat.reduceEqDiff, reduceCtorEq, Int.reduceToNat, h0, h3, h4, h5, h6, h7, w1, w2, w3, w4, g6, g7]; done)) | refine qqa ?_ | refine qqb ?_ | refine qqc ?_ | refine And.intro (by first | assumption | omega) ?_)
              repeat (refine And.intro (by first | (simp only [kS, Nat.reduceSub, Nat.reduceMul, Nat.reduceLeDiff, Nat.reducePow, Nat.reduceBEq, Nat.reduceAdd, Nat.reduceEqDiff, reduceCtorEq, Int.reduceToNat, h0, h3, h4, h5, h6, h7]; done) | assumption) ?_)
              simp only [kS, Nat.reduceSub, Nat.reduceMul, Nat.reduceLeDiff, Nat.reducePow, Nat.reduceBEq, Nat.reduceAdd, Nat.reduceEqDiff, reduceCtorEq, Int.reduceToNat, Bool.false_and, Bool.true_and, Bool.false_or, Bool.true_or, g6, g7]
            · cases q2
              · repeat (first | refine qq1 fun Z hN hX hR => ?_ | refine qq2 fun Z hN hX hR => ?_ | refine qq3 (by kernel_rfl) fun K hK => ?_ | ((first | refine qq4 fun R hRR => ?_ | with_reducible change ExpAll _ _ _); simp only [kS, Nat.reduceSub, Nat.reduceMul, Nat.reduceLeDiff, Nat.reducePow, Nat.reduceBEq, Nat.reduceAdd, Nat.reduceEqDiff, reduceCtorEq, Int.reduceToNat, h0, h3, h4, h5, h6, h7, w1, w2, w3, w4, g6, g7]) | (refine hRR _ ?_; clear hRR R) | refine qq5 ?_ | (refine hK _ ?_; clear hK K) | ((first | refine hN _ ?_ | refine hX _ _ ?_ | refine hR _ ?_); clear hN hX hR Z) | refine qq6 rfl ?_ | refine qq7 (by decide) ?_ | (refine qq8 ?_ ?_; focus (simp only [kS, Nat.reduceSub, Nat.reduceMul, Nat.reduceLeDiff, Nat.reducePow, Nat.reduceBEq, Nat.reduceAdd, Nat.reduceEqDiff, reduceCtorEq, Int.reduceToNat, h0, h3, h4, h5, h6, h7, w1, w2, w3, w4, g6, g7]; done)) | (refine qq9 ?_ ?_; focus (simp only [kS, Nat.reduceSub, Nat.reduceMul, Nat.reduceLeDiff, Nat.reducePow, Nat.reduceBEq, Nat.reduceAdd, Nat.reduceEqDiff, reduceCtorEq, Int.reduceToNat, h0, h3, h4, h5, h6, h7, w1, w2, w3, w4, g6, g7]; done)) | refine qqa ?_ | refine qqb ?_ | refine qqc ?_ | refine And.intro (by first | assumption | omega) ?_)
                repeat (refine And.intro (by first | (simp only [kS, Nat.reduceSub, Nat.reduceMul, Nat.reduceLeDiff, Nat.reducePow, Nat.reduceBEq, Nat.reduceAdd, Nat.reduceEqDiff, reduceCtorEq, Int.reduceToNat, h0, h3, h4, h5, h6, h7]; done) | assumption) ?_)
                simp only [kS, Nat.reduceSub, Nat.reduceMul, Nat.reduceLeDiff, Nat.reducePow, Nat.reduceBEq, Nat.reduceAdd, Nat.reduceEqDiff, reduceCtorEq, Int.reduceToNat, Bool.false_and, Bool.true_and, Bool.false_or, Bool.true_or, g6, g7]
              · cases q3
                · repeat (first | refine qq1 fun Z hN hX hR => ?_ | refine qq2 fun Z hN hX hR => ?_ | refine qq3 (by kernel_rfl) fun K hK => ?_ | ((first | refine qq4 fun R hRR => ?_ | with_reducible change ExpAll _ _ _); simp only [kS, Nat.reduceSub, Nat.reduceMul, Nat.reduceLeDiff, Nat.reducePow, Nat.reduceBEq, Nat.reduceAdd, Nat.reduceEqDiff, reduceCtorEq, Int.reduceToNat, h0, h3, h4, h5, h6, h7, w1, w2, w3, w4, g6, g7]) | (refine hRR _ ?_; clear hRR R) | refine qq5 ?_ | (refine hK _ ?_; clear hK K) | ((first | refine hN _ ?_ | refine hX _ _ ?_ | refine hR _ ?_); clear hN hX hR Z) | refine qq6 rfl ?_ | refine qq7 (by decide) ?_ | (refine qq8 ?_ ?_; focus (simp only [kS, Nat.reduceSub, Nat.reduceMul, Nat.reduceLeDiff, Nat.reducePow, Nat.reduceBEq, Nat.reduceAdd, Nat.reduceEqDiff, reduceCtorEq, Int.reduceToNat, h0, h3, h4, h5, h6, h7, w1, w2, w3, w4, g6, g7]; done)) | (refine qq9 ?_ ?_; focus (simp only [kS, Nat.reduceSub, Nat.reduceMul, Nat.reduceLeDiff, Nat.reducePow, Nat.reduceBEq, Nat.reduceAdd, Nat.reduceEqDiff, reduceCtorEq, Int.reduceToNat, h0, h3, h4, h5, h6, h7, w1, w2, w3, w4, g6, g7]; done)) | refine qqa ?_ | refine qqb ?_ | refine qqc ?_ | refine And.intro (by first | assumption | omega) ?_)
                  repeat (refine And.intro (by first | (simp only [kS, Nat.reduceSub, Nat.reduceMul, Nat.reduceLeDiff, Nat.reducePow, Nat.reduceBEq, Nat.reduceAdd, Nat.reduceEqDiff, reduceCtorEq, Int.reduceToNat, h0, h3, h4, h5, h6, h7]; done) | assumption) ?_)
                  simp only [kS, Nat.reduceSub, Nat.reduceMul, Nat.reduceLeDiff, Nat.reducePow, Nat.reduceBEq, Nat.reduceAdd, Nat.reduceEqDiff, reduceCtorEq, Int.reduceToNat, Bool.false_and, Bool.true_and, Bool.false_or, Bool.true_or, g6, g7]
                · repeat (first | refine qq1 fun Z hN hX hR => ?_ | refine qq2 fun Z hN hX hR => ?_ | refine qq3 (by kernel_rfl) fun K hK => ?_ | ((first | refine qq4 fun R hRR => ?_ | with_reducible change ExpAll _ _ _); simp only [kS, Nat.reduceSub, Nat.reduceMul, Nat.reduceLeDiff, Nat.reducePow, Nat.reduceBEq, Nat.reduceAdd, Nat.reduceEqDiff, reduceCtorEq, Int.reduceToNat, h0, h3, h4, h5, h6, h7, w1, w2, w3, w4, g6, g7]) | (refine hRR _ ?_; clear hRR R) | refine qq5 ?_ | (refine hK _ ?_; clear hK K) | ((first | refine hN _ ?_ | refine hX _ _ ?_ | refine hR _ ?_); clear hN hX hR Z) | refine qq6 rfl ?_ | refine qq7 (by decide) ?_ | (refine qq8 ?_ ?_; focus (simp only [kS, Nat.reduceSub, Nat.reduceMul, Nat.reduceLeDiff, Nat.reducePow, Nat.reduceBEq, Nat.reduceAdd, Nat.reduceEqDiff, reduceCtorEq, Int.reduceToNat, h0, h3, h4, h5, h6, h7, w1, w2, w3, w4, g6, g7]; done)) | (refine qq9 ?_ ?_; focus (simp only [kS, Nat.reduceSub, Nat.reduceMul, Nat.reduceLeDiff, Nat.reducePow, Nat.reduceBEq, Nat.reduceAdd, Nat.reduceEqDiff, reduceCtorEq, Int.reduceToNat, h0, h3, h4, h5, h6, h7, w1, w2, w3, w4, g6, g7]; done)) | refine qqa ?_ | refine qqb ?_ | refine qqc ?_ | refine And.intro (by first | assumption | omega) ?_)
                  repeat (refine And.intro (by first | (simp only [kS, Nat.reduceSub, Nat.reduceMul, Nat.reduceLeDiff, Nat.reducePow, Nat.reduceBEq, Nat.reduceAdd, Nat.reduceEqDiff, reduceCtorEq, Int.reduceToNat, h0, h3, h4, h5, h6, h7]; done) | assumption) ?_)
                  simp only [kS, Nat.reduceSub, Nat.reduceMul, Nat.reduceLeDiff, Nat.reducePow, Nat.reduceBEq, Nat.reduceAdd, Nat.reduceEqDiff, reduceCtorEq, Int.reduceToNat, Bool.false_and, Bool.true_and, Bool.false_or, Bool.true_or, g6, g7]
      clear h0 h3
      rintro f ⟨h0, h3, h4, h5, h6, h7, hf⟩
      by_cases hq : (decide (241 ≤ b) && (decide (b ≤ 243) && (q1 && (q2 && q3)))) = true
      · rw [hq] at hf
        rw [if_pos hq] at hc
        repeat (first | refine qq1 fun Z hN hX hR => ?_ | refine qq2 fun Z hN hX hR => ?_ | refine qq3 (by kernel_rfl) fun K hK => ?_ | ((first | refine qq4 fun R hRR => ?_ | with_reducible change ExpAll _ _ _); simp only [kS, Nat.reduceSub, Nat.reduceMul, Nat.reduceLeDiff, Nat.reducePow, Nat.reduceBEq, Nat.reduceAdd, Nat.reduceEqDiff, reduceCtorEq, Int.reduceToNat, h0, h3, h4, h5, h6, h7, w1, w2, w3, w4, hf]) | (refine hRR _ ?_; clear hRR R) | refine qq5 ?_ | (refine hK _ ?_; clear hK K) | ((first | refine hN _ ?_ | refine hX _ _ ?_ | refine hR _ ?_); clear hN hX hR Z) | refine qq6 rfl ?_ | refine qq7 (by decide) ?_ | (refine qq8 ?_ ?_; focus (simp only [kS, Nat.reduceSub, Nat.reduceMul, Nat.reduceLeDiff, Nat.reducePow, Nat.reduceBEq, Nat.reduceAdd, Nat.reduceEqDiff, reduceCtorEq, Int.reduceToNat, h0, h3, h4, h5, h6, h7, w1, w2, w3, w4, hf]; done)) | (refine qq9 ?_ ?_; focus (simp only [kS, Nat.reduceSub, Nat.reduceMul, Nat.reduceLeDiff, Nat.reducePow, Nat.reduceBEq, Nat.reduceAdd, Nat.reduceEqDiff, reduceCtorEq, Int.reduceToNat, h0, h3, h4, h5, h6, h7, w1, w2, w3, w4, hf]; done)) | refine qqa ?_ | refine qqb ?_ | refine qqc ?_ | refine And.intro (by first | assumption | omega) ?_)
        exact ⟨k, by omega, i + 4, by omega, by omega, by simp only [kS, Nat.reduceSub, Nat.reduceMul, Nat.reduceLeDiff, Nat.reducePow, Nat.reduceBEq, Nat.reduceAdd, Nat.reduceEqDiff, reduceCtorEq, Int.reduceToNat, h0], by simp only [kS, Nat.reduceSub, Nat.reduceMul, Nat.reduceLeDiff, Nat.reducePow, Nat.reduceBEq, Nat.reduceAdd, Nat.reduceEqDiff, reduceCtorEq, Int.reduceToNat], hc⟩
      rw [if_neg hq] at hc
      rw [Bool.eq_false_iff.2 hq] at hf
      refine awp_condF (by simp only [kS, Nat.reduceSub, Nat.reduceMul, Nat.reduceLeDiff, Nat.reducePow, Nat.reduceBEq, Nat.reduceAdd, Nat.reduceEqDiff, reduceCtorEq, Int.reduceToNat, hf]) ?_
      refine awq_cut (fun f => f.t 0 = .c (.v (.string s)) ∧ f.t 3 = iv (i : Int) ∧ f.t 4 = iv b ∧ f.t 5 = bv q1 ∧ f.t 6 = bv q2 ∧ f.t 7 = bv q3 ∧ f.t 131 = bv (b == 244 && (p4 && (q2 && q3)))) (fun Z hN hX hR => ?_) ?_
      · cases g8 : (b == 244)
        · repeat (first | refine qq1 fun Z hN hX hR => ?_ | refine qq2 fun Z hN hX hR => ?_ | refine qq3 (by kernel_rfl) fun K hK => ?_ | ((first | refine qq4 fun R hRR => ?_ | with_reducible change ExpAll _ _ _); simp only [kS, Nat.reduceSub, Nat.reduceMul, Nat.reduceLeDiff, Nat.reducePow, Nat.reduceBEq, Nat.reduceAdd, Nat.reduceEqDiff, reduceCtorEq, Int.reduceToNat, h0, h3, h4, h5, h6, h7, w1, w2, w3, w4, g8]) | (refine hRR _ ?_; clear hRR R) | refine qq5 ?_ | (refine hK _ ?_; clear hK K) | ((first | refine hN _ ?_ | refine hX _ _ ?_ | refine hR _ ?_); clear hN hX hR Z) | refine qq6 rfl ?_ | refine qq7 (by decide) ?_ | (refine qq8 ?_ ?_; focus (simp only [kS, Nat.reduceSub, Nat.reduceMul, Nat.reduceLeDiff, Nat.reducePow, Nat.reduceBEq, Nat.reduceAdd, Nat.reduceEqDiff, reduceCtorEq, Int.reduceToNat, h0, h3, h4, h5, h6, h7, w1, w2, w3, w4, g8]; done)) | (refine qq9 ?_ ?_; focus (simp only [kS, Nat.reduceSub, Nat.reduceMul, Nat.reduceLeDiff, Nat.reducePow, Nat.reduceBEq, Nat.reduceAdd, Nat.reduceEqDiff, reduceCtorEq, Int.reduceToNat, h0, h3, h4, h5, h6, h7, w1, w2, w3, w4, g8]; done)) | refine qqa ?_ | refine qqb ?_ | refine qqc ?_ | refine And.intro (by first | assumption | omega) ?_)
          repeat (refine And.intro (by first | (simp only [kS, Nat.reduceSub, Nat.reduceMul, Nat.reduceLeDiff, Nat.reducePow, Nat.reduceBEq, Nat.reduceAdd, Nat.reduceEqDiff, reduceCtorEq, Int.reduceToNat, h0, h3, h4, h5, h6, h7]; done) | assumption) ?_)
          simp only [kS, Nat.reduceSub, Nat.reduceMul, Nat.reduceLeDiff, Nat.reducePow, Nat.reduceBEq, Nat.reduceAdd, Nat.reduceEqDiff, reduceCtorEq, Int.reduceToNat, Bool.false_and, Bool.true_and, Bool.false_or, Bool.true_or, g8]
        · repeat (first | refine qq1 fun Z hN hX hR => ?_ | refine qq2 fun Z hN hX hR => ?_ | refine qq3 (by kernel_rfl) fun K hK => ?_ | ((first | refine qq4 fun R hRR => ?_ | with_reducible change ExpAll _ _ _); simp only [kS, Nat.reduceSub, Nat.reduceMul, Nat.reduceLeDiff, Nat.reducePow, Nat.reduceBEq, Nat.reduceAdd, Nat.reduceEqDiff, reduceCtorEq, Int.reduceToNat, h0, h3, h4, h5, h6, h7, w1, w2, w3, w4, g8]) | (refine hRR _ ?_; clear hRR R) | refine qq5 ?_ | (refine hK _ ?_; clear hK K) | ((first | refine hN _ ?_ | refine hX _ _ ?_ | refine hR _ ?_); clear hN hX hR Z) | refine qq6 rfl ?_ | refine qq7 (by decide) ?_ | (refine qq8 ?_ ?_; focus (simp only [kS, Nat.reduceSub, Nat.reduceMul, Nat.reduceLeDiff, Nat.reducePow, Nat.reduceBEq, Nat.reduceAdd, Nat.reduceEqDiff, reduceCtorEq, Int.reduceToNat, h0, h3, h4, h5, h6, h7, w1, w2, w3, w4, g8]; done)) | (refine qq9 ?_ ?_; focus (simp only [kS, Nat.reduceSub, Nat.reduceMul, Nat.reduceLeDiff, Nat.reducePow, Nat.reduceBEq, Nat.reduceAdd, Nat.reduceEqDiff, reduceCtorEq, Int.reduceToNat, h0, h3, h4, h5, h6, h7, w1, w2, w3, w4, g8]; done)) | refine qqa ?_ | refine qqb ?_ | refine qqc ?_ | refine And.intro (by first | assumption | omega) ?_)
          refine ⟨_, j4, rfl, ?_⟩
          simp only [kS, Nat.reduceSub, Nat.reduceMul, Nat.reduceLeDiff, Nat.reducePow, Nat.reduceBEq, Nat.reduceAdd, Nat.reduceEqDiff, reduceCtorEq, Int.reduceToNat, h0, h3, h4, h5, h6, h7, w1, w2, w3, w4, g8]
          cases p4
          · repeat (first | refine qq1 fun Z hN hX hR => ?_ | refine qq2 fun Z hN hX hR => ?_ | refine qq3 (by kernel_rfl) fun K hK => ?_ | ((first | refine qq4 fun R hRR => ?_ | with_reducible change ExpAll _ _ _); simp only [kS, Nat.reduceSub, Nat.reduceMul, Nat.reduceLeDiff, Nat.reducePow, Nat.reduceBEq, Nat.reduceAdd, Nat.reduceEqDiff, reduceCtorEq, Int.reduceToNat, h0, h3, h4, h5, h6, h7, w1, w2, w3, w4, g8]) | (refine hRR _ ?_; clear hRR R) | refine qq5 ?_ | (refine hK _ ?_; clear hK K) | ((first | refine hN _ ?_ | refine hX _ _ ?_ | refine hR _ ?_); clear hN hX hR Z) | refine qq6 rfl ?_ | refine qq7 (by decide) ?_ | (refine qq8 ?_ ?_; focus (simp only [kS, Nat.reduceSub, Nat.reduceMul, Nat.reduceLeDiff, Nat.reducePow, Nat.reduceBEq, Nat.reduceAdd, Nat.reduceEqDiff, reduceCtorEq, Int.reduceToNat, h0, h3, h4, h5, h6, h7, w1, w2, w3, w4, g8]; done)) | (refine qq9 ?_ ?_; focus (simp only [kS, Nat.reduceSub, Nat.reduceMul, Nat.reduceLeDiff, Nat.reducePow, Nat.reduceBEq, Nat.reduceAdd, Nat.reduceEqDiff, reduceCtorEq, Int.reduceToNat, h0, h3, h4, h5, h6, h7, w1, w2, w3, w4, g8]; done)) | refine qqa ?_ | refine qqb ?_ | refine qqc ?_ | refine And.intro (by first | assumption | omega) ?_)
            repeat (refine And.intro (by first | (simp only [kS, Nat.reduceSub, Nat.reduceMul, Nat.reduceLeDiff, Nat.reducePow, Nat.reduceBEq, Nat.reduceAdd, Nat.reduceEqDiff, reduceCtorEq, Int.reduceToNat, h0, h3, h4, h5, h6, h7]; done) | assumption) ?_)
            simp only [kS, Nat.reduceSub, Nat.reduceMul, Nat.reduceLeDiff, Nat.reducePow, Nat.reduceBEq, Nat.reduceAdd, Nat.reduceEqDiff, reduceCtorEq, Int.reduceToNat, Bool.false_and, Bool.true_and, Bool.false_or, Bool.true_or, g8]
          · cases q2
            · repeat (first | refine qq1 fun Z hN hX hR => ?_ | refine qq2 fun Z hN hX hR => ?_ | refine qq3 (by kernel_rfl) fun K hK => ?_ | ((first | refine qq4 fun R hRR => ?_ | with_reducible change ExpAll _ _ _); simp only [kS, Nat.reduceSub, Nat.reduceMul, Nat.reduceLeDiff, Nat.reducePow, Nat.reduceBEq, Nat.reduceAdd, Nat.reduceEqDiff, reduceCtorEq, Int.reduceToNat, h0, h3, h4, h5, h6, h7, w1, w2, w3, w4, g8]) | (refine hRR _ ?_; clear hRR R) | refine qq5 ?_ | (refine hK _ ?_; clear hK K) | ((first | refine hN _ ?_ | refine hX _ _ ?_ | refine hR _ ?_); clear hN hX hR Z) | refine qq6 rfl ?_ | refine qq7 (by decide) ?_ | (refine qq8 ?_ ?_; focus (simp only [kS, Nat.reduceSub, Nat.reduceMul, Nat.reduceLeDiff, Nat.reducePow, Nat.reduceBEq, Nat.reduceAdd, Nat.reduceEqDiff, reduceCtorEq, Int.reduceToNat, h0, h3, h4, h5, h6, h7, w1, w2, w3, w4, g8]; done)) | (refine qq9 ?_ ?_; focus (simp only [kS, Nat.reduceSub, Nat.reduceMul, Nat.reduceLeDiff, Nat.reducePow, Nat.reduceBEq, Nat.reduceAdd, Nat.reduceEqDiff, reduceCtorEq, Int.reduceToNat, h0, h3, h4, h5, h6, h7, w1, w2, w3, w4, g8]; done)) | refine qqa ?_ | refine qqb ?_ | refine qqc ?_ | refine And.intro (by first | assumption | omega) ?_)
              repeat (refine And.intro (by first | (simp only [kS, Nat.reduceSub, Nat.reduceMul, Nat.reduceLeDiff, Nat.reducePow, Nat.reduceBEq, Nat.reduceAdd, Nat.reduceEqDiff, reduceCtorEq, Int.reduceToNat, h0, h3, h4, h5, h6, h7]; done) | assumption) ?_)
              simp only [kS, Nat.reduceSub, Nat.reduceMul, Nat.reduceLeDiff, Nat.reducePow, Nat.reduceBEq, Nat.reduceAdd, Nat.reduceEqDiff, reduceCtorEq, Int.reduceToNat, Bool.false_and, Bool.true_and, Bool.false_or, Bool.true_or, g8]
            · cases q3
              · repeat (first | refine qq1 fun Z hN hX hR => ?_ | refine qq2 fun Z hN hX hR => ?_ | refine qq3 (by kernel_rfl) fun K hK => ?_ | ((first | refine qq4 fun R hRR => ?_ | with_reducible change ExpAll _ _ _); simp only [kS, Nat.reduceSub, Nat.reduceMul, Nat.reduceLeDiff, Nat.reducePow, Nat.reduceBEq, Nat.reduceAdd, Nat.reduceEqDiff, reduceCtorEq, Int.reduceToNat, h0, h3, h4, h5, h6, h7, w1, w2, w3, w4, g8]) | (refine hRR _ ?_; clear hRR R) | refine qq5 ?_ | (refine hK _ ?_; clear hK K) | ((first | refine hN _ ?_ | refine hX _ _ ?_ | refine hR _ ?_); clear hN hX hR Z) | refine qq6 rfl ?_ | refine qq7 (by decide) ?_ | (refine qq8 ?_ ?_; focus (simp only [kS, Nat.reduceSub, Nat.reduceMul, Nat.reduceLeDiff, Nat.reducePow, Nat.reduceBEq, Nat.reduceAdd, Nat.reduceEqDiff, reduceCtorEq, Int.reduceToNat, h0, h3, h4, h5, h6, h7, w1, w2, w3, w4, g8]; done)) | (refine qq9 ?_ ?_; focus (simp only [kS, Nat.reduceSub, Nat.reduceMul, Nat.reduceLeDiff, Nat.reducePow, Nat.reduceBEq, Nat.reduceAdd, Nat.reduceEqDiff, reduceCtorEq, Int.reduceToNat, h0, h3, h4, h5, h6, h7, w1, w2, w3, w4, g8]; done)) | refine qqa ?_ | refine qqb ?_ | refine qqc ?_ | refine And.intro (by first | assumption | omega) ?_)
                repeat (refine And.intro (by first | (simp only [kS, Nat.reduceSub, Nat.reduceMul, Nat.reduceLeDiff, Nat.reducePow, Nat.reduceBEq, Nat.reduceAdd, Nat.reduceEqDiff, reduceCtorEq, Int.reduceToNat, h0, h3, h4, h5, h6, h7]; done) | assumption) ?_)
                simp only [kS, Nat.reduceSub, Nat.reduceMul, Nat.reduceLeDiff, Nat.reducePow, Nat.reduceBEq, Nat.reduceAdd, Nat.reduceEqDiff, reduceCtorEq, Int.reduceToNat, Bool.false_and, Bool.true_and, Bool.false_or, Bool.true_or, g8]
              · repeat (first | refine qq1 fun Z hN hX hR => ?_ | refine qq2 fun Z hN hX hR => ?_ | refine qq3 (by kernel_rfl) fun K hK => ?_ | ((first | refine qq4 fun R hRR => ?_ | with_reducible change ExpAll _ _ _); simp only [kS, Nat.reduceSub, Nat.reduceMul, Nat.reduceLeDiff, Nat.reducePow, Nat.reduceBEq, Nat.reduceAdd, Nat.reduceEqDiff, reduceCtorEq, Int.reduceToNat, h0, h3, h4, h5, h6, h7, w1, w2, w3, w4, g8]) | (refine hRR _ ?_; clear hRR R) | refine qq5 ?_ | (refine hK _ ?_; clear hK K) | ((first | refine hN _ ?_ | refine hX _ _ ?_ | refine hR _ ?_); clear hN hX hR Z) | refine qq6 rfl ?_ | refine qq7 (by decide) ?_ | (refine qq8 ?_ ?_; focus (simp only [kS, Nat.reduceSub, Nat.reduceMul, Nat.reduceLeDiff, Nat.reducePow, Nat.reduceBEq, Nat.reduceAdd, Nat.reduceEqDiff, reduceCtorEq, Int.reduceToNat, h0, h3, h4, h5, h6, h7, w1, w2, w3, w4, g8]; done)) | (refine qq9 ?_ ?_; focus (simp only [kS, Nat.reduceSub, Nat.reduceMul, Nat.reduceLeDiff, Nat.reducePow, Nat.reduceBEq, Nat.reduceAdd, Nat.reduceEqDiff, reduceCtorEq, Int.reduceToNat, h0, h3, h4, h5, h6, h7, w1, w2, w3, w4, g8]; done)) | refine qqa ?_ | refine qqb ?_ | refine qqc ?_ | refine And.intro (by first | assumption | omega) ?_)
                repeat (refine And.intro (by first | (simp only [kS, Nat.reduceSub, Nat.reduceMul, Nat.reduceLeDiff, Nat.reducePow, Nat.reduceBEq, Nat.reduceAdd, Nat.reduceEqDiff, reduceCtorEq, Int.reduceToNat, h0, h3, h4, h5, h6, h7]; done) | assumption) ?_)
                simp only [kS, Nat.reduceSub, Nat.reduceMul, Nat.reduceLeDiff, Nat.reducePow, Nat.reduceBEq, Nat.reduceAdd, Nat.reduceEqDiff, reduceCtorEq, Int.reduceToNat, Bool.false_and, Bool.true_and, Bool.false_or, Bool.true_or, g8]
      clear h0 h3
      rintro f ⟨h0, h3, h4, h5, h6, h7, hf⟩
      by_cases hq : (b == 244 && (p4 && (q2 && q3))) = true
      · rw [hq] at hf
        rw [if_pos hq] at hc
        repeat (first | refine qq1 fun Z hN hX hR => ?_ | refine qq2 fun Z hN hX hR => ?_ | refine qq3 (by kernel_rfl) fun K hK => ?_ | ((first | refine qq4 fun R hRR => ?_ | with_reducible change ExpAll _ _ _); simp only [kS, Nat.reduceSub, Nat.reduceMul, Nat.reduceLeDiff, Nat.reducePow, Nat.reduceBEq, Nat.reduceAdd, Nat.reduceEqDiff, reduceCtorEq, Int.reduceToNat, h0, h3, h4, h5, h6, h7, w1, w2, w3, w4, hf]) | (refine hRR _ ?_; clear hRR R) | refine qq5 ?_ | (refine hK _ ?_; clear hK K) | ((first | refine hN _ ?_ | refine hX _ _ ?_ | refine hR _ ?_); clear hN hX hR Z) | refine qq6 rfl ?_ | refine qq7 (by decide) ?_ | (refine qq8 ?_ ?_; focus (simp only [kS, Nat.reduceSub, Nat.reduceMul, Nat.reduceLeDiff, Nat.reducePow, Nat.reduceBEq, Nat.reduceAdd, Nat.reduceEqDiff, reduceCtorEq, Int.reduceToNat, h0, h3, h4, h5, h6, h7, w1, w2, w3, w4, hf]; done)) | (refine qq9 ?_ ?_; focus (simp only [kS, Nat.reduceSub, Nat.reduceMul, Nat.reduceLeDiff, Nat.reducePow, Nat.reduceBEq, Nat.reduceAdd, Nat.reduceEqDiff, reduceCtorEq, Int.reduceToNat, h0, h3, h4, h5, h6, h7, w1, w2, w3, w4, hf]; done)) | refine qqa ?_ | refine qqb ?_ | refine qqc ?_ | refine And.intro (by first | assumption | omega) ?_)
        exact ⟨k, by omega, i + 4, by omega, by omega, by simp only [kS, Nat.reduceSub, Nat.reduceMul, Nat.reduceLeDiff, Nat.reducePow, Nat.reduceBEq, Nat.reduceAdd, Nat.reduceEqDiff, reduceCtorEq, Int.reduceToNat, h0], by simp only [kS, Nat.reduceSub, Nat.reduceMul, Nat.reduceLeDiff, Nat.reducePow, Nat.reduceBEq, Nat.reduceAdd, Nat.reduceEqDiff, reduceCtorEq, Int.reduceToNat], hc⟩
      rw [if_neg hq] at hc
      rw [Bool.eq_false_iff.2 hq] at hf
      refine awp_condF (by simp only [kS, Nat.reduceSub, Nat.reduceMul, Nat.reduceLeDiff, Nat.reducePow, Nat.reduceBEq, Nat.reduceAdd, Nat.reduceEqDiff, reduceCtorEq, Int.reduceToNat, hf]) ?_
      repeat (first | refine qq1 fun Z hN hX hR => ?_ | refine qq2 fun Z hN hX hR => ?_ | refine qq3 (by kernel_rfl) fun K hK => ?_ | ((first | refine qq4 fun R hRR => ?_ | with_reducible change ExpAll _ _ _); simp only [kS, Nat.reduceSub, Nat.reduceMul, Nat.reduceLeDiff, Nat.reducePow, Nat.reduceBEq, Nat.reduceAdd, Nat.reduceEqDiff, reduceCtorEq, Int.reduceToNat, h0, h3, h4, h5, h6, h7, w1, w2, w3, w4]) | (refine hRR _ ?_; clear hRR R) | refine qq5 ?_ | (refine hK _ ?_; clear hK K) | ((first | refine hN _ ?_ | refine hX _ _ ?_ | refine hR _ ?_); clear hN hX hR Z) | refine qq6 rfl ?_ | refine qq7 (by decide) ?_ | (refine qq8 ?_ ?_; focus (simp only [kS, Nat.reduceSub, Nat.reduceMul, Nat.reduceLeDiff, Nat.reducePow, Nat.reduceBEq, Nat.reduceAdd, Nat.reduceEqDiff, reduceCtorEq, Int.reduceToNat, h0, h3, h4, h5, h6, h7, w1, w2, w3, w4]; done)) | (refine qq9 ?_ ?_; focus (simp only [kS, Nat.reduceSub, Nat.reduceMul, Nat.reduceLeDiff, Nat.reducePow, Nat.reduceBEq, Nat.reduceAdd, Nat.reduceEqDiff, reduceCtorEq, Int.reduceToNat, h0, h3, h4, h5, h6, h7, w1, w2, w3, w4]; done)) | refine qqa ?_ | refine qqb ?_ | refine qqc ?_ | refine And.intro (by first | assumption | omega) ?_)
      rw [← hc]
    · simp only [u1, if_true] at hc
      repeat (first | refine qq1 fun Z hN hX hR => ?_ | refine qq2 fun Z hN hX hR => ?_ | refine qq3 (by kernel_rfl) fun K hK => ?_ | ((first | refine qq4 fun R hRR => ?_ | with_reducible change ExpAll _ _ _); simp only [kS, Nat.reduceSub, Nat.reduceMul, Nat.reduceLeDiff, Nat.reducePow, Nat.reduceBEq, Nat.reduceAdd, Nat.reduceEqDiff, reduceCtorEq, Int.reduceToNat, h0, h3, w1, w2, w3, w4, u1]) | (refine hRR _ ?_; clear hRR R) | refine qq5 ?_ | (refine hK _ ?_; clear hK K) | ((first | refine hN _ ?_ | refine hX _ _ ?_ | refine hR _ ?_); clear hN hX hR Z) | refine qq6 rfl ?_ | refine qq7 (by decide) ?_ | (refine qq8 ?_ ?_; focus (simp only [kS, Nat.reduceSub, Nat.reduceMul, Nat.reduceLeDiff, Nat.reducePow, Nat.reduceBEq, Nat.reduceAdd, Nat.reduceEqDiff, reduceCtorEq, Int.reduceToNat, h0, h3, w1, w2, w3, w4, u1]; done)) | (refine qq9 ?_ ?_; focus (simp only [kS, Nat.reduceSub, Nat.reduceMul, Nat.reduceLeDiff, Nat.reducePow, Nat.reduceBEq, Nat.reduceAdd, Nat.reduceEqDiff, reduceCtorEq, Int.reduceToNat, h0, h3, w1, w2, w3, w4, u1]; done)) | refine qqa ?_ | refine qqb ?_ | refine qqc ?_ | refine And.intro (by first | assumption | omega) ?_)
      exact ⟨k, by omega, i + 1, by omega, by omega, by simp only [kS, Nat.reduceSub, Nat.reduceMul, Nat.reduceLeDiff, Nat.reducePow, Nat.reduceBEq, Nat.reduceAdd, Nat.reduceEqDiff, reduceCtorEq, Int.reduceToNat, h0], by simp only [kS, Nat.reduceSub, Nat.reduceMul, Nat.reduceLeDiff, Nat.reducePow, Nat.reduceBEq, Nat.reduceAdd, Nat.reduceEqDiff, reduceCtorEq, Int.reduceToNat], hc⟩
  · repeat (first | refine qq1 fun Z hN hX hR => ?_ | refine qq2 fun Z hN hX hR => ?_ | refine qq3 (by kernel_rfl) fun K hK => ?_ | ((first | refine qq4 fun R hRR => ?_ | with_reducible change ExpAll _ _ _); simp only [kS, Nat.reduceSub, Nat.reduceMul, Nat.reduceLeDiff, Nat.reducePow, Nat.reduceBEq, Nat.reduceAdd, Nat.reduceEqDiff, reduceCtorEq, Int.reduceToNat, h0, h3, hlt, decide_false]) | (refine hRR _ ?_; clear hRR R) | refine qq5 ?_ | (refine hK _ ?_; clear hK K) | ((first | refine hN _ ?_ | refine hX _ _ ?_ | refine hR _ ?_); clear hN hX hR Z) | refine qq6 rfl ?_ | refine qq7 (by decide) ?_ | (refine qq8 ?_ ?_; focus (simp only [kS, Nat.reduceSub, Nat.reduceMul, Nat.reduceLeDiff, Nat.reducePow, Nat.reduceBEq, Nat.reduceAdd, Nat.reduceEqDiff, reduceCtorEq, Int.reduceToNat, h0, h3, hlt, decide_false]; done)) | (refine qq9 ?_ ?_; focus (simp only [kS, Nat.reduceSub, Nat.reduceMul, Nat.reduceLeDiff, Nat.reducePow, Nat.reduceBEq, Nat.reduceAdd, Nat.reduceEqDiff, reduceCtorEq, Int.reduceToNat, h0, h3, hlt, decide_false]; done)) | refine qqa ?_ | refine qqb ?_ | refine qqc ?_ | refine And.intro (by first | assumption | omega) ?_)
    cases k with
    | zero => simp only [utfF] at hc; rw [← hc]
    | succ k => simp only [utfF, if_neg hlt] at hc; rw [← hc]

end Go.Proofs.YtilhjiopbbbgmaaDoor
