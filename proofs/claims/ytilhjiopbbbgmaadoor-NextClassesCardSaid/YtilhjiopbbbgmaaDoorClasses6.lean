/- Proved: NextClasses of chapter 15, as a tied card: for every description, state and two bytes the law's body answers true, and what was handed in reads as it did. This is part 6 of 7 of that proof (first the abstract machine and its soundness, then the walks, the plain law, the card): no condition beyond the statement's own. -/
import Derived.Test.YtilhjiopbbbgmaaDoorClasses5

/- The program's own Heads as a contract; the small descriptions that wake the laws. -/
namespace Go.Proofs.YtilhjiopbbbgmaaDoor
open Nat renaming reduceSub → R1, reduceMul → R2, reduceLeDiff → R3, reducePow → R4, reduceBEq → R5, reduceAdd → R6, reduceEqDiff → R7
open Int renaming reduceToNat → R9
open Go Go.RowKit Am
set_option linter.unusedVariables false
set_option linter.unusedSimpArgs false
set_option maxHeartbeats 4000000
attribute [local irreducible] AWp AOps

theorem heads15_ret (d : List Nd) (hd : WFd d) (k : Nat) (s : List It) (hdp : deep d k s) (hs : gd d s) (hj : okJ s) (hl : s.length + k ≤ 100000) (hn : cnt d k s ≤ 1000000) (hlv : (leaves d k s).length ≤ 1000000) :
    Ret Tryd.prog glD 15 [.agg (dC d), .c (stC s)] (.c (brC (headsS d k s))) := by
  refine ⟨callF Tryd.func15 (by kernel_rfl) rfl, fun w G vs hG hgl hrep => ?_⟩
  obtain ⟨vd, v, hvs, hvd, hv⟩ : ∃ vd v, vs = #[.agg #[vd], v] ∧ RepL w G (dC d) [vd] ∧ RepC w G (stC s) v := by
    obtain ⟨l⟩ := vs
    match l, hrep with
    | [a, b], ⟨⟨ys, e, h1⟩, h2, _⟩ =>
      obtain ⟨ys⟩ := ys
      match ys, h1 with
      | [y], h1 => exact ⟨y, b, by rw [e], h1, h2⟩
      | [], h1 => exact h1.elim
      | _ :: _ :: _, h1 => exact h1.2.elim
  subst hvs
  refine (heads15_c d hd k s w G vd v hdp hs hj hl hn hlv hG hgl hvd hv).mono ?_
  rintro e w' ⟨v, rfl, hb, G', h1, h2, h3, hr⟩
  exact ⟨v, rfl, hb, fun h => h.elim, G', h1, h2, h3, hr⟩

abbrev nd0 (k a b lo hi : Int) : Nd := ⟨k, a, b, lo, hi, 0, 0, 0, 0, ⟨#[]⟩⟩

theorem wrap_ret (gl : Gl) (kind lo hi : Int) (a : List Nd) (hl : a.length ≤ 1000) (h : ∀ n ∈ a, n.k < 4) (h0 : 0 < a.length) :
    Ret Tryd.prog gl 29 [iv kind, iv lo, iv hi, .agg (dC a)] (.agg (dC (a ++ [nd0 kind ((a.length : Int) - 1) 0 lo hi]))) := by
  have hm := moved_ret gl a 0 (by omega) h h0
  have hw : IntKind.i64.wrap ((a.length : Int) - 1) = (a.length : Int) - 1 := wrap_i64 (by omega) (by omega)
  have el := ndsC_length a
  refine retc 23 Tryd.func29 (by kernel_rfl) rfl (by kernel_rfl) rfl Tryd.underlying24 (by show _ = some 1; kernel_rfl) (by simp) fun Z hN hX hR => ?_
  simp only [dC]
  repeat (first | ((first | refine Q1 ?_ | refine Q2 ?_); intro Z hN hX hR) | refine Q3 (by kernel_rfl) fun K hK => ?_ | ((first | refine Q4 fun R hJ => ?_ | with_reducible change ExpAll _ _ _); simp only [kS, R1, R2, R3, R4, R5, R6, R7, reduceCtorEq, R9, hw, el]) | (refine hJ _ ?_; clear hJ R) | refine Q5 ?_ | (refine hK _ ?_; clear hK K) | ((first | refine hN _ ?_ | refine hX _ _ ?_ | refine hR _ ?_); clear hN hX hR Z) | refine Q6 rfl ?_ | refine Q7 (by decide) ?_ | (refine Q8 ?_ ?_; focus (simp only [kS, R1, R2, R3, R4, R5, R6, R7, reduceCtorEq, R9, hw, el]; done)) | (refine Q9 ?_ ?_; focus (simp only [kS, R1, R2, R3, R4, R5, R6, R7, reduceCtorEq, R9, hw, el]; done)) | refine Qa ?_ | refine Qb ?_ | refine Qc ?_ | refine And.intro (by first | assumption | omega) ?_)
  refine ⟨_, hm, rfl, ?_⟩
  simp only [kS, R1, R2, R3, R4, R5, R6, R7, reduceCtorEq, R9, hw, el]
  repeat (first | ((first | refine Q1 ?_ | refine Q2 ?_); intro Z hN hX hR) | refine Q3 (by kernel_rfl) fun K hK => ?_ | ((first | refine Q4 fun R hJ => ?_ | with_reducible change ExpAll _ _ _); simp only [kS, R1, R2, R3, R4, R5, R6, R7, reduceCtorEq, R9, hw, el, tk1, tk2, tk3, tk4, tk5, tk6, tk7, tk8, and_false, false_and]) | (refine hJ _ ?_; clear hJ R) | refine Q5 ?_ | (refine hK _ ?_; clear hK K) | ((first | refine hN _ ?_ | refine hX _ _ ?_ | refine hR _ ?_); clear hN hX hR Z) | refine Q6 rfl ?_ | refine Q7 (by decide) ?_ | (refine Q8 ?_ ?_; focus (simp only [kS, R1, R2, R3, R4, R5, R6, R7, reduceCtorEq, R9, hw, el, tk1, tk2, tk3, tk4, tk5, tk6, tk7, tk8, and_false, false_and]; done)) | (refine Q9 ?_ ?_; focus (simp only [kS, R1, R2, R3, R4, R5, R6, R7, reduceCtorEq, R9, hw, el, tk1, tk2, tk3, tk4, tk5, tk6, tk7, tk8, and_false, false_and]; done)) | refine Qa ?_ | refine Qb ?_ | refine Qc ?_ | refine And.intro (by first | assumption | omega) ?_)
  have hd : dC (a ++ [nd0 kind ((a.length : Int) - 1) 0 lo hi]) = [.sl (a.length + 1) (ndsC a ++ (nd0 kind ((a.length : Int) - 1) 0 lo hi).c)] := by
    simp [dC, ndsC]
  all_goals exact ⟨1, by (simp only [kS, R1, R2, R3, R4, R5, R6, R7, reduceCtorEq, R9]) <;> first | omega | rfl, by rw [hd]; simp only [kS, R1, R2, R3, R4, R5, R6, R7, reduceCtorEq, R9, tk1, tk2, tk3, tk4, tk5, tk6, tk7, tk8, and_false, false_and]; rfl⟩

theorem pair_ret (gl : Gl) (kind : Int) (a b : List Nd) (hl : a.length ≤ 1000) (hl2 : b.length ≤ 1000) (h : ∀ n ∈ a, n.k < 4) (h2 : ∀ n ∈ b, n.k < 4) (h0 : 0 < a.length) (h02 : 0 < b.length) :
    Ret Tryd.prog gl 30 [iv kind, .agg (dC a), .agg (dC b)] (.agg (dC (a ++ b ++ [nd0 kind ((a.length : Int) - 1) ((a.length : Int) + b.length - 1) 0 0]))) := by
  have hm := moved_ret gl a 0 (by omega) h h0
  have hm2 := moved_ret gl b a.length (by omega) h2 h02
  have hw : IntKind.i64.wrap ((a.length : Int) - 1) = (a.length : Int) - 1 := wrap_i64 (by omega) (by omega)
  have hw2 : IntKind.i64.wrap ((a.length : Int) + b.length) = (a.length : Int) + b.length := wrap_i64 (by omega) (by omega)
  have hw3 : IntKind.i64.wrap ((a.length : Int) + b.length - 1) = (a.length : Int) + b.length - 1 := wrap_i64 (by omega) (by omega)
  have el := ndsC_length a
  have el2 := ndsC_length b
  have hd : dC (a ++ b ++ [nd0 kind ((a.length : Int) - 1) ((a.length : Int) + b.length - 1) 0 0]) = [.sl (a.length + b.length + 1) (ndsC a ++ ndsC b ++ (nd0 kind ((a.length : Int) - 1) ((a.length : Int) + b.length - 1) 0 0).c)] := by
    simp [dC, ndsC, Nat.add_assoc]
  refine retc 36 Tryd.func30 (by kernel_rfl) rfl (by kernel_rfl) rfl Tryd.underlying24 (by show _ = some 1; kernel_rfl) (by simp) fun Z hN hX hR => ?_
  simp only [dC]
  repeat (first | ((first | refine Q1 ?_ | refine Q2 ?_); intro Z hN hX hR) | refine Q3 (by kernel_rfl) fun K hK => ?_ | ((first | refine Q4 fun R hJ => ?_ | with_reducible change ExpAll _ _ _); simp only [kS, R1, R2, R3, R4, R5, R6, R7, reduceCtorEq, R9, hw, el]) | (refine hJ _ ?_; clear hJ R) | refine Q5 ?_ | (refine hK _ ?_; clear hK K) | ((first | refine hN _ ?_ | refine hX _ _ ?_ | refine hR _ ?_); clear hN hX hR Z) | refine Q6 rfl ?_ | refine Q7 (by decide) ?_ | (refine Q8 ?_ ?_; focus (simp only [kS, R1, R2, R3, R4, R5, R6, R7, reduceCtorEq, R9, hw, el]; done)) | (refine Q9 ?_ ?_; focus (simp only [kS, R1, R2, R3, R4, R5, R6, R7, reduceCtorEq, R9, hw, el]; done)) | refine Qa ?_ | refine Qb ?_ | refine Qc ?_ | refine And.intro (by first | assumption | omega) ?_)
  refine ⟨_, hm, rfl, ?_⟩
  simp only [kS, R1, R2, R3, R4, R5, R6, R7, reduceCtorEq, R9, hw, el]
  repeat (first | ((first | refine Q1 ?_ | refine Q2 ?_); intro Z hN hX hR) | refine Q3 (by kernel_rfl) fun K hK => ?_ | ((first | refine Q4 fun R hJ => ?_ | with_reducible change ExpAll _ _ _); simp only [kS, R1, R2, R3, R4, R5, R6, R7, reduceCtorEq, R9, hw, el, el2, tk1, tk2, tk3, tk4, tk5, tk6, tk7, tk8, and_false, false_and]) | (refine hJ _ ?_; clear hJ R) | refine Q5 ?_ | (refine hK _ ?_; clear hK K) | ((first | refine hN _ ?_ | refine hX _ _ ?_ | refine hR _ ?_); clear hN hX hR Z) | refine Q6 rfl ?_ | refine Q7 (by decide) ?_ | (refine Q8 ?_ ?_; focus (simp only [kS, R1, R2, R3, R4, R5, R6, R7, reduceCtorEq, R9, hw, el, el2, tk1, tk2, tk3, tk4, tk5, tk6, tk7, tk8, and_false, false_and]; done)) | (refine Q9 ?_ ?_; focus (simp only [kS, R1, R2, R3, R4, R5, R6, R7, reduceCtorEq, R9, hw, el, el2, tk1, tk2, tk3, tk4, tk5, tk6, tk7, tk8, and_false, false_and]; done)) | refine Qa ?_ | refine Qb ?_ | refine Qc ?_ | refine And.intro (by first | assumption | omega) ?_)
  refine ⟨_, hm2, rfl, ?_⟩
  simp only [kS, R1, R2, R3, R4, R5, R6, R7, reduceCtorEq, R9, hw, el, el2, tk1, tk2, tk3, tk4, tk5, tk6, tk7, tk8, and_false, false_and]
  repeat (first | ((first | refine Q1 ?_ | refine Q2 ?_); intro Z hN hX hR) | refine Q3 (by kernel_rfl) fun K hK => ?_ | ((first | refine Q4 fun R hJ => ?_ | with_reducible change ExpAll _ _ _); simp only [kS, R1, R2, R3, R4, R5, R6, R7, reduceCtorEq, R9, hw, hw2, hw3, el, el2, tk1, tk2, tk3, tk4, tk5, tk6, tk7, tk8, and_false, false_and]) | (refine hJ _ ?_; clear hJ R) | refine Q5 ?_ | (refine hK _ ?_; clear hK K) | ((first | refine hN _ ?_ | refine hX _ _ ?_ | refine hR _ ?_); clear hN hX hR Z) | refine Q6 rfl ?_ | refine Q7 (by decide) ?_ | (refine Q8 ?_ ?_; focus (simp only [kS, R1, R2, R3, R4, R5, R6, R7, reduceCtorEq, R9, hw, hw2, hw3, el, el2, tk1, tk2, tk3, tk4, tk5, tk6, tk7, tk8, and_false, false_and]; done)) | (refine Q9 ?_ ?_; focus (simp only [kS, R1, R2, R3, R4, R5, R6, R7, reduceCtorEq, R9, hw, hw2, hw3, el, el2, tk1, tk2, tk3, tk4, tk5, tk6, tk7, tk8, and_false, false_and]; done)) | refine Qa ?_ | refine Qb ?_ | refine Qc ?_ | refine And.intro (by first | assumption | omega) ?_)
  all_goals exact ⟨1, by (simp only [kS, R1, R2, R3, R4, R5, R6, R7, reduceCtorEq, R9]) <;> first | omega | rfl, by rw [hd]; simp only [kS, R1, R2, R3, R4, R5, R6, R7, reduceCtorEq, R9, tk1, tk2, tk3, tk4, tk5, tk6, tk7, tk8, and_false, false_and]; rfl⟩

end Go.Proofs.YtilhjiopbbbgmaaDoor

/- Is a description of few nodes? May a text be a node's? -/
namespace Go.Proofs.YtilhjiopbbbgmaaDoor
open Nat renaming reduceSub → R1, reduceMul → R2, reduceLeDiff → R3, reducePow → R4, reduceBEq → R5, reduceAdd → R6, reduceEqDiff → R7
open Int renaming reduceToNat → R9
open Go Go.RowKit Am
set_option linter.unusedVariables false
set_option linter.unusedSimpArgs false
set_option maxHeartbeats 4000000
attribute [local irreducible] AWp AOps

def tsum : List Nd → Nat
  | [] => 0
  | n :: l => n.s.size + tsum l

theorem tsum_mem : ∀ {l : List Nd} {n : Nd}, n ∈ l → n.s.size ≤ tsum l
  | x :: l, n, h => by
    rcases List.mem_cons.1 h with rfl | h
    · simp [tsum]
    · have := tsum_mem h; simp [tsum]; omega

theorem tsum_append : ∀ (a b : List Nd), tsum (a ++ b) = tsum a + tsum b
  | [], b => by simp [tsum]
  | x :: a, b => by simp [tsum, tsum_append a b, Nat.add_assoc]

def fewB (d : List Nd) : Bool := decide ((d.length : Int) ≤ 100) && decide (((tsum (d.take 200) : Nat) : Int) ≤ 2000)

theorem fewB_true {d : List Nd} (h : fewB d = true) : d.length ≤ 100 ∧ ∀ n ∈ d, n.s.size ≤ 2000 := by
  simp only [fewB, Bool.and_eq_true, decide_eq_true_eq] at h
  have : d.length ≤ 100 := by omega
  refine ⟨this, fun n hn => ?_⟩
  rw [List.take_of_length_le (by omega)] at h
  have := tsum_mem hn
  omega

theorem few_ret (gl : Gl) (d : List Nd) (hl : d.length ≤ 140737488355328) (hs : ∀ n ∈ d, n.s.size ≤ 140737488355328) : Ret Tryd.prog gl 9 [.agg (dC d)] (bv (fewB d)) := by
  refine retq (rs := [2]) 33 Tryd.func9 (by kernel_rfl) rfl (by kernel_rfl) rfl (by simp) (by simp) fun Z hN hX hR => ?_
  repeat (first | ((first | refine Q1 ?_ | refine Q2 ?_); intro Z hN hX hR) | refine Q3 (by kernel_rfl) fun K hK => ?_ | ((first | refine Q4 fun R hJ => ?_ | with_reducible change ExpAll _ _ _); simp only [kS, R1, R2, R3, R4, R5, R6, R7, reduceCtorEq, R9]) | (refine hJ _ ?_; clear hJ R) | refine Q5 ?_ | (refine hK _ ?_; clear hK K) | ((first | refine hN _ ?_ | refine hX _ _ ?_ | refine hR _ ?_); clear hN hX hR Z) | refine Q6 rfl ?_ | refine Q7 (by decide) ?_ | (refine Q8 ?_ ?_; focus (simp only [kS, R1, R2, R3, R4, R5, R6, R7, reduceCtorEq, R9]; done)) | (refine Q9 ?_ ?_; focus (simp only [kS, R1, R2, R3, R4, R5, R6, R7, reduceCtorEq, R9]; done)) | refine Qa ?_ | refine Qb ?_ | refine Qc ?_ | refine And.intro (by first | assumption | omega) ?_)
  refine awq_loop (fun c f => ∃ (i : Nat), i ≤ d.length ∧ i ≤ 200 ∧ c = 200 - i ∧ f.t 4 = iv (i : Int) ∧ f.t 3 = iv ((tsum (d.take i) : Nat) : Int) ∧ tsum (d.take i) ≤ i * 140737488355328 ∧ f.t 1 = .ref 1 1 0 ∧ f.ob 1 1 = .box (dC d) ∧ 1 < f.k) 200 ?_ ?_
  · exact ⟨0, by omega, by omega, rfl, by simp only [kS, R1, R2, R3, R4, R5, R6, R7, reduceCtorEq, R9]; rfl, by simp only [kS, R1, R2, R3, R4, R5, R6, R7, reduceCtorEq, R9]; rfl, by simp [tsum], by simp only [kS, R1, R2, R3, R4, R5, R6, R7, reduceCtorEq, R9], by simp only [kS, R1, R2, R3, R4, R5, R6, R7, reduceCtorEq, R9], by (simp only [kS, R1, R2, R3, R4, R5, R6, R7, reduceCtorEq, R9]) <;> first | omega | rfl⟩
  rintro Z c f hN hX hR ⟨i, hi, h200, rfl, h4, h3, hb0, h1, hb, hk⟩
  simp only [dC] at hb
  by_cases hlt : i < d.length
  · by_cases h2 : i < 200
    · have e := ndsC_drop d i hlt
      have el := ndsC_length d
      have h2' : (i : Int) < 200 := by omega
      have hsz := hs _ (List.getElem_mem hlt)
      have ht : tsum (d.take (i + 1)) = tsum (d.take i) + d[i].s.size := by
        rw [List.take_succ_eq_append_getElem hlt, tsum_append]; simp [tsum]
      have hw : IntKind.i64.wrap ((tsum (d.take i) : Nat) + (d[i].s.size : Int)) = (tsum (d.take i) : Nat) + (d[i].s.size : Int) := wrap_i64 (by omega) (by omega)
      repeat (first | ((first | refine Q1 ?_ | refine Q2 ?_); intro Z hN hX hR) | refine Q3 (by kernel_rfl) fun K hK => ?_ | ((first | refine Q4 fun R hJ => ?_ | with_reducible change ExpAll _ _ _); simp only [kS, R1, R2, R3, R4, R5, R6, R7, reduceCtorEq, R9, h4, h3, h1, hb, hlt, h2', e, el, hw, decide_true]) | (refine hJ _ ?_; clear hJ R) | refine Q5 ?_ | (refine hK _ ?_; clear hK K) | ((first | refine hN _ ?_ | refine hX _ _ ?_ | refine hR _ ?_); clear hN hX hR Z) | refine Q6 rfl ?_ | refine Q7 (by decide) ?_ | (refine Q8 ?_ ?_; focus (simp only [kS, R1, R2, R3, R4, R5, R6, R7, reduceCtorEq, R9, h4, h3, h1, hb, hlt, h2', e, el, hw, decide_true]; done)) | (refine Q9 ?_ ?_; focus (simp only [kS, R1, R2, R3, R4, R5, R6, R7, reduceCtorEq, R9, h4, h3, h1, hb, hlt, h2', e, el, hw, decide_true]; done)) | refine Qa ?_ | refine Qb ?_ | refine Qc ?_ | refine And.intro (by first | assumption | omega) ?_)
      refine ⟨200 - (i + 1), by omega, i + 1, by omega, by omega, rfl, ?_, ?_, by omega, by simp only [kS, R1, R2, R3, R4, R5, R6, R7, reduceCtorEq, R9, h1], by simp only [kS, R1, R2, R3, R4, R5, R6, R7, reduceCtorEq, R9, hb]; rfl, by (simp only [kS, R1, R2, R3, R4, R5, R6, R7, reduceCtorEq, R9]) <;> first | omega | rfl⟩
      · simp only [kS, R1, R2, R3, R4, R5, R6, R7, reduceCtorEq, R9]
        rw [wrap_i64 (by omega) (by omega)]; rfl
      · simp only [kS, R1, R2, R3, R4, R5, R6, R7, reduceCtorEq, R9]
        rw [ht]; rfl
    · have h2' : ¬ (i : Int) < 200 := by omega
      have e200 : i = 200 := by omega
      have ht : tsum (d.take i) = tsum (d.take 200) := by rw [e200]
      cases q : decide ((d.length : Int) ≤ 100)
      · repeat (first | ((first | refine Q1 ?_ | refine Q2 ?_); intro Z hN hX hR) | refine Q3 (by kernel_rfl) fun K hK => ?_ | ((first | refine Q4 fun R hJ => ?_ | with_reducible change ExpAll _ _ _); simp only [kS, R1, R2, R3, R4, R5, R6, R7, reduceCtorEq, R9, h4, h3, h1, hb, hlt, h2', decide_true, decide_false, q]) | (refine hJ _ ?_; clear hJ R) | refine Q5 ?_ | (refine hK _ ?_; clear hK K) | ((first | refine hN _ ?_ | refine hX _ _ ?_ | refine hR _ ?_); clear hN hX hR Z) | refine Q6 rfl ?_ | refine Q7 (by decide) ?_ | (refine Q8 ?_ ?_; focus (simp only [kS, R1, R2, R3, R4, R5, R6, R7, reduceCtorEq, R9, h4, h3, h1, hb, hlt, h2', decide_true, decide_false, q]; done)) | (refine Q9 ?_ ?_; focus (simp only [kS, R1, R2, R3, R4, R5, R6, R7, reduceCtorEq, R9, h4, h3, h1, hb, hlt, h2', decide_true, decide_false, q]; done)) | refine Qa ?_ | refine Qb ?_ | refine Qc ?_ | refine And.intro (by first | assumption | omega) ?_)
        simp only [fewB, q, Bool.false_and]
      · repeat (first | ((first | refine Q1 ?_ | refine Q2 ?_); intro Z hN hX hR) | refine Q3 (by kernel_rfl) fun K hK => ?_ | ((first | refine Q4 fun R hJ => ?_ | with_reducible change ExpAll _ _ _); simp only [kS, R1, R2, R3, R4, R5, R6, R7, reduceCtorEq, R9, h4, h3, h1, hb, hlt, h2', decide_true, decide_false, q]) | (refine hJ _ ?_; clear hJ R) | refine Q5 ?_ | (refine hK _ ?_; clear hK K) | ((first | refine hN _ ?_ | refine hX _ _ ?_ | refine hR _ ?_); clear hN hX hR Z) | refine Q6 rfl ?_ | refine Q7 (by decide) ?_ | (refine Q8 ?_ ?_; focus (simp only [kS, R1, R2, R3, R4, R5, R6, R7, reduceCtorEq, R9, h4, h3, h1, hb, hlt, h2', decide_true, decide_false, q]; done)) | (refine Q9 ?_ ?_; focus (simp only [kS, R1, R2, R3, R4, R5, R6, R7, reduceCtorEq, R9, h4, h3, h1, hb, hlt, h2', decide_true, decide_false, q]; done)) | refine Qa ?_ | refine Qb ?_ | refine Qc ?_ | refine And.intro (by first | assumption | omega) ?_)
        simp only [fewB, q, Bool.true_and, ← ht]
  · have ht : tsum (d.take i) = tsum (d.take 200) := by rw [List.take_of_length_le (by omega), List.take_of_length_le (by omega)]
    cases q : decide ((d.length : Int) ≤ 100)
    · repeat (first | ((first | refine Q1 ?_ | refine Q2 ?_); intro Z hN hX hR) | refine Q3 (by kernel_rfl) fun K hK => ?_ | ((first | refine Q4 fun R hJ => ?_ | with_reducible change ExpAll _ _ _); simp only [kS, R1, R2, R3, R4, R5, R6, R7, reduceCtorEq, R9, h4, h3, h1, hb, hlt, decide_true, decide_false, q]) | (refine hJ _ ?_; clear hJ R) | refine Q5 ?_ | (refine hK _ ?_; clear hK K) | ((first | refine hN _ ?_ | refine hX _ _ ?_ | refine hR _ ?_); clear hN hX hR Z) | refine Q6 rfl ?_ | refine Q7 (by decide) ?_ | (refine Q8 ?_ ?_; focus (simp only [kS, R1, R2, R3, R4, R5, R6, R7, reduceCtorEq, R9, h4, h3, h1, hb, hlt, decide_true, decide_false, q]; done)) | (refine Q9 ?_ ?_; focus (simp only [kS, R1, R2, R3, R4, R5, R6, R7, reduceCtorEq, R9, h4, h3, h1, hb, hlt, decide_true, decide_false, q]; done)) | refine Qa ?_ | refine Qb ?_ | refine Qc ?_ | refine And.intro (by first | assumption | omega) ?_)
      simp only [fewB, q, Bool.false_and]
    · repeat (first | ((first | refine Q1 ?_ | refine Q2 ?_); intro Z hN hX hR) | refine Q3 (by kernel_rfl) fun K hK => ?_ | ((first | refine Q4 fun R hJ => ?_ | with_reducible change ExpAll _ _ _); simp only [kS, R1, R2, R3, R4, R5, R6, R7, reduceCtorEq, R9, h4, h3, h1, hb, hlt, decide_true, decide_false, q]) | (refine hJ _ ?_; clear hJ R) | refine Q5 ?_ | (refine hK _ ?_; clear hK K) | ((first | refine hN _ ?_ | refine hX _ _ ?_ | refine hR _ ?_); clear hN hX hR Z) | refine Q6 rfl ?_ | refine Q7 (by decide) ?_ | (refine Q8 ?_ ?_; focus (simp only [kS, R1, R2, R3, R4, R5, R6, R7, reduceCtorEq, R9, h4, h3, h1, hb, hlt, decide_true, decide_false, q]; done)) | (refine Q9 ?_ ?_; focus (simp only [kS, R1, R2, R3, R4, R5, R6, R7, reduceCtorEq, R9, h4, h3, h1, hb, hlt, decide_true, decide_false, q]; done)) | refine Qa ?_ | refine Qb ?_ | refine Qc ?_ | refine And.intro (by first | assumption | omega) ?_)
      simp only [fewB, q, Bool.true_and, ← ht]

end Go.Proofs.YtilhjiopbbbgmaaDoor

/- What a state that fits is good for: its heads, what it opens to. -/
namespace Go.Proofs.YtilhjiopbbbgmaaDoor
open Go Go.RowKit Am
set_option linter.unusedVariables false
set_option linter.unusedSimpArgs false
set_option maxHeartbeats 4000000
attribute [local irreducible] AWp AOps

theorem okSt_okJ {d : List Nd} {s : List It} (h : okSt d s = true) : okJ s := by
  intro x hx
  have hx' := List.all_eq_true.1 h x hx
  simp only [okIt] at hx'
  split at hx'
  · rename_i h5
    simp only [Bool.and_eq_true, beq_iff_eq, decide_eq_true_eq] at hx' h5
    omega
  · split at hx'
    · cases hx'
    · split at hx'
      · rename_i h5
        simp only [Bool.and_eq_true, beq_iff_eq] at hx' h5
        omega
      · split at hx'
        · rename_i h5
          simp only [Bool.and_eq_true, beq_iff_eq, decide_eq_true_eq] at hx' h5
          omega
        · split at hx'
          · rename_i h5
            simp only [Bool.and_eq_true, beq_iff_eq, decide_eq_true_eq] at hx' h5
            omega
          · split at hx'
            · rename_i h5
              simp only [Bool.and_eq_true, beq_iff_eq, decide_eq_true_eq] at hx' h5
              omega
            · cases hx'

/-- What a state that fits is good for. -/
structure Fit14 (d : List Nd) (s : List It) : Prop where
  wf : WFd d
  gd : gd d s
  okJ : okJ s
  len : s.length ≤ 8
  deep : deep d 1500 s
  cnt : cnt d 1500 s ≤ 1500
  lv : (leaves d 1500 s).length ≤ 1500

theorem fit14 {d : List Nd} {s : List It} (hd : WFd d) (hf : ∀ n ∈ d, n.s.size ≤ 1000000) (h : fitsB d s = true) : Fit14 d s := by
  simp only [fitsB, Bool.and_eq_true, decide_eq_true_eq] at h
  obtain ⟨h1, h2, h3, h4⟩ := h
  have hs := steps_deep d 1500 s 1500 (by omega) (by omega) h4
  have hc := steps_cnt d 1500 s 1500 (by omega) (by omega) h4
  exact ⟨hd, okSt_gd hd hf h3, okSt_okJ h3, by omega, hs.1, by omega, by omega⟩

section
variable {d : List Nd} {s : List It}
theorem Fit14.heads (F : Fit14 d s) : Ret Tryd.prog glD 15 [.agg (dC d), .c (stC s)] (.c (brC (headsS d 1500 s))) :=
  heads15_ret d F.wf 1500 s F.deep F.gd F.okJ (by have := F.len; omega) (by have := F.cnt; omega) (by have := F.lv; omega)
theorem Fit14.headsR (F : Fit14 d s) (gl : Gl) : Ret Tryd.prog gl 16 [.agg (dC d), .c (stC s)] (.c (brC (headsS d 1500 s))) :=
  headsR_ret gl d F.wf 1500 s F.deep F.gd (by have := F.len; omega) (by have := F.lv; omega)
theorem Fit14.ok (F : Fit14 d s) : OkL (headsS d 1500 s) 1500 := by
  have h := addL_ok (leaves d 1500 s) (l := []) (n := 0) ⟨fun x hx => (by cases hx), fun x hx => (by cases hx), Nat.le_refl _⟩ fun t ht => by
    have := (leaves_len F.wf 1500 s F.gd t ht).2
    have := F.len
    omega
  exact ⟨h.short, h.many, by have := h.len; have := F.lv; simp only [headsS]; omega⟩
theorem Fit14.open_ (F : Fit14 d s) (gl : Gl) (hr : rdy d s = false) : Ret Tryd.prog gl 17 [.agg (dC d), .c (stC s)] (.c (ssS (openS d s))) := by
  obtain ⟨x, t, rfl⟩ := rdy_false hr
  exact open17_ret gl d F.wf x t (F.gd x (by simp)) (F.okJ x (by simp)).1 hr (by have := F.len; simp at this; omega)
theorem Fit14.openR (F : Fit14 d s) (gl : Gl) (hr : rdy d s = false) : Ret Tryd.prog gl 18 [.agg (dC d), .c (stC s)] (.c (ssS (openS d s))) :=
  open_ret' gl d s F.gd hr (by have := F.len; omega)
end

end Go.Proofs.YtilhjiopbbbgmaaDoor

/- On, Ends, Classes, Read, as contracts at a state that fits. -/
namespace Go.Proofs.YtilhjiopbbbgmaaDoor
open Nat renaming reduceSub → R1, reduceMul → R2, reduceLeDiff → R3, reducePow → R4, reduceBEq → R5, reduceAdd → R6, reduceEqDiff → R7
open Int renaming reduceToNat → R9
open Go Go.RowKit Am
set_option linter.unusedVariables false
set_option linter.unusedSimpArgs false
set_option maxHeartbeats 4000000
attribute [local irreducible] AWp AOps

theorem on25_ret (d : List Nd) (hd : WFd d) (hcw : ∀ n ∈ d, CW n) (hsz : ∀ n ∈ d, n.s.size ≤ 1000000) (k : Nat) (s : List It) (c : Nat) (hc : c < 256) (hdp : deep d k s) (hs : gd d s) (hj : okJ s) (hl : s.length + k ≤ 100000) (hn : cnt d k s ≤ 1000000) (hlv : (leaves d k s).length ≤ 1000000)
    (hfo : OkS d s) : Ret Tryd.prog glN 25 [.agg (dC d), .c (stC s), .c (.v (.int .u8 (c : Int)))] (.c (brC (onS d k s c))) := by
  refine ⟨callF Tryd.func25 (by kernel_rfl) rfl, fun w G vs hG hgl hrep => ?_⟩
  obtain ⟨vd, v, hvs, hvd, hv⟩ : ∃ vd v, vs = #[.agg #[vd], v, .int .u8 (c : Int)] ∧ RepL w G (dC d) [vd] ∧ RepC w G (stC s) v := by
    obtain ⟨l⟩ := vs
    match l, hrep with
    | [a, b, z], ⟨⟨ys, e, h1⟩, h2, h3, _⟩ =>
      obtain ⟨ys⟩ := ys
      simp only [RepT, RepC] at h3
      match ys, h1 with
      | [y], h1 => exact ⟨y, b, by rw [e, h3.1], h1, h2⟩
      | [], h1 => exact h1.elim
      | _ :: _ :: _, h1 => exact h1.2.elim
  subst hvs
  refine (on25_c d hd hcw hsz k s c hc w G vd v hdp hs hj hl hn hlv hfo hG hgl hvd hv).mono ?_
  rintro e w' ⟨v, rfl, hb, G', h1, h2, h3, hr⟩
  exact ⟨v, rfl, hb, fun h => h.elim, G', h1, h2, h3, hr⟩

/-- What a state that fits is good for, where the next byte is read. -/
structure FitN (d : List Nd) (s : List It) : Prop extends Fit14 d s where
  cw : ∀ n ∈ d, CW n
  sz : ∀ n ∈ d, n.s.size ≤ 1000000
  fo : OkS d s

theorem fitN {d : List Nd} {s : List It} (hd : WFd d) (hf : ∀ n ∈ d, n.s.size ≤ 1000000) (hcw : ∀ n ∈ d, CW n) (h : fitsB d s = true) : FitN d s := by
  have F := fit14 hd hf h
  simp only [fitsB, Bool.and_eq_true] at h
  exact { F with cw := hcw, sz := hf, fo := (okSt_iff d s).1 h.2.2.1 }

section
variable {d : List Nd} {s : List It} (F : FitN d s)
include F
theorem FitN.on (c : Nat) (hc : c < 256) : Ret Tryd.prog glN 25 [.agg (dC d), .c (stC s), .c (.v (.int .u8 (c : Int)))] (.c (brC (onS d 1500 s c))) :=
  on25_ret d F.wf F.cw F.sz 1500 s c hc F.deep F.gd F.okJ (by have := F.len; omega) (by have := F.cnt; omega) (by have := F.lv; omega) F.fo
theorem FitN.hlen : (headsS d 1500 s).length ≤ 1500 := by
  have := heads_len' F.wf F.gd (k := 1500) (by have := F.len; omega)
  have := F.lv
  omega
theorem FitN.hok : ∀ b ∈ headsS d 1500 s, OkS d b.to := fun b hb => (okS_leaves F.wf 1500 F.fo _ (heads_mem hb)).1
theorem FitN.ends : Ret Tryd.prog glN 45 [.agg (dC d), .c (stC s)] (iv (endsF (headsS d 1500 s))) :=
  ends45_ret glN d s _ (ofD F.heads) (by have := F.hlen; omega)
theorem FitN.classes : Ret Tryd.prog glN 23 [.agg (dC d), .c (stC s)] (.c (clS (classesF d (headsS d 1500 s)))) :=
  classes23_ret glN d F.wf F.cw s _ (ofD F.heads) F.hlen F.hok
theorem FitN.read (c : Nat) (hc : c < 256) : Ret Tryd.prog glN 28 [.agg (dC d), .c (stC s), .c (.v (.int .u8 (c : Int)))] (.tup [.c (stC ((readF d c s).getD [])), bv (readF d c s).isSome]) :=
  read28_ret d F.wf F.cw F.sz s (by have := F.len; omega) (okS_itOk F.wf F.sz F.fo) F.fo c hc
/-- What one goes on to is short, few, in 1 or 2 ways, and has its form. -/
theorem FitN.onok (c : Nat) (hc : c < 256) : (onS d 1500 s c).length ≤ 3000 ∧ ∀ b ∈ onS d 1500 s c, b.to.length ≤ 2000 ∧ (1 ≤ b.many ∧ b.many ≤ 2) ∧ OkS d b.to := by
  have hL := addL_is (goesL d c (headsS d 1500 s)) is_nil.1 is_nil.2
  have hmem : ∀ b ∈ onS d 1500 s c, b.to ∈ goesL d c (headsS d 1500 s) ∧ b.many = mn ((goesL d c (headsS d 1500 s)).count b.to) := fun b hb => by
    have := (hL.2 b).1 hb
    simpa using this
  have hlen : ∀ hs : List Br, (∀ b ∈ hs, b.many ≤ 2) → (goesL d c hs).length ≤ 2 * hs.length := fun hs => by
    induction hs with
    | nil => intro _; simp [goesL]
    | cons b hs ih =>
      intro h
      have h1 := h b (by simp)
      have h2 := ih fun x hx => h x (by simp [hx])
      have e : goesL d c (b :: hs) = (match readF d c b.to with | some t => List.replicate b.many.toNat t | none => []) ++ goesL d c hs := rfl
      rw [e, List.length_append, List.length_cons]
      split
      · rw [List.length_replicate]; omega
      · simp; omega
  refine ⟨?_, fun b hb => ?_⟩
  · have h1 := hlen (headsS d 1500 s) fun b hb => (heads_many b hb).2
    have h2 := F.hlen
    have h3 : ∀ (ts : List (List It)) (l : List Br), (addL l ts).length ≤ l.length + ts.length := fun ts => by
      induction ts with
      | nil => intro l; simp [addL]
      | cons t ts ih =>
        intro l
        have a := ih (addB l t 1 false)
        have b := addB_len t 1 l false
        simp only [addL, List.foldl_cons, List.length_cons] at a ⊢
        simp at b
        omega
    have := h3 (goesL d c (headsS d 1500 s)) []
    simp only [onS]
    simp at this
    omega
  · obtain ⟨m1, m2⟩ := hmem b hb
    obtain ⟨h, hh, ht⟩ := List.mem_flatMap.1 m1
    cases e : readF d c h.to with
    | none => rw [e] at ht; cases ht
    | some u =>
      rw [e] at ht
      have e2 := List.eq_of_mem_replicate ht
      have h1 := readF_len e
      have h2 := (leaves_len F.wf 1500 s F.gd _ (heads_mem hh)).2
      have h3 := F.len
      refine ⟨by rw [e2]; omega, ?_, by rw [e2]; exact okS_read F.wf hc (F.hok h hh) e⟩
      have := List.count_pos_iff.2 m1
      rw [m2]
      simp only [mn]
      split <;> omega
omit F in
theorem onS_srt (c : Nat) : srt (onS d 1500 s c) := (addL_is (goesL d c (headsS d 1500 s)) is_nil.1 is_nil.2).1
end

theorem fits15_ret (gl : Gl) (d : List Nd) (s : List It) (h : Ret Tryd.prog gl 11 [.agg (dC d), .c (stC s)] (bv (fitsB d s))) : Ret Tryd.prog gl 22 [.agg (dC d), .c (stC s)] (bv (fitsB d s)) := by
  refine retq (rs := [4]) 8 Tryd.func22 (by kernel_rfl) rfl (by kernel_rfl) rfl (by simp) (by simp) fun Z hN hX hR => ?_
  repeat (first | ((first | refine Q1 ?_ | refine Q2 ?_); intro Z hN hX hR) | refine Q3 (by kernel_rfl) fun K hK => ?_ | ((first | refine Q4 fun R hJ => ?_ | with_reducible change ExpAll _ _ _); simp only [kS, R1, R2, R3, R4, R5, R6, R7, reduceCtorEq, R9, dC_length, dC_take]) | (refine hJ _ ?_; clear hJ R) | refine Q5 ?_ | (refine hK _ ?_; clear hK K) | ((first | refine hN _ ?_ | refine hX _ _ ?_ | refine hR _ ?_); clear hN hX hR Z) | refine Q6 rfl ?_ | refine Q7 (by decide) ?_ | (refine Q8 ?_ ?_; focus (simp only [kS, R1, R2, R3, R4, R5, R6, R7, reduceCtorEq, R9, dC_length, dC_take]; done)) | (refine Q9 ?_ ?_; focus (simp only [kS, R1, R2, R3, R4, R5, R6, R7, reduceCtorEq, R9, dC_length, dC_take]; done)) | refine Qa ?_ | refine Qb ?_ | refine Qc ?_ | refine And.intro (by first | assumption | omega) ?_)
  refine ⟨_, h, rfl, ?_⟩
  simp only [kS, R1, R2, R3, R4, R5, R6, R7, reduceCtorEq, R9, dC_length, dC_take]
  repeat (first | ((first | refine Q1 ?_ | refine Q2 ?_); intro Z hN hX hR) | refine Q3 (by kernel_rfl) fun K hK => ?_ | ((first | refine Q4 fun R hJ => ?_ | with_reducible change ExpAll _ _ _); simp only [kS, R1, R2, R3, R4, R5, R6, R7, reduceCtorEq, R9, dC_length, dC_take]) | (refine hJ _ ?_; clear hJ R) | refine Q5 ?_ | (refine hK _ ?_; clear hK K) | ((first | refine hN _ ?_ | refine hX _ _ ?_ | refine hR _ ?_); clear hN hX hR Z) | refine Q6 rfl ?_ | refine Q7 (by decide) ?_ | (refine Q8 ?_ ?_; focus (simp only [kS, R1, R2, R3, R4, R5, R6, R7, reduceCtorEq, R9, dC_length, dC_take]; done)) | (refine Q9 ?_ ?_; focus (simp only [kS, R1, R2, R3, R4, R5, R6, R7, reduceCtorEq, R9, dC_length, dC_take]; done)) | refine Qa ?_ | refine Qb ?_ | refine Qc ?_ | refine And.intro (by first | assumption | omega) ?_)
  all_goals rfl

theorem start44_ret (gl : Gl) (d : List Nd) (hl : d.length ≤ 1000000) : Ret Tryd.prog gl 44 [.agg (dC d)] (.c (stC [⟨1, (d.length : Int) - 1, 0, 0⟩])) := by
  refine retq (rs := [2]) 9 Tryd.func44 (by kernel_rfl) rfl (by kernel_rfl) rfl (by simp) (by simp) fun Z hN hX hR => ?_
  have hw : IntKind.i64.wrap ((d.length : Int) - 1) = (d.length : Int) - 1 := wrap_i64 (by omega) (by omega)
  repeat (first | ((first | refine Q1 ?_ | refine Q2 ?_); intro Z hN hX hR) | refine Q3 (by kernel_rfl) fun K hK => ?_ | ((first | refine Q4 fun R hJ => ?_ | with_reducible change ExpAll _ _ _); simp only [kS, R1, R2, R3, R4, R5, R6, R7, reduceCtorEq, R9, dC, hw]) | (refine hJ _ ?_; clear hJ R) | refine Q5 ?_ | (refine hK _ ?_; clear hK K) | ((first | refine hN _ ?_ | refine hX _ _ ?_ | refine hR _ ?_); clear hN hX hR Z) | refine Q6 rfl ?_ | refine Q7 (by decide) ?_ | (refine Q8 ?_ ?_; focus (simp only [kS, R1, R2, R3, R4, R5, R6, R7, reduceCtorEq, R9, dC, hw]; done)) | (refine Q9 ?_ ?_; focus (simp only [kS, R1, R2, R3, R4, R5, R6, R7, reduceCtorEq, R9, dC, hw]; done)) | refine Qa ?_ | refine Qb ?_ | refine Qc ?_ | refine And.intro (by first | assumption | omega) ?_)
  all_goals exact .inl rfl

end Go.Proofs.YtilhjiopbbbgmaaDoor

/- The laws of next are awake: the answers that the document fixes are given. -/
namespace Go.Proofs.YtilhjiopbbbgmaaDoor
open Nat renaming reduceSub → R1, reduceMul → R2, reduceLeDiff → R3, reducePow → R4, reduceBEq → R5, reduceAdd → R6, reduceEqDiff → R7
open Int renaming reduceToNat → R9
open Go Go.RowKit Am
set_option linter.unusedVariables false
set_option linter.unusedSimpArgs false
set_option maxHeartbeats 4000000
attribute [local irreducible] AWp AOps

abbrev bN : Nd := ⟨2, 0, 0, 0, 0, 96, 0, 0, 0, ⟨#[]⟩⟩
abbrev bDn : List Nd := [bN]
abbrev twoDn : List Nd := [bN, bN, nd0 5 0 1 0 0]
abbrev fDn : List Nd := [bN, nd0 8 0 0 0 0]

theorem ws56 : ws (rowN 5 6 256) = [.v (.int .u64 96), .v (.int .u64 0), .v (.int .u64 0), .v (.int .u64 0)] := by
  have h : rowN 5 6 256 0 = 96 ∧ rowN 5 6 256 1 = 0 ∧ rowN 5 6 256 2 = 0 ∧ rowN 5 6 256 3 = 0 := by decide +kernel
  simp only [ws, h.1, h.2.1, h.2.2.1, h.2.2.2]
  rfl
theorem cw_bN : CW bN := ⟨by decide, by decide, by decide, by decide⟩
theorem cw_nd0 (k a b lo hi : Int) : CW (nd0 k a b lo hi) := ⟨by simp, by simp, by simp, by simp⟩
theorem wf_bn : WFd bDn := by
  refine ⟨by decide, by decide, fun n hn => ?_⟩
  simp only [bDn, List.mem_cons, List.not_mem_nil, or_false] at hn
  rcases hn with rfl; simp [okNd]
theorem wf_twon : WFd twoDn := by
  refine ⟨by decide, by decide, fun n hn => ?_⟩
  simp only [twoDn, List.mem_cons, List.not_mem_nil, or_false] at hn
  rcases hn with rfl | rfl | rfl <;> simp [okNd]
theorem wf_fn : WFd fDn := by
  refine ⟨by decide, by decide, fun n hn => ?_⟩
  simp only [fDn, List.mem_cons, List.not_mem_nil, or_false] at hn
  rcases hn with rfl | rfl <;> simp [okNd]
theorem cw_bn : ∀ n ∈ bDn, CW n := by
  intro n hn
  simp only [bDn, List.mem_cons, List.not_mem_nil, or_false] at hn
  rcases hn with rfl; exact cw_bN
theorem cw_twon : ∀ n ∈ twoDn, CW n := by
  intro n hn
  simp only [twoDn, List.mem_cons, List.not_mem_nil, or_false] at hn
  rcases hn with rfl | rfl | rfl <;> first | exact cw_bN | exact cw_nd0 _ _ _ _ _
theorem cw_fn : ∀ n ∈ fDn, CW n := by
  intro n hn
  simp only [fDn, List.mem_cons, List.not_mem_nil, or_false] at hn
  rcases hn with rfl | rfl <;> first | exact cw_bN | exact cw_nd0 _ _ _ _ _
theorem sz_bn : ∀ n ∈ bDn, n.s.size ≤ 1000000 := by
  intro n hn
  simp only [bDn, List.mem_cons, List.not_mem_nil, or_false] at hn
  rcases hn with rfl; decide
theorem sz_twon : ∀ n ∈ twoDn, n.s.size ≤ 1000000 := by
  intro n hn
  simp only [twoDn, List.mem_cons, List.not_mem_nil, or_false] at hn
  rcases hn with rfl | rfl | rfl <;> decide
theorem sz_fn : ∀ n ∈ fDn, n.s.size ≤ 1000000 := by
  intro n hn
  simp only [fDn, List.mem_cons, List.not_mem_nil, or_false] at hn
  rcases hn with rfl | rfl <;> decide

theorem gd_startN {d : List Nd} (h : 0 < d.length) : gd d [⟨1, (d.length : Int) - 1, 0, 0⟩] := by
  intro x hx
  simp only [List.mem_singleton] at hx
  subst hx
  exact ⟨⟨by simp only; omega, by simp only; omega⟩, by simp, by simp, by simp⟩
theorem okJ_startN (n : Int) : okJ [⟨1, n, 0, 0⟩] := by
  intro x hx
  simp only [List.mem_singleton] at hx
  subst hx
  exact ⟨by simp, by simp⟩
theorem okS_startN {d : List Nd} (h : 0 < d.length) : OkS d [⟨1, (d.length : Int) - 1, 0, 0⟩] := by
  intro x hx
  simp only [List.mem_singleton] at hx
  subst hx
  exact .inr ⟨⟨by simp only; omega, by simp only; omega⟩, .inl ⟨rfl, rfl, rfl⟩⟩
theorem litn0 : ((0 : Nat) : Int) = 0 := rfl
theorem litn1 : ((1 : Nat) : Int) = 1 := rfl
theorem litn2 : ((2 : Nat) : Int) = 2 := rfl
theorem litn256 : ((256 : Nat) : Int) = 256 := rfl

theorem awake15_ret : Ret Tryd.prog glN 21 [] (bv true) := by
  have hrow : Ret Tryd.prog glN 43 [.c (.v (.int .u8 5)), .c (.v (.int .u8 6))] (.agg [.v (.int .u64 96), .v (.int .u64 0), .v (.int .u64 0), .v (.int .u64 0)]) := by
    have := row43_ret glN (fun h => h) 5 6 (by decide) (by decide)
    rw [ws56] at this
    exact this
  have hpr : Ret Tryd.prog glN 30 [iv 5, .agg (dC bDn), .agg (dC bDn)] (.agg (dC twoDn)) := pair_ret glN 5 bDn bDn (by decide) (by decide) (by simp) (by simp) (by decide) (by decide)
  have hwr : Ret Tryd.prog glN 29 [iv 8, iv 0, iv 0, .agg (dC bDn)] (.agg (dC fDn)) := wrap_ret glN 8 0 0 bDn (by decide) (by simp) (by decide)
  have hst2 : Ret Tryd.prog glN 44 [.agg (dC twoDn)] (.c (stC [⟨1, 2, 0, 0⟩])) := start44_ret glN twoDn (by decide)
  have hstf : Ret Tryd.prog glN 44 [.agg (dC fDn)] (.c (stC [⟨1, 1, 0, 0⟩])) := start44_ret glN fDn (by decide)
  have hstb : Ret Tryd.prog glN 44 [.agg (dC bDn)] (.c (stC [⟨1, 0, 0, 0⟩])) := start44_ret glN bDn (by decide)
  have e1 : onS twoDn 3 [⟨1, 2, 0, 0⟩] 5 = [⟨[], 2⟩] := by decide +kernel
  have e2 : onS fDn 2 [⟨1, 1, 0, 0⟩] 7 = [⟨[⟨1, 0, 0, 0⟩, ⟨5, 0, 7, 0⟩], 1⟩] := by decide +kernel
  have r1 : readF bDn 6 [⟨1, 0, 0, 0⟩] = some [] := by decide +kernel
  have r2 : readF bDn 7 [⟨1, 0, 0, 0⟩] = none := by decide +kernel
  have r3 : readF bDn 5 [⟨1, 0, 0, 0⟩, ⟨5, 0, 0, 0⟩] = none := by decide +kernel
  have h0 : headsS bDn 2 [] = [⟨[], 1⟩] := by decide +kernel
  have h1 : headsS bDn 2 [⟨1, 0, 0, 0⟩] = [⟨[⟨1, 0, 0, 0⟩], 1⟩] := by decide +kernel
  have h2 : headsS fDn 2 [⟨1, 1, 0, 0⟩] = [⟨[⟨1, 1, 0, 0⟩], 1⟩] := by decide +kernel
  have ho := on25_ret twoDn wf_twon cw_twon sz_twon 3 [⟨1, 2, 0, 0⟩] 5 (by decide) (by simp [deep, rdy, openS, nd]) (gd_startN (d := twoDn) (by decide)) (okJ_startN 2) (by decide) (by decide) (by decide) (okS_startN (d := twoDn) (by decide))
  have hp := on25_ret fDn wf_fn cw_fn sz_fn 2 [⟨1, 1, 0, 0⟩] 7 (by decide) (by simp [deep, rdy, openS, nd]) (gd_startN (d := fDn) (by decide)) (okJ_startN 1) (by decide) (by decide) (by decide) (okS_startN (d := fDn) (by decide))
  rw [e1] at ho
  rw [e2] at hp
  have okb := okS_startN (d := bDn) (by decide)
  have hr6 := read28_ret bDn wf_bn cw_bn sz_bn [⟨1, 0, 0, 0⟩] (by decide) (okS_itOk wf_bn sz_bn okb) okb 6 (by decide)
  have hr7 := read28_ret bDn wf_bn cw_bn sz_bn [⟨1, 0, 0, 0⟩] (by decide) (okS_itOk wf_bn sz_bn okb) okb 7 (by decide)
  have oks : OkS bDn [⟨1, 0, 0, 0⟩, ⟨5, 0, 0, 0⟩] := OkS.cons (okb _ (by simp)) (OkS.cons (.inl ⟨rfl, rfl, rfl, by decide, by decide⟩) (fun y hy => by cases hy))
  have hshut := read28_ret bDn wf_bn cw_bn sz_bn [⟨1, 0, 0, 0⟩, ⟨5, 0, 0, 0⟩] (by decide) (okS_itOk wf_bn sz_bn oks) oks 5 (by decide)
  rw [r1] at hr6
  rw [r2] at hr7
  rw [r3] at hshut
  have hh0 := heads15_ret bDn wf_bn 2 [] (by simp [deep, rdy]) (fun x hx => by cases hx) (fun x hx => by cases hx) (by decide) (by decide) (by decide)
  have hh1 := heads15_ret bDn wf_bn 2 [⟨1, 0, 0, 0⟩] (by simp [deep, rdy, nd]) (gd_startN (d := bDn) (by decide)) (okJ_startN 0) (by decide) (by decide) (by decide)
  have hh2 := heads15_ret fDn wf_fn 2 [⟨1, 1, 0, 0⟩] (by simp [deep, rdy, nd]) (gd_startN (d := fDn) (by decide)) (okJ_startN 1) (by decide) (by decide) (by decide)
  rw [h0] at hh0
  rw [h1] at hh1
  rw [h2] at hh2
  have he0 := ends45_ret glN bDn [] _ (ofD hh0) (by decide)
  have he1 := ends45_ret glN bDn [⟨1, 0, 0, 0⟩] _ (ofD hh1) (by decide)
  have hcb := classes23_ret glN bDn wf_bn cw_bn [⟨1, 0, 0, 0⟩] _ (ofD hh1) (by decide) (fun b hb => by simp only [List.mem_singleton] at hb; subst hb; exact okb)
  have okf := okS_startN (d := fDn) (by decide)
  have hcf := classes23_ret glN fDn wf_fn cw_fn [⟨1, 1, 0, 0⟩] _ (ofD hh2) (by decide) (fun b hb => by simp only [List.mem_singleton] at hb; subst hb; exact okf)
  have hc1 : (classesF bDn [⟨[⟨1, 0, 0, 0⟩], 1⟩]).length = 1 := rfl
  have hc256 : (classesF fDn [⟨[⟨1, 1, 0, 0⟩], 1⟩]).length = 256 := by
    have : classesF fDn [⟨[⟨1, 1, 0, 0⟩], 1⟩] = singles 256 := by simp [classesF, clsF, nd]
    rw [this, singles_length]
  have ho : Ret Tryd.prog glN 25 [.agg (dC twoDn), .c (.sl 1 [.v (.int .i64 1), .v (.int .i64 2), .v (.int .i64 0), .v (.int .i64 0)]), .c (.v (.int .u8 5))] (.c (.sl 1 [.sl 0 [], .v (.int .i64 2)])) := ho
  have hp : Ret Tryd.prog glN 25 [.agg (dC fDn), .c (.sl 1 [.v (.int .i64 1), .v (.int .i64 1), .v (.int .i64 0), .v (.int .i64 0)]), .c (.v (.int .u8 7))] (.c (.sl 1 [.sl 2 [.v (.int .i64 1), .v (.int .i64 0), .v (.int .i64 0), .v (.int .i64 0), .v (.int .i64 5), .v (.int .i64 0), .v (.int .i64 7), .v (.int .i64 0)], .v (.int .i64 1)])) := hp
  have hst2 : Ret Tryd.prog glN 44 [.agg (dC twoDn)] (.c (.sl 1 [.v (.int .i64 1), .v (.int .i64 2), .v (.int .i64 0), .v (.int .i64 0)])) := hst2
  have hstf : Ret Tryd.prog glN 44 [.agg (dC fDn)] (.c (.sl 1 [.v (.int .i64 1), .v (.int .i64 1), .v (.int .i64 0), .v (.int .i64 0)])) := hstf
  have hstb : Ret Tryd.prog glN 44 [.agg (dC bDn)] (.c (.sl 1 [.v (.int .i64 1), .v (.int .i64 0), .v (.int .i64 0), .v (.int .i64 0)])) := hstb
  have hr6 : Ret Tryd.prog glN 28 [.agg (dC bDn), .c (.sl 1 [.v (.int .i64 1), .v (.int .i64 0), .v (.int .i64 0), .v (.int .i64 0)]), .c (.v (.int .u8 6))] (.tup [.c (.sl 0 []), bv true]) := hr6
  have hr7 : Ret Tryd.prog glN 28 [.agg (dC bDn), .c (.sl 1 [.v (.int .i64 1), .v (.int .i64 0), .v (.int .i64 0), .v (.int .i64 0)]), .c (.v (.int .u8 7))] (.tup [.c (.sl 0 []), bv false]) := hr7
  have hshut : Ret Tryd.prog glN 28 [.agg (dC bDn), .c (.sl 2 [.v (.int .i64 1), .v (.int .i64 0), .v (.int .i64 0), .v (.int .i64 0), .v (.int .i64 5), .v (.int .i64 0), .v (.int .i64 0), .v (.int .i64 0)]), .c (.v (.int .u8 5))] (.tup [.c (.sl 0 []), bv false]) := hshut
  have he0 : Ret Tryd.prog glN 45 [.agg (dC bDn), .c (.sl 0 [])] (iv 1) := he0
  have he1 : Ret Tryd.prog glN 45 [.agg (dC bDn), .c (.sl 1 [.v (.int .i64 1), .v (.int .i64 0), .v (.int .i64 0), .v (.int .i64 0)])] (iv 0) := he1
  rw [show clS (classesF bDn [⟨[⟨1, 0, 0, 0⟩], 1⟩]) = .sl 1 (clC (classesF bDn [⟨[⟨1, 0, 0, 0⟩], 1⟩])) from rfl] at hcb
  rw [show clS (classesF fDn [⟨[⟨1, 1, 0, 0⟩], 1⟩]) = .sl 256 (clC (classesF fDn [⟨[⟨1, 1, 0, 0⟩], 1⟩])) by rw [← hc256]] at hcf
  generalize clC (classesF bDn [⟨[⟨1, 0, 0, 0⟩], 1⟩]) = cb at hcb
  generalize clC (classesF fDn [⟨[⟨1, 1, 0, 0⟩], 1⟩]) = cf at hcf
  have hcb : Ret Tryd.prog glN 23 [.agg (dC bDn), .c (.sl 1 [.v (.int .i64 1), .v (.int .i64 0), .v (.int .i64 0), .v (.int .i64 0)])] (.c (.sl 1 cb)) := hcb
  have hcf : Ret Tryd.prog glN 23 [.agg (dC fDn), .c (.sl 1 [.v (.int .i64 1), .v (.int .i64 1), .v (.int .i64 0), .v (.int .i64 0)])] (.c (.sl 256 cf)) := hcf
  clear e1 e2 r1 r2 r3 h0 h1 h2 hh0 hh1 hh2 okb okf oks hc1 hc256
  refine retq (rs := [0]) 151 Tryd.func21 (by kernel_rfl) rfl (by kernel_rfl) rfl (by simp) (by simp) fun Z hN hX hR => ?_
  repeat (first | ((first | refine Q1 ?_ | refine Q2 ?_); intro Z hN hX hR) | refine Q3 (by kernel_rfl) fun K hK => ?_ | ((first | refine Q4 fun R hJ => ?_ | with_reducible change ExpAll _ _ _); simp only [kS, R1, R2, R3, R4, R5, R6, R7, reduceCtorEq, R9, litn0, litn1, litn2, litn256, tk1, tk2, tk3, tk4, tk5, tk6, tk7, tk8, and_false, false_and, dC_length, dC_take, Int.reduceBEq, Int.reduceBNe, bne_self_eq_false, Bool.not_false, Bool.not_true, Bool.and_self, Int.reduceLT, Int.reduceLE, List.drop_succ_cons]) | (refine hJ _ ?_; clear hJ R) | refine Q5 ?_ | (refine hK _ ?_; clear hK K) | ((first | refine hN _ ?_ | refine hX _ _ ?_ | refine hR _ ?_); clear hN hX hR Z) | refine Q6 rfl ?_ | refine Q7 (by decide) ?_ | (refine Q8 ?_ ?_; focus (simp only [kS, R1, R2, R3, R4, R5, R6, R7, reduceCtorEq, R9, litn0, litn1, litn2, litn256, tk1, tk2, tk3, tk4, tk5, tk6, tk7, tk8, and_false, false_and, dC_length, dC_take, Int.reduceBEq, Int.reduceBNe, bne_self_eq_false, Bool.not_false, Bool.not_true, Bool.and_self, Int.reduceLT, Int.reduceLE, List.drop_succ_cons]; done)) | (refine Q9 ?_ ?_; focus (simp only [kS, R1, R2, R3, R4, R5, R6, R7, reduceCtorEq, R9, litn0, litn1, litn2, litn256, tk1, tk2, tk3, tk4, tk5, tk6, tk7, tk8, and_false, false_and, dC_length, dC_take, Int.reduceBEq, Int.reduceBNe, bne_self_eq_false, Bool.not_false, Bool.not_true, Bool.and_self, Int.reduceLT, Int.reduceLE, List.drop_succ_cons]; done)) | refine Qa ?_ | refine Qb ?_ | refine Qc ?_ | refine And.intro (by first | assumption | omega) ?_)
  refine ⟨_, hrow, rfl, ?_⟩
  try simp only [kS, R1, R2, R3, R4, R5, R6, R7, reduceCtorEq, R9, litn0, litn1, litn2, litn256, tk1, tk2, tk3, tk4, tk5, tk6, tk7, tk8, and_false, false_and, dC_length, dC_take, Int.reduceBEq, Int.reduceBNe, bne_self_eq_false, Bool.not_false, Bool.not_true, Bool.and_self, Int.reduceLT, Int.reduceLE, List.drop_succ_cons]
  repeat (first | ((first | refine Q1 ?_ | refine Q2 ?_); intro Z hN hX hR) | refine Q3 (by kernel_rfl) fun K hK => ?_ | ((first | refine Q4 fun R hJ => ?_ | with_reducible change ExpAll _ _ _); simp only [kS, R1, R2, R3, R4, R5, R6, R7, reduceCtorEq, R9, litn0, litn1, litn2, litn256, tk1, tk2, tk3, tk4, tk5, tk6, tk7, tk8, and_false, false_and, dC_length, dC_take, Int.reduceBEq, Int.reduceBNe, bne_self_eq_false, Bool.not_false, Bool.not_true, Bool.and_self, Int.reduceLT, Int.reduceLE, List.drop_succ_cons]) | (refine hJ _ ?_; clear hJ R) | refine Q5 ?_ | (refine hK _ ?_; clear hK K) | ((first | refine hN _ ?_ | refine hX _ _ ?_ | refine hR _ ?_); clear hN hX hR Z) | refine Q6 rfl ?_ | refine Q7 (by decide) ?_ | (refine Q8 ?_ ?_; focus (simp only [kS, R1, R2, R3, R4, R5, R6, R7, reduceCtorEq, R9, litn0, litn1, litn2, litn256, tk1, tk2, tk3, tk4, tk5, tk6, tk7, tk8, and_false, false_and, dC_length, dC_take, Int.reduceBEq, Int.reduceBNe, bne_self_eq_false, Bool.not_false, Bool.not_true, Bool.and_self, Int.reduceLT, Int.reduceLE, List.drop_succ_cons]; done)) | (refine Q9 ?_ ?_; focus (simp only [kS, R1, R2, R3, R4, R5, R6, R7, reduceCtorEq, R9, litn0, litn1, litn2, litn256, tk1, tk2, tk3, tk4, tk5, tk6, tk7, tk8, and_false, false_and, dC_length, dC_take, Int.reduceBEq, Int.reduceBNe, bne_self_eq_false, Bool.not_false, Bool.not_true, Bool.and_self, Int.reduceLT, Int.reduceLE, List.drop_succ_cons]; done)) | refine Qa ?_ | refine Qb ?_ | refine Qc ?_ | refine And.intro (by first | assumption | omega) ?_)
  refine ⟨_, hpr, rfl, ?_⟩
  try simp only [kS, R1, R2, R3, R4, R5, R6, R7, reduceCtorEq, R9, litn0, litn1, litn2, litn256, tk1, tk2, tk3, tk4, tk5, tk6, tk7, tk8, and_false, false_and, dC_length, dC_take, Int.reduceBEq, Int.reduceBNe, bne_self_eq_false, Bool.not_false, Bool.not_true, Bool.and_self, Int.reduceLT, Int.reduceLE, List.drop_succ_cons]
  repeat (first | ((first | refine Q1 ?_ | refine Q2 ?_); intro Z hN hX hR) | refine Q3 (by kernel_rfl) fun K hK => ?_ | ((first | refine Q4 fun R hJ => ?_ | with_reducible change ExpAll _ _ _); simp only [kS, R1, R2, R3, R4, R5, R6, R7, reduceCtorEq, R9, litn0, litn1, litn2, litn256, tk1, tk2, tk3, tk4, tk5, tk6, tk7, tk8, and_false, false_and, dC_length, dC_take, Int.reduceBEq, Int.reduceBNe, bne_self_eq_false, Bool.not_false, Bool.not_true, Bool.and_self, Int.reduceLT, Int.reduceLE, List.drop_succ_cons]) | (refine hJ _ ?_; clear hJ R) | refine Q5 ?_ | (refine hK _ ?_; clear hK K) | ((first | refine hN _ ?_ | refine hX _ _ ?_ | refine hR _ ?_); clear hN hX hR Z) | refine Q6 rfl ?_ | refine Q7 (by decide) ?_ | (refine Q8 ?_ ?_; focus (simp only [kS, R1, R2, R3, R4, R5, R6, R7, reduceCtorEq, R9, litn0, litn1, litn2, litn256, tk1, tk2, tk3, tk4, tk5, tk6, tk7, tk8, and_false, false_and, dC_length, dC_take, Int.reduceBEq, Int.reduceBNe, bne_self_eq_false, Bool.not_false, Bool.not_true, Bool.and_self, Int.reduceLT, Int.reduceLE, List.drop_succ_cons]; done)) | (refine Q9 ?_ ?_; focus (simp only [kS, R1, R2, R3, R4, R5, R6, R7, reduceCtorEq, R9, litn0, litn1, litn2, litn256, tk1, tk2, tk3, tk4, tk5, tk6, tk7, tk8, and_false, false_and, dC_length, dC_take, Int.reduceBEq, Int.reduceBNe, bne_self_eq_false, Bool.not_false, Bool.not_true, Bool.and_self, Int.reduceLT, Int.reduceLE, List.drop_succ_cons]; done)) | refine Qa ?_ | refine Qb ?_ | refine Qc ?_ | refine And.intro (by first | assumption | omega) ?_)
  refine ⟨_, hwr, rfl, ?_⟩
  try simp only [kS, R1, R2, R3, R4, R5, R6, R7, reduceCtorEq, R9, litn0, litn1, litn2, litn256, tk1, tk2, tk3, tk4, tk5, tk6, tk7, tk8, and_false, false_and, dC_length, dC_take, Int.reduceBEq, Int.reduceBNe, bne_self_eq_false, Bool.not_false, Bool.not_true, Bool.and_self, Int.reduceLT, Int.reduceLE, List.drop_succ_cons]
  repeat (first | ((first | refine Q1 ?_ | refine Q2 ?_); intro Z hN hX hR) | refine Q3 (by kernel_rfl) fun K hK => ?_ | ((first | refine Q4 fun R hJ => ?_ | with_reducible change ExpAll _ _ _); simp only [kS, R1, R2, R3, R4, R5, R6, R7, reduceCtorEq, R9, litn0, litn1, litn2, litn256, tk1, tk2, tk3, tk4, tk5, tk6, tk7, tk8, and_false, false_and, dC_length, dC_take, Int.reduceBEq, Int.reduceBNe, bne_self_eq_false, Bool.not_false, Bool.not_true, Bool.and_self, Int.reduceLT, Int.reduceLE, List.drop_succ_cons]) | (refine hJ _ ?_; clear hJ R) | refine Q5 ?_ | (refine hK _ ?_; clear hK K) | ((first | refine hN _ ?_ | refine hX _ _ ?_ | refine hR _ ?_); clear hN hX hR Z) | refine Q6 rfl ?_ | refine Q7 (by decide) ?_ | (refine Q8 ?_ ?_; focus (simp only [kS, R1, R2, R3, R4, R5, R6, R7, reduceCtorEq, R9, litn0, litn1, litn2, litn256, tk1, tk2, tk3, tk4, tk5, tk6, tk7, tk8, and_false, false_and, dC_length, dC_take, Int.reduceBEq, Int.reduceBNe, bne_self_eq_false, Bool.not_false, Bool.not_true, Bool.and_self, Int.reduceLT, Int.reduceLE, List.drop_succ_cons]; done)) | (refine Q9 ?_ ?_; focus (simp only [kS, R1, R2, R3, R4, R5, R6, R7, reduceCtorEq, R9, litn0, litn1, litn2, litn256, tk1, tk2, tk3, tk4, tk5, tk6, tk7, tk8, and_false, false_and, dC_length, dC_take, Int.reduceBEq, Int.reduceBNe, bne_self_eq_false, Bool.not_false, Bool.not_true, Bool.and_self, Int.reduceLT, Int.reduceLE, List.drop_succ_cons]; done)) | refine Qa ?_ | refine Qb ?_ | refine Qc ?_ | refine And.intro (by first | assumption | omega) ?_)
  refine ⟨_, hst2, rfl, ?_⟩
  try simp only [kS, R1, R2, R3, R4, R5, R6, R7, reduceCtorEq, R9, litn0, litn1, litn2, litn256, tk1, tk2, tk3, tk4, tk5, tk6, tk7, tk8, and_false, false_and, dC_length, dC_take, Int.reduceBEq, Int.reduceBNe, bne_self_eq_false, Bool.not_false, Bool.not_true, Bool.and_self, Int.reduceLT, Int.reduceLE, List.drop_succ_cons]
  repeat (first | ((first | refine Q1 ?_ | refine Q2 ?_); intro Z hN hX hR) | refine Q3 (by kernel_rfl) fun K hK => ?_ | ((first | refine Q4 fun R hJ => ?_ | with_reducible change ExpAll _ _ _); simp only [kS, R1, R2, R3, R4, R5, R6, R7, reduceCtorEq, R9, litn0, litn1, litn2, litn256, tk1, tk2, tk3, tk4, tk5, tk6, tk7, tk8, and_false, false_and, dC_length, dC_take, Int.reduceBEq, Int.reduceBNe, bne_self_eq_false, Bool.not_false, Bool.not_true, Bool.and_self, Int.reduceLT, Int.reduceLE, List.drop_succ_cons]) | (refine hJ _ ?_; clear hJ R) | refine Q5 ?_ | (refine hK _ ?_; clear hK K) | ((first | refine hN _ ?_ | refine hX _ _ ?_ | refine hR _ ?_); clear hN hX hR Z) | refine Q6 rfl ?_ | refine Q7 (by decide) ?_ | (refine Q8 ?_ ?_; focus (simp only [kS, R1, R2, R3, R4, R5, R6, R7, reduceCtorEq, R9, litn0, litn1, litn2, litn256, tk1, tk2, tk3, tk4, tk5, tk6, tk7, tk8, and_false, false_and, dC_length, dC_take, Int.reduceBEq, Int.reduceBNe, bne_self_eq_false, Bool.not_false, Bool.not_true, Bool.and_self, Int.reduceLT, Int.reduceLE, List.drop_succ_cons]; done)) | (refine Q9 ?_ ?_; focus (simp only [kS, R1, R2, R3, R4, R5, R6, R7, reduceCtorEq, R9, litn0, litn1, litn2, litn256, tk1, tk2, tk3, tk4, tk5, tk6, tk7, tk8, and_false, false_and, dC_length, dC_take, Int.reduceBEq, Int.reduceBNe, bne_self_eq_false, Bool.not_false, Bool.not_true, Bool.and_self, Int.reduceLT, Int.reduceLE, List.drop_succ_cons]; done)) | refine Qa ?_ | refine Qb ?_ | refine Qc ?_ | refine And.intro (by first | assumption | omega) ?_)
  refine ⟨_, ho, rfl, ?_⟩
  try simp only [kS, R1, R2, R3, R4, R5, R6, R7, reduceCtorEq, R9, litn0, litn1, litn2, litn256, tk1, tk2, tk3, tk4, tk5, tk6, tk7, tk8, and_false, false_and, dC_length, dC_take, Int.reduceBEq, Int.reduceBNe, bne_self_eq_false, Bool.not_false, Bool.not_true, Bool.and_self, Int.reduceLT, Int.reduceLE, List.drop_succ_cons]
  repeat (first | ((first | refine Q1 ?_ | refine Q2 ?_); intro Z hN hX hR) | refine Q3 (by kernel_rfl) fun K hK => ?_ | ((first | refine Q4 fun R hJ => ?_ | with_reducible change ExpAll _ _ _); simp only [kS, R1, R2, R3, R4, R5, R6, R7, reduceCtorEq, R9, litn0, litn1, litn2, litn256, tk1, tk2, tk3, tk4, tk5, tk6, tk7, tk8, and_false, false_and, dC_length, dC_take, Int.reduceBEq, Int.reduceBNe, bne_self_eq_false, Bool.not_false, Bool.not_true, Bool.and_self, Int.reduceLT, Int.reduceLE, List.drop_succ_cons]) | (refine hJ _ ?_; clear hJ R) | refine Q5 ?_ | (refine hK _ ?_; clear hK K) | ((first | refine hN _ ?_ | refine hX _ _ ?_ | refine hR _ ?_); clear hN hX hR Z) | refine Q6 rfl ?_ | refine Q7 (by decide) ?_ | (refine Q8 ?_ ?_; focus (simp only [kS, R1, R2, R3, R4, R5, R6, R7, reduceCtorEq, R9, litn0, litn1, litn2, litn256, tk1, tk2, tk3, tk4, tk5, tk6, tk7, tk8, and_false, false_and, dC_length, dC_take, Int.reduceBEq, Int.reduceBNe, bne_self_eq_false, Bool.not_false, Bool.not_true, Bool.and_self, Int.reduceLT, Int.reduceLE, List.drop_succ_cons]; done)) | (refine Q9 ?_ ?_; focus (simp only [kS, R1, R2, R3, R4, R5, R6, R7, reduceCtorEq, R9, litn0, litn1, litn2, litn256, tk1, tk2, tk3, tk4, tk5, tk6, tk7, tk8, and_false, false_and, dC_length, dC_take, Int.reduceBEq, Int.reduceBNe, bne_self_eq_false, Bool.not_false, Bool.not_true, Bool.and_self, Int.reduceLT, Int.reduceLE, List.drop_succ_cons]; done)) | refine Qa ?_ | refine Qb ?_ | refine Qc ?_ | refine And.intro (by first | assumption | omega) ?_)
  refine ⟨_, hstf, rfl, ?_⟩
  try simp only [kS, R1, R2, R3, R4, R5, R6, R7, reduceCtorEq, R9, litn0, litn1, litn2, litn256, tk1, tk2, tk3, tk4, tk5, tk6, tk7, tk8, and_false, false_and, dC_length, dC_take, Int.reduceBEq, Int.reduceBNe, bne_self_eq_false, Bool.not_false, Bool.not_true, Bool.and_self, Int.reduceLT, Int.reduceLE, List.drop_succ_cons]
  repeat (first | ((first | refine Q1 ?_ | refine Q2 ?_); intro Z hN hX hR) | refine Q3 (by kernel_rfl) fun K hK => ?_ | ((first | refine Q4 fun R hJ => ?_ | with_reducible change ExpAll _ _ _); simp only [kS, R1, R2, R3, R4, R5, R6, R7, reduceCtorEq, R9, litn0, litn1, litn2, litn256, tk1, tk2, tk3, tk4, tk5, tk6, tk7, tk8, and_false, false_and, dC_length, dC_take, Int.reduceBEq, Int.reduceBNe, bne_self_eq_false, Bool.not_false, Bool.not_true, Bool.and_self, Int.reduceLT, Int.reduceLE, List.drop_succ_cons]) | (refine hJ _ ?_; clear hJ R) | refine Q5 ?_ | (refine hK _ ?_; clear hK K) | ((first | refine hN _ ?_ | refine hX _ _ ?_ | refine hR _ ?_); clear hN hX hR Z) | refine Q6 rfl ?_ | refine Q7 (by decide) ?_ | (refine Q8 ?_ ?_; focus (simp only [kS, R1, R2, R3, R4, R5, R6, R7, reduceCtorEq, R9, litn0, litn1, litn2, litn256, tk1, tk2, tk3, tk4, tk5, tk6, tk7, tk8, and_false, false_and, dC_length, dC_take, Int.reduceBEq, Int.reduceBNe, bne_self_eq_false, Bool.not_false, Bool.not_true, Bool.and_self, Int.reduceLT, Int.reduceLE, List.drop_succ_cons]; done)) | (refine Q9 ?_ ?_; focus (simp only [kS, R1, R2, R3, R4, R5, R6, R7, reduceCtorEq, R9, litn0, litn1, litn2, litn256, tk1, tk2, tk3, tk4, tk5, tk6, tk7, tk8, and_false, false_and, dC_length, dC_take, Int.reduceBEq, Int.reduceBNe, bne_self_eq_false, Bool.not_false, Bool.not_true, Bool.and_self, Int.reduceLT, Int.reduceLE, List.drop_succ_cons]; done)) | refine Qa ?_ | refine Qb ?_ | refine Qc ?_ | refine And.intro (by first | assumption | omega) ?_)
  refine ⟨_, hp, rfl, ?_⟩
  try simp only [kS, R1, R2, R3, R4, R5, R6, R7, reduceCtorEq, R9, litn0, litn1, litn2, litn256, tk1, tk2, tk3, tk4, tk5, tk6, tk7, tk8, and_false, false_and, dC_length, dC_take, Int.reduceBEq, Int.reduceBNe, bne_self_eq_false, Bool.not_false, Bool.not_true, Bool.and_self, Int.reduceLT, Int.reduceLE, List.drop_succ_cons]
  repeat (first | ((first | refine Q1 ?_ | refine Q2 ?_); intro Z hN hX hR) | refine Q3 (by kernel_rfl) fun K hK => ?_ | ((first | refine Q4 fun R hJ => ?_ | with_reducible change ExpAll _ _ _); simp only [kS, R1, R2, R3, R4, R5, R6, R7, reduceCtorEq, R9, litn0, litn1, litn2, litn256, tk1, tk2, tk3, tk4, tk5, tk6, tk7, tk8, and_false, false_and, dC_length, dC_take, Int.reduceBEq, Int.reduceBNe, bne_self_eq_false, Bool.not_false, Bool.not_true, Bool.and_self, Int.reduceLT, Int.reduceLE, List.drop_succ_cons]) | (refine hJ _ ?_; clear hJ R) | refine Q5 ?_ | (refine hK _ ?_; clear hK K) | ((first | refine hN _ ?_ | refine hX _ _ ?_ | refine hR _ ?_); clear hN hX hR Z) | refine Q6 rfl ?_ | refine Q7 (by decide) ?_ | (refine Q8 ?_ ?_; focus (simp only [kS, R1, R2, R3, R4, R5, R6, R7, reduceCtorEq, R9, litn0, litn1, litn2, litn256, tk1, tk2, tk3, tk4, tk5, tk6, tk7, tk8, and_false, false_and, dC_length, dC_take, Int.reduceBEq, Int.reduceBNe, bne_self_eq_false, Bool.not_false, Bool.not_true, Bool.and_self, Int.reduceLT, Int.reduceLE, List.drop_succ_cons]; done)) | (refine Q9 ?_ ?_; focus (simp only [kS, R1, R2, R3, R4, R5, R6, R7, reduceCtorEq, R9, litn0, litn1, litn2, litn256, tk1, tk2, tk3, tk4, tk5, tk6, tk7, tk8, and_false, false_and, dC_length, dC_take, Int.reduceBEq, Int.reduceBNe, bne_self_eq_false, Bool.not_false, Bool.not_true, Bool.and_self, Int.reduceLT, Int.reduceLE, List.drop_succ_cons]; done)) | refine Qa ?_ | refine Qb ?_ | refine Qc ?_ | refine And.intro (by first | assumption | omega) ?_)
  refine ⟨_, hstb, rfl, ?_⟩
  try simp only [kS, R1, R2, R3, R4, R5, R6, R7, reduceCtorEq, R9, litn0, litn1, litn2, litn256, tk1, tk2, tk3, tk4, tk5, tk6, tk7, tk8, and_false, false_and, dC_length, dC_take, Int.reduceBEq, Int.reduceBNe, bne_self_eq_false, Bool.not_false, Bool.not_true, Bool.and_self, Int.reduceLT, Int.reduceLE, List.drop_succ_cons]
  repeat (first | ((first | refine Q1 ?_ | refine Q2 ?_); intro Z hN hX hR) | refine Q3 (by kernel_rfl) fun K hK => ?_ | ((first | refine Q4 fun R hJ => ?_ | with_reducible change ExpAll _ _ _); simp only [kS, R1, R2, R3, R4, R5, R6, R7, reduceCtorEq, R9, litn0, litn1, litn2, litn256, tk1, tk2, tk3, tk4, tk5, tk6, tk7, tk8, and_false, false_and, dC_length, dC_take, Int.reduceBEq, Int.reduceBNe, bne_self_eq_false, Bool.not_false, Bool.not_true, Bool.and_self, Int.reduceLT, Int.reduceLE, List.drop_succ_cons]) | (refine hJ _ ?_; clear hJ R) | refine Q5 ?_ | (refine hK _ ?_; clear hK K) | ((first | refine hN _ ?_ | refine hX _ _ ?_ | refine hR _ ?_); clear hN hX hR Z) | refine Q6 rfl ?_ | refine Q7 (by decide) ?_ | (refine Q8 ?_ ?_; focus (simp only [kS, R1, R2, R3, R4, R5, R6, R7, reduceCtorEq, R9, litn0, litn1, litn2, litn256, tk1, tk2, tk3, tk4, tk5, tk6, tk7, tk8, and_false, false_and, dC_length, dC_take, Int.reduceBEq, Int.reduceBNe, bne_self_eq_false, Bool.not_false, Bool.not_true, Bool.and_self, Int.reduceLT, Int.reduceLE, List.drop_succ_cons]; done)) | (refine Q9 ?_ ?_; focus (simp only [kS, R1, R2, R3, R4, R5, R6, R7, reduceCtorEq, R9, litn0, litn1, litn2, litn256, tk1, tk2, tk3, tk4, tk5, tk6, tk7, tk8, and_false, false_and, dC_length, dC_take, Int.reduceBEq, Int.reduceBNe, bne_self_eq_false, Bool.not_false, Bool.not_true, Bool.and_self, Int.reduceLT, Int.reduceLE, List.drop_succ_cons]; done)) | refine Qa ?_ | refine Qb ?_ | refine Qc ?_ | refine And.intro (by first | assumption | omega) ?_)
  refine ⟨_, hr6, rfl, ?_⟩
  try simp only [kS, R1, R2, R3, R4, R5, R6, R7, reduceCtorEq, R9, litn0, litn1, litn2, litn256, tk1, tk2, tk3, tk4, tk5, tk6, tk7, tk8, and_false, false_and, dC_length, dC_take, Int.reduceBEq, Int.reduceBNe, bne_self_eq_false, Bool.not_false, Bool.not_true, Bool.and_self, Int.reduceLT, Int.reduceLE, List.drop_succ_cons]
  repeat (first | ((first | refine Q1 ?_ | refine Q2 ?_); intro Z hN hX hR) | refine Q3 (by kernel_rfl) fun K hK => ?_ | ((first | refine Q4 fun R hJ => ?_ | with_reducible change ExpAll _ _ _); simp only [kS, R1, R2, R3, R4, R5, R6, R7, reduceCtorEq, R9, litn0, litn1, litn2, litn256, tk1, tk2, tk3, tk4, tk5, tk6, tk7, tk8, and_false, false_and, dC_length, dC_take, Int.reduceBEq, Int.reduceBNe, bne_self_eq_false, Bool.not_false, Bool.not_true, Bool.and_self, Int.reduceLT, Int.reduceLE, List.drop_succ_cons]) | (refine hJ _ ?_; clear hJ R) | refine Q5 ?_ | (refine hK _ ?_; clear hK K) | ((first | refine hN _ ?_ | refine hX _ _ ?_ | refine hR _ ?_); clear hN hX hR Z) | refine Q6 rfl ?_ | refine Q7 (by decide) ?_ | (refine Q8 ?_ ?_; focus (simp only [kS, R1, R2, R3, R4, R5, R6, R7, reduceCtorEq, R9, litn0, litn1, litn2, litn256, tk1, tk2, tk3, tk4, tk5, tk6, tk7, tk8, and_false, false_and, dC_length, dC_take, Int.reduceBEq, Int.reduceBNe, bne_self_eq_false, Bool.not_false, Bool.not_true, Bool.and_self, Int.reduceLT, Int.reduceLE, List.drop_succ_cons]; done)) | (refine Q9 ?_ ?_; focus (simp only [kS, R1, R2, R3, R4, R5, R6, R7, reduceCtorEq, R9, litn0, litn1, litn2, litn256, tk1, tk2, tk3, tk4, tk5, tk6, tk7, tk8, and_false, false_and, dC_length, dC_take, Int.reduceBEq, Int.reduceBNe, bne_self_eq_false, Bool.not_false, Bool.not_true, Bool.and_self, Int.reduceLT, Int.reduceLE, List.drop_succ_cons]; done)) | refine Qa ?_ | refine Qb ?_ | refine Qc ?_ | refine And.intro (by first | assumption | omega) ?_)
  refine ⟨_, hstb, rfl, ?_⟩
  try simp only [kS, R1, R2, R3, R4, R5, R6, R7, reduceCtorEq, R9, litn0, litn1, litn2, litn256, tk1, tk2, tk3, tk4, tk5, tk6, tk7, tk8, and_false, false_and, dC_length, dC_take, Int.reduceBEq, Int.reduceBNe, bne_self_eq_false, Bool.not_false, Bool.not_true, Bool.and_self, Int.reduceLT, Int.reduceLE, List.drop_succ_cons]
  repeat (first | ((first | refine Q1 ?_ | refine Q2 ?_); intro Z hN hX hR) | refine Q3 (by kernel_rfl) fun K hK => ?_ | ((first | refine Q4 fun R hJ => ?_ | with_reducible change ExpAll _ _ _); simp only [kS, R1, R2, R3, R4, R5, R6, R7, reduceCtorEq, R9, litn0, litn1, litn2, litn256, tk1, tk2, tk3, tk4, tk5, tk6, tk7, tk8, and_false, false_and, dC_length, dC_take, Int.reduceBEq, Int.reduceBNe, bne_self_eq_false, Bool.not_false, Bool.not_true, Bool.and_self, Int.reduceLT, Int.reduceLE, List.drop_succ_cons]) | (refine hJ _ ?_; clear hJ R) | refine Q5 ?_ | (refine hK _ ?_; clear hK K) | ((first | refine hN _ ?_ | refine hX _ _ ?_ | refine hR _ ?_); clear hN hX hR Z) | refine Q6 rfl ?_ | refine Q7 (by decide) ?_ | (refine Q8 ?_ ?_; focus (simp only [kS, R1, R2, R3, R4, R5, R6, R7, reduceCtorEq, R9, litn0, litn1, litn2, litn256, tk1, tk2, tk3, tk4, tk5, tk6, tk7, tk8, and_false, false_and, dC_length, dC_take, Int.reduceBEq, Int.reduceBNe, bne_self_eq_false, Bool.not_false, Bool.not_true, Bool.and_self, Int.reduceLT, Int.reduceLE, List.drop_succ_cons]; done)) | (refine Q9 ?_ ?_; focus (simp only [kS, R1, R2, R3, R4, R5, R6, R7, reduceCtorEq, R9, litn0, litn1, litn2, litn256, tk1, tk2, tk3, tk4, tk5, tk6, tk7, tk8, and_false, false_and, dC_length, dC_take, Int.reduceBEq, Int.reduceBNe, bne_self_eq_false, Bool.not_false, Bool.not_true, Bool.and_self, Int.reduceLT, Int.reduceLE, List.drop_succ_cons]; done)) | refine Qa ?_ | refine Qb ?_ | refine Qc ?_ | refine And.intro (by first | assumption | omega) ?_)
  refine ⟨_, hr7, rfl, ?_⟩
  try simp only [kS, R1, R2, R3, R4, R5, R6, R7, reduceCtorEq, R9, litn0, litn1, litn2, litn256, tk1, tk2, tk3, tk4, tk5, tk6, tk7, tk8, and_false, false_and, dC_length, dC_take, Int.reduceBEq, Int.reduceBNe, bne_self_eq_false, Bool.not_false, Bool.not_true, Bool.and_self, Int.reduceLT, Int.reduceLE, List.drop_succ_cons]
  repeat (first | ((first | refine Q1 ?_ | refine Q2 ?_); intro Z hN hX hR) | refine Q3 (by kernel_rfl) fun K hK => ?_ | ((first | refine Q4 fun R hJ => ?_ | with_reducible change ExpAll _ _ _); simp only [kS, R1, R2, R3, R4, R5, R6, R7, reduceCtorEq, R9, litn0, litn1, litn2, litn256, tk1, tk2, tk3, tk4, tk5, tk6, tk7, tk8, and_false, false_and, dC_length, dC_take, Int.reduceBEq, Int.reduceBNe, bne_self_eq_false, Bool.not_false, Bool.not_true, Bool.and_self, Int.reduceLT, Int.reduceLE, List.drop_succ_cons]) | (refine hJ _ ?_; clear hJ R) | refine Q5 ?_ | (refine hK _ ?_; clear hK K) | ((first | refine hN _ ?_ | refine hX _ _ ?_ | refine hR _ ?_); clear hN hX hR Z) | refine Q6 rfl ?_ | refine Q7 (by decide) ?_ | (refine Q8 ?_ ?_; focus (simp only [kS, R1, R2, R3, R4, R5, R6, R7, reduceCtorEq, R9, litn0, litn1, litn2, litn256, tk1, tk2, tk3, tk4, tk5, tk6, tk7, tk8, and_false, false_and, dC_length, dC_take, Int.reduceBEq, Int.reduceBNe, bne_self_eq_false, Bool.not_false, Bool.not_true, Bool.and_self, Int.reduceLT, Int.reduceLE, List.drop_succ_cons]; done)) | (refine Q9 ?_ ?_; focus (simp only [kS, R1, R2, R3, R4, R5, R6, R7, reduceCtorEq, R9, litn0, litn1, litn2, litn256, tk1, tk2, tk3, tk4, tk5, tk6, tk7, tk8, and_false, false_and, dC_length, dC_take, Int.reduceBEq, Int.reduceBNe, bne_self_eq_false, Bool.not_false, Bool.not_true, Bool.and_self, Int.reduceLT, Int.reduceLE, List.drop_succ_cons]; done)) | refine Qa ?_ | refine Qb ?_ | refine Qc ?_ | refine And.intro (by first | assumption | omega) ?_)
  refine ⟨_, hshut, rfl, ?_⟩
  try simp only [kS, R1, R2, R3, R4, R5, R6, R7, reduceCtorEq, R9, litn0, litn1, litn2, litn256, tk1, tk2, tk3, tk4, tk5, tk6, tk7, tk8, and_false, false_and, dC_length, dC_take, Int.reduceBEq, Int.reduceBNe, bne_self_eq_false, Bool.not_false, Bool.not_true, Bool.and_self, Int.reduceLT, Int.reduceLE, List.drop_succ_cons]
  repeat (first | ((first | refine Q1 ?_ | refine Q2 ?_); intro Z hN hX hR) | refine Q3 (by kernel_rfl) fun K hK => ?_ | ((first | refine Q4 fun R hJ => ?_ | with_reducible change ExpAll _ _ _); simp only [kS, R1, R2, R3, R4, R5, R6, R7, reduceCtorEq, R9, litn0, litn1, litn2, litn256, tk1, tk2, tk3, tk4, tk5, tk6, tk7, tk8, and_false, false_and, dC_length, dC_take, Int.reduceBEq, Int.reduceBNe, bne_self_eq_false, Bool.not_false, Bool.not_true, Bool.and_self, Int.reduceLT, Int.reduceLE, List.drop_succ_cons]) | (refine hJ _ ?_; clear hJ R) | refine Q5 ?_ | (refine hK _ ?_; clear hK K) | ((first | refine hN _ ?_ | refine hX _ _ ?_ | refine hR _ ?_); clear hN hX hR Z) | refine Q6 rfl ?_ | refine Q7 (by decide) ?_ | (refine Q8 ?_ ?_; focus (simp only [kS, R1, R2, R3, R4, R5, R6, R7, reduceCtorEq, R9, litn0, litn1, litn2, litn256, tk1, tk2, tk3, tk4, tk5, tk6, tk7, tk8, and_false, false_and, dC_length, dC_take, Int.reduceBEq, Int.reduceBNe, bne_self_eq_false, Bool.not_false, Bool.not_true, Bool.and_self, Int.reduceLT, Int.reduceLE, List.drop_succ_cons]; done)) | (refine Q9 ?_ ?_; focus (simp only [kS, R1, R2, R3, R4, R5, R6, R7, reduceCtorEq, R9, litn0, litn1, litn2, litn256, tk1, tk2, tk3, tk4, tk5, tk6, tk7, tk8, and_false, false_and, dC_length, dC_take, Int.reduceBEq, Int.reduceBNe, bne_self_eq_false, Bool.not_false, Bool.not_true, Bool.and_self, Int.reduceLT, Int.reduceLE, List.drop_succ_cons]; done)) | refine Qa ?_ | refine Qb ?_ | refine Qc ?_ | refine And.intro (by first | assumption | omega) ?_)
  refine ⟨_, he0, rfl, ?_⟩
  try simp only [kS, R1, R2, R3, R4, R5, R6, R7, reduceCtorEq, R9, litn0, litn1, litn2, litn256, tk1, tk2, tk3, tk4, tk5, tk6, tk7, tk8, and_false, false_and, dC_length, dC_take, Int.reduceBEq, Int.reduceBNe, bne_self_eq_false, Bool.not_false, Bool.not_true, Bool.and_self, Int.reduceLT, Int.reduceLE, List.drop_succ_cons]
  repeat (first | ((first | refine Q1 ?_ | refine Q2 ?_); intro Z hN hX hR) | refine Q3 (by kernel_rfl) fun K hK => ?_ | ((first | refine Q4 fun R hJ => ?_ | with_reducible change ExpAll _ _ _); simp only [kS, R1, R2, R3, R4, R5, R6, R7, reduceCtorEq, R9, litn0, litn1, litn2, litn256, tk1, tk2, tk3, tk4, tk5, tk6, tk7, tk8, and_false, false_and, dC_length, dC_take, Int.reduceBEq, Int.reduceBNe, bne_self_eq_false, Bool.not_false, Bool.not_true, Bool.and_self, Int.reduceLT, Int.reduceLE, List.drop_succ_cons]) | (refine hJ _ ?_; clear hJ R) | refine Q5 ?_ | (refine hK _ ?_; clear hK K) | ((first | refine hN _ ?_ | refine hX _ _ ?_ | refine hR _ ?_); clear hN hX hR Z) | refine Q6 rfl ?_ | refine Q7 (by decide) ?_ | (refine Q8 ?_ ?_; focus (simp only [kS, R1, R2, R3, R4, R5, R6, R7, reduceCtorEq, R9, litn0, litn1, litn2, litn256, tk1, tk2, tk3, tk4, tk5, tk6, tk7, tk8, and_false, false_and, dC_length, dC_take, Int.reduceBEq, Int.reduceBNe, bne_self_eq_false, Bool.not_false, Bool.not_true, Bool.and_self, Int.reduceLT, Int.reduceLE, List.drop_succ_cons]; done)) | (refine Q9 ?_ ?_; focus (simp only [kS, R1, R2, R3, R4, R5, R6, R7, reduceCtorEq, R9, litn0, litn1, litn2, litn256, tk1, tk2, tk3, tk4, tk5, tk6, tk7, tk8, and_false, false_and, dC_length, dC_take, Int.reduceBEq, Int.reduceBNe, bne_self_eq_false, Bool.not_false, Bool.not_true, Bool.and_self, Int.reduceLT, Int.reduceLE, List.drop_succ_cons]; done)) | refine Qa ?_ | refine Qb ?_ | refine Qc ?_ | refine And.intro (by first | assumption | omega) ?_)
  refine ⟨_, hstb, rfl, ?_⟩
  try simp only [kS, R1, R2, R3, R4, R5, R6, R7, reduceCtorEq, R9, litn0, litn1, litn2, litn256, tk1, tk2, tk3, tk4, tk5, tk6, tk7, tk8, and_false, false_and, dC_length, dC_take, Int.reduceBEq, Int.reduceBNe, bne_self_eq_false, Bool.not_false, Bool.not_true, Bool.and_self, Int.reduceLT, Int.reduceLE, List.drop_succ_cons]
  repeat (first | ((first | refine Q1 ?_ | refine Q2 ?_); intro Z hN hX hR) | refine Q3 (by kernel_rfl) fun K hK => ?_ | ((first | refine Q4 fun R hJ => ?_ | with_reducible change ExpAll _ _ _); simp only [kS, R1, R2, R3, R4, R5, R6, R7, reduceCtorEq, R9, litn0, litn1, litn2, litn256, tk1, tk2, tk3, tk4, tk5, tk6, tk7, tk8, and_false, false_and, dC_length, dC_take, Int.reduceBEq, Int.reduceBNe, bne_self_eq_false, Bool.not_false, Bool.not_true, Bool.and_self, Int.reduceLT, Int.reduceLE, List.drop_succ_cons]) | (refine hJ _ ?_; clear hJ R) | refine Q5 ?_ | (refine hK _ ?_; clear hK K) | ((first | refine hN _ ?_ | refine hX _ _ ?_ | refine hR _ ?_); clear hN hX hR Z) | refine Q6 rfl ?_ | refine Q7 (by decide) ?_ | (refine Q8 ?_ ?_; focus (simp only [kS, R1, R2, R3, R4, R5, R6, R7, reduceCtorEq, R9, litn0, litn1, litn2, litn256, tk1, tk2, tk3, tk4, tk5, tk6, tk7, tk8, and_false, false_and, dC_length, dC_take, Int.reduceBEq, Int.reduceBNe, bne_self_eq_false, Bool.not_false, Bool.not_true, Bool.and_self, Int.reduceLT, Int.reduceLE, List.drop_succ_cons]; done)) | (refine Q9 ?_ ?_; focus (simp only [kS, R1, R2, R3, R4, R5, R6, R7, reduceCtorEq, R9, litn0, litn1, litn2, litn256, tk1, tk2, tk3, tk4, tk5, tk6, tk7, tk8, and_false, false_and, dC_length, dC_take, Int.reduceBEq, Int.reduceBNe, bne_self_eq_false, Bool.not_false, Bool.not_true, Bool.and_self, Int.reduceLT, Int.reduceLE, List.drop_succ_cons]; done)) | refine Qa ?_ | refine Qb ?_ | refine Qc ?_ | refine And.intro (by first | assumption | omega) ?_)
  refine ⟨_, he1, rfl, ?_⟩
  try simp only [kS, R1, R2, R3, R4, R5, R6, R7, reduceCtorEq, R9, litn0, litn1, litn2, litn256, tk1, tk2, tk3, tk4, tk5, tk6, tk7, tk8, and_false, false_and, dC_length, dC_take, Int.reduceBEq, Int.reduceBNe, bne_self_eq_false, Bool.not_false, Bool.not_true, Bool.and_self, Int.reduceLT, Int.reduceLE, List.drop_succ_cons]
  repeat (first | ((first | refine Q1 ?_ | refine Q2 ?_); intro Z hN hX hR) | refine Q3 (by kernel_rfl) fun K hK => ?_ | ((first | refine Q4 fun R hJ => ?_ | with_reducible change ExpAll _ _ _); simp only [kS, R1, R2, R3, R4, R5, R6, R7, reduceCtorEq, R9, litn0, litn1, litn2, litn256, tk1, tk2, tk3, tk4, tk5, tk6, tk7, tk8, and_false, false_and, dC_length, dC_take, Int.reduceBEq, Int.reduceBNe, bne_self_eq_false, Bool.not_false, Bool.not_true, Bool.and_self, Int.reduceLT, Int.reduceLE, List.drop_succ_cons]) | (refine hJ _ ?_; clear hJ R) | refine Q5 ?_ | (refine hK _ ?_; clear hK K) | ((first | refine hN _ ?_ | refine hX _ _ ?_ | refine hR _ ?_); clear hN hX hR Z) | refine Q6 rfl ?_ | refine Q7 (by decide) ?_ | (refine Q8 ?_ ?_; focus (simp only [kS, R1, R2, R3, R4, R5, R6, R7, reduceCtorEq, R9, litn0, litn1, litn2, litn256, tk1, tk2, tk3, tk4, tk5, tk6, tk7, tk8, and_false, false_and, dC_length, dC_take, Int.reduceBEq, Int.reduceBNe, bne_self_eq_false, Bool.not_false, Bool.not_true, Bool.and_self, Int.reduceLT, Int.reduceLE, List.drop_succ_cons]; done)) | (refine Q9 ?_ ?_; focus (simp only [kS, R1, R2, R3, R4, R5, R6, R7, reduceCtorEq, R9, litn0, litn1, litn2, litn256, tk1, tk2, tk3, tk4, tk5, tk6, tk7, tk8, and_false, false_and, dC_length, dC_take, Int.reduceBEq, Int.reduceBNe, bne_self_eq_false, Bool.not_false, Bool.not_true, Bool.and_self, Int.reduceLT, Int.reduceLE, List.drop_succ_cons]; done)) | refine Qa ?_ | refine Qb ?_ | refine Qc ?_ | refine And.intro (by first | assumption | omega) ?_)
  refine ⟨_, hstb, rfl, ?_⟩
  try simp only [kS, R1, R2, R3, R4, R5, R6, R7, reduceCtorEq, R9, litn0, litn1, litn2, litn256, tk1, tk2, tk3, tk4, tk5, tk6, tk7, tk8, and_false, false_and, dC_length, dC_take, Int.reduceBEq, Int.reduceBNe, bne_self_eq_false, Bool.not_false, Bool.not_true, Bool.and_self, Int.reduceLT, Int.reduceLE, List.drop_succ_cons]
  repeat (first | ((first | refine Q1 ?_ | refine Q2 ?_); intro Z hN hX hR) | refine Q3 (by kernel_rfl) fun K hK => ?_ | ((first | refine Q4 fun R hJ => ?_ | with_reducible change ExpAll _ _ _); simp only [kS, R1, R2, R3, R4, R5, R6, R7, reduceCtorEq, R9, litn0, litn1, litn2, litn256, tk1, tk2, tk3, tk4, tk5, tk6, tk7, tk8, and_false, false_and, dC_length, dC_take, Int.reduceBEq, Int.reduceBNe, bne_self_eq_false, Bool.not_false, Bool.not_true, Bool.and_self, Int.reduceLT, Int.reduceLE, List.drop_succ_cons]) | (refine hJ _ ?_; clear hJ R) | refine Q5 ?_ | (refine hK _ ?_; clear hK K) | ((first | refine hN _ ?_ | refine hX _ _ ?_ | refine hR _ ?_); clear hN hX hR Z) | refine Q6 rfl ?_ | refine Q7 (by decide) ?_ | (refine Q8 ?_ ?_; focus (simp only [kS, R1, R2, R3, R4, R5, R6, R7, reduceCtorEq, R9, litn0, litn1, litn2, litn256, tk1, tk2, tk3, tk4, tk5, tk6, tk7, tk8, and_false, false_and, dC_length, dC_take, Int.reduceBEq, Int.reduceBNe, bne_self_eq_false, Bool.not_false, Bool.not_true, Bool.and_self, Int.reduceLT, Int.reduceLE, List.drop_succ_cons]; done)) | (refine Q9 ?_ ?_; focus (simp only [kS, R1, R2, R3, R4, R5, R6, R7, reduceCtorEq, R9, litn0, litn1, litn2, litn256, tk1, tk2, tk3, tk4, tk5, tk6, tk7, tk8, and_false, false_and, dC_length, dC_take, Int.reduceBEq, Int.reduceBNe, bne_self_eq_false, Bool.not_false, Bool.not_true, Bool.and_self, Int.reduceLT, Int.reduceLE, List.drop_succ_cons]; done)) | refine Qa ?_ | refine Qb ?_ | refine Qc ?_ | refine And.intro (by first | assumption | omega) ?_)
  refine ⟨_, hcb, rfl, ?_⟩
  try simp only [kS, R1, R2, R3, R4, R5, R6, R7, reduceCtorEq, R9, litn0, litn1, litn2, litn256, tk1, tk2, tk3, tk4, tk5, tk6, tk7, tk8, and_false, false_and, dC_length, dC_take, Int.reduceBEq, Int.reduceBNe, bne_self_eq_false, Bool.not_false, Bool.not_true, Bool.and_self, Int.reduceLT, Int.reduceLE, List.drop_succ_cons]
  repeat (first | ((first | refine Q1 ?_ | refine Q2 ?_); intro Z hN hX hR) | refine Q3 (by kernel_rfl) fun K hK => ?_ | ((first | refine Q4 fun R hJ => ?_ | with_reducible change ExpAll _ _ _); simp only [kS, R1, R2, R3, R4, R5, R6, R7, reduceCtorEq, R9, litn0, litn1, litn2, litn256, tk1, tk2, tk3, tk4, tk5, tk6, tk7, tk8, and_false, false_and, dC_length, dC_take, Int.reduceBEq, Int.reduceBNe, bne_self_eq_false, Bool.not_false, Bool.not_true, Bool.and_self, Int.reduceLT, Int.reduceLE, List.drop_succ_cons]) | (refine hJ _ ?_; clear hJ R) | refine Q5 ?_ | (refine hK _ ?_; clear hK K) | ((first | refine hN _ ?_ | refine hX _ _ ?_ | refine hR _ ?_); clear hN hX hR Z) | refine Q6 rfl ?_ | refine Q7 (by decide) ?_ | (refine Q8 ?_ ?_; focus (simp only [kS, R1, R2, R3, R4, R5, R6, R7, reduceCtorEq, R9, litn0, litn1, litn2, litn256, tk1, tk2, tk3, tk4, tk5, tk6, tk7, tk8, and_false, false_and, dC_length, dC_take, Int.reduceBEq, Int.reduceBNe, bne_self_eq_false, Bool.not_false, Bool.not_true, Bool.and_self, Int.reduceLT, Int.reduceLE, List.drop_succ_cons]; done)) | (refine Q9 ?_ ?_; focus (simp only [kS, R1, R2, R3, R4, R5, R6, R7, reduceCtorEq, R9, litn0, litn1, litn2, litn256, tk1, tk2, tk3, tk4, tk5, tk6, tk7, tk8, and_false, false_and, dC_length, dC_take, Int.reduceBEq, Int.reduceBNe, bne_self_eq_false, Bool.not_false, Bool.not_true, Bool.and_self, Int.reduceLT, Int.reduceLE, List.drop_succ_cons]; done)) | refine Qa ?_ | refine Qb ?_ | refine Qc ?_ | refine And.intro (by first | assumption | omega) ?_)
  refine ⟨_, hstf, rfl, ?_⟩
  try simp only [kS, R1, R2, R3, R4, R5, R6, R7, reduceCtorEq, R9, litn0, litn1, litn2, litn256, tk1, tk2, tk3, tk4, tk5, tk6, tk7, tk8, and_false, false_and, dC_length, dC_take, Int.reduceBEq, Int.reduceBNe, bne_self_eq_false, Bool.not_false, Bool.not_true, Bool.and_self, Int.reduceLT, Int.reduceLE, List.drop_succ_cons]
  repeat (first | ((first | refine Q1 ?_ | refine Q2 ?_); intro Z hN hX hR) | refine Q3 (by kernel_rfl) fun K hK => ?_ | ((first | refine Q4 fun R hJ => ?_ | with_reducible change ExpAll _ _ _); simp only [kS, R1, R2, R3, R4, R5, R6, R7, reduceCtorEq, R9, litn0, litn1, litn2, litn256, tk1, tk2, tk3, tk4, tk5, tk6, tk7, tk8, and_false, false_and, dC_length, dC_take, Int.reduceBEq, Int.reduceBNe, bne_self_eq_false, Bool.not_false, Bool.not_true, Bool.and_self, Int.reduceLT, Int.reduceLE, List.drop_succ_cons]) | (refine hJ _ ?_; clear hJ R) | refine Q5 ?_ | (refine hK _ ?_; clear hK K) | ((first | refine hN _ ?_ | refine hX _ _ ?_ | refine hR _ ?_); clear hN hX hR Z) | refine Q6 rfl ?_ | refine Q7 (by decide) ?_ | (refine Q8 ?_ ?_; focus (simp only [kS, R1, R2, R3, R4, R5, R6, R7, reduceCtorEq, R9, litn0, litn1, litn2, litn256, tk1, tk2, tk3, tk4, tk5, tk6, tk7, tk8, and_false, false_and, dC_length, dC_take, Int.reduceBEq, Int.reduceBNe, bne_self_eq_false, Bool.not_false, Bool.not_true, Bool.and_self, Int.reduceLT, Int.reduceLE, List.drop_succ_cons]; done)) | (refine Q9 ?_ ?_; focus (simp only [kS, R1, R2, R3, R4, R5, R6, R7, reduceCtorEq, R9, litn0, litn1, litn2, litn256, tk1, tk2, tk3, tk4, tk5, tk6, tk7, tk8, and_false, false_and, dC_length, dC_take, Int.reduceBEq, Int.reduceBNe, bne_self_eq_false, Bool.not_false, Bool.not_true, Bool.and_self, Int.reduceLT, Int.reduceLE, List.drop_succ_cons]; done)) | refine Qa ?_ | refine Qb ?_ | refine Qc ?_ | refine And.intro (by first | assumption | omega) ?_)
  refine ⟨_, hcf, rfl, ?_⟩
  try simp only [kS, R1, R2, R3, R4, R5, R6, R7, reduceCtorEq, R9, litn0, litn1, litn2, litn256, tk1, tk2, tk3, tk4, tk5, tk6, tk7, tk8, and_false, false_and, dC_length, dC_take, Int.reduceBEq, Int.reduceBNe, bne_self_eq_false, Bool.not_false, Bool.not_true, Bool.and_self, Int.reduceLT, Int.reduceLE, List.drop_succ_cons]
  repeat (first | ((first | refine Q1 ?_ | refine Q2 ?_); intro Z hN hX hR) | refine Q3 (by kernel_rfl) fun K hK => ?_ | ((first | refine Q4 fun R hJ => ?_ | with_reducible change ExpAll _ _ _); simp only [kS, R1, R2, R3, R4, R5, R6, R7, reduceCtorEq, R9, litn0, litn1, litn2, litn256, tk1, tk2, tk3, tk4, tk5, tk6, tk7, tk8, and_false, false_and, dC_length, dC_take, Int.reduceBEq, Int.reduceBNe, bne_self_eq_false, Bool.not_false, Bool.not_true, Bool.and_self, Int.reduceLT, Int.reduceLE, List.drop_succ_cons]) | (refine hJ _ ?_; clear hJ R) | refine Q5 ?_ | (refine hK _ ?_; clear hK K) | ((first | refine hN _ ?_ | refine hX _ _ ?_ | refine hR _ ?_); clear hN hX hR Z) | refine Q6 rfl ?_ | refine Q7 (by decide) ?_ | (refine Q8 ?_ ?_; focus (simp only [kS, R1, R2, R3, R4, R5, R6, R7, reduceCtorEq, R9, litn0, litn1, litn2, litn256, tk1, tk2, tk3, tk4, tk5, tk6, tk7, tk8, and_false, false_and, dC_length, dC_take, Int.reduceBEq, Int.reduceBNe, bne_self_eq_false, Bool.not_false, Bool.not_true, Bool.and_self, Int.reduceLT, Int.reduceLE, List.drop_succ_cons]; done)) | (refine Q9 ?_ ?_; focus (simp only [kS, R1, R2, R3, R4, R5, R6, R7, reduceCtorEq, R9, litn0, litn1, litn2, litn256, tk1, tk2, tk3, tk4, tk5, tk6, tk7, tk8, and_false, false_and, dC_length, dC_take, Int.reduceBEq, Int.reduceBNe, bne_self_eq_false, Bool.not_false, Bool.not_true, Bool.and_self, Int.reduceLT, Int.reduceLE, List.drop_succ_cons]; done)) | refine Qa ?_ | refine Qb ?_ | refine Qc ?_ | refine And.intro (by first | assumption | omega) ?_)
  all_goals rfl

end Go.Proofs.YtilhjiopbbbgmaaDoor

/- NextClasses: its body answers true, whatever it is given. -/
namespace Go.Proofs.YtilhjiopbbbgmaaDoor
open Nat renaming reduceSub → R1, reduceMul → R2, reduceLeDiff → R3, reducePow → R4, reduceBEq → R5, reduceAdd → R6, reduceEqDiff → R7
open Int renaming reduceToNat → R9
open Go Go.RowKit Am
set_option linter.unusedVariables false
set_option linter.unusedSimpArgs false
set_option maxHeartbeats 4000000
attribute [local irreducible] AWp AOps

theorem clC_drop (l : List (Nat → Nat)) (i : Nat) (h : i < l.length) : (clC l).drop (i * 4) = .v (.int .u64 (l[i] 0 : Int)) :: .v (.int .u64 (l[i] 1 : Int)) :: .v (.int .u64 (l[i] 2 : Int)) :: .v (.int .u64 (l[i] 3 : Int)) :: clC (l.drop (i + 1)) := by
  have e : clC l = clC (l.take i) ++ clC (l.drop i) := by rw [← clC_append, List.take_append_drop]
  rw [e, List.drop_append_of_le_length (by rw [clC_length]; simp; omega), List.drop_eq_nil_of_le (by rw [clC_length]; simp; omega), List.drop_eq_getElem_cons h]
  rfl
theorem nd_cw {d : List Nd} (h : ∀ n ∈ d, CW n) (i : Int) (h1 : 0 ≤ i) (h2 : i < d.length) : CW (nd d i) := by
  have h3 : i.toNat < d.length := by omega
  have e : nd d i = d[i.toNat] := by simp [nd, h3]
  rw [e]
  exact h _ (List.getElem_mem h3)
theorem classesF_lt {d : List Nd} (hd : WFd d) (h : ∀ n ∈ d, CW n) {hs : List Br} (hok : ∀ b ∈ hs, OkS d b.to) : ∀ g ∈ classesF d hs, ∀ k, g k < 18446744073709551616 := fun g hg k => by
  obtain ⟨b, hb, hg⟩ := List.mem_flatMap.1 hg
  have ho := hok b hb
  have one_lt : ∀ c k, one c k < 18446744073709551616 := fun c k => rowN_lt c c 256 k
  cases ht : b.to with
  | nil => rw [ht] at hg; cases hg
  | cons x r =>
    rw [ht] at hg ho
    simp only [clsF] at hg
    split at hg
    · simp only [List.mem_singleton] at hg
      subst hg
      exact one_lt _ _
    · split at hg
      · simp only [List.mem_singleton] at hg
        subst hg
        have := hd.1
        refine (nd_cw h x.n ?_ ?_).lt k
        · rcases ho x (by simp) with h | h
          · omega
          · exact h.1.1
        · rcases ho x (by simp) with h | h
          · omega
          · exact h.1.2
      · obtain ⟨c, _, rfl⟩ := List.mem_map.1 hg
        exact one_lt _ _

theorem classesLaw_ret (d : List Nd) (s : List It) (a b : Nat) (ha : a < 256) (hb : b < 256) (hl : d.length ≤ 140737488355328) (hs : ∀ n ∈ d, n.s.size ≤ 140737488355328) (hsl : s.length ≤ 140737488355328) (hcw : ∀ n ∈ d, CW n) :
    Ret Tryd.prog glN 6 [.agg (dC d), .c (stC s), .c (.v (.int .u8 (a : Int))), .c (.v (.int .u8 (b : Int)))] (bv true) := by
  refine retq (rs := [8]) 61 Tryd.func6 (by kernel_rfl) rfl (by kernel_rfl) rfl (by simp) (by simp) fun Z hN hX hR => ?_
  have haw := awake15_ret
  have hfew := few_ret glN d hl hs
  repeat (first | ((first | refine Q1 ?_ | refine Q2 ?_); intro Z hN hX hR) | refine Q3 (by kernel_rfl) fun K hK => ?_ | ((first | refine Q4 fun R hJ => ?_ | with_reducible change ExpAll _ _ _); simp only [kS, R1, R2, R3, R4, R5, R6, R7, reduceCtorEq, R9, dC_length, dC_take]) | (refine hJ _ ?_; clear hJ R) | refine Q5 ?_ | (refine hK _ ?_; clear hK K) | ((first | refine hN _ ?_ | refine hX _ _ ?_ | refine hR _ ?_); clear hN hX hR Z) | refine Q6 rfl ?_ | refine Q7 (by decide) ?_ | (refine Q8 ?_ ?_; focus (simp only [kS, R1, R2, R3, R4, R5, R6, R7, reduceCtorEq, R9, dC_length, dC_take]; done)) | (refine Q9 ?_ ?_; focus (simp only [kS, R1, R2, R3, R4, R5, R6, R7, reduceCtorEq, R9, dC_length, dC_take]; done)) | refine Qa ?_ | refine Qb ?_ | refine Qc ?_ | refine And.intro (by first | assumption | omega) ?_)
  refine ⟨_, haw, rfl, ?_⟩
  try simp only [kS, R1, R2, R3, R4, R5, R6, R7, reduceCtorEq, R9, dC_length, dC_take, Bool.not_true, Bool.not_false]
  repeat (first | ((first | refine Q1 ?_ | refine Q2 ?_); intro Z hN hX hR) | refine Q3 (by kernel_rfl) fun K hK => ?_ | ((first | refine Q4 fun R hJ => ?_ | with_reducible change ExpAll _ _ _); simp only [kS, R1, R2, R3, R4, R5, R6, R7, reduceCtorEq, R9, dC_length, dC_take, Bool.not_true, Bool.not_false]) | (refine hJ _ ?_; clear hJ R) | refine Q5 ?_ | (refine hK _ ?_; clear hK K) | ((first | refine hN _ ?_ | refine hX _ _ ?_ | refine hR _ ?_); clear hN hX hR Z) | refine Q6 rfl ?_ | refine Q7 (by decide) ?_ | (refine Q8 ?_ ?_; focus (simp only [kS, R1, R2, R3, R4, R5, R6, R7, reduceCtorEq, R9, dC_length, dC_take, Bool.not_true, Bool.not_false]; done)) | (refine Q9 ?_ ?_; focus (simp only [kS, R1, R2, R3, R4, R5, R6, R7, reduceCtorEq, R9, dC_length, dC_take, Bool.not_true, Bool.not_false]; done)) | refine Qa ?_ | refine Qb ?_ | refine Qc ?_ | refine And.intro (by first | assumption | omega) ?_)
  cases gf : fewB d
  · rw [gf] at hfew
    refine ⟨_, hfew, rfl, ?_⟩
    try simp only [kS, R1, R2, R3, R4, R5, R6, R7, reduceCtorEq, R9, dC_length, dC_take, Bool.not_true, Bool.not_false]
    repeat (first | ((first | refine Q1 ?_ | refine Q2 ?_); intro Z hN hX hR) | refine Q3 (by kernel_rfl) fun K hK => ?_ | ((first | refine Q4 fun R hJ => ?_ | with_reducible change ExpAll _ _ _); simp only [kS, R1, R2, R3, R4, R5, R6, R7, reduceCtorEq, R9, dC_length, dC_take, Bool.not_true, Bool.not_false]) | (refine hJ _ ?_; clear hJ R) | refine Q5 ?_ | (refine hK _ ?_; clear hK K) | ((first | refine hN _ ?_ | refine hX _ _ ?_ | refine hR _ ?_); clear hN hX hR Z) | refine Q6 rfl ?_ | refine Q7 (by decide) ?_ | (refine Q8 ?_ ?_; focus (simp only [kS, R1, R2, R3, R4, R5, R6, R7, reduceCtorEq, R9, dC_length, dC_take, Bool.not_true, Bool.not_false]; done)) | (refine Q9 ?_ ?_; focus (simp only [kS, R1, R2, R3, R4, R5, R6, R7, reduceCtorEq, R9, dC_length, dC_take, Bool.not_true, Bool.not_false]; done)) | refine Qa ?_ | refine Qb ?_ | refine Qc ?_ | refine And.intro (by first | assumption | omega) ?_)
    refine ⟨_, haw, rfl, ?_⟩
    try simp only [kS, R1, R2, R3, R4, R5, R6, R7, reduceCtorEq, R9, dC_length, dC_take, Bool.not_true, Bool.not_false]
    repeat (first | ((first | refine Q1 ?_ | refine Q2 ?_); intro Z hN hX hR) | refine Q3 (by kernel_rfl) fun K hK => ?_ | ((first | refine Q4 fun R hJ => ?_ | with_reducible change ExpAll _ _ _); simp only [kS, R1, R2, R3, R4, R5, R6, R7, reduceCtorEq, R9, dC_length, dC_take, Bool.not_true, Bool.not_false]) | (refine hJ _ ?_; clear hJ R) | refine Q5 ?_ | (refine hK _ ?_; clear hK K) | ((first | refine hN _ ?_ | refine hX _ _ ?_ | refine hR _ ?_); clear hN hX hR Z) | refine Q6 rfl ?_ | refine Q7 (by decide) ?_ | (refine Q8 ?_ ?_; focus (simp only [kS, R1, R2, R3, R4, R5, R6, R7, reduceCtorEq, R9, dC_length, dC_take, Bool.not_true, Bool.not_false]; done)) | (refine Q9 ?_ ?_; focus (simp only [kS, R1, R2, R3, R4, R5, R6, R7, reduceCtorEq, R9, dC_length, dC_take, Bool.not_true, Bool.not_false]; done)) | refine Qa ?_ | refine Qb ?_ | refine Qc ?_ | refine And.intro (by first | assumption | omega) ?_)
    all_goals rfl
  rw [gf] at hfew
  obtain ⟨f1, f2⟩ := fewB_true gf
  have hright := right_ret glN d f1 hs
  refine ⟨_, hfew, rfl, ?_⟩
  try simp only [kS, R1, R2, R3, R4, R5, R6, R7, reduceCtorEq, R9, dC_length, dC_take, Bool.not_true, Bool.not_false]
  repeat (first | ((first | refine Q1 ?_ | refine Q2 ?_); intro Z hN hX hR) | refine Q3 (by kernel_rfl) fun K hK => ?_ | ((first | refine Q4 fun R hJ => ?_ | with_reducible change ExpAll _ _ _); simp only [kS, R1, R2, R3, R4, R5, R6, R7, reduceCtorEq, R9, dC_length, dC_take, Bool.not_true, Bool.not_false]) | (refine hJ _ ?_; clear hJ R) | refine Q5 ?_ | (refine hK _ ?_; clear hK K) | ((first | refine hN _ ?_ | refine hX _ _ ?_ | refine hR _ ?_); clear hN hX hR Z) | refine Q6 rfl ?_ | refine Q7 (by decide) ?_ | (refine Q8 ?_ ?_; focus (simp only [kS, R1, R2, R3, R4, R5, R6, R7, reduceCtorEq, R9, dC_length, dC_take, Bool.not_true, Bool.not_false]; done)) | (refine Q9 ?_ ?_; focus (simp only [kS, R1, R2, R3, R4, R5, R6, R7, reduceCtorEq, R9, dC_length, dC_take, Bool.not_true, Bool.not_false]; done)) | refine Qa ?_ | refine Qb ?_ | refine Qc ?_ | refine And.intro (by first | assumption | omega) ?_)
  cases gr : rightB d
  · rw [gr] at hright
    refine ⟨_, hright, rfl, ?_⟩
    try simp only [kS, R1, R2, R3, R4, R5, R6, R7, reduceCtorEq, R9, dC_length, dC_take, Bool.not_true, Bool.not_false]
    repeat (first | ((first | refine Q1 ?_ | refine Q2 ?_); intro Z hN hX hR) | refine Q3 (by kernel_rfl) fun K hK => ?_ | ((first | refine Q4 fun R hJ => ?_ | with_reducible change ExpAll _ _ _); simp only [kS, R1, R2, R3, R4, R5, R6, R7, reduceCtorEq, R9, dC_length, dC_take, Bool.not_true, Bool.not_false]) | (refine hJ _ ?_; clear hJ R) | refine Q5 ?_ | (refine hK _ ?_; clear hK K) | ((first | refine hN _ ?_ | refine hX _ _ ?_ | refine hR _ ?_); clear hN hX hR Z) | refine Q6 rfl ?_ | refine Q7 (by decide) ?_ | (refine Q8 ?_ ?_; focus (simp only [kS, R1, R2, R3, R4, R5, R6, R7, reduceCtorEq, R9, dC_length, dC_take, Bool.not_true, Bool.not_false]; done)) | (refine Q9 ?_ ?_; focus (simp only [kS, R1, R2, R3, R4, R5, R6, R7, reduceCtorEq, R9, dC_length, dC_take, Bool.not_true, Bool.not_false]; done)) | refine Qa ?_ | refine Qb ?_ | refine Qc ?_ | refine And.intro (by first | assumption | omega) ?_)
    refine ⟨_, haw, rfl, ?_⟩
    try simp only [kS, R1, R2, R3, R4, R5, R6, R7, reduceCtorEq, R9, dC_length, dC_take, Bool.not_true, Bool.not_false]
    repeat (first | ((first | refine Q1 ?_ | refine Q2 ?_); intro Z hN hX hR) | refine Q3 (by kernel_rfl) fun K hK => ?_ | ((first | refine Q4 fun R hJ => ?_ | with_reducible change ExpAll _ _ _); simp only [kS, R1, R2, R3, R4, R5, R6, R7, reduceCtorEq, R9, dC_length, dC_take, Bool.not_true, Bool.not_false]) | (refine hJ _ ?_; clear hJ R) | refine Q5 ?_ | (refine hK _ ?_; clear hK K) | ((first | refine hN _ ?_ | refine hX _ _ ?_ | refine hR _ ?_); clear hN hX hR Z) | refine Q6 rfl ?_ | refine Q7 (by decide) ?_ | (refine Q8 ?_ ?_; focus (simp only [kS, R1, R2, R3, R4, R5, R6, R7, reduceCtorEq, R9, dC_length, dC_take, Bool.not_true, Bool.not_false]; done)) | (refine Q9 ?_ ?_; focus (simp only [kS, R1, R2, R3, R4, R5, R6, R7, reduceCtorEq, R9, dC_length, dC_take, Bool.not_true, Bool.not_false]; done)) | refine Qa ?_ | refine Qb ?_ | refine Qc ?_ | refine And.intro (by first | assumption | omega) ?_)
    all_goals rfl
  rw [gr] at hright
  obtain ⟨hwf, hwo⟩ := rightB_ok gr f1
  have hf6 : ∀ n ∈ d, n.s.size ≤ 1000000 := fun n hn => by have := f2 n hn; omega
  have hfit := fits15_ret glN d s (fits_ret glN d s hwf hf6 gr hsl)
  refine ⟨_, hright, rfl, ?_⟩
  try simp only [kS, R1, R2, R3, R4, R5, R6, R7, reduceCtorEq, R9, dC_length, dC_take, Bool.not_true, Bool.not_false]
  repeat (first | ((first | refine Q1 ?_ | refine Q2 ?_); intro Z hN hX hR) | refine Q3 (by kernel_rfl) fun K hK => ?_ | ((first | refine Q4 fun R hJ => ?_ | with_reducible change ExpAll _ _ _); simp only [kS, R1, R2, R3, R4, R5, R6, R7, reduceCtorEq, R9, dC_length, dC_take, Bool.not_true, Bool.not_false]) | (refine hJ _ ?_; clear hJ R) | refine Q5 ?_ | (refine hK _ ?_; clear hK K) | ((first | refine hN _ ?_ | refine hX _ _ ?_ | refine hR _ ?_); clear hN hX hR Z) | refine Q6 rfl ?_ | refine Q7 (by decide) ?_ | (refine Q8 ?_ ?_; focus (simp only [kS, R1, R2, R3, R4, R5, R6, R7, reduceCtorEq, R9, dC_length, dC_take, Bool.not_true, Bool.not_false]; done)) | (refine Q9 ?_ ?_; focus (simp only [kS, R1, R2, R3, R4, R5, R6, R7, reduceCtorEq, R9, dC_length, dC_take, Bool.not_true, Bool.not_false]; done)) | refine Qa ?_ | refine Qb ?_ | refine Qc ?_ | refine And.intro (by first | assumption | omega) ?_)
  cases gt : fitsB d s
  · rw [gt] at hfit
    refine ⟨_, hfit, rfl, ?_⟩
    try simp only [kS, R1, R2, R3, R4, R5, R6, R7, reduceCtorEq, R9, dC_length, dC_take, Bool.not_true, Bool.not_false]
    repeat (first | ((first | refine Q1 ?_ | refine Q2 ?_); intro Z hN hX hR) | refine Q3 (by kernel_rfl) fun K hK => ?_ | ((first | refine Q4 fun R hJ => ?_ | with_reducible change ExpAll _ _ _); simp only [kS, R1, R2, R3, R4, R5, R6, R7, reduceCtorEq, R9, dC_length, dC_take, Bool.not_true, Bool.not_false]) | (refine hJ _ ?_; clear hJ R) | refine Q5 ?_ | (refine hK _ ?_; clear hK K) | ((first | refine hN _ ?_ | refine hX _ _ ?_ | refine hR _ ?_); clear hN hX hR Z) | refine Q6 rfl ?_ | refine Q7 (by decide) ?_ | (refine Q8 ?_ ?_; focus (simp only [kS, R1, R2, R3, R4, R5, R6, R7, reduceCtorEq, R9, dC_length, dC_take, Bool.not_true, Bool.not_false]; done)) | (refine Q9 ?_ ?_; focus (simp only [kS, R1, R2, R3, R4, R5, R6, R7, reduceCtorEq, R9, dC_length, dC_take, Bool.not_true, Bool.not_false]; done)) | refine Qa ?_ | refine Qb ?_ | refine Qc ?_ | refine And.intro (by first | assumption | omega) ?_)
    refine ⟨_, haw, rfl, ?_⟩
    try simp only [kS, R1, R2, R3, R4, R5, R6, R7, reduceCtorEq, R9, dC_length, dC_take, Bool.not_true, Bool.not_false]
    repeat (first | ((first | refine Q1 ?_ | refine Q2 ?_); intro Z hN hX hR) | refine Q3 (by kernel_rfl) fun K hK => ?_ | ((first | refine Q4 fun R hJ => ?_ | with_reducible change ExpAll _ _ _); simp only [kS, R1, R2, R3, R4, R5, R6, R7, reduceCtorEq, R9, dC_length, dC_take, Bool.not_true, Bool.not_false]) | (refine hJ _ ?_; clear hJ R) | refine Q5 ?_ | (refine hK _ ?_; clear hK K) | ((first | refine hN _ ?_ | refine hX _ _ ?_ | refine hR _ ?_); clear hN hX hR Z) | refine Q6 rfl ?_ | refine Q7 (by decide) ?_ | (refine Q8 ?_ ?_; focus (simp only [kS, R1, R2, R3, R4, R5, R6, R7, reduceCtorEq, R9, dC_length, dC_take, Bool.not_true, Bool.not_false]; done)) | (refine Q9 ?_ ?_; focus (simp only [kS, R1, R2, R3, R4, R5, R6, R7, reduceCtorEq, R9, dC_length, dC_take, Bool.not_true, Bool.not_false]; done)) | refine Qa ?_ | refine Qb ?_ | refine Qc ?_ | refine And.intro (by first | assumption | omega) ?_)
    all_goals rfl
  rw [gt] at hfit
  have F := fitN hwf hf6 hcw gt
  refine ⟨_, hfit, rfl, ?_⟩
  try simp only [kS, R1, R2, R3, R4, R5, R6, R7, reduceCtorEq, R9, dC_length, dC_take, Bool.not_true, Bool.not_false]
  repeat (first | ((first | refine Q1 ?_ | refine Q2 ?_); intro Z hN hX hR) | refine Q3 (by kernel_rfl) fun K hK => ?_ | ((first | refine Q4 fun R hJ => ?_ | with_reducible change ExpAll _ _ _); simp only [kS, R1, R2, R3, R4, R5, R6, R7, reduceCtorEq, R9, dC_length, dC_take, Bool.not_true, Bool.not_false]) | (refine hJ _ ?_; clear hJ R) | refine Q5 ?_ | (refine hK _ ?_; clear hK K) | ((first | refine hN _ ?_ | refine hX _ _ ?_ | refine hR _ ?_); clear hN hX hR Z) | refine Q6 rfl ?_ | refine Q7 (by decide) ?_ | (refine Q8 ?_ ?_; focus (simp only [kS, R1, R2, R3, R4, R5, R6, R7, reduceCtorEq, R9, dC_length, dC_take, Bool.not_true, Bool.not_false]; done)) | (refine Q9 ?_ ?_; focus (simp only [kS, R1, R2, R3, R4, R5, R6, R7, reduceCtorEq, R9, dC_length, dC_take, Bool.not_true, Bool.not_false]; done)) | refine Qa ?_ | refine Qb ?_ | refine Qc ?_ | refine And.intro (by first | assumption | omega) ?_)
  have hlt0 := classesF_lt F.wf F.cw F.hok
  have hcl0 := classesF_len d (headsS d 1500 s)
  have hhl := F.hlen
  have hal := onS_alike F.wf (k := 1500) F.fo ha hb
  have hona := F.on a ha
  have honb := F.on b hb
  obtain ⟨k1, k2⟩ := F.onok a ha
  have hsame := same14_ret glN (onS d 1500 s a) (onS d 1500 s a) (fun x hx => by have := (k2 x hx).1; omega) (fun x hx => by have := (k2 x hx).1; omega) (by omega)
  rw [sameB_refl] at hsame
  refine ⟨_, F.classes, rfl, ?_⟩
  try simp only [kS, R1, R2, R3, R4, R5, R6, R7, reduceCtorEq, R9, dC_length, dC_take, Bool.not_true, Bool.not_false]
  repeat (first | ((first | refine Q1 ?_ | refine Q2 ?_); intro Z hN hX hR) | refine Q3 (by kernel_rfl) fun K hK => ?_ | ((first | refine Q4 fun R hJ => ?_ | with_reducible change ExpAll _ _ _); simp only [kS, R1, R2, R3, R4, R5, R6, R7, reduceCtorEq, R9, dC_length, dC_take, Bool.not_true, Bool.not_false]) | (refine hJ _ ?_; clear hJ R) | refine Q5 ?_ | (refine hK _ ?_; clear hK K) | ((first | refine hN _ ?_ | refine hX _ _ ?_ | refine hR _ ?_); clear hN hX hR Z) | refine Q6 rfl ?_ | refine Q7 (by decide) ?_ | (refine Q8 ?_ ?_; focus (simp only [kS, R1, R2, R3, R4, R5, R6, R7, reduceCtorEq, R9, dC_length, dC_take, Bool.not_true, Bool.not_false]; done)) | (refine Q9 ?_ ?_; focus (simp only [kS, R1, R2, R3, R4, R5, R6, R7, reduceCtorEq, R9, dC_length, dC_take, Bool.not_true, Bool.not_false]; done)) | refine Qa ?_ | refine Qb ?_ | refine Qc ?_ | refine And.intro (by first | assumption | omega) ?_)
  generalize classesF d (headsS d 1500 s) = L at *
  have bl := clC_length L
  refine awq_loop (fun n f => ∃ i : Nat, i ≤ L.length ∧ n = L.length - i ∧ f.t 10 = iv (i : Int) ∧ f.t 9 = .c (clS L) ∧ f.t 1 = .c (stC s) ∧ f.t 2 = .c (.v (.int .u8 (a : Int))) ∧ f.t 3 = .c (.v (.int .u8 (b : Int))) ∧ f.t 4 = .ref 4 1 0 ∧ f.ob 4 1 = .box (dC d) ∧ 1 < f.k ∧ (∀ j, (h : j < L.length) → j < i → hasN L[j] a = hasN L[j] b)) L.length ?_ ?_
  · exact ⟨0, by omega, rfl, by (simp only [kS, R1, R2, R3, R4, R5, R6, R7, reduceCtorEq, R9]) <;> first | omega | rfl, by (simp only [kS, R1, R2, R3, R4, R5, R6, R7, reduceCtorEq, R9]) <;> first | omega | rfl, by (simp only [kS, R1, R2, R3, R4, R5, R6, R7, reduceCtorEq, R9]) <;> first | omega | rfl, by (simp only [kS, R1, R2, R3, R4, R5, R6, R7, reduceCtorEq, R9]) <;> first | omega | rfl, by (simp only [kS, R1, R2, R3, R4, R5, R6, R7, reduceCtorEq, R9]) <;> first | omega | rfl, by (simp only [kS, R1, R2, R3, R4, R5, R6, R7, reduceCtorEq, R9]) <;> first | omega | rfl, by (simp only [kS, R1, R2, R3, R4, R5, R6, R7, reduceCtorEq, R9]) <;> first | omega | rfl, by (simp only [kS, R1, R2, R3, R4, R5, R6, R7, reduceCtorEq, R9]) <;> first | omega | rfl, fun j _ h => by omega⟩
  rintro Z n f hN hX hR ⟨i, hi, rfl, h10, h9, h1, h2, h3, h4, hbx, hk, hp⟩
  by_cases hlt : i < L.length
  · have hlt' : (i : Int) < (L.length : Int) := by omega
    have d1 := clC_drop L i hlt
    have hg := hlt0 _ (List.getElem_mem hlt)
    have h24a := has24_ret glN L[i] hg a ha
    have h24b := has24_ret glN L[i] hg b hb
    cases hq : (!(hasN L[i] a == hasN L[i] b))
    · repeat (first | ((first | refine Q1 ?_ | refine Q2 ?_); intro Z hN hX hR) | refine Q3 (by kernel_rfl) fun K hK => ?_ | ((first | refine Q4 fun R hJ => ?_ | with_reducible change ExpAll _ _ _); simp only [kS, R1, R2, R3, R4, R5, R6, R7, reduceCtorEq, R9, h10, h9, h1, h2, h3, h4, hbx, hlt, hlt', d1, bl, ws_length, ws_take, decide_true]) | (refine hJ _ ?_; clear hJ R) | refine Q5 ?_ | (refine hK _ ?_; clear hK K) | ((first | refine hN _ ?_ | refine hX _ _ ?_ | refine hR _ ?_); clear hN hX hR Z) | refine Q6 rfl ?_ | refine Q7 (by decide) ?_ | (refine Q8 ?_ ?_; focus (simp only [kS, R1, R2, R3, R4, R5, R6, R7, reduceCtorEq, R9, h10, h9, h1, h2, h3, h4, hbx, hlt, hlt', d1, bl, ws_length, ws_take, decide_true]; done)) | (refine Q9 ?_ ?_; focus (simp only [kS, R1, R2, R3, R4, R5, R6, R7, reduceCtorEq, R9, h10, h9, h1, h2, h3, h4, hbx, hlt, hlt', d1, bl, ws_length, ws_take, decide_true]; done)) | refine Qa ?_ | refine Qb ?_ | refine Qc ?_ | refine And.intro (by first | assumption | omega) ?_)
      refine ⟨_, h24a, rfl, ?_⟩
      simp only [kS, R1, R2, R3, R4, R5, R6, R7, reduceCtorEq, R9, h10, h9, h1, h2, h3, h4, hbx, hlt, hlt', d1, bl, decide_true]
      repeat (first | ((first | refine Q1 ?_ | refine Q2 ?_); intro Z hN hX hR) | refine Q3 (by kernel_rfl) fun K hK => ?_ | ((first | refine Q4 fun R hJ => ?_ | with_reducible change ExpAll _ _ _); simp only [kS, R1, R2, R3, R4, R5, R6, R7, reduceCtorEq, R9, h10, h9, h1, h2, h3, h4, hbx, hlt, hlt', d1, bl, decide_true]) | (refine hJ _ ?_; clear hJ R) | refine Q5 ?_ | (refine hK _ ?_; clear hK K) | ((first | refine hN _ ?_ | refine hX _ _ ?_ | refine hR _ ?_); clear hN hX hR Z) | refine Q6 rfl ?_ | refine Q7 (by decide) ?_ | (refine Q8 ?_ ?_; focus (simp only [kS, R1, R2, R3, R4, R5, R6, R7, reduceCtorEq, R9, h10, h9, h1, h2, h3, h4, hbx, hlt, hlt', d1, bl, decide_true]; done)) | (refine Q9 ?_ ?_; focus (simp only [kS, R1, R2, R3, R4, R5, R6, R7, reduceCtorEq, R9, h10, h9, h1, h2, h3, h4, hbx, hlt, hlt', d1, bl, decide_true]; done)) | refine Qa ?_ | refine Qb ?_ | refine Qc ?_ | refine And.intro (by first | assumption | omega) ?_)
      refine ⟨_, h24b, rfl, ?_⟩
      simp only [kS, R1, R2, R3, R4, R5, R6, R7, reduceCtorEq, R9, h10, h9, h1, h2, h3, h4, hbx, hlt, hlt', d1, bl, hq, decide_true]
      repeat (first | ((first | refine Q1 ?_ | refine Q2 ?_); intro Z hN hX hR) | refine Q3 (by kernel_rfl) fun K hK => ?_ | ((first | refine Q4 fun R hJ => ?_ | with_reducible change ExpAll _ _ _); simp only [kS, R1, R2, R3, R4, R5, R6, R7, reduceCtorEq, R9, h10, h9, h1, h2, h3, h4, hbx, hlt, hlt', d1, bl, hq, decide_true]) | (refine hJ _ ?_; clear hJ R) | refine Q5 ?_ | (refine hK _ ?_; clear hK K) | ((first | refine hN _ ?_ | refine hX _ _ ?_ | refine hR _ ?_); clear hN hX hR Z) | refine Q6 rfl ?_ | refine Q7 (by decide) ?_ | (refine Q8 ?_ ?_; focus (simp only [kS, R1, R2, R3, R4, R5, R6, R7, reduceCtorEq, R9, h10, h9, h1, h2, h3, h4, hbx, hlt, hlt', d1, bl, hq, decide_true]; done)) | (refine Q9 ?_ ?_; focus (simp only [kS, R1, R2, R3, R4, R5, R6, R7, reduceCtorEq, R9, h10, h9, h1, h2, h3, h4, hbx, hlt, hlt', d1, bl, hq, decide_true]; done)) | refine Qa ?_ | refine Qb ?_ | refine Qc ?_ | refine And.intro (by first | assumption | omega) ?_)
      refine ⟨L.length - (i + 1), by omega, i + 1, by omega, rfl, ?_, by simp only [kS, R1, R2, R3, R4, R5, R6, R7, reduceCtorEq, R9, h9], by simp only [kS, R1, R2, R3, R4, R5, R6, R7, reduceCtorEq, R9, h1], by simp only [kS, R1, R2, R3, R4, R5, R6, R7, reduceCtorEq, R9, h2], by simp only [kS, R1, R2, R3, R4, R5, R6, R7, reduceCtorEq, R9, h3], by simp only [kS, R1, R2, R3, R4, R5, R6, R7, reduceCtorEq, R9, h4], by simp only [kS, R1, R2, R3, R4, R5, R6, R7, reduceCtorEq, R9, hbx, hk, tk1, tk2, tk3, tk4, tk5, tk6, tk7, tk8, and_false, false_and], by (simp only [kS, R1, R2, R3, R4, R5, R6, R7, reduceCtorEq, R9]) <;> first | omega | rfl, fun j hj hji => ?_⟩
      · simp only [kS, R1, R2, R3, R4, R5, R6, R7, reduceCtorEq, R9]
        rw [wrap_i64 (by omega) (by omega)]; rfl
      · by_cases e : j = i
        · subst e
          simpa using hq
        · exact hp j hj (by omega)
    · repeat (first | ((first | refine Q1 ?_ | refine Q2 ?_); intro Z hN hX hR) | refine Q3 (by kernel_rfl) fun K hK => ?_ | ((first | refine Q4 fun R hJ => ?_ | with_reducible change ExpAll _ _ _); simp only [kS, R1, R2, R3, R4, R5, R6, R7, reduceCtorEq, R9, h10, h9, h1, h2, h3, h4, hbx, hlt, hlt', d1, bl, ws_length, ws_take, decide_true]) | (refine hJ _ ?_; clear hJ R) | refine Q5 ?_ | (refine hK _ ?_; clear hK K) | ((first | refine hN _ ?_ | refine hX _ _ ?_ | refine hR _ ?_); clear hN hX hR Z) | refine Q6 rfl ?_ | refine Q7 (by decide) ?_ | (refine Q8 ?_ ?_; focus (simp only [kS, R1, R2, R3, R4, R5, R6, R7, reduceCtorEq, R9, h10, h9, h1, h2, h3, h4, hbx, hlt, hlt', d1, bl, ws_length, ws_take, decide_true]; done)) | (refine Q9 ?_ ?_; focus (simp only [kS, R1, R2, R3, R4, R5, R6, R7, reduceCtorEq, R9, h10, h9, h1, h2, h3, h4, hbx, hlt, hlt', d1, bl, ws_length, ws_take, decide_true]; done)) | refine Qa ?_ | refine Qb ?_ | refine Qc ?_ | refine And.intro (by first | assumption | omega) ?_)
      refine ⟨_, h24a, rfl, ?_⟩
      simp only [kS, R1, R2, R3, R4, R5, R6, R7, reduceCtorEq, R9, h10, h9, h1, h2, h3, h4, hbx, hlt, hlt', d1, bl, decide_true]
      repeat (first | ((first | refine Q1 ?_ | refine Q2 ?_); intro Z hN hX hR) | refine Q3 (by kernel_rfl) fun K hK => ?_ | ((first | refine Q4 fun R hJ => ?_ | with_reducible change ExpAll _ _ _); simp only [kS, R1, R2, R3, R4, R5, R6, R7, reduceCtorEq, R9, h10, h9, h1, h2, h3, h4, hbx, hlt, hlt', d1, bl, decide_true]) | (refine hJ _ ?_; clear hJ R) | refine Q5 ?_ | (refine hK _ ?_; clear hK K) | ((first | refine hN _ ?_ | refine hX _ _ ?_ | refine hR _ ?_); clear hN hX hR Z) | refine Q6 rfl ?_ | refine Q7 (by decide) ?_ | (refine Q8 ?_ ?_; focus (simp only [kS, R1, R2, R3, R4, R5, R6, R7, reduceCtorEq, R9, h10, h9, h1, h2, h3, h4, hbx, hlt, hlt', d1, bl, decide_true]; done)) | (refine Q9 ?_ ?_; focus (simp only [kS, R1, R2, R3, R4, R5, R6, R7, reduceCtorEq, R9, h10, h9, h1, h2, h3, h4, hbx, hlt, hlt', d1, bl, decide_true]; done)) | refine Qa ?_ | refine Qb ?_ | refine Qc ?_ | refine And.intro (by first | assumption | omega) ?_)
      refine ⟨_, h24b, rfl, ?_⟩
      simp only [kS, R1, R2, R3, R4, R5, R6, R7, reduceCtorEq, R9, h10, h9, h1, h2, h3, h4, hbx, hlt, hlt', d1, bl, hq, decide_true]
      repeat (first | ((first | refine Q1 ?_ | refine Q2 ?_); intro Z hN hX hR) | refine Q3 (by kernel_rfl) fun K hK => ?_ | ((first | refine Q4 fun R hJ => ?_ | with_reducible change ExpAll _ _ _); simp only [kS, R1, R2, R3, R4, R5, R6, R7, reduceCtorEq, R9, h10, h9, h1, h2, h3, h4, hbx, hlt, hlt', d1, bl, hq, decide_true]) | (refine hJ _ ?_; clear hJ R) | refine Q5 ?_ | (refine hK _ ?_; clear hK K) | ((first | refine hN _ ?_ | refine hX _ _ ?_ | refine hR _ ?_); clear hN hX hR Z) | refine Q6 rfl ?_ | refine Q7 (by decide) ?_ | (refine Q8 ?_ ?_; focus (simp only [kS, R1, R2, R3, R4, R5, R6, R7, reduceCtorEq, R9, h10, h9, h1, h2, h3, h4, hbx, hlt, hlt', d1, bl, hq, decide_true]; done)) | (refine Q9 ?_ ?_; focus (simp only [kS, R1, R2, R3, R4, R5, R6, R7, reduceCtorEq, R9, h10, h9, h1, h2, h3, h4, hbx, hlt, hlt', d1, bl, hq, decide_true]; done)) | refine Qa ?_ | refine Qb ?_ | refine Qc ?_ | refine And.intro (by first | assumption | omega) ?_)
      all_goals rfl
  · have hlt' : ¬ (i : Int) < (L.length : Int) := by omega
    have he := hal fun g hg => by
      obtain ⟨j, hj, rfl⟩ := List.getElem_of_mem hg
      exact hp j hj (by omega)
    rw [← he] at honb
    repeat (first | ((first | refine Q1 ?_ | refine Q2 ?_); intro Z hN hX hR) | refine Q3 (by kernel_rfl) fun K hK => ?_ | ((first | refine Q4 fun R hJ => ?_ | with_reducible change ExpAll _ _ _); simp only [kS, R1, R2, R3, R4, R5, R6, R7, reduceCtorEq, R9, h10, h9, h1, h2, h3, h4, hbx, hlt', dC_length, dC_take, decide_false]) | (refine hJ _ ?_; clear hJ R) | refine Q5 ?_ | (refine hK _ ?_; clear hK K) | ((first | refine hN _ ?_ | refine hX _ _ ?_ | refine hR _ ?_); clear hN hX hR Z) | refine Q6 rfl ?_ | refine Q7 (by decide) ?_ | (refine Q8 ?_ ?_; focus (simp only [kS, R1, R2, R3, R4, R5, R6, R7, reduceCtorEq, R9, h10, h9, h1, h2, h3, h4, hbx, hlt', dC_length, dC_take, decide_false]; done)) | (refine Q9 ?_ ?_; focus (simp only [kS, R1, R2, R3, R4, R5, R6, R7, reduceCtorEq, R9, h10, h9, h1, h2, h3, h4, hbx, hlt', dC_length, dC_take, decide_false]; done)) | refine Qa ?_ | refine Qb ?_ | refine Qc ?_ | refine And.intro (by first | assumption | omega) ?_)
    refine ⟨_, hona, rfl, ?_⟩
    simp only [kS, R1, R2, R3, R4, R5, R6, R7, reduceCtorEq, R9, h10, h9, h1, h2, h3, h4, hbx, dC_length, dC_take]
    repeat (first | ((first | refine Q1 ?_ | refine Q2 ?_); intro Z hN hX hR) | refine Q3 (by kernel_rfl) fun K hK => ?_ | ((first | refine Q4 fun R hJ => ?_ | with_reducible change ExpAll _ _ _); simp only [kS, R1, R2, R3, R4, R5, R6, R7, reduceCtorEq, R9, h10, h9, h1, h2, h3, h4, hbx, dC_length, dC_take]) | (refine hJ _ ?_; clear hJ R) | refine Q5 ?_ | (refine hK _ ?_; clear hK K) | ((first | refine hN _ ?_ | refine hX _ _ ?_ | refine hR _ ?_); clear hN hX hR Z) | refine Q6 rfl ?_ | refine Q7 (by decide) ?_ | (refine Q8 ?_ ?_; focus (simp only [kS, R1, R2, R3, R4, R5, R6, R7, reduceCtorEq, R9, h10, h9, h1, h2, h3, h4, hbx, dC_length, dC_take]; done)) | (refine Q9 ?_ ?_; focus (simp only [kS, R1, R2, R3, R4, R5, R6, R7, reduceCtorEq, R9, h10, h9, h1, h2, h3, h4, hbx, dC_length, dC_take]; done)) | refine Qa ?_ | refine Qb ?_ | refine Qc ?_ | refine And.intro (by first | assumption | omega) ?_)
    refine ⟨_, honb, rfl, ?_⟩
    simp only [kS, R1, R2, R3, R4, R5, R6, R7, reduceCtorEq, R9, h10, h9, h1, h2, h3, h4, hbx, dC_length, dC_take]
    repeat (first | ((first | refine Q1 ?_ | refine Q2 ?_); intro Z hN hX hR) | refine Q3 (by kernel_rfl) fun K hK => ?_ | ((first | refine Q4 fun R hJ => ?_ | with_reducible change ExpAll _ _ _); simp only [kS, R1, R2, R3, R4, R5, R6, R7, reduceCtorEq, R9, h10, h9, h1, h2, h3, h4, hbx, dC_length, dC_take]) | (refine hJ _ ?_; clear hJ R) | refine Q5 ?_ | (refine hK _ ?_; clear hK K) | ((first | refine hN _ ?_ | refine hX _ _ ?_ | refine hR _ ?_); clear hN hX hR Z) | refine Q6 rfl ?_ | refine Q7 (by decide) ?_ | (refine Q8 ?_ ?_; focus (simp only [kS, R1, R2, R3, R4, R5, R6, R7, reduceCtorEq, R9, h10, h9, h1, h2, h3, h4, hbx, dC_length, dC_take]; done)) | (refine Q9 ?_ ?_; focus (simp only [kS, R1, R2, R3, R4, R5, R6, R7, reduceCtorEq, R9, h10, h9, h1, h2, h3, h4, hbx, dC_length, dC_take]; done)) | refine Qa ?_ | refine Qb ?_ | refine Qc ?_ | refine And.intro (by first | assumption | omega) ?_)
    refine ⟨_, hsame, rfl, ?_⟩
    simp only [kS, R1, R2, R3, R4, R5, R6, R7, reduceCtorEq, R9, h10, h9, h1, h2, h3, h4, hbx]
    repeat (first | ((first | refine Q1 ?_ | refine Q2 ?_); intro Z hN hX hR) | refine Q3 (by kernel_rfl) fun K hK => ?_ | ((first | refine Q4 fun R hJ => ?_ | with_reducible change ExpAll _ _ _); simp only [kS, R1, R2, R3, R4, R5, R6, R7, reduceCtorEq, R9, h10, h9, h1, h2, h3, h4, hbx]) | (refine hJ _ ?_; clear hJ R) | refine Q5 ?_ | (refine hK _ ?_; clear hK K) | ((first | refine hN _ ?_ | refine hX _ _ ?_ | refine hR _ ?_); clear hN hX hR Z) | refine Q6 rfl ?_ | refine Q7 (by decide) ?_ | (refine Q8 ?_ ?_; focus (simp only [kS, R1, R2, R3, R4, R5, R6, R7, reduceCtorEq, R9, h10, h9, h1, h2, h3, h4, hbx]; done)) | (refine Q9 ?_ ?_; focus (simp only [kS, R1, R2, R3, R4, R5, R6, R7, reduceCtorEq, R9, h10, h9, h1, h2, h3, h4, hbx]; done)) | refine Qa ?_ | refine Qb ?_ | refine Qc ?_ | refine And.intro (by first | assumption | omega) ?_)
    all_goals rfl

end Go.Proofs.YtilhjiopbbbgmaaDoor
