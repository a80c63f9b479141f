/- Proved: NextTells of chapter 15, as a tied card: for every description, state and byte the law's body answers true, and what was handed in reads as it did. This is part 6 of 7 of that proof (first the abstract machine and its soundness, then the walks, the plain law, the card): no condition beyond the statement's own. -/
import Derived.Test.YtilhjiopbbbgmaaGreatDoorTells5

/- The program's own Heads as a contract; the small descriptions that wake the laws. -/
namespace Go.Proofs.YtilhjiopbbbgmaaGreatDoor
open Nat renaming reduceSub → R1, reduceMul → R2, reduceLeDiff → R3, reducePow → R4, reduceBEq → R5, reduceAdd → R6, reduceEqDiff → R7
open Int renaming reduceToNat → R9
open Go Go.RowKit Am
set_option linter.unusedVariables false
set_option linter.unusedSimpArgs false
set_option maxHeartbeats 4000000
attribute [local irreducible] AWp AOps

theorem heads15_ret (d : List Nd) (hd : WFd d) (k : Nat) (s : List It) (hdp : deep d k s) (hs : gd d s) (hj : okJ s) (hl : s.length + k ≤ 100000) (hn : cnt d k s ≤ 1000000) (hlv : (leaves d k s).length ≤ 1000000) :
    Ret Tryz.prog glD 48 [.agg (dC d), .c (stC s)] (.c (brC (headsS d k s))) := by
  refine ⟨callF Tryz.func48 (by kernel_rfl) rfl, fun w G vs hG hgl hrep => ?_⟩
  obtain ⟨vd, v, hvs, hvd, hv⟩ : ∃ vd v, vs = #[.agg #[vd], v] ∧ RepL w G (dC d) [vd] ∧ RepC w G (stC s) v := by
    obtain ⟨l⟩ := vs
    match l, hrep with
    | [a, b], ⟨⟨ys, e, h1⟩, h2, _⟩ =>
      obtain ⟨ys⟩ := ys
      match ys, h1 with
      | [y], h1 => exact ⟨y, b, by rw [e], h1, h2⟩
      | [], h1 => exact h1.elim
      | _ :: _ :: _, h1 => exact h1.2.elim
  subst hvs
  refine (heads15_c d hd k s w G vd v hdp hs hj hl hn hlv hG hgl hvd hv).mono ?_
  rintro e w' ⟨v, rfl, hb, G', h1, h2, h3, hr⟩
  exact ⟨v, rfl, hb, fun h => h.elim, G', h1, h2, h3, hr⟩

abbrev nd0 (k a b lo hi : Int) : Nd := ⟨k, a, b, lo, hi, 0, 0, 0, 0, ⟨#[]⟩⟩

theorem wrap_ret (gl : Gl) (kind lo hi : Int) (a : List Nd) (hl : a.length ≤ 1000) (h : ∀ n ∈ a, n.k < 4) (h0 : 0 < a.length) :
    Ret Tryz.prog gl 43 [iv kind, iv lo, iv hi, .agg (dC a)] (.agg (dC (a ++ [nd0 kind ((a.length : Int) - 1) 0 lo hi]))) := by
  have hm := moved_ret gl a 0 (by omega) h h0
  have hw : IntKind.i64.wrap ((a.length : Int) - 1) = (a.length : Int) - 1 := wrap_i64 (by omega) (by omega)
  have el := ndsC_length a
  refine retc 23 Tryz.func43 (by kernel_rfl) rfl (by kernel_rfl) rfl Tryz.underlying24 (by show _ = some 1; kernel_rfl) (by simp) fun Z hN hX hR => ?_
  simp only [dC]
  repeat (first | ((first | refine Q1 ?_ | refine Q2 ?_); intro Z hN hX hR) | refine Q3 (by kernel_rfl) fun K hK => ?_ | ((first | refine Q4 fun R hJ => ?_ | with_reducible change ExpAll _ _ _); simp only [kS, R1, R2, R3, R4, R5, R6, R7, reduceCtorEq, R9, hw, el]) | (refine hJ _ ?_; clear hJ R) | refine Q5 ?_ | (refine hK _ ?_; clear hK K) | ((first | refine hN _ ?_ | refine hX _ _ ?_ | refine hR _ ?_); clear hN hX hR Z) | refine Q6 rfl ?_ | refine Q7 (by decide) ?_ | (refine Q8 ?_ ?_; focus (simp only [kS, R1, R2, R3, R4, R5, R6, R7, reduceCtorEq, R9, hw, el]; done)) | (refine Q9 ?_ ?_; focus (simp only [kS, R1, R2, R3, R4, R5, R6, R7, reduceCtorEq, R9, hw, el]; done)) | refine Qa ?_ | refine Qb ?_ | refine Qc ?_ | refine And.intro (by first | assumption | omega) ?_)
  refine ⟨_, hm, rfl, ?_⟩
  simp only [kS, R1, R2, R3, R4, R5, R6, R7, reduceCtorEq, R9, hw, el]
  repeat (first | ((first | refine Q1 ?_ | refine Q2 ?_); intro Z hN hX hR) | refine Q3 (by kernel_rfl) fun K hK => ?_ | ((first | refine Q4 fun R hJ => ?_ | with_reducible change ExpAll _ _ _); simp only [kS, R1, R2, R3, R4, R5, R6, R7, reduceCtorEq, R9, hw, el, tk1, tk2, tk3, tk4, tk5, tk6, tk7, tk8, and_false, false_and]) | (refine hJ _ ?_; clear hJ R) | refine Q5 ?_ | (refine hK _ ?_; clear hK K) | ((first | refine hN _ ?_ | refine hX _ _ ?_ | refine hR _ ?_); clear hN hX hR Z) | refine Q6 rfl ?_ | refine Q7 (by decide) ?_ | (refine Q8 ?_ ?_; focus (simp only [kS, R1, R2, R3, R4, R5, R6, R7, reduceCtorEq, R9, hw, el, tk1, tk2, tk3, tk4, tk5, tk6, tk7, tk8, and_false, false_and]; done)) | (refine Q9 ?_ ?_; focus (simp only [kS, R1, R2, R3, R4, R5, R6, R7, reduceCtorEq, R9, hw, el, tk1, tk2, tk3, tk4, tk5, tk6, tk7, tk8, and_false, false_and]; done)) | refine Qa ?_ | refine Qb ?_ | refine Qc ?_ | refine And.intro (by first | assumption | omega) ?_)
  have hd : dC (a ++ [nd0 kind ((a.length : Int) - 1) 0 lo hi]) = [.sl (a.length + 1) (ndsC a ++ (nd0 kind ((a.length : Int) - 1) 0 lo hi).c)] := by
    simp [dC, ndsC]
  all_goals exact ⟨1, by (simp only [kS, R1, R2, R3, R4, R5, R6, R7, reduceCtorEq, R9]) <;> first | omega | rfl, by rw [hd]; simp only [kS, R1, R2, R3, R4, R5, R6, R7, reduceCtorEq, R9, tk1, tk2, tk3, tk4, tk5, tk6, tk7, tk8, and_false, false_and]; rfl⟩

theorem pair_ret (gl : Gl) (kind : Int) (a b : List Nd) (hl : a.length ≤ 1000) (hl2 : b.length ≤ 1000) (h : ∀ n ∈ a, n.k < 4) (h2 : ∀ n ∈ b, n.k < 4) (h0 : 0 < a.length) (h02 : 0 < b.length) :
    Ret Tryz.prog gl 42 [iv kind, .agg (dC a), .agg (dC b)] (.agg (dC (a ++ b ++ [nd0 kind ((a.length : Int) - 1) ((a.length : Int) + b.length - 1) 0 0]))) := by
  have hm := moved_ret gl a 0 (by omega) h h0
  have hm2 := moved_ret gl b a.length (by omega) h2 h02
  have hw : IntKind.i64.wrap ((a.length : Int) - 1) = (a.length : Int) - 1 := wrap_i64 (by omega) (by omega)
  have hw2 : IntKind.i64.wrap ((a.length : Int) + b.length) = (a.length : Int) + b.length := wrap_i64 (by omega) (by omega)
  have hw3 : IntKind.i64.wrap ((a.length : Int) + b.length - 1) = (a.length : Int) + b.length - 1 := wrap_i64 (by omega) (by omega)
  have el := ndsC_length a
  have el2 := ndsC_length b
  have hd : dC (a ++ b ++ [nd0 kind ((a.length : Int) - 1) ((a.length : Int) + b.length - 1) 0 0]) = [.sl (a.length + b.length + 1) (ndsC a ++ ndsC b ++ (nd0 kind ((a.length : Int) - 1) ((a.length : Int) + b.length - 1) 0 0).c)] := by
    simp [dC, ndsC, Nat.add_assoc]
  refine retc 36 Tryz.func42 (by kernel_rfl) rfl (by kernel_rfl) rfl Tryz.underlying24 (by show _ = some 1; kernel_rfl) (by simp) fun Z hN hX hR => ?_
  simp only [dC]
  repeat (first | ((first | refine Q1 ?_ | refine Q2 ?_); intro Z hN hX hR) | refine Q3 (by kernel_rfl) fun K hK => ?_ | ((first | refine Q4 fun R hJ => ?_ | with_reducible change ExpAll _ _ _); simp only [kS, R1, R2, R3, R4, R5, R6, R7, reduceCtorEq, R9, hw, el]) | (refine hJ _ ?_; clear hJ R) | refine Q5 ?_ | (refine hK _ ?_; clear hK K) | ((first | refine hN _ ?_ | refine hX _ _ ?_ | refine hR _ ?_); clear hN hX hR Z) | refine Q6 rfl ?_ | refine Q7 (by decide) ?_ | (refine Q8 ?_ ?_; focus (simp only [kS, R1, R2, R3, R4, R5, R6, R7, reduceCtorEq, R9, hw, el]; done)) | (refine Q9 ?_ ?_; focus (simp only [kS, R1, R2, R3, R4, R5, R6, R7, reduceCtorEq, R9, hw, el]; done)) | refine Qa ?_ | refine Qb ?_ | refine Qc ?_ | refine And.intro (by first | assumption | omega) ?_)
  refine ⟨_, hm, rfl, ?_⟩
  simp only [kS, R1, R2, R3, R4, R5, R6, R7, reduceCtorEq, R9, hw, el]
  repeat (first | ((first | refine Q1 ?_ | refine Q2 ?_); intro Z hN hX hR) | refine Q3 (by kernel_rfl) fun K hK => ?_ | ((first | refine Q4 fun R hJ => ?_ | with_reducible change ExpAll _ _ _); simp only [kS, R1, R2, R3, R4, R5, R6, R7, reduceCtorEq, R9, hw, el, el2, tk1, tk2, tk3, tk4, tk5, tk6, tk7, tk8, and_false, false_and]) | (refine hJ _ ?_; clear hJ R) | refine Q5 ?_ | (refine hK _ ?_; clear hK K) | ((first | refine hN _ ?_ | refine hX _ _ ?_ | refine hR _ ?_); clear hN hX hR Z) | refine Q6 rfl ?_ | refine Q7 (by decide) ?_ | (refine Q8 ?_ ?_; focus (simp only [kS, R1, R2, R3, R4, R5, R6, R7, reduceCtorEq, R9, hw, el, el2, tk1, tk2, tk3, tk4, tk5, tk6, tk7, tk8, and_false, false_and]; done)) | (refine Q9 ?_ ?_; focus (simp only [kS, R1, R2, R3, R4, R5, R6, R7, reduceCtorEq, R9, hw, el, el2, tk1, tk2, tk3, tk4, tk5, tk6, tk7, tk8, and_false, false_and]; done)) | refine Qa ?_ | refine Qb ?_ | refine Qc ?_ | refine And.intro (by first | assumption | omega) ?_)
  refine ⟨_, hm2, rfl, ?_⟩
  simp only [kS, R1, R2, R3, R4, R5, R6, R7, reduceCtorEq, R9, hw, el, el2, tk1, tk2, tk3, tk4, tk5, tk6, tk7, tk8, and_false, false_and]
  repeat (first | ((first | refine Q1 ?_ | refine Q2 ?_); intro Z hN hX hR) | refine Q3 (by kernel_rfl) fun K hK => ?_ | ((first | refine Q4 fun R hJ => ?_ | with_reducible change ExpAll _ _ _); simp only [kS, R1, R2, R3, R4, R5, R6, R7, reduceCtorEq, R9, hw, hw2, hw3, el, el2, tk1, tk2, tk3, tk4, tk5, tk6, tk7, tk8, and_false, false_and]) | (refine hJ _ ?_; clear hJ R) | refine Q5 ?_ | (refine hK _ ?_; clear hK K) | ((first | refine hN _ ?_ | refine hX _ _ ?_ | refine hR _ ?_); clear hN hX hR Z) | refine Q6 rfl ?_ | refine Q7 (by decide) ?_ | (refine Q8 ?_ ?_; focus (simp only [kS, R1, R2, R3, R4, R5, R6, R7, reduceCtorEq, R9, hw, hw2, hw3, el, el2, tk1, tk2, tk3, tk4, tk5, tk6, tk7, tk8, and_false, false_and]; done)) | (refine Q9 ?_ ?_; focus (simp only [kS, R1, R2, R3, R4, R5, R6, R7, reduceCtorEq, R9, hw, hw2, hw3, el, el2, tk1, tk2, tk3, tk4, tk5, tk6, tk7, tk8, and_false, false_and]; done)) | refine Qa ?_ | refine Qb ?_ | refine Qc ?_ | refine And.intro (by first | assumption | omega) ?_)
  all_goals exact ⟨1, by (simp only [kS, R1, R2, R3, R4, R5, R6, R7, reduceCtorEq, R9]) <;> first | omega | rfl, by rw [hd]; simp only [kS, R1, R2, R3, R4, R5, R6, R7, reduceCtorEq, R9, tk1, tk2, tk3, tk4, tk5, tk6, tk7, tk8, and_false, false_and]; rfl⟩

end Go.Proofs.YtilhjiopbbbgmaaGreatDoor

/- Is a description of few nodes? May a text be a node's? -/
namespace Go.Proofs.YtilhjiopbbbgmaaGreatDoor
open Nat renaming reduceSub → R1, reduceMul → R2, reduceLeDiff → R3, reducePow → R4, reduceBEq → R5, reduceAdd → R6, reduceEqDiff → R7
open Int renaming reduceToNat → R9
open Go Go.RowKit Am
set_option linter.unusedVariables false
set_option linter.unusedSimpArgs false
set_option maxHeartbeats 4000000
attribute [local irreducible] AWp AOps

def tsum : List Nd → Nat
  | [] => 0
  | n :: l => n.s.size + tsum l

theorem tsum_mem : ∀ {l : List Nd} {n : Nd}, n ∈ l → n.s.size ≤ tsum l
  | x :: l, n, h => by
    rcases List.mem_cons.1 h with rfl | h
    · simp [tsum]
    · have := tsum_mem h; simp [tsum]; omega

theorem tsum_append : ∀ (a b : List Nd), tsum (a ++ b) = tsum a + tsum b
  | [], b => by simp [tsum]
  | x :: a, b => by simp [tsum, tsum_append a b, Nat.add_assoc]

def fewB (d : List Nd) : Bool := decide ((d.length : Int) ≤ 100) && decide (((tsum (d.take 200) : Nat) : Int) ≤ 2000)

theorem fewB_true {d : List Nd} (h : fewB d = true) : d.length ≤ 100 ∧ ∀ n ∈ d, n.s.size ≤ 2000 := by
  simp only [fewB, Bool.and_eq_true, decide_eq_true_eq] at h
  have : d.length ≤ 100 := by omega
  refine ⟨this, fun n hn => ?_⟩
  rw [List.take_of_length_le (by omega)] at h
  have := tsum_mem hn
  omega

theorem few_ret (gl : Gl) (d : List Nd) (hl : d.length ≤ 140737488355328) (hs : ∀ n ∈ d, n.s.size ≤ 140737488355328) : Ret Tryz.prog gl 8 [.agg (dC d)] (bv (fewB d)) := by
  refine retq (rs := [2]) 33 Tryz.func8 (by kernel_rfl) rfl (by kernel_rfl) rfl (by simp) (by simp) fun Z hN hX hR => ?_
  repeat (first | ((first | refine Q1 ?_ | refine Q2 ?_); intro Z hN hX hR) | refine Q3 (by kernel_rfl) fun K hK => ?_ | ((first | refine Q4 fun R hJ => ?_ | with_reducible change ExpAll _ _ _); simp only [kS, R1, R2, R3, R4, R5, R6, R7, reduceCtorEq, R9]) | (refine hJ _ ?_; clear hJ R) | refine Q5 ?_ | (refine hK _ ?_; clear hK K) | ((first | refine hN _ ?_ | refine hX _ _ ?_ | refine hR _ ?_); clear hN hX hR Z) | refine Q6 rfl ?_ | refine Q7 (by decide) ?_ | (refine Q8 ?_ ?_; focus (simp only [kS, R1, R2, R3, R4, R5, R6, R7, reduceCtorEq, R9]; done)) | (refine Q9 ?_ ?_; focus (simp only [kS, R1, R2, R3, R4, R5, R6, R7, reduceCtorEq, R9]; done)) | refine Qa ?_ | refine Qb ?_ | refine Qc ?_ | refine And.intro (by first | assumption | omega) ?_)
  refine awq_loop (fun c f => ∃ (i : Nat), i ≤ d.length ∧ i ≤ 200 ∧ c = 200 - i ∧ f.t 4 = iv (i : Int) ∧ f.t 3 = iv ((tsum (d.take i) : Nat) : Int) ∧ tsum (d.take i) ≤ i * 140737488355328 ∧ f.t 1 = .ref 1 1 0 ∧ f.ob 1 1 = .box (dC d) ∧ 1 < f.k) 200 ?_ ?_
  · exact ⟨0, by omega, by omega, rfl, by simp only [kS, R1, R2, R3, R4, R5, R6, R7, reduceCtorEq, R9]; rfl, by simp only [kS, R1, R2, R3, R4, R5, R6, R7, reduceCtorEq, R9]; rfl, by simp [tsum], by simp only [kS, R1, R2, R3, R4, R5, R6, R7, reduceCtorEq, R9], by simp only [kS, R1, R2, R3, R4, R5, R6, R7, reduceCtorEq, R9], by (simp only [kS, R1, R2, R3, R4, R5, R6, R7, reduceCtorEq, R9]) <;> first | omega | rfl⟩
  rintro Z c f hN hX hR ⟨i, hi, h200, rfl, h4, h3, hb0, h1, hb, hk⟩
  simp only [dC] at hb
  by_cases hlt : i < d.length
  · by_cases h2 : i < 200
    · have e := ndsC_drop d i hlt
      have el := ndsC_length d
      have h2' : (i : Int) < 200 := by omega
      have hsz := hs _ (List.getElem_mem hlt)
      have ht : tsum (d.take (i + 1)) = tsum (d.take i) + d[i].s.size := by
        rw [List.take_succ_eq_append_getElem hlt, tsum_append]; simp [tsum]
      have hw : IntKind.i64.wrap ((tsum (d.take i) : Nat) + (d[i].s.size : Int)) = (tsum (d.take i) : Nat) + (d[i].s.size : Int) := wrap_i64 (by omega) (by omega)
      repeat (first | ((first | refine Q1 ?_ | refine Q2 ?_); intro Z hN hX hR) | refine Q3 (by kernel_rfl) fun K hK => ?_ | ((first | refine Q4 fun R hJ => ?_ | with_reducible change ExpAll _ _ _); simp only [kS, R1, R2, R3, R4, R5, R6, R7, reduceCtorEq, R9, h4, h3, h1, hb, hlt, h2', e, el, hw, decide_true]) | (refine hJ _ ?_; clear hJ R) | refine Q5 ?_ | (refine hK _ ?_; clear hK K) | ((first | refine hN _ ?_ | refine hX _ _ ?_ | refine hR _ ?_); clear hN hX hR Z) | refine Q6 rfl ?_ | refine Q7 (by decide) ?_ | (refine Q8 ?_ ?_; focus (simp only [kS, R1, R2, R3, R4, R5, R6, R7, reduceCtorEq, R9, h4, h3, h1, hb, hlt, h2', e, el, hw, decide_true]; done)) | (refine Q9 ?_ ?_; focus (simp only [kS, R1, R2, R3, R4, R5, R6, R7, reduceCtorEq, R9, h4, h3, h1, hb, hlt, h2', e, el, hw, decide_true]; done)) | refine Qa ?_ | refine Qb ?_ | refine Qc ?_ | refine And.intro (by first | assumption | omega) ?_)
      refine ⟨200 - (i + 1), by omega, i + 1, by omega, by omega, rfl, ?_, ?_, by omega, by simp only [kS, R1, R2, R3, R4, R5, R6, R7, reduceCtorEq, R9, h1], by simp only [kS, R1, R2, R3, R4, R5, R6, R7, reduceCtorEq, R9, hb]; rfl, by (simp only [kS, R1, R2, R3, R4, R5, R6, R7, reduceCtorEq, R9]) <;> first | omega | rfl⟩
      · simp only [kS, R1, R2, R3, R4, R5, R6, R7, reduceCtorEq, R9]
        rw [wrap_i64 (by omega) (by omega)]; rfl
      · simp only [kS, R1, R2, R3, R4, R5, R6, R7, reduceCtorEq, R9]
        rw [ht]; rfl
    · have h2' : ¬ (i : Int) < 200 := by omega
      have e200 : i = 200 := by omega
      have ht : tsum (d.take i) = tsum (d.take 200) := by rw [e200]
      cases q : decide ((d.length : Int) ≤ 100)
      · repeat (first | ((first | refine Q1 ?_ | refine Q2 ?_); intro Z hN hX hR) | refine Q3 (by kernel_rfl) fun K hK => ?_ | ((first | refine Q4 fun R hJ => ?_ | with_reducible change ExpAll _ _ _); simp only [kS, R1, R2, R3, R4, R5, R6, R7, reduceCtorEq, R9, h4, h3, h1, hb, hlt, h2', decide_true, decide_false, q]) | (refine hJ _ ?_; clear hJ R) | refine Q5 ?_ | (refine hK _ ?_; clear hK K) | ((first | refine hN _ ?_ | refine hX _ _ ?_ | refine hR _ ?_); clear hN hX hR Z) | refine Q6 rfl ?_ | refine Q7 (by decide) ?_ | (refine Q8 ?_ ?_; focus (simp only [kS, R1, R2, R3, R4, R5, R6, R7, reduceCtorEq, R9, h4, h3, h1, hb, hlt, h2', decide_true, decide_false, q]; done)) | (refine Q9 ?_ ?_; focus (simp only [kS, R1, R2, R3, R4, R5, R6, R7, reduceCtorEq, R9, h4, h3, h1, hb, hlt, h2', decide_true, decide_false, q]; done)) | refine Qa ?_ | refine Qb ?_ | refine Qc ?_ | refine And.intro (by first | assumption | omega) ?_)
        simp only [fewB, q, Bool.false_and]
      · repeat (first | ((first | refine Q1 ?_ | refine Q2 ?_); intro Z hN hX hR) | refine Q3 (by kernel_rfl) fun K hK => ?_ | ((first | refine Q4 fun R hJ => ?_ | with_reducible change ExpAll _ _ _); simp only [kS, R1, R2, R3, R4, R5, R6, R7, reduceCtorEq, R9, h4, h3, h1, hb, hlt, h2', decide_true, decide_false, q]) | (refine hJ _ ?_; clear hJ R) | refine Q5 ?_ | (refine hK _ ?_; clear hK K) | ((first | refine hN _ ?_ | refine hX _ _ ?_ | refine hR _ ?_); clear hN hX hR Z) | refine Q6 rfl ?_ | refine Q7 (by decide) ?_ | (refine Q8 ?_ ?_; focus (simp only [kS, R1, R2, R3, R4, R5, R6, R7, reduceCtorEq, R9, h4, h3, h1, hb, hlt, h2', decide_true, decide_false, q]; done)) | (refine Q9 ?_ ?_; focus (simp only [kS, R1, R2, R3, R4, R5, R6, R7, reduceCtorEq, R9, h4, h3, h1, hb, hlt, h2', decide_true, decide_false, q]; done)) | refine Qa ?_ | refine Qb ?_ | refine Qc ?_ | refine And.intro (by first | assumption | omega) ?_)
        simp only [fewB, q, Bool.true_and, ← ht]
  · have ht : tsum (d.take i) = tsum (d.take 200) := by rw [List.take_of_length_le (by omega), List.take_of_length_le (by omega)]
    cases q : decide ((d.length : Int) ≤ 100)
    · repeat (first | ((first | refine Q1 ?_ | refine Q2 ?_); intro Z hN hX hR) | refine Q3 (by kernel_rfl) fun K hK => ?_ | ((first | refine Q4 fun R hJ => ?_ | with_reducible change ExpAll _ _ _); simp only [kS, R1, R2, R3, R4, R5, R6, R7, reduceCtorEq, R9, h4, h3, h1, hb, hlt, decide_true, decide_false, q]) | (refine hJ _ ?_; clear hJ R) | refine Q5 ?_ | (refine hK _ ?_; clear hK K) | ((first | refine hN _ ?_ | refine hX _ _ ?_ | refine hR _ ?_); clear hN hX hR Z) | refine Q6 rfl ?_ | refine Q7 (by decide) ?_ | (refine Q8 ?_ ?_; focus (simp only [kS, R1, R2, R3, R4, R5, R6, R7, reduceCtorEq, R9, h4, h3, h1, hb, hlt, decide_true, decide_false, q]; done)) | (refine Q9 ?_ ?_; focus (simp only [kS, R1, R2, R3, R4, R5, R6, R7, reduceCtorEq, R9, h4, h3, h1, hb, hlt, decide_true, decide_false, q]; done)) | refine Qa ?_ | refine Qb ?_ | refine Qc ?_ | refine And.intro (by first | assumption | omega) ?_)
      simp only [fewB, q, Bool.false_and]
    · repeat (first | ((first | refine Q1 ?_ | refine Q2 ?_); intro Z hN hX hR) | refine Q3 (by kernel_rfl) fun K hK => ?_ | ((first | refine Q4 fun R hJ => ?_ | with_reducible change ExpAll _ _ _); simp only [kS, R1, R2, R3, R4, R5, R6, R7, reduceCtorEq, R9, h4, h3, h1, hb, hlt, decide_true, decide_false, q]) | (refine hJ _ ?_; clear hJ R) | refine Q5 ?_ | (refine hK _ ?_; clear hK K) | ((first | refine hN _ ?_ | refine hX _ _ ?_ | refine hR _ ?_); clear hN hX hR Z) | refine Q6 rfl ?_ | refine Q7 (by decide) ?_ | (refine Q8 ?_ ?_; focus (simp only [kS, R1, R2, R3, R4, R5, R6, R7, reduceCtorEq, R9, h4, h3, h1, hb, hlt, decide_true, decide_false, q]; done)) | (refine Q9 ?_ ?_; focus (simp only [kS, R1, R2, R3, R4, R5, R6, R7, reduceCtorEq, R9, h4, h3, h1, hb, hlt, decide_true, decide_false, q]; done)) | refine Qa ?_ | refine Qb ?_ | refine Qc ?_ | refine And.intro (by first | assumption | omega) ?_)
      simp only [fewB, q, Bool.true_and, ← ht]

end Go.Proofs.YtilhjiopbbbgmaaGreatDoor

/- What a state that fits is good for: its heads, what it opens to. -/
namespace Go.Proofs.YtilhjiopbbbgmaaGreatDoor
open Go Go.RowKit Am
set_option linter.unusedVariables false
set_option linter.unusedSimpArgs false
set_option maxHeartbeats 4000000
attribute [local irreducible] AWp AOps

theorem okSt_okJ {d : List Nd} {s : List It} (h : okSt d s = true) : okJ s := by
  intro x hx
  have hx' := List.all_eq_true.1 h x hx
  simp only [okIt] at hx'
  split at hx'
  · rename_i h5
    simp only [Bool.and_eq_true, beq_iff_eq, decide_eq_true_eq] at hx' h5
    omega
  · split at hx'
    · cases hx'
    · split at hx'
      · rename_i h5
        simp only [Bool.and_eq_true, beq_iff_eq] at hx' h5
        omega
      · split at hx'
        · rename_i h5
          simp only [Bool.and_eq_true, beq_iff_eq, decide_eq_true_eq] at hx' h5
          omega
        · split at hx'
          · rename_i h5
            simp only [Bool.and_eq_true, beq_iff_eq, decide_eq_true_eq] at hx' h5
            omega
          · split at hx'
            · rename_i h5
              simp only [Bool.and_eq_true, beq_iff_eq, decide_eq_true_eq] at hx' h5
              omega
            · cases hx'

/-- What a state that fits is good for. -/
structure Fit14 (d : List Nd) (s : List It) : Prop where
  wf : WFd d
  gd : gd d s
  okJ : okJ s
  len : s.length ≤ 8
  deep : deep d 1500 s
  cnt : cnt d 1500 s ≤ 1500
  lv : (leaves d 1500 s).length ≤ 1500

theorem fit14 {d : List Nd} {s : List It} (hd : WFd d) (hf : ∀ n ∈ d, n.s.size ≤ 1000000) (h : fitsB d s = true) : Fit14 d s := by
  simp only [fitsB, Bool.and_eq_true, decide_eq_true_eq] at h
  obtain ⟨h1, h2, h3, h4⟩ := h
  have hs := steps_deep d 1500 s 1500 (by omega) (by omega) h4
  have hc := steps_cnt d 1500 s 1500 (by omega) (by omega) h4
  exact ⟨hd, okSt_gd hd hf h3, okSt_okJ h3, by omega, hs.1, by omega, by omega⟩

section
variable {d : List Nd} {s : List It}
theorem Fit14.heads (F : Fit14 d s) : Ret Tryz.prog glD 48 [.agg (dC d), .c (stC s)] (.c (brC (headsS d 1500 s))) :=
  heads15_ret d F.wf 1500 s F.deep F.gd F.okJ (by have := F.len; omega) (by have := F.cnt; omega) (by have := F.lv; omega)
theorem Fit14.headsR (F : Fit14 d s) (gl : Gl) : Ret Tryz.prog gl 53 [.agg (dC d), .c (stC s)] (.c (brC (headsS d 1500 s))) :=
  headsR_ret gl d F.wf 1500 s F.deep F.gd (by have := F.len; omega) (by have := F.lv; omega)
theorem Fit14.ok (F : Fit14 d s) : OkL (headsS d 1500 s) 1500 := by
  have h := addL_ok (leaves d 1500 s) (l := []) (n := 0) ⟨fun x hx => (by cases hx), fun x hx => (by cases hx), Nat.le_refl _⟩ fun t ht => by
    have := (leaves_len F.wf 1500 s F.gd t ht).2
    have := F.len
    omega
  exact ⟨h.short, h.many, by have := h.len; have := F.lv; simp only [headsS]; omega⟩
theorem Fit14.open_ (F : Fit14 d s) (gl : Gl) (hr : rdy d s = false) : Ret Tryz.prog gl 101 [.agg (dC d), .c (stC s)] (.c (ssS (openS d s))) := by
  obtain ⟨x, t, rfl⟩ := rdy_false hr
  exact open17_ret gl d F.wf x t (F.gd x (by simp)) (F.okJ x (by simp)).1 hr (by have := F.len; simp at this; omega)
theorem Fit14.openR (F : Fit14 d s) (gl : Gl) (hr : rdy d s = false) : Ret Tryz.prog gl 99 [.agg (dC d), .c (stC s)] (.c (ssS (openS d s))) :=
  open_ret' gl d s F.gd hr (by have := F.len; omega)
end

end Go.Proofs.YtilhjiopbbbgmaaGreatDoor

/- On, Ends, Classes, Read, as contracts at a state that fits. -/
namespace Go.Proofs.YtilhjiopbbbgmaaGreatDoor
open Nat renaming reduceSub → R1, reduceMul → R2, reduceLeDiff → R3, reducePow → R4, reduceBEq → R5, reduceAdd → R6, reduceEqDiff → R7
open Int renaming reduceToNat → R9
open Go Go.RowKit Am
set_option linter.unusedVariables false
set_option linter.unusedSimpArgs false
set_option maxHeartbeats 4000000
attribute [local irreducible] AWp AOps

theorem on25_ret (d : List Nd) (hd : WFd d) (hcw : ∀ n ∈ d, CW n) (hsz : ∀ n ∈ d, n.s.size ≤ 1000000) (k : Nat) (s : List It) (c : Nat) (hc : c < 256) (hdp : deep d k s) (hs : gd d s) (hj : okJ s) (hl : s.length + k ≤ 100000) (hn : cnt d k s ≤ 1000000) (hlv : (leaves d k s).length ≤ 1000000)
    (hfo : OkS d s) : Ret Tryz.prog glN 12 [.agg (dC d), .c (stC s), .c (.v (.int .u8 (c : Int)))] (.c (brC (onS d k s c))) := by
  refine ⟨callF Tryz.func12 (by kernel_rfl) rfl, fun w G vs hG hgl hrep => ?_⟩
  obtain ⟨vd, v, hvs, hvd, hv⟩ : ∃ vd v, vs = #[.agg #[vd], v, .int .u8 (c : Int)] ∧ RepL w G (dC d) [vd] ∧ RepC w G (stC s) v := by
    obtain ⟨l⟩ := vs
    match l, hrep with
    | [a, b, z], ⟨⟨ys, e, h1⟩, h2, h3, _⟩ =>
      obtain ⟨ys⟩ := ys
      simp only [RepT, RepC] at h3
      match ys, h1 with
      | [y], h1 => exact ⟨y, b, by rw [e, h3.1], h1, h2⟩
      | [], h1 => exact h1.elim
      | _ :: _ :: _, h1 => exact h1.2.elim
  subst hvs
  refine (on25_c d hd hcw hsz k s c hc w G vd v hdp hs hj hl hn hlv hfo hG hgl hvd hv).mono ?_
  rintro e w' ⟨v, rfl, hb, G', h1, h2, h3, hr⟩
  exact ⟨v, rfl, hb, fun h => h.elim, G', h1, h2, h3, hr⟩

/-- What a state that fits is good for, where the next byte is read. -/
structure FitN (d : List Nd) (s : List It) : Prop extends Fit14 d s where
  cw : ∀ n ∈ d, CW n
  sz : ∀ n ∈ d, n.s.size ≤ 1000000
  fo : OkS d s

theorem fitN {d : List Nd} {s : List It} (hd : WFd d) (hf : ∀ n ∈ d, n.s.size ≤ 1000000) (hcw : ∀ n ∈ d, CW n) (h : fitsB d s = true) : FitN d s := by
  have F := fit14 hd hf h
  simp only [fitsB, Bool.and_eq_true] at h
  exact { F with cw := hcw, sz := hf, fo := (okSt_iff d s).1 h.2.2.1 }

section
variable {d : List Nd} {s : List It} (F : FitN d s)
include F
theorem FitN.on (c : Nat) (hc : c < 256) : Ret Tryz.prog glN 12 [.agg (dC d), .c (stC s), .c (.v (.int .u8 (c : Int)))] (.c (brC (onS d 1500 s c))) :=
  on25_ret d F.wf F.cw F.sz 1500 s c hc F.deep F.gd F.okJ (by have := F.len; omega) (by have := F.cnt; omega) (by have := F.lv; omega) F.fo
theorem FitN.hlen : (headsS d 1500 s).length ≤ 1500 := by
  have := heads_len' F.wf F.gd (k := 1500) (by have := F.len; omega)
  have := F.lv
  omega
theorem FitN.hok : ∀ b ∈ headsS d 1500 s, OkS d b.to := fun b hb => (okS_leaves F.wf 1500 F.fo _ (heads_mem hb)).1
theorem FitN.ends : Ret Tryz.prog glN 14 [.agg (dC d), .c (stC s)] (iv (endsF (headsS d 1500 s))) :=
  ends45_ret glN d s _ (ofD F.heads) (by have := F.hlen; omega)
theorem FitN.classes : Ret Tryz.prog glN 17 [.agg (dC d), .c (stC s)] (.c (clS (classesF d (headsS d 1500 s)))) :=
  classes23_ret glN d F.wf F.cw s _ (ofD F.heads) F.hlen F.hok
theorem FitN.read (c : Nat) (hc : c < 256) : Ret Tryz.prog glN 20 [.agg (dC d), .c (stC s), .c (.v (.int .u8 (c : Int)))] (.tup [.c (stC ((readF d c s).getD [])), bv (readF d c s).isSome]) :=
  read28_ret d F.wf F.cw F.sz s (by have := F.len; omega) (okS_itOk F.wf F.sz F.fo) F.fo c hc
/-- What one goes on to is short, few, in 1 or 2 ways, and has its form. -/
theorem FitN.onok (c : Nat) (hc : c < 256) : (onS d 1500 s c).length ≤ 3000 ∧ ∀ b ∈ onS d 1500 s c, b.to.length ≤ 2000 ∧ (1 ≤ b.many ∧ b.many ≤ 2) ∧ OkS d b.to := by
  have hL := addL_is (goesL d c (headsS d 1500 s)) is_nil.1 is_nil.2
  have hmem : ∀ b ∈ onS d 1500 s c, b.to ∈ goesL d c (headsS d 1500 s) ∧ b.many = mn ((goesL d c (headsS d 1500 s)).count b.to) := fun b hb => by
    have := (hL.2 b).1 hb
    simpa using this
  have hlen : ∀ hs : List Br, (∀ b ∈ hs, b.many ≤ 2) → (goesL d c hs).length ≤ 2 * hs.length := fun hs => by
    induction hs with
    | nil => intro _; simp [goesL]
    | cons b hs ih =>
      intro h
      have h1 := h b (by simp)
      have h2 := ih fun x hx => h x (by simp [hx])
      have e : goesL d c (b :: hs) = (match readF d c b.to with | some t => List.replicate b.many.toNat t | none => []) ++ goesL d c hs := rfl
      rw [e, List.length_append, List.length_cons]
      split
      · rw [List.length_replicate]; omega
      · simp; omega
  refine ⟨?_, fun b hb => ?_⟩
  · have h1 := hlen (headsS d 1500 s) fun b hb => (heads_many b hb).2
    have h2 := F.hlen
    have h3 : ∀ (ts : List (List It)) (l : List Br), (addL l ts).length ≤ l.length + ts.length := fun ts => by
      induction ts with
      | nil => intro l; simp [addL]
      | cons t ts ih =>
        intro l
        have a := ih (addB l t 1 false)
        have b := addB_len t 1 l false
        simp only [addL, List.foldl_cons, List.length_cons] at a ⊢
        simp at b
        omega
    have := h3 (goesL d c (headsS d 1500 s)) []
    simp only [onS]
    simp at this
    omega
  · obtain ⟨m1, m2⟩ := hmem b hb
    obtain ⟨h, hh, ht⟩ := List.mem_flatMap.1 m1
    cases e : readF d c h.to with
    | none => rw [e] at ht; cases ht
    | some u =>
      rw [e] at ht
      have e2 := List.eq_of_mem_replicate ht
      have h1 := readF_len e
      have h2 := (leaves_len F.wf 1500 s F.gd _ (heads_mem hh)).2
      have h3 := F.len
      refine ⟨by rw [e2]; omega, ?_, by rw [e2]; exact okS_read F.wf hc (F.hok h hh) e⟩
      have := List.count_pos_iff.2 m1
      rw [m2]
      simp only [mn]
      split <;> omega
omit F in
theorem onS_srt (c : Nat) : srt (onS d 1500 s c) := (addL_is (goesL d c (headsS d 1500 s)) is_nil.1 is_nil.2).1
end

theorem fits15_ret (gl : Gl) (d : List Nd) (s : List It) (h : Ret Tryz.prog gl 47 [.agg (dC d), .c (stC s)] (bv (fitsB d s))) : Ret Tryz.prog gl 10 [.agg (dC d), .c (stC s)] (bv (fitsB d s)) := by
  refine retq (rs := [4]) 8 Tryz.func10 (by kernel_rfl) rfl (by kernel_rfl) rfl (by simp) (by simp) fun Z hN hX hR => ?_
  repeat (first | ((first | refine Q1 ?_ | refine Q2 ?_); intro Z hN hX hR) | refine Q3 (by kernel_rfl) fun K hK => ?_ | ((first | refine Q4 fun R hJ => ?_ | with_reducible change ExpAll _ _ _); simp only [kS, R1, R2, R3, R4, R5, R6, R7, reduceCtorEq, R9, dC_length, dC_take]) | (refine hJ _ ?_; clear hJ R) | refine Q5 ?_ | (refine hK _ ?_; clear hK K) | ((first | refine hN _ ?_ | refine hX _ _ ?_ | refine hR _ ?_); clear hN hX hR Z) | refine Q6 rfl ?_ | refine Q7 (by decide) ?_ | (refine Q8 ?_ ?_; focus (simp only [kS, R1, R2, R3, R4, R5, R6, R7, reduceCtorEq, R9, dC_length, dC_take]; done)) | (refine Q9 ?_ ?_; focus (simp only [kS, R1, R2, R3, R4, R5, R6, R7, reduceCtorEq, R9, dC_length, dC_take]; done)) | refine Qa ?_ | refine Qb ?_ | refine Qc ?_ | refine And.intro (by first | assumption | omega) ?_)
  refine ⟨_, h, rfl, ?_⟩
  simp only [kS, R1, R2, R3, R4, R5, R6, R7, reduceCtorEq, R9, dC_length, dC_take]
  repeat (first | ((first | refine Q1 ?_ | refine Q2 ?_); intro Z hN hX hR) | refine Q3 (by kernel_rfl) fun K hK => ?_ | ((first | refine Q4 fun R hJ => ?_ | with_reducible change ExpAll _ _ _); simp only [kS, R1, R2, R3, R4, R5, R6, R7, reduceCtorEq, R9, dC_length, dC_take]) | (refine hJ _ ?_; clear hJ R) | refine Q5 ?_ | (refine hK _ ?_; clear hK K) | ((first | refine hN _ ?_ | refine hX _ _ ?_ | refine hR _ ?_); clear hN hX hR Z) | refine Q6 rfl ?_ | refine Q7 (by decide) ?_ | (refine Q8 ?_ ?_; focus (simp only [kS, R1, R2, R3, R4, R5, R6, R7, reduceCtorEq, R9, dC_length, dC_take]; done)) | (refine Q9 ?_ ?_; focus (simp only [kS, R1, R2, R3, R4, R5, R6, R7, reduceCtorEq, R9, dC_length, dC_take]; done)) | refine Qa ?_ | refine Qb ?_ | refine Qc ?_ | refine And.intro (by first | assumption | omega) ?_)
  all_goals rfl

theorem start44_ret (gl : Gl) (d : List Nd) (hl : d.length ≤ 1000000) : Ret Tryz.prog gl 44 [.agg (dC d)] (.c (stC [⟨1, (d.length : Int) - 1, 0, 0⟩])) := by
  refine retq (rs := [2]) 9 Tryz.func44 (by kernel_rfl) rfl (by kernel_rfl) rfl (by simp) (by simp) fun Z hN hX hR => ?_
  have hw : IntKind.i64.wrap ((d.length : Int) - 1) = (d.length : Int) - 1 := wrap_i64 (by omega) (by omega)
  repeat (first | ((first | refine Q1 ?_ | refine Q2 ?_); intro Z hN hX hR) | refine Q3 (by kernel_rfl) fun K hK => ?_ | ((first | refine Q4 fun R hJ => ?_ | with_reducible change ExpAll _ _ _); simp only [kS, R1, R2, R3, R4, R5, R6, R7, reduceCtorEq, R9, dC, hw]) | (refine hJ _ ?_; clear hJ R) | refine Q5 ?_ | (refine hK _ ?_; clear hK K) | ((first | refine hN _ ?_ | refine hX _ _ ?_ | refine hR _ ?_); clear hN hX hR Z) | refine Q6 rfl ?_ | refine Q7 (by decide) ?_ | (refine Q8 ?_ ?_; focus (simp only [kS, R1, R2, R3, R4, R5, R6, R7, reduceCtorEq, R9, dC, hw]; done)) | (refine Q9 ?_ ?_; focus (simp only [kS, R1, R2, R3, R4, R5, R6, R7, reduceCtorEq, R9, dC, hw]; done)) | refine Qa ?_ | refine Qb ?_ | refine Qc ?_ | refine And.intro (by first | assumption | omega) ?_)
  all_goals exact .inl rfl

end Go.Proofs.YtilhjiopbbbgmaaGreatDoor

/- The laws of next are awake: the answers that the document fixes are given. -/
namespace Go.Proofs.YtilhjiopbbbgmaaGreatDoor
open Nat renaming reduceSub → R1, reduceMul → R2, reduceLeDiff → R3, reducePow → R4, reduceBEq → R5, reduceAdd → R6, reduceEqDiff → R7
open Int renaming reduceToNat → R9
open Go Go.RowKit Am
set_option linter.unusedVariables false
set_option linter.unusedSimpArgs false
set_option maxHeartbeats 4000000
attribute [local irreducible] AWp AOps

abbrev bN : Nd := ⟨2, 0, 0, 0, 0, 96, 0, 0, 0, ⟨#[]⟩⟩
abbrev bDn : List Nd := [bN]
abbrev twoDn : List Nd := [bN, bN, nd0 5 0 1 0 0]
abbrev fDn : List Nd := [bN, nd0 8 0 0 0 0]

theorem ws56 : ws (rowN 5 6 256) = [.v (.int .u64 96), .v (.int .u64 0), .v (.int .u64 0), .v (.int .u64 0)] := by
  have h : rowN 5 6 256 0 = 96 ∧ rowN 5 6 256 1 = 0 ∧ rowN 5 6 256 2 = 0 ∧ rowN 5 6 256 3 = 0 := by decide +kernel
  simp only [ws, h.1, h.2.1, h.2.2.1, h.2.2.2]
  rfl
theorem cw_bN : CW bN := ⟨by decide, by decide, by decide, by decide⟩
theorem cw_nd0 (k a b lo hi : Int) : CW (nd0 k a b lo hi) := ⟨by simp, by simp, by simp, by simp⟩
theorem wf_bn : WFd bDn := by
  refine ⟨by decide, by decide, fun n hn => ?_⟩
  simp only [bDn, List.mem_cons, List.not_mem_nil, or_false] at hn
  rcases hn with rfl; simp [okNd]
theorem wf_twon : WFd twoDn := by
  refine ⟨by decide, by decide, fun n hn => ?_⟩
  simp only [twoDn, List.mem_cons, List.not_mem_nil, or_false] at hn
  rcases hn with rfl | rfl | rfl <;> simp [okNd]
theorem wf_fn : WFd fDn := by
  refine ⟨by decide, by decide, fun n hn => ?_⟩
  simp only [fDn, List.mem_cons, List.not_mem_nil, or_false] at hn
  rcases hn with rfl | rfl <;> simp [okNd]
theorem cw_bn : ∀ n ∈ bDn, CW n := by
  intro n hn
  simp only [bDn, List.mem_cons, List.not_mem_nil, or_false] at hn
  rcases hn with rfl; exact cw_bN
theorem cw_twon : ∀ n ∈ twoDn, CW n := by
  intro n hn
  simp only [twoDn, List.mem_cons, List.not_mem_nil, or_false] at hn
  rcases hn with rfl | rfl | rfl <;> first | exact cw_bN | exact cw_nd0 _ _ _ _ _
theorem cw_fn : ∀ n ∈ fDn, CW n := by
  intro n hn
  simp only [fDn, List.mem_cons, List.not_mem_nil, or_false] at hn
  rcases hn with rfl | rfl <;> first | exact cw_bN | exact cw_nd0 _ _ _ _ _
theorem sz_bn : ∀ n ∈ bDn, n.s.size ≤ 1000000 := by
  intro n hn
  simp only [bDn, List.mem_cons, List.not_mem_nil, or_false] at hn
  rcases hn with rfl; decide
theorem sz_twon : ∀ n ∈ twoDn, n.s.size ≤ 1000000 := by
  intro n hn
  simp only [twoDn, List.mem_cons, List.not_mem_nil, or_false] at hn
  rcases hn with rfl | rfl | rfl <;> decide
theorem sz_fn : ∀ n ∈ fDn, n.s.size ≤ 1000000 := by
  intro n hn
  simp only [fDn, List.mem_cons, List.not_mem_nil, or_false] at hn
  rcases hn with rfl | rfl <;> decide

theorem gd_startN {d : List Nd} (h : 0 < d.length) : gd d [⟨1, (d.length : Int) - 1, 0, 0⟩] := by
  intro x hx
  simp only [List.mem_singleton] at hx
  subst hx
  exact ⟨⟨by simp only; omega, by simp only; omega⟩, by simp, by simp, by simp⟩
theorem okJ_startN (n : Int) : okJ [⟨1, n, 0, 0⟩] := by
  intro x hx
  simp only [List.mem_singleton] at hx
  subst hx
  exact ⟨by simp, by simp⟩
theorem okS_startN {d : List Nd} (h : 0 < d.length) : OkS d [⟨1, (d.length : Int) - 1, 0, 0⟩] := by
  intro x hx
  simp only [List.mem_singleton] at hx
  subst hx
  exact .inr ⟨⟨by simp only; omega, by simp only; omega⟩, .inl ⟨rfl, rfl, rfl⟩⟩
theorem litn0 : ((0 : Nat) : Int) = 0 := rfl
theorem litn1 : ((1 : Nat) : Int) = 1 := rfl
theorem litn2 : ((2 : Nat) : Int) = 2 := rfl
theorem litn256 : ((256 : Nat) : Int) = 256 := rfl

theorem awake15_ret : Ret Tryz.prog glN 7 [] (bv true) := by
  have hrow : Ret Tryz.prog glN 41 [.c (.v (.int .u8 5)), .c (.v (.int .u8 6))] (.agg [.v (.int .u64 96), .v (.int .u64 0), .v (.int .u64 0), .v (.int .u64 0)]) := by
    have := row43_ret glN (fun h => h) 5 6 (by decide) (by decide)
    rw [ws56] at this
    exact this
  have hpr : Ret Tryz.prog glN 42 [iv 5, .agg (dC bDn), .agg (dC bDn)] (.agg (dC twoDn)) := pair_ret glN 5 bDn bDn (by decide) (by decide) (by simp) (by simp) (by decide) (by decide)
  have hwr : Ret Tryz.prog glN 43 [iv 8, iv 0, iv 0, .agg (dC bDn)] (.agg (dC fDn)) := wrap_ret glN 8 0 0 bDn (by decide) (by simp) (by decide)
  have hst2 : Ret Tryz.prog glN 44 [.agg (dC twoDn)] (.c (stC [⟨1, 2, 0, 0⟩])) := start44_ret glN twoDn (by decide)
  have hstf : Ret Tryz.prog glN 44 [.agg (dC fDn)] (.c (stC [⟨1, 1, 0, 0⟩])) := start44_ret glN fDn (by decide)
  have hstb : Ret Tryz.prog glN 44 [.agg (dC bDn)] (.c (stC [⟨1, 0, 0, 0⟩])) := start44_ret glN bDn (by decide)
  have e1 : onS twoDn 3 [⟨1, 2, 0, 0⟩] 5 = [⟨[], 2⟩] := by decide +kernel
  have e2 : onS fDn 2 [⟨1, 1, 0, 0⟩] 7 = [⟨[⟨1, 0, 0, 0⟩, ⟨5, 0, 7, 0⟩], 1⟩] := by decide +kernel
  have r1 : readF bDn 6 [⟨1, 0, 0, 0⟩] = some [] := by decide +kernel
  have r2 : readF bDn 7 [⟨1, 0, 0, 0⟩] = none := by decide +kernel
  have r3 : readF bDn 5 [⟨1, 0, 0, 0⟩, ⟨5, 0, 0, 0⟩] = none := by decide +kernel
  have h0 : headsS bDn 2 [] = [⟨[], 1⟩] := by decide +kernel
  have h1 : headsS bDn 2 [⟨1, 0, 0, 0⟩] = [⟨[⟨1, 0, 0, 0⟩], 1⟩] := by decide +kernel
  have h2 : headsS fDn 2 [⟨1, 1, 0, 0⟩] = [⟨[⟨1, 1, 0, 0⟩], 1⟩] := by decide +kernel
  have ho := on25_ret twoDn wf_twon cw_twon sz_twon 3 [⟨1, 2, 0, 0⟩] 5 (by decide) (by simp [deep, rdy, openS, nd]) (gd_startN (d := twoDn) (by decide)) (okJ_startN 2) (by decide) (by decide) (by decide) (okS_startN (d := twoDn) (by decide))
  have hp := on25_ret fDn wf_fn cw_fn sz_fn 2 [⟨1, 1, 0, 0⟩] 7 (by decide) (by simp [deep, rdy, openS, nd]) (gd_startN (d := fDn) (by decide)) (okJ_startN 1) (by decide) (by decide) (by decide) (okS_startN (d := fDn) (by decide))
  rw [e1] at ho
  rw [e2] at hp
  have okb := okS_startN (d := bDn) (by decide)
  have hr6 := read28_ret bDn wf_bn cw_bn sz_bn [⟨1, 0, 0, 0⟩] (by decide) (okS_itOk wf_bn sz_bn okb) okb 6 (by decide)
  have hr7 := read28_ret bDn wf_bn cw_bn sz_bn [⟨1, 0, 0, 0⟩] (by decide) (okS_itOk wf_bn sz_bn okb) okb 7 (by decide)
  have oks : OkS bDn [⟨1, 0, 0, 0⟩, ⟨5, 0, 0, 0⟩] := OkS.cons (okb _ (by simp)) (OkS.cons (.inl ⟨rfl, rfl, rfl, by decide, by decide⟩) (fun y hy => by cases hy))
  have hshut := read28_ret bDn wf_bn cw_bn sz_bn [⟨1, 0, 0, 0⟩, ⟨5, 0, 0, 0⟩] (by decide) (okS_itOk wf_bn sz_bn oks) oks 5 (by decide)
  rw [r1] at hr6
  rw [r2] at hr7
  rw [r3] at hshut
  have hh0 := heads15_ret bDn wf_bn 2 [] (by simp [deep, rdy]) (fun x hx => by cases hx) (fun x hx => by cases hx) (by decide) (by decide) (by decide)
  have hh1 := heads15_ret bDn wf_bn 2 [⟨1, 0, 0, 0⟩] (by simp [deep, rdy, nd]) (gd_startN (d := bDn) (by decide)) (okJ_startN 0) (by decide) (by decide) (by decide)
  have hh2 := heads15_ret fDn wf_fn 2 [⟨1, 1, 0, 0⟩] (by simp [deep, rdy, nd]) (gd_startN (d := fDn) (by decide)) (okJ_startN 1) (by decide) (by decide) (by decide)
  rw [h0] at hh0
  rw [h1] at hh1
  rw [h2] at hh2
  have he0 := ends45_ret glN bDn [] _ (ofD hh0) (by decide)
  have he1 := ends45_ret glN bDn [⟨1, 0, 0, 0⟩] _ (ofD hh1) (by decide)
  have hcb := classes23_ret glN bDn wf_bn cw_bn [⟨1, 0, 0, 0⟩] _ (ofD hh1) (by decide) (fun b hb => by simp only [List.mem_singleton] at hb; subst hb; exact okb)
  have okf := okS_startN (d := fDn) (by decide)
  have hcf := classes23_ret glN fDn wf_fn cw_fn [⟨1, 1, 0, 0⟩] _ (ofD hh2) (by decide) (fun b hb => by simp only [List.mem_singleton] at hb; subst hb; exact okf)
  have hc1 : (classesF bDn [⟨[⟨1, 0, 0, 0⟩], 1⟩]).length = 1 := rfl
  have hc256 : (classesF fDn [⟨[⟨1, 1, 0, 0⟩], 1⟩]).length = 256 := by
    have : classesF fDn [⟨[⟨1, 1, 0, 0⟩], 1⟩] = singles 256 := by simp [classesF, clsF, nd]
    rw [this, singles_length]
  have ho : Ret Tryz.prog glN 12 [.agg (dC twoDn), .c (.sl 1 [.v (.int .i64 1), .v (.int .i64 2), .v (.int .i64 0), .v (.int .i64 0)]), .c (.v (.int .u8 5))] (.c (.sl 1 [.sl 0 [], .v (.int .i64 2)])) := ho
  have hp : Ret Tryz.prog glN 12 [.agg (dC fDn), .c (.sl 1 [.v (.int .i64 1), .v (.int .i64 1), .v (.int .i64 0), .v (.int .i64 0)]), .c (.v (.int .u8 7))] (.c (.sl 1 [.sl 2 [.v (.int .i64 1), .v (.int .i64 0), .v (.int .i64 0), .v (.int .i64 0), .v (.int .i64 5), .v (.int .i64 0), .v (.int .i64 7), .v (.int .i64 0)], .v (.int .i64 1)])) := hp
  have hst2 : Ret Tryz.prog glN 44 [.agg (dC twoDn)] (.c (.sl 1 [.v (.int .i64 1), .v (.int .i64 2), .v (.int .i64 0), .v (.int .i64 0)])) := hst2
  have hstf : Ret Tryz.prog glN 44 [.agg (dC fDn)] (.c (.sl 1 [.v (.int .i64 1), .v (.int .i64 1), .v (.int .i64 0), .v (.int .i64 0)])) := hstf
  have hstb : Ret Tryz.prog glN 44 [.agg (dC bDn)] (.c (.sl 1 [.v (.int .i64 1), .v (.int .i64 0), .v (.int .i64 0), .v (.int .i64 0)])) := hstb
  have hr6 : Ret Tryz.prog glN 20 [.agg (dC bDn), .c (.sl 1 [.v (.int .i64 1), .v (.int .i64 0), .v (.int .i64 0), .v (.int .i64 0)]), .c (.v (.int .u8 6))] (.tup [.c (.sl 0 []), bv true]) := hr6
  have hr7 : Ret Tryz.prog glN 20 [.agg (dC bDn), .c (.sl 1 [.v (.int .i64 1), .v (.int .i64 0), .v (.int .i64 0), .v (.int .i64 0)]), .c (.v (.int .u8 7))] (.tup [.c (.sl 0 []), bv false]) := hr7
  have hshut : Ret Tryz.prog glN 20 [.agg (dC bDn), .c (.sl 2 [.v (.int .i64 1), .v (.int .i64 0), .v (.int .i64 0), .v (.int .i64 0), .v (.int .i64 5), .v (.int .i64 0), .v (.int .i64 0), .v (.int .i64 0)]), .c (.v (.int .u8 5))] (.tup [.c (.sl 0 []), bv false]) := hshut
  have he0 : Ret Tryz.prog glN 14 [.agg (dC bDn), .c (.sl 0 [])] (iv 1) := he0
  have he1 : Ret Tryz.prog glN 14 [.agg (dC bDn), .c (.sl 1 [.v (.int .i64 1), .v (.int .i64 0), .v (.int .i64 0), .v (.int .i64 0)])] (iv 0) := he1
  rw [show clS (classesF bDn [⟨[⟨1, 0, 0, 0⟩], 1⟩]) = .sl 1 (clC (classesF bDn [⟨[⟨1, 0, 0, 0⟩], 1⟩])) from rfl] at hcb
  rw [show clS (classesF fDn [⟨[⟨1, 1, 0, 0⟩], 1⟩]) = .sl 256 (clC (classesF fDn [⟨[⟨1, 1, 0, 0⟩], 1⟩])) by rw [← hc256]] at hcf
  generalize clC (classesF bDn [⟨[⟨1, 0, 0, 0⟩], 1⟩]) = cb at hcb
  generalize clC (classesF fDn [⟨[⟨1, 1, 0, 0⟩], 1⟩]) = cf at hcf
  have hcb : Ret Tryz.prog glN 17 [.agg (dC bDn), .c (.sl 1 [.v (.int .i64 1), .v (.int .i64 0), .v (.int .i64 0), .v (.int .i64 0)])] (.c (.sl 1 cb)) := hcb
  have hcf : Ret Tryz.prog glN 17 [.agg (dC fDn), .c (.sl 1 [.v (.int .i64 1), .v (.int .i64 1), .v (.int .i64 0), .v (.int .i64 0)])] (.c (.sl 256 cf)) := hcf
  clear e1 e2 r1 r2 r3 h0 h1 h2 hh0 hh1 hh2 okb okf oks hc1 hc256
  refine retq (rs := [0]) 151 Tryz.func7 (by kernel_rfl) rfl (by kernel_rfl) rfl (by simp) (by simp) fun Z hN hX hR => ?_
  repeat (first | ((first | refine Q1 ?_ | refine Q2 ?_); intro Z hN hX hR) | refine Q3 (by kernel_rfl) fun K hK => ?_ | ((first | refine Q4 fun R hJ => ?_ | with_reducible change ExpAll _ _ _); simp only [kS, R1, R2, R3, R4, R5, R6, R7, reduceCtorEq, R9, litn0, litn1, litn2, litn256, tk1, tk2, tk3, tk4, tk5, tk6, tk7, tk8, and_false, false_and, dC_length, dC_take, Int.reduceBEq, Int.reduceBNe, bne_self_eq_false, Bool.not_false, Bool.not_true, Bool.and_self, Int.reduceLT, Int.reduceLE, List.drop_succ_cons]) | (refine hJ _ ?_; clear hJ R) | refine Q5 ?_ | (refine hK _ ?_; clear hK K) | ((first | refine hN _ ?_ | refine hX _ _ ?_ | refine hR _ ?_); clear hN hX hR Z) | refine Q6 rfl ?_ | refine Q7 (by decide) ?_ | (refine Q8 ?_ ?_; focus (simp only [kS, R1, R2, R3, R4, R5, R6, R7, reduceCtorEq, R9, litn0, litn1, litn2, litn256, tk1, tk2, tk3, tk4, tk5, tk6, tk7, tk8, and_false, false_and, dC_length, dC_take, Int.reduceBEq, Int.reduceBNe, bne_self_eq_false, Bool.not_false, Bool.not_true, Bool.and_self, Int.reduceLT, Int.reduceLE, List.drop_succ_cons]; done)) | (refine Q9 ?_ ?_; focus (simp only [kS, R1, R2, R3, R4, R5, R6, R7, reduceCtorEq, R9, litn0, litn1, litn2, litn256, tk1, tk2, tk3, tk4, tk5, tk6, tk7, tk8, and_false, false_and, dC_length, dC_take, Int.reduceBEq, Int.reduceBNe, bne_self_eq_false, Bool.not_false, Bool.not_true, Bool.and_self, Int.reduceLT, Int.reduceLE, List.drop_succ_cons]; done)) | refine Qa ?_ | refine Qb ?_ | refine Qc ?_ | refine And.intro (by first | assumption | omega) ?_)
  refine ⟨_, hrow, rfl, ?_⟩
  try simp only [kS, R1, R2, R3, R4, R5, R6, R7, reduceCtorEq, R9, litn0, litn1, litn2, litn256, tk1, tk2, tk3, tk4, tk5, tk6, tk7, tk8, and_false, false_and, dC_length, dC_take, Int.reduceBEq, Int.reduceBNe, bne_self_eq_false, Bool.not_false, Bool.not_true, Bool.and_self, Int.reduceLT, Int.reduceLE, List.drop_succ_cons]
  repeat (first | ((first | refine Q1 ?_ | refine Q2 ?_); intro Z hN hX hR) | refine Q3 (by kernel_rfl) fun K hK => ?_ | ((first | refine Q4 fun R hJ => ?_ | with_reducible change ExpAll _ _ _); simp only [kS, R1, R2, R3, R4, R5, R6, R7, reduceCtorEq, R9, litn0, litn1, litn2, litn256, tk1, tk2, tk3, tk4, tk5, tk6, tk7, tk8, and_false, false_and, dC_length, dC_take, Int.reduceBEq, Int.reduceBNe, bne_self_eq_false, Bool.not_false, Bool.not_true, Bool.and_self, Int.reduceLT, Int.reduceLE, List.drop_succ_cons]) | (refine hJ _ ?_; clear hJ R) | refine Q5 ?_ | (refine hK _ ?_; clear hK K) | ((first | refine hN _ ?_ | refine hX _ _ ?_ | refine hR _ ?_); clear hN hX hR Z) | refine Q6 rfl ?_ | refine Q7 (by decide) ?_ | (refine Q8 ?_ ?_; focus (simp only [kS, R1, R2, R3, R4, R5, R6, R7, reduceCtorEq, R9, litn0, litn1, litn2, litn256, tk1, tk2, tk3, tk4, tk5, tk6, tk7, tk8, and_false, false_and, dC_length, dC_take, Int.reduceBEq, Int.reduceBNe, bne_self_eq_false, Bool.not_false, Bool.not_true, Bool.and_self, Int.reduceLT, Int.reduceLE, List.drop_succ_cons]; done)) | (refine Q9 ?_ ?_; focus (simp only [kS, R1, R2, R3, R4, R5, R6, R7, reduceCtorEq, R9, litn0, litn1, litn2, litn256, tk1, tk2, tk3, tk4, tk5, tk6, tk7, tk8, and_false, false_and, dC_length, dC_take, Int.reduceBEq, Int.reduceBNe, bne_self_eq_false, Bool.not_false, Bool.not_true, Bool.and_self, Int.reduceLT, Int.reduceLE, List.drop_succ_cons]; done)) | refine Qa ?_ | refine Qb ?_ | refine Qc ?_ | refine And.intro (by first | assumption | omega) ?_)
  refine ⟨_, hpr, rfl, ?_⟩
  try simp only [kS, R1, R2, R3, R4, R5, R6, R7, reduceCtorEq, R9, litn0, litn1, litn2, litn256, tk1, tk2, tk3, tk4, tk5, tk6, tk7, tk8, and_false, false_and, dC_length, dC_take, Int.reduceBEq, Int.reduceBNe, bne_self_eq_false, Bool.not_false, Bool.not_true, Bool.and_self, Int.reduceLT, Int.reduceLE, List.drop_succ_cons]
  repeat (first | ((first | refine Q1 ?_ | refine Q2 ?_); intro Z hN hX hR) | refine Q3 (by kernel_rfl) fun K hK => ?_ | ((first | refine Q4 fun R hJ => ?_ | with_reducible change ExpAll _ _ _); simp only [kS, R1, R2, R3, R4, R5, R6, R7, reduceCtorEq, R9, litn0, litn1, litn2, litn256, tk1, tk2, tk3, tk4, tk5, tk6, tk7, tk8, and_false, false_and, dC_length, dC_take, Int.reduceBEq, Int.reduceBNe, bne_self_eq_false, Bool.not_false, Bool.not_true, Bool.and_self, Int.reduceLT, Int.reduceLE, List.drop_succ_cons]) | (refine hJ _ ?_; clear hJ R) | refine Q5 ?_ | (refine hK _ ?_; clear hK K) | ((first | refine hN _ ?_ | refine hX _ _ ?_ | refine hR _ ?_); clear hN hX hR Z) | refine Q6 rfl ?_ | refine Q7 (by decide) ?_ | (refine Q8 ?_ ?_; focus (simp only [kS, R1, R2, R3, R4, R5, R6, R7, reduceCtorEq, R9, litn0, litn1, litn2, litn256, tk1, tk2, tk3, tk4, tk5, tk6, tk7, tk8, and_false, false_and, dC_length, dC_take, Int.reduceBEq, Int.reduceBNe, bne_self_eq_false, Bool.not_false, Bool.not_true, Bool.and_self, Int.reduceLT, Int.reduceLE, List.drop_succ_cons]; done)) | (refine Q9 ?_ ?_; focus (simp only [kS, R1, R2, R3, R4, R5, R6, R7, reduceCtorEq, R9, litn0, litn1, litn2, litn256, tk1, tk2, tk3, tk4, tk5, tk6, tk7, tk8, and_false, false_and, dC_length, dC_take, Int.reduceBEq, Int.reduceBNe, bne_self_eq_false, Bool.not_false, Bool.not_true, Bool.and_self, Int.reduceLT, Int.reduceLE, List.drop_succ_cons]; done)) | refine Qa ?_ | refine Qb ?_ | refine Qc ?_ | refine And.intro (by first | assumption | omega) ?_)
  refine ⟨_, hwr, rfl, ?_⟩
  try simp only [kS, R1, R2, R3, R4, R5, R6, R7, reduceCtorEq, R9, litn0, litn1, litn2, litn256, tk1, tk2, tk3, tk4, tk5, tk6, tk7, tk8, and_false, false_and, dC_length, dC_take, Int.reduceBEq, Int.reduceBNe, bne_self_eq_false, Bool.not_false, Bool.not_true, Bool.and_self, Int.reduceLT, Int.reduceLE, List.drop_succ_cons]
  repeat (first | ((first | refine Q1 ?_ | refine Q2 ?_); intro Z hN hX hR) | refine Q3 (by kernel_rfl) fun K hK => ?_ | ((first | refine Q4 fun R hJ => ?_ | with_reducible change ExpAll _ _ _); simp only [kS, R1, R2, R3, R4, R5, R6, R7, reduceCtorEq, R9, litn0, litn1, litn2, litn256, tk1, tk2, tk3, tk4, tk5, tk6, tk7, tk8, and_false, false_and, dC_length, dC_take, Int.reduceBEq, Int.reduceBNe, bne_self_eq_false, Bool.not_false, Bool.not_true, Bool.and_self, Int.reduceLT, Int.reduceLE, List.drop_succ_cons]) | (refine hJ _ ?_; clear hJ R) | refine Q5 ?_ | (refine hK _ ?_; clear hK K) | ((first | refine hN _ ?_ | refine hX _ _ ?_ | refine hR _ ?_); clear hN hX hR Z) | refine Q6 rfl ?_ | refine Q7 (by decide) ?_ | (refine Q8 ?_ ?_; focus (simp only [kS, R1, R2, R3, R4, R5, R6, R7, reduceCtorEq, R9, litn0, litn1, litn2, litn256, tk1, tk2, tk3, tk4, tk5, tk6, tk7, tk8, and_false, false_and, dC_length, dC_take, Int.reduceBEq, Int.reduceBNe, bne_self_eq_false, Bool.not_false, Bool.not_true, Bool.and_self, Int.reduceLT, Int.reduceLE, List.drop_succ_cons]; done)) | (refine Q9 ?_ ?_; focus (simp only [kS, R1, R2, R3, R4, R5, R6, R7, reduceCtorEq, R9, litn0, litn1, litn2, litn256, tk1, tk2, tk3, tk4, tk5, tk6, tk7, tk8, and_false, false_and, dC_length, dC_take, Int.reduceBEq, Int.reduceBNe, bne_self_eq_false, Bool.not_false, Bool.not_true, Bool.and_self, Int.reduceLT, Int.reduceLE, List.drop_succ_cons]; done)) | refine Qa ?_ | refine Qb ?_ | refine Qc ?_ | refine And.intro (by first | assumption | omega) ?_)
  refine ⟨_, hst2, rfl, ?_⟩
  try simp only [kS, R1, R2, R3, R4, R5, R6, R7, reduceCtorEq, R9, litn0, litn1, litn2, litn256, tk1, tk2, tk3, tk4, tk5, tk6, tk7, tk8, and_false, false_and, dC_length, dC_take, Int.reduceBEq, Int.reduceBNe, bne_self_eq_false, Bool.not_false, Bool.not_true, Bool.and_self, Int.reduceLT, Int.reduceLE, List.drop_succ_cons]
  repeat (first | ((first | refine Q1 ?_ | refine Q2 ?_); intro Z hN hX hR) | refine Q3 (by kernel_rfl) fun K hK => ?_ | ((first | refine Q4 fun R hJ => ?_ | with_reducible change ExpAll _ _ _); simp only [kS, R1, R2, R3, R4, R5, R6, R7, reduceCtorEq, R9, litn0, litn1, litn2, litn256, tk1, tk2, tk3, tk4, tk5, tk6, tk7, tk8, and_false, false_and, dC_length, dC_take, Int.reduceBEq, Int.reduceBNe, bne_self_eq_false, Bool.not_false, Bool.not_true, Bool.and_self, Int.reduceLT, Int.reduceLE, List.drop_succ_cons]) | (refine hJ _ ?_; clear hJ R) | refine Q5 ?_ | (refine hK _ ?_; clear hK K) | ((first | refine hN _ ?_ | refine hX _ _ ?_ | refine hR _ ?_); clear hN hX hR Z) | refine Q6 rfl ?_ | refine Q7 (by decide) ?_ | (refine Q8 ?_ ?_; focus (simp only [kS, R1, R2, R3, R4, R5, R6, R7, reduceCtorEq, R9, litn0, litn1, litn2, litn256, tk1, tk2, tk3, tk4, tk5, tk6, tk7, tk8, and_false, false_and, dC_length, dC_take, Int.reduceBEq, Int.reduceBNe, bne_self_eq_false, Bool.not_false, Bool.not_true, Bool.and_self, Int.reduceLT, Int.reduceLE, List.drop_succ_cons]; done)) | (refine Q9 ?_ ?_; focus (simp only [kS, R1, R2, R3, R4, R5, R6, R7, reduceCtorEq, R9, litn0, litn1, litn2, litn256, tk1, tk2, tk3, tk4, tk5, tk6, tk7, tk8, and_false, false_and, dC_length, dC_take, Int.reduceBEq, Int.reduceBNe, bne_self_eq_false, Bool.not_false, Bool.not_true, Bool.and_self, Int.reduceLT, Int.reduceLE, List.drop_succ_cons]; done)) | refine Qa ?_ | refine Qb ?_ | refine Qc ?_ | refine And.intro (by first | assumption | omega) ?_)
  refine ⟨_, ho, rfl, ?_⟩
  try simp only [kS, R1, R2, R3, R4, R5, R6, R7, reduceCtorEq, R9, litn0, litn1, litn2, litn256, tk1, tk2, tk3, tk4, tk5, tk6, tk7, tk8, and_false, false_and, dC_length, dC_take, Int.reduceBEq, Int.reduceBNe, bne_self_eq_false, Bool.not_false, Bool.not_true, Bool.and_self, Int.reduceLT, Int.reduceLE, List.drop_succ_cons]
  repeat (first | ((first | refine Q1 ?_ | refine Q2 ?_); intro Z hN hX hR) | refine Q3 (by kernel_rfl) fun K hK => ?_ | ((first | refine Q4 fun R hJ => ?_ | with_reducible change ExpAll _ _ _); simp only [kS, R1, R2, R3, R4, R5, R6, R7, reduceCtorEq, R9, litn0, litn1, litn2, litn256, tk1, tk2, tk3, tk4, tk5, tk6, tk7, tk8, and_false, false_and, dC_length, dC_take, Int.reduceBEq, Int.reduceBNe, bne_self_eq_false, Bool.not_false, Bool.not_true, Bool.and_self, Int.reduceLT, Int.reduceLE, List.drop_succ_cons]) | (refine hJ _ ?_; clear hJ R) | refine Q5 ?_ | (refine hK _ ?_; clear hK K) | ((first | refine hN _ ?_ | refine hX _ _ ?_ | refine hR _ ?_); clear hN hX hR Z) | refine Q6 rfl ?_ | refine Q7 (by decide) ?_ | (refine Q8 ?_ ?_; focus (simp only [kS, R1, R2, R3, R4, R5, R6, R7, reduceCtorEq, R9, litn0, litn1, litn2, litn256, tk1, tk2, tk3, tk4, tk5, tk6, tk7, tk8, and_false, false_and, dC_length, dC_take, Int.reduceBEq, Int.reduceBNe, bne_self_eq_false, Bool.not_false, Bool.not_true, Bool.and_self, Int.reduceLT, Int.reduceLE, List.drop_succ_cons]; done)) | (refine Q9 ?_ ?_; focus (simp only [kS, R1, R2, R3, R4, R5, R6, R7, reduceCtorEq, R9, litn0, litn1, litn2, litn256, tk1, tk2, tk3, tk4, tk5, tk6, tk7, tk8, and_false, false_and, dC_length, dC_take, Int.reduceBEq, Int.reduceBNe, bne_self_eq_false, Bool.not_false, Bool.not_true, Bool.and_self, Int.reduceLT, Int.reduceLE, List.drop_succ_cons]; done)) | refine Qa ?_ | refine Qb ?_ | refine Qc ?_ | refine And.intro (by first | assumption | omega) ?_)
  refine ⟨_, hstf, rfl, ?_⟩
  try simp only [kS, R1, R2, R3, R4, R5, R6, R7, reduceCtorEq, R9, litn0, litn1, litn2, litn256, tk1, tk2, tk3, tk4, tk5, tk6, tk7, tk8, and_false, false_and, dC_length, dC_take, Int.reduceBEq, Int.reduceBNe, bne_self_eq_false, Bool.not_false, Bool.not_true, Bool.and_self, Int.reduceLT, Int.reduceLE, List.drop_succ_cons]
  repeat (first | ((first | refine Q1 ?_ | refine Q2 ?_); intro Z hN hX hR) | refine Q3 (by kernel_rfl) fun K hK => ?_ | ((first | refine Q4 fun R hJ => ?_ | with_reducible change ExpAll _ _ _); simp only [kS, R1, R2, R3, R4, R5, R6, R7, reduceCtorEq, R9, litn0, litn1, litn2, litn256, tk1, tk2, tk3, tk4, tk5, tk6, tk7, tk8, and_false, false_and, dC_length, dC_take, Int.reduceBEq, Int.reduceBNe, bne_self_eq_false, Bool.not_false, Bool.not_true, Bool.and_self, Int.reduceLT, Int.reduceLE, List.drop_succ_cons]) | (refine hJ _ ?_; clear hJ R) | refine Q5 ?_ | (refine hK _ ?_; clear hK K) | ((first | refine hN _ ?_ | refine hX _ _ ?_ | refine hR _ ?_); clear hN hX hR Z) | refine Q6 rfl ?_ | refine Q7 (by decide) ?_ | (refine Q8 ?_ ?_; focus (simp only [kS, R1, R2, R3, R4, R5, R6, R7, reduceCtorEq, R9, litn0, litn1, litn2, litn256, tk1, tk2, tk3, tk4, tk5, tk6, tk7, tk8, and_false, false_and, dC_length, dC_take, Int.reduceBEq, Int.reduceBNe, bne_self_eq_false, Bool.not_false, Bool.not_true, Bool.and_self, Int.reduceLT, Int.reduceLE, List.drop_succ_cons]; done)) | (refine Q9 ?_ ?_; focus (simp only [kS, R1, R2, R3, R4, R5, R6, R7, reduceCtorEq, R9, litn0, litn1, litn2, litn256, tk1, tk2, tk3, tk4, tk5, tk6, tk7, tk8, and_false, false_and, dC_length, dC_take, Int.reduceBEq, Int.reduceBNe, bne_self_eq_false, Bool.not_false, Bool.not_true, Bool.and_self, Int.reduceLT, Int.reduceLE, List.drop_succ_cons]; done)) | refine Qa ?_ | refine Qb ?_ | refine Qc ?_ | refine And.intro (by first | assumption | omega) ?_)
  refine ⟨_, hp, rfl, ?_⟩
  try simp only [kS, R1, R2, R3, R4, R5, R6, R7, reduceCtorEq, R9, litn0, litn1, litn2, litn256, tk1, tk2, tk3, tk4, tk5, tk6, tk7, tk8, and_false, false_and, dC_length, dC_take, Int.reduceBEq, Int.reduceBNe, bne_self_eq_false, Bool.not_false, Bool.not_true, Bool.and_self, Int.reduceLT, Int.reduceLE, List.drop_succ_cons]
  repeat (first | ((first | refine Q1 ?_ | refine Q2 ?_); intro Z hN hX hR) | refine Q3 (by kernel_rfl) fun K hK => ?_ | ((first | refine Q4 fun R hJ => ?_ | with_reducible change ExpAll _ _ _); simp only [kS, R1, R2, R3, R4, R5, R6, R7, reduceCtorEq, R9, litn0, litn1, litn2, litn256, tk1, tk2, tk3, tk4, tk5, tk6, tk7, tk8, and_false, false_and, dC_length, dC_take, Int.reduceBEq, Int.reduceBNe, bne_self_eq_false, Bool.not_false, Bool.not_true, Bool.and_self, Int.reduceLT, Int.reduceLE, List.drop_succ_cons]) | (refine hJ _ ?_; clear hJ R) | refine Q5 ?_ | (refine hK _ ?_; clear hK K) | ((first | refine hN _ ?_ | refine hX _ _ ?_ | refine hR _ ?_); clear hN hX hR Z) | refine Q6 rfl ?_ | refine Q7 (by decide) ?_ | (refine Q8 ?_ ?_; focus (simp only [kS, R1, R2, R3, R4, R5, R6, R7, reduceCtorEq, R9, litn0, litn1, litn2, litn256, tk1, tk2, tk3, tk4, tk5, tk6, tk7, tk8, and_false, false_and, dC_length, dC_take, Int.reduceBEq, Int.reduceBNe, bne_self_eq_false, Bool.not_false, Bool.not_true, Bool.and_self, Int.reduceLT, Int.reduceLE, List.drop_succ_cons]; done)) | (refine Q9 ?_ ?_; focus (simp only [kS, R1, R2, R3, R4, R5, R6, R7, reduceCtorEq, R9, litn0, litn1, litn2, litn256, tk1, tk2, tk3, tk4, tk5, tk6, tk7, tk8, and_false, false_and, dC_length, dC_take, Int.reduceBEq, Int.reduceBNe, bne_self_eq_false, Bool.not_false, Bool.not_true, Bool.and_self, Int.reduceLT, Int.reduceLE, List.drop_succ_cons]; done)) | refine Qa ?_ | refine Qb ?_ | refine Qc ?_ | refine And.intro (by first | assumption | omega) ?_)
  refine ⟨_, hstb, rfl, ?_⟩
  try simp only [kS, R1, R2, R3, R4, R5, R6, R7, reduceCtorEq, R9, litn0, litn1, litn2, litn256, tk1, tk2, tk3, tk4, tk5, tk6, tk7, tk8, and_false, false_and, dC_length, dC_take, Int.reduceBEq, Int.reduceBNe, bne_self_eq_false, Bool.not_false, Bool.not_true, Bool.and_self, Int.reduceLT, Int.reduceLE, List.drop_succ_cons]
  repeat (first | ((first | refine Q1 ?_ | refine Q2 ?_); intro Z hN hX hR) | refine Q3 (by kernel_rfl) fun K hK => ?_ | ((first | refine Q4 fun R hJ => ?_ | with_reducible change ExpAll _ _ _); simp only [kS, R1, R2, R3, R4, R5, R6, R7, reduceCtorEq, R9, litn0, litn1, litn2, litn256, tk1, tk2, tk3, tk4, tk5, tk6, tk7, tk8, and_false, false_and, dC_length, dC_take, Int.reduceBEq, Int.reduceBNe, bne_self_eq_false, Bool.not_false, Bool.not_true, Bool.and_self, Int.reduceLT, Int.reduceLE, List.drop_succ_cons]) | (refine hJ _ ?_; clear hJ R) | refine Q5 ?_ | (refine hK _ ?_; clear hK K) | ((first | refine hN _ ?_ | refine hX _ _ ?_ | refine hR _ ?_); clear hN hX hR Z) | refine Q6 rfl ?_ | refine Q7 (by decide) ?_ | (refine Q8 ?_ ?_; focus (simp only [kS, R1, R2, R3, R4, R5, R6, R7, reduceCtorEq, R9, litn0, litn1, litn2, litn256, tk1, tk2, tk3, tk4, tk5, tk6, tk7, tk8, and_false, false_and, dC_length, dC_take, Int.reduceBEq, Int.reduceBNe, bne_self_eq_false, Bool.not_false, Bool.not_true, Bool.and_self, Int.reduceLT, Int.reduceLE, List.drop_succ_cons]; done)) | (refine Q9 ?_ ?_; focus (simp only [kS, R1, R2, R3, R4, R5, R6, R7, reduceCtorEq, R9, litn0, litn1, litn2, litn256, tk1, tk2, tk3, tk4, tk5, tk6, tk7, tk8, and_false, false_and, dC_length, dC_take, Int.reduceBEq, Int.reduceBNe, bne_self_eq_false, Bool.not_false, Bool.not_true, Bool.and_self, Int.reduceLT, Int.reduceLE, List.drop_succ_cons]; done)) | refine Qa ?_ | refine Qb ?_ | refine Qc ?_ | refine And.intro (by first | assumption | omega) ?_)
  refine ⟨_, hr6, rfl, ?_⟩
  try simp only [kS, R1, R2, R3, R4, R5, R6, R7, reduceCtorEq, R9, litn0, litn1, litn2, litn256, tk1, tk2, tk3, tk4, tk5, tk6, tk7, tk8, and_false, false_and, dC_length, dC_take, Int.reduceBEq, Int.reduceBNe, bne_self_eq_false, Bool.not_false, Bool.not_true, Bool.and_self, Int.reduceLT, Int.reduceLE, List.drop_succ_cons]
  repeat (first | ((first | refine Q1 ?_ | refine Q2 ?_); intro Z hN hX hR) | refine Q3 (by kernel_rfl) fun K hK => ?_ | ((first | refine Q4 fun R hJ => ?_ | with_reducible change ExpAll _ _ _); simp only [kS, R1, R2, R3, R4, R5, R6, R7, reduceCtorEq, R9, litn0, litn1, litn2, litn256, tk1, tk2, tk3, tk4, tk5, tk6, tk7, tk8, and_false, false_and, dC_length, dC_take, Int.reduceBEq, Int.reduceBNe, bne_self_eq_false, Bool.not_false, Bool.not_true, Bool.and_self, Int.reduceLT, Int.reduceLE, List.drop_succ_cons]) | (refine hJ _ ?_; clear hJ R) | refine Q5 ?_ | (refine hK _ ?_; clear hK K) | ((first | refine hN _ ?_ | refine hX _ _ ?_ | refine hR _ ?_); clear hN hX hR Z) | refine Q6 rfl ?_ | refine Q7 (by decide) ?_ | (refine Q8 ?_ ?_; focus (simp only [kS, R1, R2, R3, R4, R5, R6, R7, reduceCtorEq, R9, litn0, litn1, litn2, litn256, tk1, tk2, tk3, tk4, tk5, tk6, tk7, tk8, and_false, false_and, dC_length, dC_take, Int.reduceBEq, Int.reduceBNe, bne_self_eq_false, Bool.not_false, Bool.not_true, Bool.and_self, Int.reduceLT, Int.reduceLE, List.drop_succ_cons]; done)) | (refine Q9 ?_ ?_; focus (simp only [kS, R1, R2, R3, R4, R5, R6, R7, reduceCtorEq, R9, litn0, litn1, litn2, litn256, tk1, tk2, tk3, tk4, tk5, tk6, tk7, tk8, and_false, false_and, dC_length, dC_take, Int.reduceBEq, Int.reduceBNe, bne_self_eq_false, Bool.not_false, Bool.not_true, Bool.and_self, Int.reduceLT, Int.reduceLE, List.drop_succ_cons]; done)) | refine Qa ?_ | refine Qb ?_ | refine Qc ?_ | refine And.intro (by first | assumption | omega) ?_)
  refine ⟨_, hstb, rfl, ?_⟩
  try simp only [kS, R1, R2, R3, R4, R5, R6, R7, reduceCtorEq, R9, litn0, litn1, litn2, litn256, tk1, tk2, tk3, tk4, tk5, tk6, tk7, tk8, and_false, false_and, dC_length, dC_take, Int.reduceBEq, Int.reduceBNe, bne_self_eq_false, Bool.not_false, Bool.not_true, Bool.and_self, Int.reduceLT, Int.reduceLE, List.drop_succ_cons]
  repeat (first | ((first | refine Q1 ?_ | refine Q2 ?_); intro Z hN hX hR) | refine Q3 (by kernel_rfl) fun K hK => ?_ | ((first | refine Q4 fun R hJ => ?_ | with_reducible change ExpAll _ _ _); simp only [kS, R1, R2, R3, R4, R5, R6, R7, reduceCtorEq, R9, litn0, litn1, litn2, litn256, tk1, tk2, tk3, tk4, tk5, tk6, tk7, tk8, and_false, false_and, dC_length, dC_take, Int.reduceBEq, Int.reduceBNe, bne_self_eq_false, Bool.not_false, Bool.not_true, Bool.and_self, Int.reduceLT, Int.reduceLE, List.drop_succ_cons]) | (refine hJ _ ?_; clear hJ R) | refine Q5 ?_ | (refine hK _ ?_; clear hK K) | ((first | refine hN _ ?_ | refine hX _ _ ?_ | refine hR _ ?_); clear hN hX hR Z) | refine Q6 rfl ?_ | refine Q7 (by decide) ?_ | (refine Q8 ?_ ?_; focus (simp only [kS, R1, R2, R3, R4, R5, R6, R7, reduceCtorEq, R9, litn0, litn1, litn2, litn256, tk1, tk2, tk3, tk4, tk5, tk6, tk7, tk8, and_false, false_and, dC_length, dC_take, Int.reduceBEq, Int.reduceBNe, bne_self_eq_false, Bool.not_false, Bool.not_true, Bool.and_self, Int.reduceLT, Int.reduceLE, List.drop_succ_cons]; done)) | (refine Q9 ?_ ?_; focus (simp only [kS, R1, R2, R3, R4, R5, R6, R7, reduceCtorEq, R9, litn0, litn1, litn2, litn256, tk1, tk2, tk3, tk4, tk5, tk6, tk7, tk8, and_false, false_and, dC_length, dC_take, Int.reduceBEq, Int.reduceBNe, bne_self_eq_false, Bool.not_false, Bool.not_true, Bool.and_self, Int.reduceLT, Int.reduceLE, List.drop_succ_cons]; done)) | refine Qa ?_ | refine Qb ?_ | refine Qc ?_ | refine And.intro (by first | assumption | omega) ?_)
  refine ⟨_, hr7, rfl, ?_⟩
  try simp only [kS, R1, R2, R3, R4, R5, R6, R7, reduceCtorEq, R9, litn0, litn1, litn2, litn256, tk1, tk2, tk3, tk4, tk5, tk6, tk7, tk8, and_false, false_and, dC_length, dC_take, Int.reduceBEq, Int.reduceBNe, bne_self_eq_false, Bool.not_false, Bool.not_true, Bool.and_self, Int.reduceLT, Int.reduceLE, List.drop_succ_cons]
  repeat (first | ((first | refine Q1 ?_ | refine Q2 ?_); intro Z hN hX hR) | refine Q3 (by kernel_rfl) fun K hK => ?_ | ((first | refine Q4 fun R hJ => ?_ | with_reducible change ExpAll _ _ _); simp only [kS, R1, R2, R3, R4, R5, R6, R7, reduceCtorEq, R9, litn0, litn1, litn2, litn256, tk1, tk2, tk3, tk4, tk5, tk6, tk7, tk8, and_false, false_and, dC_length, dC_take, Int.reduceBEq, Int.reduceBNe, bne_self_eq_false, Bool.not_false, Bool.not_true, Bool.and_self, Int.reduceLT, Int.reduceLE, List.drop_succ_cons]) | (refine hJ _ ?_; clear hJ R) | refine Q5 ?_ | (refine hK _ ?_; clear hK K) | ((first | refine hN _ ?_ | refine hX _ _ ?_ | refine hR _ ?_); clear hN hX hR Z) | refine Q6 rfl ?_ | refine Q7 (by decide) ?_ | (refine Q8 ?_ ?_; focus (simp only [kS, R1, R2, R3, R4, R5, R6, R7, reduceCtorEq, R9, litn0, litn1, litn2, litn256, tk1, tk2, tk3, tk4, tk5, tk6, tk7, tk8, and_false, false_and, dC_length, dC_take, Int.reduceBEq, Int.reduceBNe, bne_self_eq_false, Bool.not_false, Bool.not_true, Bool.and_self, Int.reduceLT, Int.reduceLE, List.drop_succ_cons]; done)) | (refine Q9 ?_ ?_; focus (simp only [kS, R1, R2, R3, R4, R5, R6, R7, reduceCtorEq, R9, litn0, litn1, litn2, litn256, tk1, tk2, tk3, tk4, tk5, tk6, tk7, tk8, and_false, false_and, dC_length, dC_take, Int.reduceBEq, Int.reduceBNe, bne_self_eq_false, Bool.not_false, Bool.not_true, Bool.and_self, Int.reduceLT, Int.reduceLE, List.drop_succ_cons]; done)) | refine Qa ?_ | refine Qb ?_ | refine Qc ?_ | refine And.intro (by first | assumption | omega) ?_)
  refine ⟨_, hshut, rfl, ?_⟩
  try simp only [kS, R1, R2, R3, R4, R5, R6, R7, reduceCtorEq, R9, litn0, litn1, litn2, litn256, tk1, tk2, tk3, tk4, tk5, tk6, tk7, tk8, and_false, false_and, dC_length, dC_take, Int.reduceBEq, Int.reduceBNe, bne_self_eq_false, Bool.not_false, Bool.not_true, Bool.and_self, Int.reduceLT, Int.reduceLE, List.drop_succ_cons]
  repeat (first | ((first | refine Q1 ?_ | refine Q2 ?_); intro Z hN hX hR) | refine Q3 (by kernel_rfl) fun K hK => ?_ | ((first | refine Q4 fun R hJ => ?_ | with_reducible change ExpAll _ _ _); simp only [kS, R1, R2, R3, R4, R5, R6, R7, reduceCtorEq, R9, litn0, litn1, litn2, litn256, tk1, tk2, tk3, tk4, tk5, tk6, tk7, tk8, and_false, false_and, dC_length, dC_take, Int.reduceBEq, Int.reduceBNe, bne_self_eq_false, Bool.not_false, Bool.not_true, Bool.and_self, Int.reduceLT, Int.reduceLE, List.drop_succ_cons]) | (refine hJ _ ?_; clear hJ R) | refine Q5 ?_ | (refine hK _ ?_; clear hK K) | ((first | refine hN _ ?_ | refine hX _ _ ?_ | refine hR _ ?_); clear hN hX hR Z) | refine Q6 rfl ?_ | refine Q7 (by decide) ?_ | (refine Q8 ?_ ?_; focus (simp only [kS, R1, R2, R3, R4, R5, R6, R7, reduceCtorEq, R9, litn0, litn1, litn2, litn256, tk1, tk2, tk3, tk4, tk5, tk6, tk7, tk8, and_false, false_and, dC_length, dC_take, Int.reduceBEq, Int.reduceBNe, bne_self_eq_false, Bool.not_false, Bool.not_true, Bool.and_self, Int.reduceLT, Int.reduceLE, List.drop_succ_cons]; done)) | (refine Q9 ?_ ?_; focus (simp only [kS, R1, R2, R3, R4, R5, R6, R7, reduceCtorEq, R9, litn0, litn1, litn2, litn256, tk1, tk2, tk3, tk4, tk5, tk6, tk7, tk8, and_false, false_and, dC_length, dC_take, Int.reduceBEq, Int.reduceBNe, bne_self_eq_false, Bool.not_false, Bool.not_true, Bool.and_self, Int.reduceLT, Int.reduceLE, List.drop_succ_cons]; done)) | refine Qa ?_ | refine Qb ?_ | refine Qc ?_ | refine And.intro (by first | assumption | omega) ?_)
  refine ⟨_, he0, rfl, ?_⟩
  try simp only [kS, R1, R2, R3, R4, R5, R6, R7, reduceCtorEq, R9, litn0, litn1, litn2, litn256, tk1, tk2, tk3, tk4, tk5, tk6, tk7, tk8, and_false, false_and, dC_length, dC_take, Int.reduceBEq, Int.reduceBNe, bne_self_eq_false, Bool.not_false, Bool.not_true, Bool.and_self, Int.reduceLT, Int.reduceLE, List.drop_succ_cons]
  repeat (first | ((first | refine Q1 ?_ | refine Q2 ?_); intro Z hN hX hR) | refine Q3 (by kernel_rfl) fun K hK => ?_ | ((first | refine Q4 fun R hJ => ?_ | with_reducible change ExpAll _ _ _); simp only [kS, R1, R2, R3, R4, R5, R6, R7, reduceCtorEq, R9, litn0, litn1, litn2, litn256, tk1, tk2, tk3, tk4, tk5, tk6, tk7, tk8, and_false, false_and, dC_length, dC_take, Int.reduceBEq, Int.reduceBNe, bne_self_eq_false, Bool.not_false, Bool.not_true, Bool.and_self, Int.reduceLT, Int.reduceLE, List.drop_succ_cons]) | (refine hJ _ ?_; clear hJ R) | refine Q5 ?_ | (refine hK _ ?_; clear hK K) | ((first | refine hN _ ?_ | refine hX _ _ ?_ | refine hR _ ?_); clear hN hX hR Z) | refine Q6 rfl ?_ | refine Q7 (by decide) ?_ | (refine Q8 ?_ ?_; focus (simp only [kS, R1, R2, R3, R4, R5, R6, R7, reduceCtorEq, R9, litn0, litn1, litn2, litn256, tk1, tk2, tk3, tk4, tk5, tk6, tk7, tk8, and_false, false_and, dC_length, dC_take, Int.reduceBEq, Int.reduceBNe, bne_self_eq_false, Bool.not_false, Bool.not_true, Bool.and_self, Int.reduceLT, Int.reduceLE, List.drop_succ_cons]; done)) | (refine Q9 ?_ ?_; focus (simp only [kS, R1, R2, R3, R4, R5, R6, R7, reduceCtorEq, R9, litn0, litn1, litn2, litn256, tk1, tk2, tk3, tk4, tk5, tk6, tk7, tk8, and_false, false_and, dC_length, dC_take, Int.reduceBEq, Int.reduceBNe, bne_self_eq_false, Bool.not_false, Bool.not_true, Bool.and_self, Int.reduceLT, Int.reduceLE, List.drop_succ_cons]; done)) | refine Qa ?_ | refine Qb ?_ | refine Qc ?_ | refine And.intro (by first | assumption | omega) ?_)
  refine ⟨_, hstb, rfl, ?_⟩
  try simp only [kS, R1, R2, R3, R4, R5, R6, R7, reduceCtorEq, R9, litn0, litn1, litn2, litn256, tk1, tk2, tk3, tk4, tk5, tk6, tk7, tk8, and_false, false_and, dC_length, dC_take, Int.reduceBEq, Int.reduceBNe, bne_self_eq_false, Bool.not_false, Bool.not_true, Bool.and_self, Int.reduceLT, Int.reduceLE, List.drop_succ_cons]
  repeat (first | ((first | refine Q1 ?_ | refine Q2 ?_); intro Z hN hX hR) | refine Q3 (by kernel_rfl) fun K hK => ?_ | ((first | refine Q4 fun R hJ => ?_ | with_reducible change ExpAll _ _ _); simp only [kS, R1, R2, R3, R4, R5, R6, R7, reduceCtorEq, R9, litn0, litn1, litn2, litn256, tk1, tk2, tk3, tk4, tk5, tk6, tk7, tk8, and_false, false_and, dC_length, dC_take, Int.reduceBEq, Int.reduceBNe, bne_self_eq_false, Bool.not_false, Bool.not_true, Bool.and_self, Int.reduceLT, Int.reduceLE, List.drop_succ_cons]) | (refine hJ _ ?_; clear hJ R) | refine Q5 ?_ | (refine hK _ ?_; clear hK K) | ((first | refine hN _ ?_ | refine hX _ _ ?_ | refine hR _ ?_); clear hN hX hR Z) | refine Q6 rfl ?_ | refine Q7 (by decide) ?_ | (refine Q8 ?_ ?_; focus (simp only [kS, R1, R2, R3, R4, R5, R6, R7, reduceCtorEq, R9, litn0, litn1, litn2, litn256, tk1, tk2, tk3, tk4, tk5, tk6, tk7, tk8, and_false, false_and, dC_length, dC_take, Int.reduceBEq, Int.reduceBNe, bne_self_eq_false, Bool.not_false, Bool.not_true, Bool.and_self, Int.reduceLT, Int.reduceLE, List.drop_succ_cons]; done)) | (refine Q9 ?_ ?_; focus (simp only [kS, R1, R2, R3, R4, R5, R6, R7, reduceCtorEq, R9, litn0, litn1, litn2, litn256, tk1, tk2, tk3, tk4, tk5, tk6, tk7, tk8, and_false, false_and, dC_length, dC_take, Int.reduceBEq, Int.reduceBNe, bne_self_eq_false, Bool.not_false, Bool.not_true, Bool.and_self, Int.reduceLT, Int.reduceLE, List.drop_succ_cons]; done)) | refine Qa ?_ | refine Qb ?_ | refine Qc ?_ | refine And.intro (by first | assumption | omega) ?_)
  refine ⟨_, he1, rfl, ?_⟩
  try simp only [kS, R1, R2, R3, R4, R5, R6, R7, reduceCtorEq, R9, litn0, litn1, litn2, litn256, tk1, tk2, tk3, tk4, tk5, tk6, tk7, tk8, and_false, false_and, dC_length, dC_take, Int.reduceBEq, Int.reduceBNe, bne_self_eq_false, Bool.not_false, Bool.not_true, Bool.and_self, Int.reduceLT, Int.reduceLE, List.drop_succ_cons]
  repeat (first | ((first | refine Q1 ?_ | refine Q2 ?_); intro Z hN hX hR) | refine Q3 (by kernel_rfl) fun K hK => ?_ | ((first | refine Q4 fun R hJ => ?_ | with_reducible change ExpAll _ _ _); simp only [kS, R1, R2, R3, R4, R5, R6, R7, reduceCtorEq, R9, litn0, litn1, litn2, litn256, tk1, tk2, tk3, tk4, tk5, tk6, tk7, tk8, and_false, false_and, dC_length, dC_take, Int.reduceBEq, Int.reduceBNe, bne_self_eq_false, Bool.not_false, Bool.not_true, Bool.and_self, Int.reduceLT, Int.reduceLE, List.drop_succ_cons]) | (refine hJ _ ?_; clear hJ R) | refine Q5 ?_ | (refine hK _ ?_; clear hK K) | ((first | refine hN _ ?_ | refine hX _ _ ?_ | refine hR _ ?_); clear hN hX hR Z) | refine Q6 rfl ?_ | refine Q7 (by decide) ?_ | (refine Q8 ?_ ?_; focus (simp only [kS, R1, R2, R3, R4, R5, R6, R7, reduceCtorEq, R9, litn0, litn1, litn2, litn256, tk1, tk2, tk3, tk4, tk5, tk6, tk7, tk8, and_false, false_and, dC_length, dC_take, Int.reduceBEq, Int.reduceBNe, bne_self_eq_false, Bool.not_false, Bool.not_true, Bool.and_self, Int.reduceLT, Int.reduceLE, List.drop_succ_cons]; done)) | (refine Q9 ?_ ?_; focus (simp only [kS, R1, R2, R3, R4, R5, R6, R7, reduceCtorEq, R9, litn0, litn1, litn2, litn256, tk1, tk2, tk3, tk4, tk5, tk6, tk7, tk8, and_false, false_and, dC_length, dC_take, Int.reduceBEq, Int.reduceBNe, bne_self_eq_false, Bool.not_false, Bool.not_true, Bool.and_self, Int.reduceLT, Int.reduceLE, List.drop_succ_cons]; done)) | refine Qa ?_ | refine Qb ?_ | refine Qc ?_ | refine And.intro (by first | assumption | omega) ?_)
  refine ⟨_, hstb, rfl, ?_⟩
  try simp only [kS, R1, R2, R3, R4, R5, R6, R7, reduceCtorEq, R9, litn0, litn1, litn2, litn256, tk1, tk2, tk3, tk4, tk5, tk6, tk7, tk8, and_false, false_and, dC_length, dC_take, Int.reduceBEq, Int.reduceBNe, bne_self_eq_false, Bool.not_false, Bool.not_true, Bool.and_self, Int.reduceLT, Int.reduceLE, List.drop_succ_cons]
  repeat (first | ((first | refine Q1 ?_ | refine Q2 ?_); intro Z hN hX hR) | refine Q3 (by kernel_rfl) fun K hK => ?_ | ((first | refine Q4 fun R hJ => ?_ | with_reducible change ExpAll _ _ _); simp only [kS, R1, R2, R3, R4, R5, R6, R7, reduceCtorEq, R9, litn0, litn1, litn2, litn256, tk1, tk2, tk3, tk4, tk5, tk6, tk7, tk8, and_false, false_and, dC_length, dC_take, Int.reduceBEq, Int.reduceBNe, bne_self_eq_false, Bool.not_false, Bool.not_true, Bool.and_self, Int.reduceLT, Int.reduceLE, List.drop_succ_cons]) | (refine hJ _ ?_; clear hJ R) | refine Q5 ?_ | (refine hK _ ?_; clear hK K) | ((first | refine hN _ ?_ | refine hX _ _ ?_ | refine hR _ ?_); clear hN hX hR Z) | refine Q6 rfl ?_ | refine Q7 (by decide) ?_ | (refine Q8 ?_ ?_; focus (simp only [kS, R1, R2, R3, R4, R5, R6, R7, reduceCtorEq, R9, litn0, litn1, litn2, litn256, tk1, tk2, tk3, tk4, tk5, tk6, tk7, tk8, and_false, false_and, dC_length, dC_take, Int.reduceBEq, Int.reduceBNe, bne_self_eq_false, Bool.not_false, Bool.not_true, Bool.and_self, Int.reduceLT, Int.reduceLE, List.drop_succ_cons]; done)) | (refine Q9 ?_ ?_; focus (simp only [kS, R1, R2, R3, R4, R5, R6, R7, reduceCtorEq, R9, litn0, litn1, litn2, litn256, tk1, tk2, tk3, tk4, tk5, tk6, tk7, tk8, and_false, false_and, dC_length, dC_take, Int.reduceBEq, Int.reduceBNe, bne_self_eq_false, Bool.not_false, Bool.not_true, Bool.and_self, Int.reduceLT, Int.reduceLE, List.drop_succ_cons]; done)) | refine Qa ?_ | refine Qb ?_ | refine Qc ?_ | refine And.intro (by first | assumption | omega) ?_)
  refine ⟨_, hcb, rfl, ?_⟩
  try simp only [kS, R1, R2, R3, R4, R5, R6, R7, reduceCtorEq, R9, litn0, litn1, litn2, litn256, tk1, tk2, tk3, tk4, tk5, tk6, tk7, tk8, and_false, false_and, dC_length, dC_take, Int.reduceBEq, Int.reduceBNe, bne_self_eq_false, Bool.not_false, Bool.not_true, Bool.and_self, Int.reduceLT, Int.reduceLE, List.drop_succ_cons]
  repeat (first | ((first | refine Q1 ?_ | refine Q2 ?_); intro Z hN hX hR) | refine Q3 (by kernel_rfl) fun K hK => ?_ | ((first | refine Q4 fun R hJ => ?_ | with_reducible change ExpAll _ _ _); simp only [kS, R1, R2, R3, R4, R5, R6, R7, reduceCtorEq, R9, litn0, litn1, litn2, litn256, tk1, tk2, tk3, tk4, tk5, tk6, tk7, tk8, and_false, false_and, dC_length, dC_take, Int.reduceBEq, Int.reduceBNe, bne_self_eq_false, Bool.not_false, Bool.not_true, Bool.and_self, Int.reduceLT, Int.reduceLE, List.drop_succ_cons]) | (refine hJ _ ?_; clear hJ R) | refine Q5 ?_ | (refine hK _ ?_; clear hK K) | ((first | refine hN _ ?_ | refine hX _ _ ?_ | refine hR _ ?_); clear hN hX hR Z) | refine Q6 rfl ?_ | refine Q7 (by decide) ?_ | (refine Q8 ?_ ?_; focus (simp only [kS, R1, R2, R3, R4, R5, R6, R7, reduceCtorEq, R9, litn0, litn1, litn2, litn256, tk1, tk2, tk3, tk4, tk5, tk6, tk7, tk8, and_false, false_and, dC_length, dC_take, Int.reduceBEq, Int.reduceBNe, bne_self_eq_false, Bool.not_false, Bool.not_true, Bool.and_self, Int.reduceLT, Int.reduceLE, List.drop_succ_cons]; done)) | (refine Q9 ?_ ?_; focus (simp only [kS, R1, R2, R3, R4, R5, R6, R7, reduceCtorEq, R9, litn0, litn1, litn2, litn256, tk1, tk2, tk3, tk4, tk5, tk6, tk7, tk8, and_false, false_and, dC_length, dC_take, Int.reduceBEq, Int.reduceBNe, bne_self_eq_false, Bool.not_false, Bool.not_true, Bool.and_self, Int.reduceLT, Int.reduceLE, List.drop_succ_cons]; done)) | refine Qa ?_ | refine Qb ?_ | refine Qc ?_ | refine And.intro (by first | assumption | omega) ?_)
  refine ⟨_, hstf, rfl, ?_⟩
  try simp only [kS, R1, R2, R3, R4, R5, R6, R7, reduceCtorEq, R9, litn0, litn1, litn2, litn256, tk1, tk2, tk3, tk4, tk5, tk6, tk7, tk8, and_false, false_and, dC_length, dC_take, Int.reduceBEq, Int.reduceBNe, bne_self_eq_false, Bool.not_false, Bool.not_true, Bool.and_self, Int.reduceLT, Int.reduceLE, List.drop_succ_cons]
  repeat (first | ((first | refine Q1 ?_ | refine Q2 ?_); intro Z hN hX hR) | refine Q3 (by kernel_rfl) fun K hK => ?_ | ((first | refine Q4 fun R hJ => ?_ | with_reducible change ExpAll _ _ _); simp only [kS, R1, R2, R3, R4, R5, R6, R7, reduceCtorEq, R9, litn0, litn1, litn2, litn256, tk1, tk2, tk3, tk4, tk5, tk6, tk7, tk8, and_false, false_and, dC_length, dC_take, Int.reduceBEq, Int.reduceBNe, bne_self_eq_false, Bool.not_false, Bool.not_true, Bool.and_self, Int.reduceLT, Int.reduceLE, List.drop_succ_cons]) | (refine hJ _ ?_; clear hJ R) | refine Q5 ?_ | (refine hK _ ?_; clear hK K) | ((first | refine hN _ ?_ | refine hX _ _ ?_ | refine hR _ ?_); clear hN hX hR Z) | refine Q6 rfl ?_ | refine Q7 (by decide) ?_ | (refine Q8 ?_ ?_; focus (simp only [kS, R1, R2, R3, R4, R5, R6, R7, reduceCtorEq, R9, litn0, litn1, litn2, litn256, tk1, tk2, tk3, tk4, tk5, tk6, tk7, tk8, and_false, false_and, dC_length, dC_take, Int.reduceBEq, Int.reduceBNe, bne_self_eq_false, Bool.not_false, Bool.not_true, Bool.and_self, Int.reduceLT, Int.reduceLE, List.drop_succ_cons]; done)) | (refine Q9 ?_ ?_; focus (simp only [kS, R1, R2, R3, R4, R5, R6, R7, reduceCtorEq, R9, litn0, litn1, litn2, litn256, tk1, tk2, tk3, tk4, tk5, tk6, tk7, tk8, and_false, false_and, dC_length, dC_take, Int.reduceBEq, Int.reduceBNe, bne_self_eq_false, Bool.not_false, Bool.not_true, Bool.and_self, Int.reduceLT, Int.reduceLE, List.drop_succ_cons]; done)) | refine Qa ?_ | refine Qb ?_ | refine Qc ?_ | refine And.intro (by first | assumption | omega) ?_)
  refine ⟨_, hcf, rfl, ?_⟩
  try simp only [kS, R1, R2, R3, R4, R5, R6, R7, reduceCtorEq, R9, litn0, litn1, litn2, litn256, tk1, tk2, tk3, tk4, tk5, tk6, tk7, tk8, and_false, false_and, dC_length, dC_take, Int.reduceBEq, Int.reduceBNe, bne_self_eq_false, Bool.not_false, Bool.not_true, Bool.and_self, Int.reduceLT, Int.reduceLE, List.drop_succ_cons]
  repeat (first | ((first | refine Q1 ?_ | refine Q2 ?_); intro Z hN hX hR) | refine Q3 (by kernel_rfl) fun K hK => ?_ | ((first | refine Q4 fun R hJ => ?_ | with_reducible change ExpAll _ _ _); simp only [kS, R1, R2, R3, R4, R5, R6, R7, reduceCtorEq, R9, litn0, litn1, litn2, litn256, tk1, tk2, tk3, tk4, tk5, tk6, tk7, tk8, and_false, false_and, dC_length, dC_take, Int.reduceBEq, Int.reduceBNe, bne_self_eq_false, Bool.not_false, Bool.not_true, Bool.and_self, Int.reduceLT, Int.reduceLE, List.drop_succ_cons]) | (refine hJ _ ?_; clear hJ R) | refine Q5 ?_ | (refine hK _ ?_; clear hK K) | ((first | refine hN _ ?_ | refine hX _ _ ?_ | refine hR _ ?_); clear hN hX hR Z) | refine Q6 rfl ?_ | refine Q7 (by decide) ?_ | (refine Q8 ?_ ?_; focus (simp only [kS, R1, R2, R3, R4, R5, R6, R7, reduceCtorEq, R9, litn0, litn1, litn2, litn256, tk1, tk2, tk3, tk4, tk5, tk6, tk7, tk8, and_false, false_and, dC_length, dC_take, Int.reduceBEq, Int.reduceBNe, bne_self_eq_false, Bool.not_false, Bool.not_true, Bool.and_self, Int.reduceLT, Int.reduceLE, List.drop_succ_cons]; done)) | (refine Q9 ?_ ?_; focus (simp only [kS, R1, R2, R3, R4, R5, R6, R7, reduceCtorEq, R9, litn0, litn1, litn2, litn256, tk1, tk2, tk3, tk4, tk5, tk6, tk7, tk8, and_false, false_and, dC_length, dC_take, Int.reduceBEq, Int.reduceBNe, bne_self_eq_false, Bool.not_false, Bool.not_true, Bool.and_self, Int.reduceLT, Int.reduceLE, List.drop_succ_cons]; done)) | refine Qa ?_ | refine Qb ?_ | refine Qc ?_ | refine And.intro (by first | assumption | omega) ?_)
  all_goals rfl

end Go.Proofs.YtilhjiopbbbgmaaGreatDoor

/- The document's Lower and Read: walked. -/
namespace Go.Proofs.YtilhjiopbbbgmaaGreatDoor
open Nat renaming reduceSub → R1, reduceMul → R2, reduceLeDiff → R3, reducePow → R4, reduceBEq → R5, reduceAdd → R6, reduceEqDiff → R7
open Int renaming reduceToNat → R9
open Go Go.RowKit Am
set_option linter.unusedVariables false
set_option linter.unusedSimpArgs false
set_option maxHeartbeats 4000000
attribute [local irreducible] AWp AOps

theorem lower13_ret (gl : Gl) (s : List It) (hs : s.length ≤ 1000000) (hok : ∀ x ∈ s, x.lo ≤ 1000000) : Ret Tryz.prog gl 59 [.c (stC s)] (.tup [.c (stC (lowS s)), bv (lowB s)]) := by
  refine retq (rs := [2, 3]) 32 Tryz.func59 (by kernel_rfl) rfl (by kernel_rfl) rfl (by simp) (by simp) fun Z hN hX hR => ?_
  repeat (first | ((first | refine Q1 ?_ | refine Q2 ?_); intro Z hN hX hR) | refine Q3 (by kernel_rfl) fun K hK => ?_ | ((first | refine Q4 fun R hJ => ?_ | with_reducible change ExpAll _ _ _); simp only [kS, R1, R2, R3, R4, R5, R6, R7, reduceCtorEq, R9]) | (refine hJ _ ?_; clear hJ R) | refine Q5 ?_ | (refine hK _ ?_; clear hK K) | ((first | refine hN _ ?_ | refine hX _ _ ?_ | refine hR _ ?_); clear hN hX hR Z) | refine Q6 rfl ?_ | refine Q7 (by decide) ?_ | (refine Q8 ?_ ?_; focus (simp only [kS, R1, R2, R3, R4, R5, R6, R7, reduceCtorEq, R9]; done)) | (refine Q9 ?_ ?_; focus (simp only [kS, R1, R2, R3, R4, R5, R6, R7, reduceCtorEq, R9]; done)) | refine Qa ?_ | refine Qb ?_ | refine Qc ?_ | refine And.intro (by first | assumption | omega) ?_)
  refine awq_loop (fun n f => ∃ i : Nat, i ≤ s.length ∧ n = s.length - i ∧ f.t 0 = .c (stC s) ∧ f.t 5 = iv (i : Int) ∧ lowB (s.take i) = true ∧ ((f.t 4 = .nil ∧ i = 0) ∨ ∃ e t, f.t 4 = .tok e t i (itsC ((s.take i).map lowF)) ∧ f.ob e t = .live 64 4 ∧ t ≤ f.k)) s.length ?_ ?_
  · exact ⟨0, by omega, rfl, by (simp only [kS, R1, R2, R3, R4, R5, R6, R7, reduceCtorEq, R9]) <;> first | omega | rfl, by (simp only [kS, R1, R2, R3, R4, R5, R6, R7, reduceCtorEq, R9]) <;> first | omega | rfl, rfl, .inl ⟨by (simp only [kS, R1, R2, R3, R4, R5, R6, R7, reduceCtorEq, R9]) <;> first | omega | rfl, rfl⟩⟩
  rintro Z n f hN hX hR ⟨i, hi, rfl, h0, h5, hlow, h4⟩
  by_cases hlt : i < s.length
  · have hlt' : (i : Int) < (s.length : Int) := by omega
    have e := itsC_drop s i hlt
    have il := itsC_length s
    have hox := hok s[i] (List.getElem_mem hlt)
    have ht : (s.take (i + 1)).map lowF = (s.take i).map lowF ++ [lowF s[i]] := by rw [List.take_succ_eq_append_getElem hlt, List.map_append]; rfl
    have hl : lowB (s.take (i + 1)) = (lowB (s.take i) && (!(s[i].k == 5) || decide (0 < s[i].lo))) := by
      rw [List.take_succ_eq_append_getElem hlt]
      simp only [lowB, List.all_append, List.all_cons, List.all_nil, Bool.and_true]
    have hall : lowB s = true → (!(s[i].k == 5) || decide (0 < s[i].lo)) = true := fun h => List.all_eq_true.1 h _ (List.getElem_mem hlt)
    have hil : (itsC ((s.take i).map lowF)).length = i * 4 := by rw [itsC_length, List.length_map, List.length_take, Nat.min_eq_left hi]
    have ha : ∀ y : It, itsC ((s.take i).map lowF ++ [y]) = itsC ((s.take i).map lowF) ++ y.c := fun y => by simp [itsC]
    rw [hlow, Bool.true_and] at hl
    generalize s[i] = x at *
    obtain ⟨k, n, lo, hi'⟩ := x
    simp only at hox hl hall
    cases g5 : (k == 5)
    · have hk : k ≠ 5 := by simpa using g5
      have hlf : lowF ⟨k, n, lo, hi'⟩ = ⟨k, n, lo, hi'⟩ := if_neg hk
      have hl' : lowB (s.take (i + 1)) = true := by rw [hl, g5]; rfl
      rcases h4 with ⟨h4, rfl⟩ | ⟨e4, t4, h4, hob, htk⟩
      · repeat (first | ((first | refine Q1 ?_ | refine Q2 ?_); intro Z hN hX hR) | refine Q3 (by kernel_rfl) fun K hK => ?_ | ((first | refine Q4 fun R hJ => ?_ | with_reducible change ExpAll _ _ _); simp only [kS, R1, R2, R3, R4, R5, R6, R7, reduceCtorEq, R9, h0, h5, h4, hlt, hlt', e, il, g5, decide_true]) | (refine hJ _ ?_; clear hJ R) | refine Q5 ?_ | (refine hK _ ?_; clear hK K) | ((first | refine hN _ ?_ | refine hX _ _ ?_ | refine hR _ ?_); clear hN hX hR Z) | refine Q6 rfl ?_ | refine Q7 (by decide) ?_ | (refine Q8 ?_ ?_; focus (simp only [kS, R1, R2, R3, R4, R5, R6, R7, reduceCtorEq, R9, h0, h5, h4, hlt, hlt', e, il, g5, decide_true]; done)) | (refine Q9 ?_ ?_; focus (simp only [kS, R1, R2, R3, R4, R5, R6, R7, reduceCtorEq, R9, h0, h5, h4, hlt, hlt', e, il, g5, decide_true]; done)) | refine Qa ?_ | refine Qb ?_ | refine Qc ?_ | refine And.intro (by first | assumption | omega) ?_)
        refine ⟨s.length - (0 + 1), by omega, 0 + 1, by omega, rfl, by simp only [kS, R1, R2, R3, R4, R5, R6, R7, reduceCtorEq, R9, h0], ?_, hl', .inr ⟨_, _, by simp only [kS, R1, R2, R3, R4, R5, R6, R7, reduceCtorEq, R9, ht, ha, hlf, It.c, tk1, tk2, tk3, tk4, tk5, tk6, tk7, tk8, and_false, false_and]; exact rfl, by simp only [kS, R1, R2, R3, R4, R5, R6, R7, reduceCtorEq, R9], by (simp only [kS, R1, R2, R3, R4, R5, R6, R7, reduceCtorEq, R9]) <;> first | omega | rfl⟩⟩
        simp only [kS, R1, R2, R3, R4, R5, R6, R7, reduceCtorEq, R9]
        rfl
      · repeat (first | ((first | refine Q1 ?_ | refine Q2 ?_); intro Z hN hX hR) | refine Q3 (by kernel_rfl) fun K hK => ?_ | ((first | refine Q4 fun R hJ => ?_ | with_reducible change ExpAll _ _ _); simp only [kS, R1, R2, R3, R4, R5, R6, R7, reduceCtorEq, R9, h0, h5, h4, hob, htk, hil, hlt, hlt', e, il, g5, decide_true, tk1, tk2, tk3, tk4, tk5, tk6, tk7, tk8, and_false, false_and]) | (refine hJ _ ?_; clear hJ R) | refine Q5 ?_ | (refine hK _ ?_; clear hK K) | ((first | refine hN _ ?_ | refine hX _ _ ?_ | refine hR _ ?_); clear hN hX hR Z) | refine Q6 rfl ?_ | refine Q7 (by decide) ?_ | (refine Q8 ?_ ?_; focus (simp only [kS, R1, R2, R3, R4, R5, R6, R7, reduceCtorEq, R9, h0, h5, h4, hob, htk, hil, hlt, hlt', e, il, g5, decide_true, tk1, tk2, tk3, tk4, tk5, tk6, tk7, tk8, and_false, false_and]; done)) | (refine Q9 ?_ ?_; focus (simp only [kS, R1, R2, R3, R4, R5, R6, R7, reduceCtorEq, R9, h0, h5, h4, hob, htk, hil, hlt, hlt', e, il, g5, decide_true, tk1, tk2, tk3, tk4, tk5, tk6, tk7, tk8, and_false, false_and]; done)) | refine Qa ?_ | refine Qb ?_ | refine Qc ?_ | refine And.intro (by first | assumption | omega) ?_)
        refine ⟨s.length - (i + 1), by omega, i + 1, by omega, rfl, by simp only [kS, R1, R2, R3, R4, R5, R6, R7, reduceCtorEq, R9, h0], ?_, hl', .inr ⟨_, _, by simp only [kS, R1, R2, R3, R4, R5, R6, R7, reduceCtorEq, R9, ht, ha, hlf, It.c, tk1, tk2, tk3, tk4, tk5, tk6, tk7, tk8, and_false, false_and]; exact rfl, by simp only [kS, R1, R2, R3, R4, R5, R6, R7, reduceCtorEq, R9], by (simp only [kS, R1, R2, R3, R4, R5, R6, R7, reduceCtorEq, R9]) <;> first | omega | rfl⟩⟩
        simp only [kS, R1, R2, R3, R4, R5, R6, R7, reduceCtorEq, R9]
        rw [wrap_i64 (by omega) (by omega)]; rfl
    · have hk : k = 5 := by simpa using g5
      by_cases hpos : lo ≤ 0
      · have hf : lowB s = false := by
          cases h : lowB s with
          | false => rfl
          | true =>
            have := hall h
            rw [hk] at this
            simp at this
            omega
        have hS : lowS s = [] := by simp [lowS, hf]
        repeat (first | ((first | refine Q1 ?_ | refine Q2 ?_); intro Z hN hX hR) | refine Q3 (by kernel_rfl) fun K hK => ?_ | ((first | refine Q4 fun R hJ => ?_ | with_reducible change ExpAll _ _ _); simp only [kS, R1, R2, R3, R4, R5, R6, R7, reduceCtorEq, R9, h0, h5, hlt, hlt', e, il, g5, hpos, decide_true]) | (refine hJ _ ?_; clear hJ R) | refine Q5 ?_ | (refine hK _ ?_; clear hK K) | ((first | refine hN _ ?_ | refine hX _ _ ?_ | refine hR _ ?_); clear hN hX hR Z) | refine Q6 rfl ?_ | refine Q7 (by decide) ?_ | (refine Q8 ?_ ?_; focus (simp only [kS, R1, R2, R3, R4, R5, R6, R7, reduceCtorEq, R9, h0, h5, hlt, hlt', e, il, g5, hpos, decide_true]; done)) | (refine Q9 ?_ ?_; focus (simp only [kS, R1, R2, R3, R4, R5, R6, R7, reduceCtorEq, R9, h0, h5, hlt, hlt', e, il, g5, hpos, decide_true]; done)) | refine Qa ?_ | refine Qb ?_ | refine Qc ?_ | refine And.intro (by first | assumption | omega) ?_)
        rw [hS, hf]
        exact ⟨_, rfl, rfl, rfl, trivial⟩
      · have hlf : lowF ⟨k, n, lo, hi'⟩ = ⟨k, n, lo - 1, hi'⟩ := if_pos hk
        have hp : 0 < lo := by omega
        have hl' : lowB (s.take (i + 1)) = true := by rw [hl, g5]; simp [hp]
        have hw : IntKind.i64.wrap (lo - 1) = lo - 1 := wrap_i64 (by omega) (by omega)
        rcases h4 with ⟨h4, rfl⟩ | ⟨e4, t4, h4, hob, htk⟩
        · repeat (first | ((first | refine Q1 ?_ | refine Q2 ?_); intro Z hN hX hR) | refine Q3 (by kernel_rfl) fun K hK => ?_ | ((first | refine Q4 fun R hJ => ?_ | with_reducible change ExpAll _ _ _); simp only [kS, R1, R2, R3, R4, R5, R6, R7, reduceCtorEq, R9, h0, h5, h4, hlt, hlt', e, il, g5, hpos, hw, decide_true, decide_false]) | (refine hJ _ ?_; clear hJ R) | refine Q5 ?_ | (refine hK _ ?_; clear hK K) | ((first | refine hN _ ?_ | refine hX _ _ ?_ | refine hR _ ?_); clear hN hX hR Z) | refine Q6 rfl ?_ | refine Q7 (by decide) ?_ | (refine Q8 ?_ ?_; focus (simp only [kS, R1, R2, R3, R4, R5, R6, R7, reduceCtorEq, R9, h0, h5, h4, hlt, hlt', e, il, g5, hpos, hw, decide_true, decide_false]; done)) | (refine Q9 ?_ ?_; focus (simp only [kS, R1, R2, R3, R4, R5, R6, R7, reduceCtorEq, R9, h0, h5, h4, hlt, hlt', e, il, g5, hpos, hw, decide_true, decide_false]; done)) | refine Qa ?_ | refine Qb ?_ | refine Qc ?_ | refine And.intro (by first | assumption | omega) ?_)
          refine ⟨s.length - (0 + 1), by omega, 0 + 1, by omega, rfl, by simp only [kS, R1, R2, R3, R4, R5, R6, R7, reduceCtorEq, R9, h0], ?_, hl', .inr ⟨_, _, by simp only [kS, R1, R2, R3, R4, R5, R6, R7, reduceCtorEq, R9, ht, ha, hlf, It.c, tk1, tk2, tk3, tk4, tk5, tk6, tk7, tk8, and_false, false_and]; exact rfl, by simp only [kS, R1, R2, R3, R4, R5, R6, R7, reduceCtorEq, R9], by (simp only [kS, R1, R2, R3, R4, R5, R6, R7, reduceCtorEq, R9]) <;> first | omega | rfl⟩⟩
          simp only [kS, R1, R2, R3, R4, R5, R6, R7, reduceCtorEq, R9]
          rfl
        · repeat (first | ((first | refine Q1 ?_ | refine Q2 ?_); intro Z hN hX hR) | refine Q3 (by kernel_rfl) fun K hK => ?_ | ((first | refine Q4 fun R hJ => ?_ | with_reducible change ExpAll _ _ _); simp only [kS, R1, R2, R3, R4, R5, R6, R7, reduceCtorEq, R9, h0, h5, h4, hob, htk, hil, hlt, hlt', e, il, g5, hpos, hw, decide_true, decide_false, tk1, tk2, tk3, tk4, tk5, tk6, tk7, tk8, and_false, false_and]) | (refine hJ _ ?_; clear hJ R) | refine Q5 ?_ | (refine hK _ ?_; clear hK K) | ((first | refine hN _ ?_ | refine hX _ _ ?_ | refine hR _ ?_); clear hN hX hR Z) | refine Q6 rfl ?_ | refine Q7 (by decide) ?_ | (refine Q8 ?_ ?_; focus (simp only [kS, R1, R2, R3, R4, R5, R6, R7, reduceCtorEq, R9, h0, h5, h4, hob, htk, hil, hlt, hlt', e, il, g5, hpos, hw, decide_true, decide_false, tk1, tk2, tk3, tk4, tk5, tk6, tk7, tk8, and_false, false_and]; done)) | (refine Q9 ?_ ?_; focus (simp only [kS, R1, R2, R3, R4, R5, R6, R7, reduceCtorEq, R9, h0, h5, h4, hob, htk, hil, hlt, hlt', e, il, g5, hpos, hw, decide_true, decide_false, tk1, tk2, tk3, tk4, tk5, tk6, tk7, tk8, and_false, false_and]; done)) | refine Qa ?_ | refine Qb ?_ | refine Qc ?_ | refine And.intro (by first | assumption | omega) ?_)
          refine ⟨s.length - (i + 1), by omega, i + 1, by omega, rfl, by simp only [kS, R1, R2, R3, R4, R5, R6, R7, reduceCtorEq, R9, h0], ?_, hl', .inr ⟨_, _, by simp only [kS, R1, R2, R3, R4, R5, R6, R7, reduceCtorEq, R9, ht, ha, hlf, It.c, tk1, tk2, tk3, tk4, tk5, tk6, tk7, tk8, and_false, false_and]; exact rfl, by simp only [kS, R1, R2, R3, R4, R5, R6, R7, reduceCtorEq, R9], by (simp only [kS, R1, R2, R3, R4, R5, R6, R7, reduceCtorEq, R9]) <;> first | omega | rfl⟩⟩
          simp only [kS, R1, R2, R3, R4, R5, R6, R7, reduceCtorEq, R9]
          rw [wrap_i64 (by omega) (by omega)]; rfl
  · have hlt' : ¬ (i : Int) < (s.length : Int) := by omega
    have htk' : s.take i = s := List.take_of_length_le (by omega)
    have hn : i = s.length := by omega
    rw [htk'] at hlow h4
    have hS : lowS s = s.map lowF := by simp [lowS, hlow]
    have hil := itsC_length (s.map lowF)
    rcases h4 with ⟨h4, h4'⟩ | ⟨e4, t4, h4, hob, htk⟩
    · have h0' : s = [] := List.eq_nil_of_length_eq_zero (by omega)
      repeat (first | ((first | refine Q1 ?_ | refine Q2 ?_); intro Z hN hX hR) | refine Q3 (by kernel_rfl) fun K hK => ?_ | ((first | refine Q4 fun R hJ => ?_ | with_reducible change ExpAll _ _ _); simp only [kS, R1, R2, R3, R4, R5, R6, R7, reduceCtorEq, R9, h0, h5, h4, hlt', decide_false]) | (refine hJ _ ?_; clear hJ R) | refine Q5 ?_ | (refine hK _ ?_; clear hK K) | ((first | refine hN _ ?_ | refine hX _ _ ?_ | refine hR _ ?_); clear hN hX hR Z) | refine Q6 rfl ?_ | refine Q7 (by decide) ?_ | (refine Q8 ?_ ?_; focus (simp only [kS, R1, R2, R3, R4, R5, R6, R7, reduceCtorEq, R9, h0, h5, h4, hlt', decide_false]; done)) | (refine Q9 ?_ ?_; focus (simp only [kS, R1, R2, R3, R4, R5, R6, R7, reduceCtorEq, R9, h0, h5, h4, hlt', decide_false]; done)) | refine Qa ?_ | refine Qb ?_ | refine Qc ?_ | refine And.intro (by first | assumption | omega) ?_)
      rw [hS, hlow, h0']
      exact ⟨_, rfl, rfl, rfl, trivial⟩
    · rw [hn] at h4
      repeat (first | ((first | refine Q1 ?_ | refine Q2 ?_); intro Z hN hX hR) | refine Q3 (by kernel_rfl) fun K hK => ?_ | ((first | refine Q4 fun R hJ => ?_ | with_reducible change ExpAll _ _ _); simp only [kS, R1, R2, R3, R4, R5, R6, R7, reduceCtorEq, R9, h0, h5, h4, hob, htk, hil, hlt', decide_false]) | (refine hJ _ ?_; clear hJ R) | refine Q5 ?_ | (refine hK _ ?_; clear hK K) | ((first | refine hN _ ?_ | refine hX _ _ ?_ | refine hR _ ?_); clear hN hX hR Z) | refine Q6 rfl ?_ | refine Q7 (by decide) ?_ | (refine Q8 ?_ ?_; focus (simp only [kS, R1, R2, R3, R4, R5, R6, R7, reduceCtorEq, R9, h0, h5, h4, hob, htk, hil, hlt', decide_false]; done)) | (refine Q9 ?_ ?_; focus (simp only [kS, R1, R2, R3, R4, R5, R6, R7, reduceCtorEq, R9, h0, h5, h4, hob, htk, hil, hlt', decide_false]; done)) | refine Qa ?_ | refine Qb ?_ | refine Qc ?_ | refine And.intro (by first | assumption | omega) ?_)
      rw [hS, hlow]
      exact ⟨_, rfl, by simp [SV.down, upd], rfl, trivial⟩

end Go.Proofs.YtilhjiopbbbgmaaGreatDoor

/- The document's Read: walked. -/
namespace Go.Proofs.YtilhjiopbbbgmaaGreatDoor
open Nat renaming reduceSub → R1, reduceMul → R2, reduceLeDiff → R3, reducePow → R4, reduceBEq → R5, reduceAdd → R6, reduceEqDiff → R7
open Int renaming reduceToNat → R9
open Go Go.RowKit Am
set_option linter.unusedVariables false
set_option linter.unusedSimpArgs false
set_option maxHeartbeats 4000000
attribute [local irreducible] AWp AOps

theorem lowS_true {r : List It} (h : lowB r = true) : lowS r = r.map lowF := by simp [lowS, h]

theorem okS_lo {d : List Nd} (hd : WFd d) (hsz : ∀ n ∈ d, n.s.size ≤ 1000000) {s : List It} (h : OkS d s) : ∀ y ∈ s, y.lo ≤ 1000000 := fun y hy => by
  rcases h y hy with h | ⟨⟨n1, n2⟩, h⟩
  · omega
  · have hm : y.n.toNat < d.length := by omega
    have e : nd d y.n = d[y.n.toNat] := by simp [nd, hm]
    have hz := hsz _ (List.getElem_mem hm)
    have ho := hd.2.2 _ (List.getElem_mem hm)
    obtain ⟨_, _, _, _, _, _, o1, o2, o3, _⟩ := ho
    rw [e] at h
    rcases h with h | h | h | h <;> omega

theorem read15_some (gl : Gl) (d : List Nd) (hcw : ∀ n ∈ d, CW n) (m : Nat) (hm : m < d.length) (k lo hi : Int) (r lr : List It) (hlrl : lr.length = r.length) (hl : r.length ≤ 1000000) (hx : OkI d ⟨k, m, lo, hi⟩) (hkr : k = 3 ∨ k = 4 ∨ (k = 1 ∧ (d[m].k = 2 ∨ d[m].k = 8 ∨ d[m].k = 9))) (c : Nat) (hc : c < 256)
    (hsz : d[m].s.size ≤ 1000000) (hlow : Ret Tryz.prog gl 59 [.c (stC r)] (.tup [.c (stC lr), bv true])) :
    Ret Tryz.prog gl 21 [.agg (dC d), .c (stC (⟨k, m, lo, hi⟩ :: r)), .c (.v (.int .u8 (c : Int)))]
      (.tup [.c (stC ((if (stepF d[m] ⟨k, m, lo, hi⟩ c).2 = true then some ((stepF d[m] ⟨k, m, lo, hi⟩ c).1 ++ lr) else none).getD [])), bv (if (stepF d[m] ⟨k, m, lo, hi⟩ c).2 = true then some ((stepF d[m] ⟨k, m, lo, hi⟩ c).1 ++ lr) else none).isSome]) := by
  have hcv : IntKind.i64.wrap (c : Int) = (c : Int) := wrap_i64 (by omega) (by omega)
  have e0 : (((r.length + 1 : Nat) : Int) == 0) = false := by rw [beq_eq_false_iff_ne]; omega
  have hil := itsC_length r
  have et : (itsC r).take (r.length * 4) = itsC r := List.take_of_length_le (by omega)
  have hm' : (m : Int) < (d.length : Int) := by omega
  have e := ndsC_drop d m hm
  have e' := nd_get d m hm
  have hnl := ndsC_length d
  have hll := itsC_length lr
  rcases hkr with h3 | h4 | ⟨h1, hn⟩
  · have g3 : (k == 3) = true := by simpa using h3
    have hb : (nd d m).k = 3 ∧ hi = 0 ∧ 0 ≤ lo ∧ lo < d[m].s.size := by
      rcases hx with h | ⟨_, h | h | h | h⟩ <;> simp only at h
      · omega
      · omega
      · omega
      · rw [e'] at h; exact ⟨by rw [e']; exact h.2.1, h.2.2.1, h.2.2.2.1, h.2.2.2.2⟩
      · omega
    obtain ⟨_, rfl, lo1, lo2⟩ := hb
    have hne1 : k ≠ 1 := by omega
    have hw : IntKind.i64.wrap (lo + 1) = lo + 1 := wrap_i64 (by omega) (by omega)
    cases hq : (bAt d[m].s lo == (c : Int))
    · rw [show stepF d[m] ⟨k, m, lo, 0⟩ c = ((if lo + 1 = d[m].s.size then [] else [⟨k, m, lo + 1, 0⟩]), false) from by simp only [stepF, if_neg hne1, if_pos h3, textF, hq]]
      refine retq (rs := [6, 7]) 103 Tryz.func21 (by kernel_rfl) rfl (by kernel_rfl) rfl (by simp) (by simp) fun Z hN hX hR => ?_
      repeat (first | ((first | refine Q1 ?_ | refine Q2 ?_); intro Z hN hX hR) | refine Q3 (by kernel_rfl) fun K hK => ?_ | ((first | refine Q4 fun R hJ => ?_ | with_reducible change ExpAll _ _ _); simp only [kS, R1, R2, R3, R4, R5, R6, R7, reduceCtorEq, R9, e0, itsC_cons, hil, et, Nat.add_one_sub_one, dC, e, hnl, hm, hm', Bool.not_true, Bool.not_false, hcv, hll, hlrl, decide_true, decide_false, tk1, tk2, tk3, tk4, tk5, tk6, tk7, tk8, and_false, false_and, g3, lo1, lo2, hq, bne]) | (refine hJ _ ?_; clear hJ R) | refine Q5 ?_ | (refine hK _ ?_; clear hK K) | ((first | refine hN _ ?_ | refine hX _ _ ?_ | refine hR _ ?_); clear hN hX hR Z) | refine Q6 rfl ?_ | refine Q7 (by decide) ?_ | (refine Q8 ?_ ?_; focus (simp only [kS, R1, R2, R3, R4, R5, R6, R7, reduceCtorEq, R9, e0, itsC_cons, hil, et, Nat.add_one_sub_one, dC, e, hnl, hm, hm', Bool.not_true, Bool.not_false, hcv, hll, hlrl, decide_true, decide_false, tk1, tk2, tk3, tk4, tk5, tk6, tk7, tk8, and_false, false_and, g3, lo1, lo2, hq, bne]; done)) | (refine Q9 ?_ ?_; focus (simp only [kS, R1, R2, R3, R4, R5, R6, R7, reduceCtorEq, R9, e0, itsC_cons, hil, et, Nat.add_one_sub_one, dC, e, hnl, hm, hm', Bool.not_true, Bool.not_false, hcv, hll, hlrl, decide_true, decide_false, tk1, tk2, tk3, tk4, tk5, tk6, tk7, tk8, and_false, false_and, g3, lo1, lo2, hq, bne]; done)) | refine Qa ?_ | refine Qb ?_ | refine Qc ?_ | refine And.intro (by first | assumption | omega) ?_)
      refine ⟨_, hlow, rfl, ?_⟩
      simp only [kS, R1, R2, R3, R4, R5, R6, R7, reduceCtorEq, R9, e0, itsC_cons, hil, et, Nat.add_one_sub_one, dC, e, hnl, hm, hm', Bool.not_true, Bool.not_false, hcv, hll, hlrl, decide_true, decide_false, tk1, tk2, tk3, tk4, tk5, tk6, tk7, tk8, and_false, false_and, g3, lo1, lo2, hq, bne]
      repeat (first | ((first | refine Q1 ?_ | refine Q2 ?_); intro Z hN hX hR) | refine Q3 (by kernel_rfl) fun K hK => ?_ | ((first | refine Q4 fun R hJ => ?_ | with_reducible change ExpAll _ _ _); simp only [kS, R1, R2, R3, R4, R5, R6, R7, reduceCtorEq, R9, e0, itsC_cons, hil, et, Nat.add_one_sub_one, dC, e, hnl, hm, hm', Bool.not_true, Bool.not_false, hcv, hll, hlrl, decide_true, decide_false, tk1, tk2, tk3, tk4, tk5, tk6, tk7, tk8, and_false, false_and, g3, lo1, lo2, hq, bne]) | (refine hJ _ ?_; clear hJ R) | refine Q5 ?_ | (refine hK _ ?_; clear hK K) | ((first | refine hN _ ?_ | refine hX _ _ ?_ | refine hR _ ?_); clear hN hX hR Z) | refine Q6 rfl ?_ | refine Q7 (by decide) ?_ | (refine Q8 ?_ ?_; focus (simp only [kS, R1, R2, R3, R4, R5, R6, R7, reduceCtorEq, R9, e0, itsC_cons, hil, et, Nat.add_one_sub_one, dC, e, hnl, hm, hm', Bool.not_true, Bool.not_false, hcv, hll, hlrl, decide_true, decide_false, tk1, tk2, tk3, tk4, tk5, tk6, tk7, tk8, and_false, false_and, g3, lo1, lo2, hq, bne]; done)) | (refine Q9 ?_ ?_; focus (simp only [kS, R1, R2, R3, R4, R5, R6, R7, reduceCtorEq, R9, e0, itsC_cons, hil, et, Nat.add_one_sub_one, dC, e, hnl, hm, hm', Bool.not_true, Bool.not_false, hcv, hll, hlrl, decide_true, decide_false, tk1, tk2, tk3, tk4, tk5, tk6, tk7, tk8, and_false, false_and, g3, lo1, lo2, hq, bne]; done)) | refine Qa ?_ | refine Qb ?_ | refine Qc ?_ | refine And.intro (by first | assumption | omega) ?_)
      exact ⟨_, rfl, rfl, rfl, trivial⟩
    · by_cases hlast : lo + 1 < d[m].s.size
      · have hne : ¬ (lo + 1 = (d[m].s.size : Int)) := by omega
        rw [show stepF d[m] ⟨k, m, lo, 0⟩ c = ([⟨3, m, lo + 1, 0⟩], true) from by simp only [stepF, if_neg hne1, if_pos h3, textF, hq, if_neg hne]; rw [h3]]
        refine retq (rs := [6, 7]) 103 Tryz.func21 (by kernel_rfl) rfl (by kernel_rfl) rfl (by simp) (by simp) fun Z hN hX hR => ?_
        repeat (first | ((first | refine Q1 ?_ | refine Q2 ?_); intro Z hN hX hR) | refine Q3 (by kernel_rfl) fun K hK => ?_ | ((first | refine Q4 fun R hJ => ?_ | with_reducible change ExpAll _ _ _); simp only [kS, R1, R2, R3, R4, R5, R6, R7, reduceCtorEq, R9, e0, itsC_cons, hil, et, Nat.add_one_sub_one, dC, e, hnl, hm, hm', Bool.not_true, Bool.not_false, hcv, hll, hlrl, decide_true, decide_false, tk1, tk2, tk3, tk4, tk5, tk6, tk7, tk8, and_false, false_and, g3, lo1, lo2, hq, bne, hw, hlast]) | (refine hJ _ ?_; clear hJ R) | refine Q5 ?_ | (refine hK _ ?_; clear hK K) | ((first | refine hN _ ?_ | refine hX _ _ ?_ | refine hR _ ?_); clear hN hX hR Z) | refine Q6 rfl ?_ | refine Q7 (by decide) ?_ | (refine Q8 ?_ ?_; focus (simp only [kS, R1, R2, R3, R4, R5, R6, R7, reduceCtorEq, R9, e0, itsC_cons, hil, et, Nat.add_one_sub_one, dC, e, hnl, hm, hm', Bool.not_true, Bool.not_false, hcv, hll, hlrl, decide_true, decide_false, tk1, tk2, tk3, tk4, tk5, tk6, tk7, tk8, and_false, false_and, g3, lo1, lo2, hq, bne, hw, hlast]; done)) | (refine Q9 ?_ ?_; focus (simp only [kS, R1, R2, R3, R4, R5, R6, R7, reduceCtorEq, R9, e0, itsC_cons, hil, et, Nat.add_one_sub_one, dC, e, hnl, hm, hm', Bool.not_true, Bool.not_false, hcv, hll, hlrl, decide_true, decide_false, tk1, tk2, tk3, tk4, tk5, tk6, tk7, tk8, and_false, false_and, g3, lo1, lo2, hq, bne, hw, hlast]; done)) | refine Qa ?_ | refine Qb ?_ | refine Qc ?_ | refine And.intro (by first | assumption | omega) ?_)
        refine ⟨_, hlow, rfl, ?_⟩
        simp only [kS, R1, R2, R3, R4, R5, R6, R7, reduceCtorEq, R9, e0, itsC_cons, hil, et, Nat.add_one_sub_one, dC, e, hnl, hm, hm', Bool.not_true, Bool.not_false, hcv, hll, hlrl, decide_true, decide_false, tk1, tk2, tk3, tk4, tk5, tk6, tk7, tk8, and_false, false_and, g3, lo1, lo2, hq, bne, hw, hlast]
        repeat (first | ((first | refine Q1 ?_ | refine Q2 ?_); intro Z hN hX hR) | refine Q3 (by kernel_rfl) fun K hK => ?_ | ((first | refine Q4 fun R hJ => ?_ | with_reducible change ExpAll _ _ _); simp only [kS, R1, R2, R3, R4, R5, R6, R7, reduceCtorEq, R9, e0, itsC_cons, hil, et, Nat.add_one_sub_one, dC, e, hnl, hm, hm', Bool.not_true, Bool.not_false, hcv, hll, hlrl, decide_true, decide_false, tk1, tk2, tk3, tk4, tk5, tk6, tk7, tk8, and_false, false_and, g3, lo1, lo2, hq, bne, hw, hlast]) | (refine hJ _ ?_; clear hJ R) | refine Q5 ?_ | (refine hK _ ?_; clear hK K) | ((first | refine hN _ ?_ | refine hX _ _ ?_ | refine hR _ ?_); clear hN hX hR Z) | refine Q6 rfl ?_ | refine Q7 (by decide) ?_ | (refine Q8 ?_ ?_; focus (simp only [kS, R1, R2, R3, R4, R5, R6, R7, reduceCtorEq, R9, e0, itsC_cons, hil, et, Nat.add_one_sub_one, dC, e, hnl, hm, hm', Bool.not_true, Bool.not_false, hcv, hll, hlrl, decide_true, decide_false, tk1, tk2, tk3, tk4, tk5, tk6, tk7, tk8, and_false, false_and, g3, lo1, lo2, hq, bne, hw, hlast]; done)) | (refine Q9 ?_ ?_; focus (simp only [kS, R1, R2, R3, R4, R5, R6, R7, reduceCtorEq, R9, e0, itsC_cons, hil, et, Nat.add_one_sub_one, dC, e, hnl, hm, hm', Bool.not_true, Bool.not_false, hcv, hll, hlrl, decide_true, decide_false, tk1, tk2, tk3, tk4, tk5, tk6, tk7, tk8, and_false, false_and, g3, lo1, lo2, hq, bne, hw, hlast]; done)) | refine Qa ?_ | refine Qb ?_ | refine Qc ?_ | refine And.intro (by first | assumption | omega) ?_)
        exact ⟨_, rfl, by simp [SV.down, upd, itsC, It.c, hlrl] <;> omega, rfl, trivial⟩
      · have heq : lo + 1 = (d[m].s.size : Int) := by omega
        rw [show stepF d[m] ⟨k, m, lo, 0⟩ c = ([], true) from by simp only [stepF, if_neg hne1, if_pos h3, textF, hq, if_pos heq]]
        refine retq (rs := [6, 7]) 103 Tryz.func21 (by kernel_rfl) rfl (by kernel_rfl) rfl (by simp) (by simp) fun Z hN hX hR => ?_
        repeat (first | ((first | refine Q1 ?_ | refine Q2 ?_); intro Z hN hX hR) | refine Q3 (by kernel_rfl) fun K hK => ?_ | ((first | refine Q4 fun R hJ => ?_ | with_reducible change ExpAll _ _ _); simp only [kS, R1, R2, R3, R4, R5, R6, R7, reduceCtorEq, R9, e0, itsC_cons, hil, et, Nat.add_one_sub_one, dC, e, hnl, hm, hm', Bool.not_true, Bool.not_false, hcv, hll, hlrl, decide_true, decide_false, tk1, tk2, tk3, tk4, tk5, tk6, tk7, tk8, and_false, false_and, g3, lo1, lo2, hq, bne, hw, hlast]) | (refine hJ _ ?_; clear hJ R) | refine Q5 ?_ | (refine hK _ ?_; clear hK K) | ((first | refine hN _ ?_ | refine hX _ _ ?_ | refine hR _ ?_); clear hN hX hR Z) | refine Q6 rfl ?_ | refine Q7 (by decide) ?_ | (refine Q8 ?_ ?_; focus (simp only [kS, R1, R2, R3, R4, R5, R6, R7, reduceCtorEq, R9, e0, itsC_cons, hil, et, Nat.add_one_sub_one, dC, e, hnl, hm, hm', Bool.not_true, Bool.not_false, hcv, hll, hlrl, decide_true, decide_false, tk1, tk2, tk3, tk4, tk5, tk6, tk7, tk8, and_false, false_and, g3, lo1, lo2, hq, bne, hw, hlast]; done)) | (refine Q9 ?_ ?_; focus (simp only [kS, R1, R2, R3, R4, R5, R6, R7, reduceCtorEq, R9, e0, itsC_cons, hil, et, Nat.add_one_sub_one, dC, e, hnl, hm, hm', Bool.not_true, Bool.not_false, hcv, hll, hlrl, decide_true, decide_false, tk1, tk2, tk3, tk4, tk5, tk6, tk7, tk8, and_false, false_and, g3, lo1, lo2, hq, bne, hw, hlast]; done)) | refine Qa ?_ | refine Qb ?_ | refine Qc ?_ | refine And.intro (by first | assumption | omega) ?_)
        refine ⟨_, hlow, rfl, ?_⟩
        simp only [kS, R1, R2, R3, R4, R5, R6, R7, reduceCtorEq, R9, e0, itsC_cons, hil, et, Nat.add_one_sub_one, dC, e, hnl, hm, hm', Bool.not_true, Bool.not_false, hcv, hll, hlrl, decide_true, decide_false, tk1, tk2, tk3, tk4, tk5, tk6, tk7, tk8, and_false, false_and, g3, lo1, lo2, hq, bne, hw, hlast]
        repeat (first | ((first | refine Q1 ?_ | refine Q2 ?_); intro Z hN hX hR) | refine Q3 (by kernel_rfl) fun K hK => ?_ | ((first | refine Q4 fun R hJ => ?_ | with_reducible change ExpAll _ _ _); simp only [kS, R1, R2, R3, R4, R5, R6, R7, reduceCtorEq, R9, e0, itsC_cons, hil, et, Nat.add_one_sub_one, dC, e, hnl, hm, hm', Bool.not_true, Bool.not_false, hcv, hll, hlrl, decide_true, decide_false, tk1, tk2, tk3, tk4, tk5, tk6, tk7, tk8, and_false, false_and, g3, lo1, lo2, hq, bne, hw, hlast]) | (refine hJ _ ?_; clear hJ R) | refine Q5 ?_ | (refine hK _ ?_; clear hK K) | ((first | refine hN _ ?_ | refine hX _ _ ?_ | refine hR _ ?_); clear hN hX hR Z) | refine Q6 rfl ?_ | refine Q7 (by decide) ?_ | (refine Q8 ?_ ?_; focus (simp only [kS, R1, R2, R3, R4, R5, R6, R7, reduceCtorEq, R9, e0, itsC_cons, hil, et, Nat.add_one_sub_one, dC, e, hnl, hm, hm', Bool.not_true, Bool.not_false, hcv, hll, hlrl, decide_true, decide_false, tk1, tk2, tk3, tk4, tk5, tk6, tk7, tk8, and_false, false_and, g3, lo1, lo2, hq, bne, hw, hlast]; done)) | (refine Q9 ?_ ?_; focus (simp only [kS, R1, R2, R3, R4, R5, R6, R7, reduceCtorEq, R9, e0, itsC_cons, hil, et, Nat.add_one_sub_one, dC, e, hnl, hm, hm', Bool.not_true, Bool.not_false, hcv, hll, hlrl, decide_true, decide_false, tk1, tk2, tk3, tk4, tk5, tk6, tk7, tk8, and_false, false_and, g3, lo1, lo2, hq, bne, hw, hlast]; done)) | refine Qa ?_ | refine Qb ?_ | refine Qc ?_ | refine And.intro (by first | assumption | omega) ?_)
        exact ⟨_, rfl, by simp [SV.down, upd, itsC, It.c, hlrl] <;> omega, rfl, trivial⟩
  · have g3 : (k == 3) = false := by rw [h4]; rfl
    have g4 : (k == 4) = true := by rw [h4]; rfl
    have hne1 : k ≠ 1 := by omega
    have hne3 : k ≠ 3 := by omega
    have hlo : 0 ≤ lo ∧ lo ≤ 255 := by
      rcases hx with h | ⟨_, h | h | h | h⟩ <;> simp only at h
      · omega
      · omega
      · omega
      · omega
      · exact ⟨h.2.2.2.1, h.2.2.2.2⟩
    have hw1 : IntKind.i64.wrap (256 * lo) = 256 * lo := wrap_i64 (by omega) (by omega)
    have hw2 : IntKind.i64.wrap (256 * lo + c) = 256 * lo + c := wrap_i64 (by omega) (by omega)
    rw [show stepF d[m] ⟨k, m, lo, hi⟩ c = ([⟨1, d[m].a, 0, 0⟩, ⟨5, 0, 256 * lo + c, 0⟩], true) from by simp only [stepF, if_neg hne1, if_neg hne3]]
    refine retq (rs := [6, 7]) 103 Tryz.func21 (by kernel_rfl) rfl (by kernel_rfl) rfl (by simp) (by simp) fun Z hN hX hR => ?_
    repeat (first | ((first | refine Q1 ?_ | refine Q2 ?_); intro Z hN hX hR) | refine Q3 (by kernel_rfl) fun K hK => ?_ | ((first | refine Q4 fun R hJ => ?_ | with_reducible change ExpAll _ _ _); simp only [kS, R1, R2, R3, R4, R5, R6, R7, reduceCtorEq, R9, e0, itsC_cons, hil, et, Nat.add_one_sub_one, dC, e, hnl, hm, hm', Bool.not_true, Bool.not_false, hcv, hll, hlrl, decide_true, decide_false, tk1, tk2, tk3, tk4, tk5, tk6, tk7, tk8, and_false, false_and, g3, g4, hw1, hw2]) | (refine hJ _ ?_; clear hJ R) | refine Q5 ?_ | (refine hK _ ?_; clear hK K) | ((first | refine hN _ ?_ | refine hX _ _ ?_ | refine hR _ ?_); clear hN hX hR Z) | refine Q6 rfl ?_ | refine Q7 (by decide) ?_ | (refine Q8 ?_ ?_; focus (simp only [kS, R1, R2, R3, R4, R5, R6, R7, reduceCtorEq, R9, e0, itsC_cons, hil, et, Nat.add_one_sub_one, dC, e, hnl, hm, hm', Bool.not_true, Bool.not_false, hcv, hll, hlrl, decide_true, decide_false, tk1, tk2, tk3, tk4, tk5, tk6, tk7, tk8, and_false, false_and, g3, g4, hw1, hw2]; done)) | (refine Q9 ?_ ?_; focus (simp only [kS, R1, R2, R3, R4, R5, R6, R7, reduceCtorEq, R9, e0, itsC_cons, hil, et, Nat.add_one_sub_one, dC, e, hnl, hm, hm', Bool.not_true, Bool.not_false, hcv, hll, hlrl, decide_true, decide_false, tk1, tk2, tk3, tk4, tk5, tk6, tk7, tk8, and_false, false_and, g3, g4, hw1, hw2]; done)) | refine Qa ?_ | refine Qb ?_ | refine Qc ?_ | refine And.intro (by first | assumption | omega) ?_)
    refine ⟨_, hlow, rfl, ?_⟩
    simp only [kS, R1, R2, R3, R4, R5, R6, R7, reduceCtorEq, R9, e0, itsC_cons, hil, et, Nat.add_one_sub_one, dC, e, hnl, hm, hm', Bool.not_true, Bool.not_false, hcv, hll, hlrl, decide_true, decide_false, tk1, tk2, tk3, tk4, tk5, tk6, tk7, tk8, and_false, false_and, g3, g4, hw1, hw2]
    repeat (first | ((first | refine Q1 ?_ | refine Q2 ?_); intro Z hN hX hR) | refine Q3 (by kernel_rfl) fun K hK => ?_ | ((first | refine Q4 fun R hJ => ?_ | with_reducible change ExpAll _ _ _); simp only [kS, R1, R2, R3, R4, R5, R6, R7, reduceCtorEq, R9, e0, itsC_cons, hil, et, Nat.add_one_sub_one, dC, e, hnl, hm, hm', Bool.not_true, Bool.not_false, hcv, hll, hlrl, decide_true, decide_false, tk1, tk2, tk3, tk4, tk5, tk6, tk7, tk8, and_false, false_and, g3, g4, hw1, hw2]) | (refine hJ _ ?_; clear hJ R) | refine Q5 ?_ | (refine hK _ ?_; clear hK K) | ((first | refine hN _ ?_ | refine hX _ _ ?_ | refine hR _ ?_); clear hN hX hR Z) | refine Q6 rfl ?_ | refine Q7 (by decide) ?_ | (refine Q8 ?_ ?_; focus (simp only [kS, R1, R2, R3, R4, R5, R6, R7, reduceCtorEq, R9, e0, itsC_cons, hil, et, Nat.add_one_sub_one, dC, e, hnl, hm, hm', Bool.not_true, Bool.not_false, hcv, hll, hlrl, decide_true, decide_false, tk1, tk2, tk3, tk4, tk5, tk6, tk7, tk8, and_false, false_and, g3, g4, hw1, hw2]; done)) | (refine Q9 ?_ ?_; focus (simp only [kS, R1, R2, R3, R4, R5, R6, R7, reduceCtorEq, R9, e0, itsC_cons, hil, et, Nat.add_one_sub_one, dC, e, hnl, hm, hm', Bool.not_true, Bool.not_false, hcv, hll, hlrl, decide_true, decide_false, tk1, tk2, tk3, tk4, tk5, tk6, tk7, tk8, and_false, false_and, g3, g4, hw1, hw2]; done)) | refine Qa ?_ | refine Qb ?_ | refine Qc ?_ | refine And.intro (by first | assumption | omega) ?_)
    exact ⟨_, rfl, by simp [SV.down, upd, itsC, It.c, hlrl] <;> omega, rfl, trivial⟩
  · have g3 : (k == 3) = false := by rw [h1]; rfl
    have g4 : (k == 4) = false := by rw [h1]; rfl
    cases g8 : (d[m].k == 8)
    · cases g9 : (d[m].k == 9)
      · have hw := (hcw d[m] (List.getElem_mem hm)).ws
        have hh := has24_ret gl d[m].g (hcw d[m] (List.getElem_mem hm)).lt c hc
        rw [hw] at hh
        cases hq : hasN d[m].g c
        · rw [hq] at hh
          rw [show stepF d[m] ⟨k, m, lo, hi⟩ c = ([], false) from by simp only [stepF, if_pos h1, nodeF, g8, g9, hq, Bool.false_eq_true, if_false]]
          refine retq (rs := [6, 7]) 103 Tryz.func21 (by kernel_rfl) rfl (by kernel_rfl) rfl (by simp) (by simp) fun Z hN hX hR => ?_
          repeat (first | ((first | refine Q1 ?_ | refine Q2 ?_); intro Z hN hX hR) | refine Q3 (by kernel_rfl) fun K hK => ?_ | ((first | refine Q4 fun R hJ => ?_ | with_reducible change ExpAll _ _ _); simp only [kS, R1, R2, R3, R4, R5, R6, R7, reduceCtorEq, R9, e0, itsC_cons, hil, et, Nat.add_one_sub_one, dC, e, hnl, hm, hm', Bool.not_true, Bool.not_false, hcv, hll, hlrl, decide_true, decide_false, tk1, tk2, tk3, tk4, tk5, tk6, tk7, tk8, and_false, false_and, g3, g4, g8, g9]) | (refine hJ _ ?_; clear hJ R) | refine Q5 ?_ | (refine hK _ ?_; clear hK K) | ((first | refine hN _ ?_ | refine hX _ _ ?_ | refine hR _ ?_); clear hN hX hR Z) | refine Q6 rfl ?_ | refine Q7 (by decide) ?_ | (refine Q8 ?_ ?_; focus (simp only [kS, R1, R2, R3, R4, R5, R6, R7, reduceCtorEq, R9, e0, itsC_cons, hil, et, Nat.add_one_sub_one, dC, e, hnl, hm, hm', Bool.not_true, Bool.not_false, hcv, hll, hlrl, decide_true, decide_false, tk1, tk2, tk3, tk4, tk5, tk6, tk7, tk8, and_false, false_and, g3, g4, g8, g9]; done)) | (refine Q9 ?_ ?_; focus (simp only [kS, R1, R2, R3, R4, R5, R6, R7, reduceCtorEq, R9, e0, itsC_cons, hil, et, Nat.add_one_sub_one, dC, e, hnl, hm, hm', Bool.not_true, Bool.not_false, hcv, hll, hlrl, decide_true, decide_false, tk1, tk2, tk3, tk4, tk5, tk6, tk7, tk8, and_false, false_and, g3, g4, g8, g9]; done)) | refine Qa ?_ | refine Qb ?_ | refine Qc ?_ | refine And.intro (by first | assumption | omega) ?_)
          refine ⟨_, hlow, rfl, ?_⟩
          simp only [kS, R1, R2, R3, R4, R5, R6, R7, reduceCtorEq, R9, e0, itsC_cons, hil, et, Nat.add_one_sub_one, dC, e, hnl, hm, hm', Bool.not_true, Bool.not_false, hcv, hll, hlrl, decide_true, decide_false, tk1, tk2, tk3, tk4, tk5, tk6, tk7, tk8, and_false, false_and, g3, g4, g8, g9]
          repeat (first | ((first | refine Q1 ?_ | refine Q2 ?_); intro Z hN hX hR) | refine Q3 (by kernel_rfl) fun K hK => ?_ | ((first | refine Q4 fun R hJ => ?_ | with_reducible change ExpAll _ _ _); simp only [kS, R1, R2, R3, R4, R5, R6, R7, reduceCtorEq, R9, e0, itsC_cons, hil, et, Nat.add_one_sub_one, dC, e, hnl, hm, hm', Bool.not_true, Bool.not_false, hcv, hll, hlrl, decide_true, decide_false, tk1, tk2, tk3, tk4, tk5, tk6, tk7, tk8, and_false, false_and, g3, g4, g8, g9]) | (refine hJ _ ?_; clear hJ R) | refine Q5 ?_ | (refine hK _ ?_; clear hK K) | ((first | refine hN _ ?_ | refine hX _ _ ?_ | refine hR _ ?_); clear hN hX hR Z) | refine Q6 rfl ?_ | refine Q7 (by decide) ?_ | (refine Q8 ?_ ?_; focus (simp only [kS, R1, R2, R3, R4, R5, R6, R7, reduceCtorEq, R9, e0, itsC_cons, hil, et, Nat.add_one_sub_one, dC, e, hnl, hm, hm', Bool.not_true, Bool.not_false, hcv, hll, hlrl, decide_true, decide_false, tk1, tk2, tk3, tk4, tk5, tk6, tk7, tk8, and_false, false_and, g3, g4, g8, g9]; done)) | (refine Q9 ?_ ?_; focus (simp only [kS, R1, R2, R3, R4, R5, R6, R7, reduceCtorEq, R9, e0, itsC_cons, hil, et, Nat.add_one_sub_one, dC, e, hnl, hm, hm', Bool.not_true, Bool.not_false, hcv, hll, hlrl, decide_true, decide_false, tk1, tk2, tk3, tk4, tk5, tk6, tk7, tk8, and_false, false_and, g3, g4, g8, g9]; done)) | refine Qa ?_ | refine Qb ?_ | refine Qc ?_ | refine And.intro (by first | assumption | omega) ?_)
          refine ⟨_, hh, rfl, ?_⟩
          simp only [kS, R1, R2, R3, R4, R5, R6, R7, reduceCtorEq, R9, e0, itsC_cons, hil, et, Nat.add_one_sub_one, dC, e, hnl, hm, hm', Bool.not_true, Bool.not_false, hcv, hll, hlrl, decide_true, decide_false, tk1, tk2, tk3, tk4, tk5, tk6, tk7, tk8, and_false, false_and, g3, g4, g8, g9]
          repeat (first | ((first | refine Q1 ?_ | refine Q2 ?_); intro Z hN hX hR) | refine Q3 (by kernel_rfl) fun K hK => ?_ | ((first | refine Q4 fun R hJ => ?_ | with_reducible change ExpAll _ _ _); simp only [kS, R1, R2, R3, R4, R5, R6, R7, reduceCtorEq, R9, e0, itsC_cons, hil, et, Nat.add_one_sub_one, dC, e, hnl, hm, hm', Bool.not_true, Bool.not_false, hcv, hll, hlrl, decide_true, decide_false, tk1, tk2, tk3, tk4, tk5, tk6, tk7, tk8, and_false, false_and, g3, g4, g8, g9]) | (refine hJ _ ?_; clear hJ R) | refine Q5 ?_ | (refine hK _ ?_; clear hK K) | ((first | refine hN _ ?_ | refine hX _ _ ?_ | refine hR _ ?_); clear hN hX hR Z) | refine Q6 rfl ?_ | refine Q7 (by decide) ?_ | (refine Q8 ?_ ?_; focus (simp only [kS, R1, R2, R3, R4, R5, R6, R7, reduceCtorEq, R9, e0, itsC_cons, hil, et, Nat.add_one_sub_one, dC, e, hnl, hm, hm', Bool.not_true, Bool.not_false, hcv, hll, hlrl, decide_true, decide_false, tk1, tk2, tk3, tk4, tk5, tk6, tk7, tk8, and_false, false_and, g3, g4, g8, g9]; done)) | (refine Q9 ?_ ?_; focus (simp only [kS, R1, R2, R3, R4, R5, R6, R7, reduceCtorEq, R9, e0, itsC_cons, hil, et, Nat.add_one_sub_one, dC, e, hnl, hm, hm', Bool.not_true, Bool.not_false, hcv, hll, hlrl, decide_true, decide_false, tk1, tk2, tk3, tk4, tk5, tk6, tk7, tk8, and_false, false_and, g3, g4, g8, g9]; done)) | refine Qa ?_ | refine Qb ?_ | refine Qc ?_ | refine And.intro (by first | assumption | omega) ?_)
          exact ⟨_, rfl, rfl, rfl, trivial⟩
        · rw [hq] at hh
          rw [show stepF d[m] ⟨k, m, lo, hi⟩ c = ([], true) from by simp only [stepF, if_pos h1, nodeF, g8, g9, hq, Bool.false_eq_true, if_false]]
          refine retq (rs := [6, 7]) 103 Tryz.func21 (by kernel_rfl) rfl (by kernel_rfl) rfl (by simp) (by simp) fun Z hN hX hR => ?_
          repeat (first | ((first | refine Q1 ?_ | refine Q2 ?_); intro Z hN hX hR) | refine Q3 (by kernel_rfl) fun K hK => ?_ | ((first | refine Q4 fun R hJ => ?_ | with_reducible change ExpAll _ _ _); simp only [kS, R1, R2, R3, R4, R5, R6, R7, reduceCtorEq, R9, e0, itsC_cons, hil, et, Nat.add_one_sub_one, dC, e, hnl, hm, hm', Bool.not_true, Bool.not_false, hcv, hll, hlrl, decide_true, decide_false, tk1, tk2, tk3, tk4, tk5, tk6, tk7, tk8, and_false, false_and, g3, g4, g8, g9]) | (refine hJ _ ?_; clear hJ R) | refine Q5 ?_ | (refine hK _ ?_; clear hK K) | ((first | refine hN _ ?_ | refine hX _ _ ?_ | refine hR _ ?_); clear hN hX hR Z) | refine Q6 rfl ?_ | refine Q7 (by decide) ?_ | (refine Q8 ?_ ?_; focus (simp only [kS, R1, R2, R3, R4, R5, R6, R7, reduceCtorEq, R9, e0, itsC_cons, hil, et, Nat.add_one_sub_one, dC, e, hnl, hm, hm', Bool.not_true, Bool.not_false, hcv, hll, hlrl, decide_true, decide_false, tk1, tk2, tk3, tk4, tk5, tk6, tk7, tk8, and_false, false_and, g3, g4, g8, g9]; done)) | (refine Q9 ?_ ?_; focus (simp only [kS, R1, R2, R3, R4, R5, R6, R7, reduceCtorEq, R9, e0, itsC_cons, hil, et, Nat.add_one_sub_one, dC, e, hnl, hm, hm', Bool.not_true, Bool.not_false, hcv, hll, hlrl, decide_true, decide_false, tk1, tk2, tk3, tk4, tk5, tk6, tk7, tk8, and_false, false_and, g3, g4, g8, g9]; done)) | refine Qa ?_ | refine Qb ?_ | refine Qc ?_ | refine And.intro (by first | assumption | omega) ?_)
          refine ⟨_, hlow, rfl, ?_⟩
          simp only [kS, R1, R2, R3, R4, R5, R6, R7, reduceCtorEq, R9, e0, itsC_cons, hil, et, Nat.add_one_sub_one, dC, e, hnl, hm, hm', Bool.not_true, Bool.not_false, hcv, hll, hlrl, decide_true, decide_false, tk1, tk2, tk3, tk4, tk5, tk6, tk7, tk8, and_false, false_and, g3, g4, g8, g9]
          repeat (first | ((first | refine Q1 ?_ | refine Q2 ?_); intro Z hN hX hR) | refine Q3 (by kernel_rfl) fun K hK => ?_ | ((first | refine Q4 fun R hJ => ?_ | with_reducible change ExpAll _ _ _); simp only [kS, R1, R2, R3, R4, R5, R6, R7, reduceCtorEq, R9, e0, itsC_cons, hil, et, Nat.add_one_sub_one, dC, e, hnl, hm, hm', Bool.not_true, Bool.not_false, hcv, hll, hlrl, decide_true, decide_false, tk1, tk2, tk3, tk4, tk5, tk6, tk7, tk8, and_false, false_and, g3, g4, g8, g9]) | (refine hJ _ ?_; clear hJ R) | refine Q5 ?_ | (refine hK _ ?_; clear hK K) | ((first | refine hN _ ?_ | refine hX _ _ ?_ | refine hR _ ?_); clear hN hX hR Z) | refine Q6 rfl ?_ | refine Q7 (by decide) ?_ | (refine Q8 ?_ ?_; focus (simp only [kS, R1, R2, R3, R4, R5, R6, R7, reduceCtorEq, R9, e0, itsC_cons, hil, et, Nat.add_one_sub_one, dC, e, hnl, hm, hm', Bool.not_true, Bool.not_false, hcv, hll, hlrl, decide_true, decide_false, tk1, tk2, tk3, tk4, tk5, tk6, tk7, tk8, and_false, false_and, g3, g4, g8, g9]; done)) | (refine Q9 ?_ ?_; focus (simp only [kS, R1, R2, R3, R4, R5, R6, R7, reduceCtorEq, R9, e0, itsC_cons, hil, et, Nat.add_one_sub_one, dC, e, hnl, hm, hm', Bool.not_true, Bool.not_false, hcv, hll, hlrl, decide_true, decide_false, tk1, tk2, tk3, tk4, tk5, tk6, tk7, tk8, and_false, false_and, g3, g4, g8, g9]; done)) | refine Qa ?_ | refine Qb ?_ | refine Qc ?_ | refine And.intro (by first | assumption | omega) ?_)
          refine ⟨_, hh, rfl, ?_⟩
          simp only [kS, R1, R2, R3, R4, R5, R6, R7, reduceCtorEq, R9, e0, itsC_cons, hil, et, Nat.add_one_sub_one, dC, e, hnl, hm, hm', Bool.not_true, Bool.not_false, hcv, hll, hlrl, decide_true, decide_false, tk1, tk2, tk3, tk4, tk5, tk6, tk7, tk8, and_false, false_and, g3, g4, g8, g9]
          repeat (first | ((first | refine Q1 ?_ | refine Q2 ?_); intro Z hN hX hR) | refine Q3 (by kernel_rfl) fun K hK => ?_ | ((first | refine Q4 fun R hJ => ?_ | with_reducible change ExpAll _ _ _); simp only [kS, R1, R2, R3, R4, R5, R6, R7, reduceCtorEq, R9, e0, itsC_cons, hil, et, Nat.add_one_sub_one, dC, e, hnl, hm, hm', Bool.not_true, Bool.not_false, hcv, hll, hlrl, decide_true, decide_false, tk1, tk2, tk3, tk4, tk5, tk6, tk7, tk8, and_false, false_and, g3, g4, g8, g9]) | (refine hJ _ ?_; clear hJ R) | refine Q5 ?_ | (refine hK _ ?_; clear hK K) | ((first | refine hN _ ?_ | refine hX _ _ ?_ | refine hR _ ?_); clear hN hX hR Z) | refine Q6 rfl ?_ | refine Q7 (by decide) ?_ | (refine Q8 ?_ ?_; focus (simp only [kS, R1, R2, R3, R4, R5, R6, R7, reduceCtorEq, R9, e0, itsC_cons, hil, et, Nat.add_one_sub_one, dC, e, hnl, hm, hm', Bool.not_true, Bool.not_false, hcv, hll, hlrl, decide_true, decide_false, tk1, tk2, tk3, tk4, tk5, tk6, tk7, tk8, and_false, false_and, g3, g4, g8, g9]; done)) | (refine Q9 ?_ ?_; focus (simp only [kS, R1, R2, R3, R4, R5, R6, R7, reduceCtorEq, R9, e0, itsC_cons, hil, et, Nat.add_one_sub_one, dC, e, hnl, hm, hm', Bool.not_true, Bool.not_false, hcv, hll, hlrl, decide_true, decide_false, tk1, tk2, tk3, tk4, tk5, tk6, tk7, tk8, and_false, false_and, g3, g4, g8, g9]; done)) | refine Qa ?_ | refine Qb ?_ | refine Qc ?_ | refine And.intro (by first | assumption | omega) ?_)
          exact ⟨_, rfl, by simp [SV.down, upd, itsC, It.c, hlrl] <;> omega, rfl, trivial⟩
      · -- wide
        rw [show stepF d[m] ⟨k, m, lo, hi⟩ c = ([⟨4, m, c, 0⟩], true) from by simp only [stepF, if_pos h1, nodeF, g8, g9, Bool.false_eq_true, if_false, if_true]]
        refine retq (rs := [6, 7]) 103 Tryz.func21 (by kernel_rfl) rfl (by kernel_rfl) rfl (by simp) (by simp) fun Z hN hX hR => ?_
        repeat (first | ((first | refine Q1 ?_ | refine Q2 ?_); intro Z hN hX hR) | refine Q3 (by kernel_rfl) fun K hK => ?_ | ((first | refine Q4 fun R hJ => ?_ | with_reducible change ExpAll _ _ _); simp only [kS, R1, R2, R3, R4, R5, R6, R7, reduceCtorEq, R9, e0, itsC_cons, hil, et, Nat.add_one_sub_one, dC, e, hnl, hm, hm', Bool.not_true, Bool.not_false, hcv, hll, hlrl, decide_true, decide_false, tk1, tk2, tk3, tk4, tk5, tk6, tk7, tk8, and_false, false_and, g3, g4, g8, g9]) | (refine hJ _ ?_; clear hJ R) | refine Q5 ?_ | (refine hK _ ?_; clear hK K) | ((first | refine hN _ ?_ | refine hX _ _ ?_ | refine hR _ ?_); clear hN hX hR Z) | refine Q6 rfl ?_ | refine Q7 (by decide) ?_ | (refine Q8 ?_ ?_; focus (simp only [kS, R1, R2, R3, R4, R5, R6, R7, reduceCtorEq, R9, e0, itsC_cons, hil, et, Nat.add_one_sub_one, dC, e, hnl, hm, hm', Bool.not_true, Bool.not_false, hcv, hll, hlrl, decide_true, decide_false, tk1, tk2, tk3, tk4, tk5, tk6, tk7, tk8, and_false, false_and, g3, g4, g8, g9]; done)) | (refine Q9 ?_ ?_; focus (simp only [kS, R1, R2, R3, R4, R5, R6, R7, reduceCtorEq, R9, e0, itsC_cons, hil, et, Nat.add_one_sub_one, dC, e, hnl, hm, hm', Bool.not_true, Bool.not_false, hcv, hll, hlrl, decide_true, decide_false, tk1, tk2, tk3, tk4, tk5, tk6, tk7, tk8, and_false, false_and, g3, g4, g8, g9]; done)) | refine Qa ?_ | refine Qb ?_ | refine Qc ?_ | refine And.intro (by first | assumption | omega) ?_)
        refine ⟨_, hlow, rfl, ?_⟩
        simp only [kS, R1, R2, R3, R4, R5, R6, R7, reduceCtorEq, R9, e0, itsC_cons, hil, et, Nat.add_one_sub_one, dC, e, hnl, hm, hm', Bool.not_true, Bool.not_false, hcv, hll, hlrl, decide_true, decide_false, tk1, tk2, tk3, tk4, tk5, tk6, tk7, tk8, and_false, false_and, g3, g4, g8, g9]
        repeat (first | ((first | refine Q1 ?_ | refine Q2 ?_); intro Z hN hX hR) | refine Q3 (by kernel_rfl) fun K hK => ?_ | ((first | refine Q4 fun R hJ => ?_ | with_reducible change ExpAll _ _ _); simp only [kS, R1, R2, R3, R4, R5, R6, R7, reduceCtorEq, R9, e0, itsC_cons, hil, et, Nat.add_one_sub_one, dC, e, hnl, hm, hm', Bool.not_true, Bool.not_false, hcv, hll, hlrl, decide_true, decide_false, tk1, tk2, tk3, tk4, tk5, tk6, tk7, tk8, and_false, false_and, g3, g4, g8, g9]) | (refine hJ _ ?_; clear hJ R) | refine Q5 ?_ | (refine hK _ ?_; clear hK K) | ((first | refine hN _ ?_ | refine hX _ _ ?_ | refine hR _ ?_); clear hN hX hR Z) | refine Q6 rfl ?_ | refine Q7 (by decide) ?_ | (refine Q8 ?_ ?_; focus (simp only [kS, R1, R2, R3, R4, R5, R6, R7, reduceCtorEq, R9, e0, itsC_cons, hil, et, Nat.add_one_sub_one, dC, e, hnl, hm, hm', Bool.not_true, Bool.not_false, hcv, hll, hlrl, decide_true, decide_false, tk1, tk2, tk3, tk4, tk5, tk6, tk7, tk8, and_false, false_and, g3, g4, g8, g9]; done)) | (refine Q9 ?_ ?_; focus (simp only [kS, R1, R2, R3, R4, R5, R6, R7, reduceCtorEq, R9, e0, itsC_cons, hil, et, Nat.add_one_sub_one, dC, e, hnl, hm, hm', Bool.not_true, Bool.not_false, hcv, hll, hlrl, decide_true, decide_false, tk1, tk2, tk3, tk4, tk5, tk6, tk7, tk8, and_false, false_and, g3, g4, g8, g9]; done)) | refine Qa ?_ | refine Qb ?_ | refine Qc ?_ | refine And.intro (by first | assumption | omega) ?_)
        exact ⟨_, rfl, by simp [SV.down, upd, itsC, It.c, hlrl] <;> omega, rfl, trivial⟩
    · -- a frame
      rw [show stepF d[m] ⟨k, m, lo, hi⟩ c = ([⟨1, d[m].a, 0, 0⟩, ⟨5, 0, c, 0⟩], true) from by simp only [stepF, if_pos h1, nodeF, g8, if_true]]
      refine retq (rs := [6, 7]) 103 Tryz.func21 (by kernel_rfl) rfl (by kernel_rfl) rfl (by simp) (by simp) fun Z hN hX hR => ?_
      repeat (first | ((first | refine Q1 ?_ | refine Q2 ?_); intro Z hN hX hR) | refine Q3 (by kernel_rfl) fun K hK => ?_ | ((first | refine Q4 fun R hJ => ?_ | with_reducible change ExpAll _ _ _); simp only [kS, R1, R2, R3, R4, R5, R6, R7, reduceCtorEq, R9, e0, itsC_cons, hil, et, Nat.add_one_sub_one, dC, e, hnl, hm, hm', Bool.not_true, Bool.not_false, hcv, hll, hlrl, decide_true, decide_false, tk1, tk2, tk3, tk4, tk5, tk6, tk7, tk8, and_false, false_and, g3, g4, g8]) | (refine hJ _ ?_; clear hJ R) | refine Q5 ?_ | (refine hK _ ?_; clear hK K) | ((first | refine hN _ ?_ | refine hX _ _ ?_ | refine hR _ ?_); clear hN hX hR Z) | refine Q6 rfl ?_ | refine Q7 (by decide) ?_ | (refine Q8 ?_ ?_; focus (simp only [kS, R1, R2, R3, R4, R5, R6, R7, reduceCtorEq, R9, e0, itsC_cons, hil, et, Nat.add_one_sub_one, dC, e, hnl, hm, hm', Bool.not_true, Bool.not_false, hcv, hll, hlrl, decide_true, decide_false, tk1, tk2, tk3, tk4, tk5, tk6, tk7, tk8, and_false, false_and, g3, g4, g8]; done)) | (refine Q9 ?_ ?_; focus (simp only [kS, R1, R2, R3, R4, R5, R6, R7, reduceCtorEq, R9, e0, itsC_cons, hil, et, Nat.add_one_sub_one, dC, e, hnl, hm, hm', Bool.not_true, Bool.not_false, hcv, hll, hlrl, decide_true, decide_false, tk1, tk2, tk3, tk4, tk5, tk6, tk7, tk8, and_false, false_and, g3, g4, g8]; done)) | refine Qa ?_ | refine Qb ?_ | refine Qc ?_ | refine And.intro (by first | assumption | omega) ?_)
      refine ⟨_, hlow, rfl, ?_⟩
      simp only [kS, R1, R2, R3, R4, R5, R6, R7, reduceCtorEq, R9, e0, itsC_cons, hil, et, Nat.add_one_sub_one, dC, e, hnl, hm, hm', Bool.not_true, Bool.not_false, hcv, hll, hlrl, decide_true, decide_false, tk1, tk2, tk3, tk4, tk5, tk6, tk7, tk8, and_false, false_and, g3, g4, g8]
      repeat (first | ((first | refine Q1 ?_ | refine Q2 ?_); intro Z hN hX hR) | refine Q3 (by kernel_rfl) fun K hK => ?_ | ((first | refine Q4 fun R hJ => ?_ | with_reducible change ExpAll _ _ _); simp only [kS, R1, R2, R3, R4, R5, R6, R7, reduceCtorEq, R9, e0, itsC_cons, hil, et, Nat.add_one_sub_one, dC, e, hnl, hm, hm', Bool.not_true, Bool.not_false, hcv, hll, hlrl, decide_true, decide_false, tk1, tk2, tk3, tk4, tk5, tk6, tk7, tk8, and_false, false_and, g3, g4, g8]) | (refine hJ _ ?_; clear hJ R) | refine Q5 ?_ | (refine hK _ ?_; clear hK K) | ((first | refine hN _ ?_ | refine hX _ _ ?_ | refine hR _ ?_); clear hN hX hR Z) | refine Q6 rfl ?_ | refine Q7 (by decide) ?_ | (refine Q8 ?_ ?_; focus (simp only [kS, R1, R2, R3, R4, R5, R6, R7, reduceCtorEq, R9, e0, itsC_cons, hil, et, Nat.add_one_sub_one, dC, e, hnl, hm, hm', Bool.not_true, Bool.not_false, hcv, hll, hlrl, decide_true, decide_false, tk1, tk2, tk3, tk4, tk5, tk6, tk7, tk8, and_false, false_and, g3, g4, g8]; done)) | (refine Q9 ?_ ?_; focus (simp only [kS, R1, R2, R3, R4, R5, R6, R7, reduceCtorEq, R9, e0, itsC_cons, hil, et, Nat.add_one_sub_one, dC, e, hnl, hm, hm', Bool.not_true, Bool.not_false, hcv, hll, hlrl, decide_true, decide_false, tk1, tk2, tk3, tk4, tk5, tk6, tk7, tk8, and_false, false_and, g3, g4, g8]; done)) | refine Qa ?_ | refine Qb ?_ | refine Qc ?_ | refine And.intro (by first | assumption | omega) ?_)
      exact ⟨_, rfl, by simp [SV.down, upd, itsC, It.c, hlrl] <;> omega, rfl, trivial⟩

theorem read15_ret (gl : Gl) (d : List Nd) (hd : WFd d) (hcw : ∀ n ∈ d, CW n) (hsz : ∀ n ∈ d, n.s.size ≤ 1000000) (s : List It) (hl : s.length ≤ 1000000) (hfo : OkS d s) (hr : rdy d s = true) (c : Nat) (hc : c < 256) :
    Ret Tryz.prog gl 21 [.agg (dC d), .c (stC s), .c (.v (.int .u8 (c : Int)))] (.tup [.c (stC ((readF d c s).getD [])), bv (readF d c s).isSome]) := by
  cases s with
  | nil =>
    have e0 : (((0 : Nat) : Int) == 0) = true := rfl
    refine retq (rs := [6, 7]) 103 Tryz.func21 (by kernel_rfl) rfl (by kernel_rfl) rfl (by simp) (by simp) fun Z hN hX hR => ?_
    repeat (first | ((first | refine Q1 ?_ | refine Q2 ?_); intro Z hN hX hR) | refine Q3 (by kernel_rfl) fun K hK => ?_ | ((first | refine Q4 fun R hJ => ?_ | with_reducible change ExpAll _ _ _); simp only [kS, R1, R2, R3, R4, R5, R6, R7, reduceCtorEq, R9, e0]) | (refine hJ _ ?_; clear hJ R) | refine Q5 ?_ | (refine hK _ ?_; clear hK K) | ((first | refine hN _ ?_ | refine hX _ _ ?_ | refine hR _ ?_); clear hN hX hR Z) | refine Q6 rfl ?_ | refine Q7 (by decide) ?_ | (refine Q8 ?_ ?_; focus (simp only [kS, R1, R2, R3, R4, R5, R6, R7, reduceCtorEq, R9, e0]; done)) | (refine Q9 ?_ ?_; focus (simp only [kS, R1, R2, R3, R4, R5, R6, R7, reduceCtorEq, R9, e0]; done)) | refine Qa ?_ | refine Qb ?_ | refine Qc ?_ | refine And.intro (by first | assumption | omega) ?_)
    exact ⟨_, rfl, rfl, rfl, trivial⟩
  | cons x r =>
    have hl' : r.length ≤ 1000000 := by simp at hl; omega
    have hlow := lower13_ret gl r hl' (okS_lo hd hsz fun y hy => hfo y (by simp [hy]))
    cases hb : lowB r
    · have e0 : (((r.length + 1 : Nat) : Int) == 0) = false := by rw [beq_eq_false_iff_ne]; omega
      have hil := itsC_length r
      have et : (itsC r).take (r.length * 4) = itsC r := List.take_of_length_le (by omega)
      have hrd : readF d c (x :: r) = none := by simp only [readF, hb, Bool.false_and, Bool.false_eq_true, if_false]
      have hS : lowS r = [] := by simp [lowS, hb]
      rw [hb, hS] at hlow
      rw [hrd]
      refine retq (rs := [6, 7]) 103 Tryz.func21 (by kernel_rfl) rfl (by kernel_rfl) rfl (by simp) (by simp) fun Z hN hX hR => ?_
      repeat (first | ((first | refine Q1 ?_ | refine Q2 ?_); intro Z hN hX hR) | refine Q3 (by kernel_rfl) fun K hK => ?_ | ((first | refine Q4 fun R hJ => ?_ | with_reducible change ExpAll _ _ _); simp only [kS, R1, R2, R3, R4, R5, R6, R7, reduceCtorEq, R9, e0, itsC_cons, hil, et, Nat.add_one_sub_one]) | (refine hJ _ ?_; clear hJ R) | refine Q5 ?_ | (refine hK _ ?_; clear hK K) | ((first | refine hN _ ?_ | refine hX _ _ ?_ | refine hR _ ?_); clear hN hX hR Z) | refine Q6 rfl ?_ | refine Q7 (by decide) ?_ | (refine Q8 ?_ ?_; focus (simp only [kS, R1, R2, R3, R4, R5, R6, R7, reduceCtorEq, R9, e0, itsC_cons, hil, et, Nat.add_one_sub_one]; done)) | (refine Q9 ?_ ?_; focus (simp only [kS, R1, R2, R3, R4, R5, R6, R7, reduceCtorEq, R9, e0, itsC_cons, hil, et, Nat.add_one_sub_one]; done)) | refine Qa ?_ | refine Qb ?_ | refine Qc ?_ | refine And.intro (by first | assumption | omega) ?_)
      refine ⟨_, hlow, rfl, ?_⟩
      simp only [kS, R1, R2, R3, R4, R5, R6, R7, reduceCtorEq, R9, e0, itsC_cons, hil, et, Bool.not_false]
      repeat (first | ((first | refine Q1 ?_ | refine Q2 ?_); intro Z hN hX hR) | refine Q3 (by kernel_rfl) fun K hK => ?_ | ((first | refine Q4 fun R hJ => ?_ | with_reducible change ExpAll _ _ _); simp only [kS, R1, R2, R3, R4, R5, R6, R7, reduceCtorEq, R9, e0, itsC_cons, hil, et, Bool.not_false]) | (refine hJ _ ?_; clear hJ R) | refine Q5 ?_ | (refine hK _ ?_; clear hK K) | ((first | refine hN _ ?_ | refine hX _ _ ?_ | refine hR _ ?_); clear hN hX hR Z) | refine Q6 rfl ?_ | refine Q7 (by decide) ?_ | (refine Q8 ?_ ?_; focus (simp only [kS, R1, R2, R3, R4, R5, R6, R7, reduceCtorEq, R9, e0, itsC_cons, hil, et, Bool.not_false]; done)) | (refine Q9 ?_ ?_; focus (simp only [kS, R1, R2, R3, R4, R5, R6, R7, reduceCtorEq, R9, e0, itsC_cons, hil, et, Bool.not_false]; done)) | refine Qa ?_ | refine Qb ?_ | refine Qc ?_ | refine And.intro (by first | assumption | omega) ?_)
      all_goals exact ⟨_, rfl, rfl, rfl, trivial⟩
    rw [hb, lowS_true hb] at hlow
    have hx := hfo x (by simp)
    have hin : 0 ≤ x.n ∧ x.n < d.length := by
      have := hd.1
      rcases hx with h | h
      · omega
      · exact h.1
    obtain ⟨k, n, lo, hi⟩ := x
    obtain ⟨m, rfl⟩ : ∃ m : Nat, n = m := ⟨n.toNat, by simp at hin; omega⟩
    have hm : m < d.length := by simp at hin; omega
    have e' := nd_get d m hm
    have hkr : k = 3 ∨ k = 4 ∨ (k = 1 ∧ (d[m].k = 2 ∨ d[m].k = 8 ∨ d[m].k = 9)) := by
      simp only [rdy, e', Bool.or_eq_true, Bool.and_eq_true, beq_iff_eq] at hr
      exact hr
    have hk : stepB k = true := by simp only [stepB, Bool.or_eq_true, beq_iff_eq]; omega
    have hrd : readF d c (⟨k, m, lo, hi⟩ :: r) = if (stepF d[m] ⟨k, m, lo, hi⟩ c).2 = true then some ((stepF d[m] ⟨k, m, lo, hi⟩ c).1 ++ r.map lowF) else none := by
      simp only [readF, hb, hk, e', Bool.true_and]
    rw [hrd]
    exact read15_some gl d hcw m hm k lo hi r (r.map lowF) (by simp) hl' hx hkr c hc (hsz _ (List.getElem_mem hm)) hlow

end Go.Proofs.YtilhjiopbbbgmaaGreatDoor

/- The document's On, Ends, Classes; the same classes: walked. -/
namespace Go.Proofs.YtilhjiopbbbgmaaGreatDoor
open Nat renaming reduceSub → R1, reduceMul → R2, reduceLeDiff → R3, reducePow → R4, reduceBEq → R5, reduceAdd → R6, reduceEqDiff → R7
open Int renaming reduceToNat → R9
open Go Go.RowKit Am
set_option linter.unusedVariables false
set_option linter.unusedSimpArgs false
set_option maxHeartbeats 4000000
attribute [local irreducible] AWp AOps

theorem on15_ret (gl : Gl) (d : List Nd) (s : List It) (hs : List Br) (c : Nat) (hc : c < 256) (hh : Ret Tryz.prog gl 53 [.agg (dC d), .c (stC s)] (.c (brC hs))) (hl : hs.length ≤ 100000) (hm : ∀ b ∈ hs, 0 ≤ b.many ∧ b.many ≤ 2)
    (hrd : ∀ b ∈ hs, Ret Tryz.prog gl 21 [.agg (dC d), .c (stC b.to), .c (.v (.int .u8 (c : Int)))] (.tup [.c (stC ((readF d c b.to).getD [])), bv (readF d c b.to).isSome])) (hlen : ∀ b ∈ hs, ∀ t, readF d c b.to = some t → t.length ≤ 1000000) :
    Ret Tryz.prog gl 13 [.agg (dC d), .c (stC s), .c (.v (.int .u8 (c : Int)))] (.c (brC (onR d c hs []))) := by
  refine retq (rs := [6]) 42 Tryz.func13 (by kernel_rfl) rfl (by kernel_rfl) rfl (by simp) (by simp) fun Z hN hX hR => ?_
  repeat (first | ((first | refine Q1 ?_ | refine Q2 ?_); intro Z hN hX hR) | refine Q3 (by kernel_rfl) fun K hK => ?_ | ((first | refine Q4 fun R hJ => ?_ | with_reducible change ExpAll _ _ _); simp only [kS, R1, R2, R3, R4, R5, R6, R7, reduceCtorEq, R9, dC_length, dC_take]) | (refine hJ _ ?_; clear hJ R) | refine Q5 ?_ | (refine hK _ ?_; clear hK K) | ((first | refine hN _ ?_ | refine hX _ _ ?_ | refine hR _ ?_); clear hN hX hR Z) | refine Q6 rfl ?_ | refine Q7 (by decide) ?_ | (refine Q8 ?_ ?_; focus (simp only [kS, R1, R2, R3, R4, R5, R6, R7, reduceCtorEq, R9, dC_length, dC_take]; done)) | (refine Q9 ?_ ?_; focus (simp only [kS, R1, R2, R3, R4, R5, R6, R7, reduceCtorEq, R9, dC_length, dC_take]; done)) | refine Qa ?_ | refine Qb ?_ | refine Qc ?_ | refine And.intro (by first | assumption | omega) ?_)
  refine ⟨_, hh, rfl, ?_⟩
  simp only [kS, R1, R2, R3, R4, R5, R6, R7, reduceCtorEq, R9, dC_length, dC_take]
  repeat (first | ((first | refine Q1 ?_ | refine Q2 ?_); intro Z hN hX hR) | refine Q3 (by kernel_rfl) fun K hK => ?_ | ((first | refine Q4 fun R hJ => ?_ | with_reducible change ExpAll _ _ _); simp only [kS, R1, R2, R3, R4, R5, R6, R7, reduceCtorEq, R9, dC_length, dC_take]) | (refine hJ _ ?_; clear hJ R) | refine Q5 ?_ | (refine hK _ ?_; clear hK K) | ((first | refine hN _ ?_ | refine hX _ _ ?_ | refine hR _ ?_); clear hN hX hR Z) | refine Q6 rfl ?_ | refine Q7 (by decide) ?_ | (refine Q8 ?_ ?_; focus (simp only [kS, R1, R2, R3, R4, R5, R6, R7, reduceCtorEq, R9, dC_length, dC_take]; done)) | (refine Q9 ?_ ?_; focus (simp only [kS, R1, R2, R3, R4, R5, R6, R7, reduceCtorEq, R9, dC_length, dC_take]; done)) | refine Qa ?_ | refine Qb ?_ | refine Qc ?_ | refine And.intro (by first | assumption | omega) ?_)
  refine awq_loop (fun n f => ∃ (i : Nat) (l : List Br), i ≤ hs.length ∧ n = hs.length - i ∧ f.t 9 = iv (i : Int) ∧ f.t 7 = .c (brC hs) ∧ f.t 2 = .c (.v (.int .u8 (c : Int))) ∧ f.t 3 = .ref 3 1 0 ∧ f.ob 3 1 = .box (dC d) ∧ 1 < f.k ∧ OkL l i ∧ onR d c (hs.drop i) l = onR d c hs [] ∧ (f.t 8 = .nil ∧ l = [] ∨ f.t 8 = .c (brC l))) hs.length ?_ ?_
  · exact ⟨0, [], by omega, rfl, by (simp only [kS, R1, R2, R3, R4, R5, R6, R7, reduceCtorEq, R9]) <;> first | omega | rfl, by (simp only [kS, R1, R2, R3, R4, R5, R6, R7, reduceCtorEq, R9]) <;> first | omega | rfl, by (simp only [kS, R1, R2, R3, R4, R5, R6, R7, reduceCtorEq, R9]) <;> first | omega | rfl, by (simp only [kS, R1, R2, R3, R4, R5, R6, R7, reduceCtorEq, R9]) <;> first | omega | rfl, by (simp only [kS, R1, R2, R3, R4, R5, R6, R7, reduceCtorEq, R9]) <;> first | omega | rfl, by (simp only [kS, R1, R2, R3, R4, R5, R6, R7, reduceCtorEq, R9]) <;> first | omega | rfl, ⟨fun x hx => (by cases hx), fun x hx => (by cases hx), Nat.le_refl _⟩, rfl, .inl ⟨by (simp only [kS, R1, R2, R3, R4, R5, R6, R7, reduceCtorEq, R9]) <;> first | omega | rfl, rfl⟩⟩
  rintro Z n f hN hX hR ⟨i, l, hi, rfl, h9, h7, h2, h3, hb, hk, hok, hc', h8⟩
  have bl := bsC_length hs
  by_cases hlt : i < hs.length
  · have hlt' : (i : Int) < (hs.length : Int) := by omega
    have d1 := bsC_drop hs i hlt
    have hmem := List.getElem_mem hlt
    have hr1 := hrd _ hmem
    have hl1 := hlen _ hmem
    obtain ⟨m1, m2⟩ := hm _ hmem
    rw [List.drop_eq_getElem_cons hlt] at hc'
    generalize hs[i] = b at *
    obtain ⟨to, many⟩ := b
    simp only at hr1 hl1 m1 m2
    cases hrr : readF d c to with
    | none =>
      rw [hrr] at hr1
      have hc2 : onR d c (hs.drop (i + 1)) l = onR d c hs [] := by rw [← hc']; simp [onR, hrr]
      repeat (first | ((first | refine Q1 ?_ | refine Q2 ?_); intro Z hN hX hR) | refine Q3 (by kernel_rfl) fun K hK => ?_ | ((first | refine Q4 fun R hJ => ?_ | with_reducible change ExpAll _ _ _); simp only [kS, R1, R2, R3, R4, R5, R6, R7, reduceCtorEq, R9, h9, h7, h2, h3, hb, hlt, hlt', d1, bl, dC_length, dC_take, decide_true]) | (refine hJ _ ?_; clear hJ R) | refine Q5 ?_ | (refine hK _ ?_; clear hK K) | ((first | refine hN _ ?_ | refine hX _ _ ?_ | refine hR _ ?_); clear hN hX hR Z) | refine Q6 rfl ?_ | refine Q7 (by decide) ?_ | (refine Q8 ?_ ?_; focus (simp only [kS, R1, R2, R3, R4, R5, R6, R7, reduceCtorEq, R9, h9, h7, h2, h3, hb, hlt, hlt', d1, bl, dC_length, dC_take, decide_true]; done)) | (refine Q9 ?_ ?_; focus (simp only [kS, R1, R2, R3, R4, R5, R6, R7, reduceCtorEq, R9, h9, h7, h2, h3, hb, hlt, hlt', d1, bl, dC_length, dC_take, decide_true]; done)) | refine Qa ?_ | refine Qb ?_ | refine Qc ?_ | refine And.intro (by first | assumption | omega) ?_)
      refine ⟨_, hr1, rfl, ?_⟩
      simp only [kS, R1, R2, R3, R4, R5, R6, R7, reduceCtorEq, R9, h9, h7, h2, h3, hb, hlt, hlt', d1, bl, Option.isSome_none, Option.getD_none, decide_true]
      repeat (first | ((first | refine Q1 ?_ | refine Q2 ?_); intro Z hN hX hR) | refine Q3 (by kernel_rfl) fun K hK => ?_ | ((first | refine Q4 fun R hJ => ?_ | with_reducible change ExpAll _ _ _); simp only [kS, R1, R2, R3, R4, R5, R6, R7, reduceCtorEq, R9, h9, h7, h2, h3, hb, hlt, hlt', d1, bl, Option.isSome_none, Option.getD_none, decide_true]) | (refine hJ _ ?_; clear hJ R) | refine Q5 ?_ | (refine hK _ ?_; clear hK K) | ((first | refine hN _ ?_ | refine hX _ _ ?_ | refine hR _ ?_); clear hN hX hR Z) | refine Q6 rfl ?_ | refine Q7 (by decide) ?_ | (refine Q8 ?_ ?_; focus (simp only [kS, R1, R2, R3, R4, R5, R6, R7, reduceCtorEq, R9, h9, h7, h2, h3, hb, hlt, hlt', d1, bl, Option.isSome_none, Option.getD_none, decide_true]; done)) | (refine Q9 ?_ ?_; focus (simp only [kS, R1, R2, R3, R4, R5, R6, R7, reduceCtorEq, R9, h9, h7, h2, h3, hb, hlt, hlt', d1, bl, Option.isSome_none, Option.getD_none, decide_true]; done)) | refine Qa ?_ | refine Qb ?_ | refine Qc ?_ | refine And.intro (by first | assumption | omega) ?_)
      refine ⟨hs.length - (i + 1), by omega, i + 1, l, by omega, rfl, ?_, by simp only [kS, R1, R2, R3, R4, R5, R6, R7, reduceCtorEq, R9, h7], by simp only [kS, R1, R2, R3, R4, R5, R6, R7, reduceCtorEq, R9, h2], by simp only [kS, R1, R2, R3, R4, R5, R6, R7, reduceCtorEq, R9, h3], by simp only [kS, R1, R2, R3, R4, R5, R6, R7, reduceCtorEq, R9, hb, hk, tk1, tk2, tk3, tk4, tk5, tk6, tk7, tk8, and_false, false_and], by (simp only [kS, R1, R2, R3, R4, R5, R6, R7, reduceCtorEq, R9]) <;> first | omega | rfl, ⟨hok.short, hok.many, by have := hok.len; omega⟩, hc2, by rcases h8 with ⟨h8, e8⟩ | h8; exact .inl ⟨by simp only [kS, R1, R2, R3, R4, R5, R6, R7, reduceCtorEq, R9, h8], e8⟩; exact .inr (by simp only [kS, R1, R2, R3, R4, R5, R6, R7, reduceCtorEq, R9, h8])⟩
      simp only [kS, R1, R2, R3, R4, R5, R6, R7, reduceCtorEq, R9]
      rw [wrap_i64 (by omega) (by omega)]; rfl
    | some t =>
      rw [hrr] at hr1
      have ht := hl1 t hrr
      have hc2 : onR d c (hs.drop (i + 1)) (addB l t many false) = onR d c hs [] := by rw [← hc']; simp [onR, hrr]
      have hadd := add_ret gl l t many hok.short ht (by have := hok.len; omega) hok.many ⟨m1, m2⟩
      rcases h8 with ⟨h8, rfl⟩ | h8
      · repeat (first | ((first | refine Q1 ?_ | refine Q2 ?_); intro Z hN hX hR) | refine Q3 (by kernel_rfl) fun K hK => ?_ | ((first | refine Q4 fun R hJ => ?_ | with_reducible change ExpAll _ _ _); simp only [kS, R1, R2, R3, R4, R5, R6, R7, reduceCtorEq, R9, h9, h7, h2, h3, hb, h8, hlt, hlt', d1, bl, dC_length, dC_take, decide_true]) | (refine hJ _ ?_; clear hJ R) | refine Q5 ?_ | (refine hK _ ?_; clear hK K) | ((first | refine hN _ ?_ | refine hX _ _ ?_ | refine hR _ ?_); clear hN hX hR Z) | refine Q6 rfl ?_ | refine Q7 (by decide) ?_ | (refine Q8 ?_ ?_; focus (simp only [kS, R1, R2, R3, R4, R5, R6, R7, reduceCtorEq, R9, h9, h7, h2, h3, hb, h8, hlt, hlt', d1, bl, dC_length, dC_take, decide_true]; done)) | (refine Q9 ?_ ?_; focus (simp only [kS, R1, R2, R3, R4, R5, R6, R7, reduceCtorEq, R9, h9, h7, h2, h3, hb, h8, hlt, hlt', d1, bl, dC_length, dC_take, decide_true]; done)) | refine Qa ?_ | refine Qb ?_ | refine Qc ?_ | refine And.intro (by first | assumption | omega) ?_)
        refine ⟨_, hr1, rfl, ?_⟩
        simp only [kS, R1, R2, R3, R4, R5, R6, R7, reduceCtorEq, R9, h9, h7, h2, h3, hb, h8, hlt, hlt', d1, bl, Option.isSome_some, Option.getD_some, decide_true]
        repeat (first | ((first | refine Q1 ?_ | refine Q2 ?_); intro Z hN hX hR) | refine Q3 (by kernel_rfl) fun K hK => ?_ | ((first | refine Q4 fun R hJ => ?_ | with_reducible change ExpAll _ _ _); simp only [kS, R1, R2, R3, R4, R5, R6, R7, reduceCtorEq, R9, h9, h7, h2, h3, hb, h8, hlt, hlt', d1, bl, Option.isSome_some, Option.getD_some, decide_true]) | (refine hJ _ ?_; clear hJ R) | refine Q5 ?_ | (refine hK _ ?_; clear hK K) | ((first | refine hN _ ?_ | refine hX _ _ ?_ | refine hR _ ?_); clear hN hX hR Z) | refine Q6 rfl ?_ | refine Q7 (by decide) ?_ | (refine Q8 ?_ ?_; focus (simp only [kS, R1, R2, R3, R4, R5, R6, R7, reduceCtorEq, R9, h9, h7, h2, h3, hb, h8, hlt, hlt', d1, bl, Option.isSome_some, Option.getD_some, decide_true]; done)) | (refine Q9 ?_ ?_; focus (simp only [kS, R1, R2, R3, R4, R5, R6, R7, reduceCtorEq, R9, h9, h7, h2, h3, hb, h8, hlt, hlt', d1, bl, Option.isSome_some, Option.getD_some, decide_true]; done)) | refine Qa ?_ | refine Qb ?_ | refine Qc ?_ | refine And.intro (by first | assumption | omega) ?_)
        refine ⟨_, hadd, rfl, ?_⟩
        simp only [kS, R1, R2, R3, R4, R5, R6, R7, reduceCtorEq, R9, h9, h7, h2, h3, hb, h8]
        repeat (first | ((first | refine Q1 ?_ | refine Q2 ?_); intro Z hN hX hR) | refine Q3 (by kernel_rfl) fun K hK => ?_ | ((first | refine Q4 fun R hJ => ?_ | with_reducible change ExpAll _ _ _); simp only [kS, R1, R2, R3, R4, R5, R6, R7, reduceCtorEq, R9, h9, h7, h2, h3, hb, h8]) | (refine hJ _ ?_; clear hJ R) | refine Q5 ?_ | (refine hK _ ?_; clear hK K) | ((first | refine hN _ ?_ | refine hX _ _ ?_ | refine hR _ ?_); clear hN hX hR Z) | refine Q6 rfl ?_ | refine Q7 (by decide) ?_ | (refine Q8 ?_ ?_; focus (simp only [kS, R1, R2, R3, R4, R5, R6, R7, reduceCtorEq, R9, h9, h7, h2, h3, hb, h8]; done)) | (refine Q9 ?_ ?_; focus (simp only [kS, R1, R2, R3, R4, R5, R6, R7, reduceCtorEq, R9, h9, h7, h2, h3, hb, h8]; done)) | refine Qa ?_ | refine Qb ?_ | refine Qc ?_ | refine And.intro (by first | assumption | omega) ?_)
        refine ⟨hs.length - (i + 1), by omega, i + 1, addB [] t many false, by omega, rfl, ?_, by simp only [kS, R1, R2, R3, R4, R5, R6, R7, reduceCtorEq, R9, h7], by simp only [kS, R1, R2, R3, R4, R5, R6, R7, reduceCtorEq, R9, h2], by simp only [kS, R1, R2, R3, R4, R5, R6, R7, reduceCtorEq, R9, h3], by simp only [kS, R1, R2, R3, R4, R5, R6, R7, reduceCtorEq, R9, hb, hk, tk1, tk2, tk3, tk4, tk5, tk6, tk7, tk8, and_false, false_and], by (simp only [kS, R1, R2, R3, R4, R5, R6, R7, reduceCtorEq, R9]) <;> first | omega | rfl, addB_ok hok ht ⟨m1, m2⟩, hc2, .inr (by simp only [kS, R1, R2, R3, R4, R5, R6, R7, reduceCtorEq, R9])⟩
        simp only [kS, R1, R2, R3, R4, R5, R6, R7, reduceCtorEq, R9]
        rw [wrap_i64 (by omega) (by omega)]; rfl
      · repeat (first | ((first | refine Q1 ?_ | refine Q2 ?_); intro Z hN hX hR) | refine Q3 (by kernel_rfl) fun K hK => ?_ | ((first | refine Q4 fun R hJ => ?_ | with_reducible change ExpAll _ _ _); simp only [kS, R1, R2, R3, R4, R5, R6, R7, reduceCtorEq, R9, h9, h7, h2, h3, hb, h8, hlt, hlt', d1, bl, dC_length, dC_take, decide_true]) | (refine hJ _ ?_; clear hJ R) | refine Q5 ?_ | (refine hK _ ?_; clear hK K) | ((first | refine hN _ ?_ | refine hX _ _ ?_ | refine hR _ ?_); clear hN hX hR Z) | refine Q6 rfl ?_ | refine Q7 (by decide) ?_ | (refine Q8 ?_ ?_; focus (simp only [kS, R1, R2, R3, R4, R5, R6, R7, reduceCtorEq, R9, h9, h7, h2, h3, hb, h8, hlt, hlt', d1, bl, dC_length, dC_take, decide_true]; done)) | (refine Q9 ?_ ?_; focus (simp only [kS, R1, R2, R3, R4, R5, R6, R7, reduceCtorEq, R9, h9, h7, h2, h3, hb, h8, hlt, hlt', d1, bl, dC_length, dC_take, decide_true]; done)) | refine Qa ?_ | refine Qb ?_ | refine Qc ?_ | refine And.intro (by first | assumption | omega) ?_)
        refine ⟨_, hr1, rfl, ?_⟩
        simp only [kS, R1, R2, R3, R4, R5, R6, R7, reduceCtorEq, R9, h9, h7, h2, h3, hb, h8, hlt, hlt', d1, bl, Option.isSome_some, Option.getD_some, decide_true]
        repeat (first | ((first | refine Q1 ?_ | refine Q2 ?_); intro Z hN hX hR) | refine Q3 (by kernel_rfl) fun K hK => ?_ | ((first | refine Q4 fun R hJ => ?_ | with_reducible change ExpAll _ _ _); simp only [kS, R1, R2, R3, R4, R5, R6, R7, reduceCtorEq, R9, h9, h7, h2, h3, hb, h8, hlt, hlt', d1, bl, Option.isSome_some, Option.getD_some, decide_true]) | (refine hJ _ ?_; clear hJ R) | refine Q5 ?_ | (refine hK _ ?_; clear hK K) | ((first | refine hN _ ?_ | refine hX _ _ ?_ | refine hR _ ?_); clear hN hX hR Z) | refine Q6 rfl ?_ | refine Q7 (by decide) ?_ | (refine Q8 ?_ ?_; focus (simp only [kS, R1, R2, R3, R4, R5, R6, R7, reduceCtorEq, R9, h9, h7, h2, h3, hb, h8, hlt, hlt', d1, bl, Option.isSome_some, Option.getD_some, decide_true]; done)) | (refine Q9 ?_ ?_; focus (simp only [kS, R1, R2, R3, R4, R5, R6, R7, reduceCtorEq, R9, h9, h7, h2, h3, hb, h8, hlt, hlt', d1, bl, Option.isSome_some, Option.getD_some, decide_true]; done)) | refine Qa ?_ | refine Qb ?_ | refine Qc ?_ | refine And.intro (by first | assumption | omega) ?_)
        refine ⟨_, hadd, rfl, ?_⟩
        simp only [kS, R1, R2, R3, R4, R5, R6, R7, reduceCtorEq, R9, h9, h7, h2, h3, hb, h8]
        repeat (first | ((first | refine Q1 ?_ | refine Q2 ?_); intro Z hN hX hR) | refine Q3 (by kernel_rfl) fun K hK => ?_ | ((first | refine Q4 fun R hJ => ?_ | with_reducible change ExpAll _ _ _); simp only [kS, R1, R2, R3, R4, R5, R6, R7, reduceCtorEq, R9, h9, h7, h2, h3, hb, h8]) | (refine hJ _ ?_; clear hJ R) | refine Q5 ?_ | (refine hK _ ?_; clear hK K) | ((first | refine hN _ ?_ | refine hX _ _ ?_ | refine hR _ ?_); clear hN hX hR Z) | refine Q6 rfl ?_ | refine Q7 (by decide) ?_ | (refine Q8 ?_ ?_; focus (simp only [kS, R1, R2, R3, R4, R5, R6, R7, reduceCtorEq, R9, h9, h7, h2, h3, hb, h8]; done)) | (refine Q9 ?_ ?_; focus (simp only [kS, R1, R2, R3, R4, R5, R6, R7, reduceCtorEq, R9, h9, h7, h2, h3, hb, h8]; done)) | refine Qa ?_ | refine Qb ?_ | refine Qc ?_ | refine And.intro (by first | assumption | omega) ?_)
        refine ⟨hs.length - (i + 1), by omega, i + 1, addB l t many false, by omega, rfl, ?_, by simp only [kS, R1, R2, R3, R4, R5, R6, R7, reduceCtorEq, R9, h7], by simp only [kS, R1, R2, R3, R4, R5, R6, R7, reduceCtorEq, R9, h2], by simp only [kS, R1, R2, R3, R4, R5, R6, R7, reduceCtorEq, R9, h3], by simp only [kS, R1, R2, R3, R4, R5, R6, R7, reduceCtorEq, R9, hb, hk, tk1, tk2, tk3, tk4, tk5, tk6, tk7, tk8, and_false, false_and], by (simp only [kS, R1, R2, R3, R4, R5, R6, R7, reduceCtorEq, R9]) <;> first | omega | rfl, addB_ok hok ht ⟨m1, m2⟩, hc2, .inr (by simp only [kS, R1, R2, R3, R4, R5, R6, R7, reduceCtorEq, R9])⟩
        simp only [kS, R1, R2, R3, R4, R5, R6, R7, reduceCtorEq, R9]
        rw [wrap_i64 (by omega) (by omega)]; rfl
  · have hlt' : ¬ (i : Int) < (hs.length : Int) := by omega
    rw [List.drop_eq_nil_of_le (by omega)] at hc'
    have hc' : l = onR d c hs [] := hc'
    rcases h8 with ⟨h8, e8⟩ | h8
    · repeat (first | ((first | refine Q1 ?_ | refine Q2 ?_); intro Z hN hX hR) | refine Q3 (by kernel_rfl) fun K hK => ?_ | ((first | refine Q4 fun R hJ => ?_ | with_reducible change ExpAll _ _ _); simp only [kS, R1, R2, R3, R4, R5, R6, R7, reduceCtorEq, R9, h9, h7, h2, h3, hb, h8, hlt', bl, decide_false]) | (refine hJ _ ?_; clear hJ R) | refine Q5 ?_ | (refine hK _ ?_; clear hK K) | ((first | refine hN _ ?_ | refine hX _ _ ?_ | refine hR _ ?_); clear hN hX hR Z) | refine Q6 rfl ?_ | refine Q7 (by decide) ?_ | (refine Q8 ?_ ?_; focus (simp only [kS, R1, R2, R3, R4, R5, R6, R7, reduceCtorEq, R9, h9, h7, h2, h3, hb, h8, hlt', bl, decide_false]; done)) | (refine Q9 ?_ ?_; focus (simp only [kS, R1, R2, R3, R4, R5, R6, R7, reduceCtorEq, R9, h9, h7, h2, h3, hb, h8, hlt', bl, decide_false]; done)) | refine Qa ?_ | refine Qb ?_ | refine Qc ?_ | refine And.intro (by first | assumption | omega) ?_)
      all_goals (rw [← hc', e8]; exact .inr rfl)
    · repeat (first | ((first | refine Q1 ?_ | refine Q2 ?_); intro Z hN hX hR) | refine Q3 (by kernel_rfl) fun K hK => ?_ | ((first | refine Q4 fun R hJ => ?_ | with_reducible change ExpAll _ _ _); simp only [kS, R1, R2, R3, R4, R5, R6, R7, reduceCtorEq, R9, h9, h7, h2, h3, hb, h8, hlt', bl, decide_false]) | (refine hJ _ ?_; clear hJ R) | refine Q5 ?_ | (refine hK _ ?_; clear hK K) | ((first | refine hN _ ?_ | refine hX _ _ ?_ | refine hR _ ?_); clear hN hX hR Z) | refine Q6 rfl ?_ | refine Q7 (by decide) ?_ | (refine Q8 ?_ ?_; focus (simp only [kS, R1, R2, R3, R4, R5, R6, R7, reduceCtorEq, R9, h9, h7, h2, h3, hb, h8, hlt', bl, decide_false]; done)) | (refine Q9 ?_ ?_; focus (simp only [kS, R1, R2, R3, R4, R5, R6, R7, reduceCtorEq, R9, h9, h7, h2, h3, hb, h8, hlt', bl, decide_false]; done)) | refine Qa ?_ | refine Qb ?_ | refine Qc ?_ | refine And.intro (by first | assumption | omega) ?_)
      all_goals (rw [← hc'])

theorem ends15_ret (gl : Gl) (d : List Nd) (s : List It) (hs : List Br) (hh : Ret Tryz.prog gl 53 [.agg (dC d), .c (stC s)] (.c (brC hs))) (hl : hs.length ≤ 1000000) : Ret Tryz.prog gl 15 [.agg (dC d), .c (stC s)] (iv (endsF hs)) := by
  refine retq (rs := [4]) 28 Tryz.func15 (by kernel_rfl) rfl (by kernel_rfl) rfl (by simp) (by simp) fun Z hN hX hR => ?_
  repeat (first | ((first | refine Q1 ?_ | refine Q2 ?_); intro Z hN hX hR) | refine Q3 (by kernel_rfl) fun K hK => ?_ | ((first | refine Q4 fun R hJ => ?_ | with_reducible change ExpAll _ _ _); simp only [kS, R1, R2, R3, R4, R5, R6, R7, reduceCtorEq, R9, dC_length, dC_take]) | (refine hJ _ ?_; clear hJ R) | refine Q5 ?_ | (refine hK _ ?_; clear hK K) | ((first | refine hN _ ?_ | refine hX _ _ ?_ | refine hR _ ?_); clear hN hX hR Z) | refine Q6 rfl ?_ | refine Q7 (by decide) ?_ | (refine Q8 ?_ ?_; focus (simp only [kS, R1, R2, R3, R4, R5, R6, R7, reduceCtorEq, R9, dC_length, dC_take]; done)) | (refine Q9 ?_ ?_; focus (simp only [kS, R1, R2, R3, R4, R5, R6, R7, reduceCtorEq, R9, dC_length, dC_take]; done)) | refine Qa ?_ | refine Qb ?_ | refine Qc ?_ | refine And.intro (by first | assumption | omega) ?_)
  refine ⟨_, hh, rfl, ?_⟩
  simp only [kS, R1, R2, R3, R4, R5, R6, R7, reduceCtorEq, R9, dC_length, dC_take]
  repeat (first | ((first | refine Q1 ?_ | refine Q2 ?_); intro Z hN hX hR) | refine Q3 (by kernel_rfl) fun K hK => ?_ | ((first | refine Q4 fun R hJ => ?_ | with_reducible change ExpAll _ _ _); simp only [kS, R1, R2, R3, R4, R5, R6, R7, reduceCtorEq, R9, dC_length, dC_take]) | (refine hJ _ ?_; clear hJ R) | refine Q5 ?_ | (refine hK _ ?_; clear hK K) | ((first | refine hN _ ?_ | refine hX _ _ ?_ | refine hR _ ?_); clear hN hX hR Z) | refine Q6 rfl ?_ | refine Q7 (by decide) ?_ | (refine Q8 ?_ ?_; focus (simp only [kS, R1, R2, R3, R4, R5, R6, R7, reduceCtorEq, R9, dC_length, dC_take]; done)) | (refine Q9 ?_ ?_; focus (simp only [kS, R1, R2, R3, R4, R5, R6, R7, reduceCtorEq, R9, dC_length, dC_take]; done)) | refine Qa ?_ | refine Qb ?_ | refine Qc ?_ | refine And.intro (by first | assumption | omega) ?_)
  refine awq_loop (fun c f => ∃ i : Nat, i ≤ hs.length ∧ c = hs.length - i ∧ f.t 6 = iv (i : Int) ∧ f.t 5 = .c (brC hs) ∧ endsF (hs.drop i) = endsF hs) hs.length ?_ ?_
  · exact ⟨0, by omega, rfl, by (simp only [kS, R1, R2, R3, R4, R5, R6, R7, reduceCtorEq, R9]) <;> first | omega | rfl, by (simp only [kS, R1, R2, R3, R4, R5, R6, R7, reduceCtorEq, R9]) <;> first | omega | rfl, rfl⟩
  rintro Z c f hN hX hR ⟨i, hi, rfl, h6, h5, hc⟩
  have bl := bsC_length hs
  by_cases hlt : i < hs.length
  · have hlt' : (i : Int) < (hs.length : Int) := by omega
    have d1 := bsC_drop hs i hlt
    rw [List.drop_eq_getElem_cons hlt] at hc
    generalize hs[i] = b at *
    obtain ⟨to, many⟩ := b
    cases to with
    | nil =>
      have hc : many = endsF hs := hc
      have e0 : (((0 : Nat) : Int) == 0) = true := rfl
      repeat (first | ((first | refine Q1 ?_ | refine Q2 ?_); intro Z hN hX hR) | refine Q3 (by kernel_rfl) fun K hK => ?_ | ((first | refine Q4 fun R hJ => ?_ | with_reducible change ExpAll _ _ _); simp only [kS, R1, R2, R3, R4, R5, R6, R7, reduceCtorEq, R9, h6, h5, hlt, hlt', d1, bl, e0, decide_true]) | (refine hJ _ ?_; clear hJ R) | refine Q5 ?_ | (refine hK _ ?_; clear hK K) | ((first | refine hN _ ?_ | refine hX _ _ ?_ | refine hR _ ?_); clear hN hX hR Z) | refine Q6 rfl ?_ | refine Q7 (by decide) ?_ | (refine Q8 ?_ ?_; focus (simp only [kS, R1, R2, R3, R4, R5, R6, R7, reduceCtorEq, R9, h6, h5, hlt, hlt', d1, bl, e0, decide_true]; done)) | (refine Q9 ?_ ?_; focus (simp only [kS, R1, R2, R3, R4, R5, R6, R7, reduceCtorEq, R9, h6, h5, hlt, hlt', d1, bl, e0, decide_true]; done)) | refine Qa ?_ | refine Qb ?_ | refine Qc ?_ | refine And.intro (by first | assumption | omega) ?_)
      rw [← hc]
    | cons x r =>
      have hc : endsF (hs.drop (i + 1)) = endsF hs := by rw [← hc]; simp [endsF]
      have e0 : (((r.length + 1 : Nat) : Int) == 0) = false := by rw [beq_eq_false_iff_ne]; omega
      repeat (first | ((first | refine Q1 ?_ | refine Q2 ?_); intro Z hN hX hR) | refine Q3 (by kernel_rfl) fun K hK => ?_ | ((first | refine Q4 fun R hJ => ?_ | with_reducible change ExpAll _ _ _); simp only [kS, R1, R2, R3, R4, R5, R6, R7, reduceCtorEq, R9, h6, h5, hlt, hlt', d1, bl, e0, decide_true]) | (refine hJ _ ?_; clear hJ R) | refine Q5 ?_ | (refine hK _ ?_; clear hK K) | ((first | refine hN _ ?_ | refine hX _ _ ?_ | refine hR _ ?_); clear hN hX hR Z) | refine Q6 rfl ?_ | refine Q7 (by decide) ?_ | (refine Q8 ?_ ?_; focus (simp only [kS, R1, R2, R3, R4, R5, R6, R7, reduceCtorEq, R9, h6, h5, hlt, hlt', d1, bl, e0, decide_true]; done)) | (refine Q9 ?_ ?_; focus (simp only [kS, R1, R2, R3, R4, R5, R6, R7, reduceCtorEq, R9, h6, h5, hlt, hlt', d1, bl, e0, decide_true]; done)) | refine Qa ?_ | refine Qb ?_ | refine Qc ?_ | refine And.intro (by first | assumption | omega) ?_)
      refine ⟨hs.length - (i + 1), by omega, i + 1, by omega, rfl, ?_, by simp only [kS, R1, R2, R3, R4, R5, R6, R7, reduceCtorEq, R9, h5], hc⟩
      simp only [kS, R1, R2, R3, R4, R5, R6, R7, reduceCtorEq, R9]
      rw [wrap_i64 (by omega) (by omega)]; rfl
  · have hlt' : ¬ (i : Int) < (hs.length : Int) := by omega
    rw [List.drop_eq_nil_of_le (by omega)] at hc
    repeat (first | ((first | refine Q1 ?_ | refine Q2 ?_); intro Z hN hX hR) | refine Q3 (by kernel_rfl) fun K hK => ?_ | ((first | refine Q4 fun R hJ => ?_ | with_reducible change ExpAll _ _ _); simp only [kS, R1, R2, R3, R4, R5, R6, R7, reduceCtorEq, R9, h6, h5, hlt', decide_false]) | (refine hJ _ ?_; clear hJ R) | refine Q5 ?_ | (refine hK _ ?_; clear hK K) | ((first | refine hN _ ?_ | refine hX _ _ ?_ | refine hR _ ?_); clear hN hX hR Z) | refine Q6 rfl ?_ | refine Q7 (by decide) ?_ | (refine Q8 ?_ ?_; focus (simp only [kS, R1, R2, R3, R4, R5, R6, R7, reduceCtorEq, R9, h6, h5, hlt', decide_false]; done)) | (refine Q9 ?_ ?_; focus (simp only [kS, R1, R2, R3, R4, R5, R6, R7, reduceCtorEq, R9, h6, h5, hlt', decide_false]; done)) | refine Qa ?_ | refine Qb ?_ | refine Qc ?_ | refine And.intro (by first | assumption | omega) ?_)
    rw [← hc]
    rfl

theorem same02_ret (gl : Gl) (L : List (Nat → Nat)) (hl : L.length ≤ 100000000) : Ret Tryz.prog gl 16 [.c (clS L), .c (clS L)] (bv true) := by
  refine retq (rs := [4]) 26 Tryz.func16 (by kernel_rfl) rfl (by kernel_rfl) rfl (by simp) (by simp) fun Z hN hX hR => ?_
  repeat (first | ((first | refine Q1 ?_ | refine Q2 ?_); intro Z hN hX hR) | refine Q3 (by kernel_rfl) fun K hK => ?_ | ((first | refine Q4 fun R hJ => ?_ | with_reducible change ExpAll _ _ _); simp only [kS, R1, R2, R3, R4, R5, R6, R7, reduceCtorEq, R9, bne_self_eq_false, BEq.rfl, Bool.not_true]) | (refine hJ _ ?_; clear hJ R) | refine Q5 ?_ | (refine hK _ ?_; clear hK K) | ((first | refine hN _ ?_ | refine hX _ _ ?_ | refine hR _ ?_); clear hN hX hR Z) | refine Q6 rfl ?_ | refine Q7 (by decide) ?_ | (refine Q8 ?_ ?_; focus (simp only [kS, R1, R2, R3, R4, R5, R6, R7, reduceCtorEq, R9, bne_self_eq_false, BEq.rfl, Bool.not_true]; done)) | (refine Q9 ?_ ?_; focus (simp only [kS, R1, R2, R3, R4, R5, R6, R7, reduceCtorEq, R9, bne_self_eq_false, BEq.rfl, Bool.not_true]; done)) | refine Qa ?_ | refine Qb ?_ | refine Qc ?_ | refine And.intro (by first | assumption | omega) ?_)
  refine awq_loop (fun n f => ∃ i : Nat, i ≤ L.length ∧ n = L.length - i ∧ f.t 5 = iv (i : Int) ∧ f.t 0 = .c (clS L) ∧ f.t 1 = .c (clS L)) L.length ?_ ?_
  · exact ⟨0, by omega, rfl, by (simp only [kS, R1, R2, R3, R4, R5, R6, R7, reduceCtorEq, R9]) <;> first | omega | rfl, by (simp only [kS, R1, R2, R3, R4, R5, R6, R7, reduceCtorEq, R9]) <;> first | omega | rfl, by (simp only [kS, R1, R2, R3, R4, R5, R6, R7, reduceCtorEq, R9]) <;> first | omega | rfl⟩
  rintro Z n f hN hX hR ⟨i, hi, rfl, h5, h0, h1⟩
  have bl := clC_length L
  by_cases hlt : i < L.length
  · have hlt' : (i : Int) < (L.length : Int) := by omega
    have d1 : (clC L).drop (i * 4) = .v (.int .u64 (L[i] 0 : Int)) :: .v (.int .u64 (L[i] 1 : Int)) :: .v (.int .u64 (L[i] 2 : Int)) :: .v (.int .u64 (L[i] 3 : Int)) :: clC (L.drop (i + 1)) := by
      have e : clC L = clC (L.take i) ++ clC (L.drop i) := by rw [← clC_append, List.take_append_drop]
      rw [e, List.drop_append_of_le_length (by rw [clC_length]; simp; omega), List.drop_eq_nil_of_le (by rw [clC_length]; simp; omega), List.drop_eq_getElem_cons hlt]
      rfl
    repeat (first | ((first | refine Q1 ?_ | refine Q2 ?_); intro Z hN hX hR) | refine Q3 (by kernel_rfl) fun K hK => ?_ | ((first | refine Q4 fun R hJ => ?_ | with_reducible change ExpAll _ _ _); simp only [kS, R1, R2, R3, R4, R5, R6, R7, reduceCtorEq, R9, h5, h0, h1, hlt, hlt', d1, bl, BEq.rfl, Bool.and_self, Bool.not_true, decide_true]) | (refine hJ _ ?_; clear hJ R) | refine Q5 ?_ | (refine hK _ ?_; clear hK K) | ((first | refine hN _ ?_ | refine hX _ _ ?_ | refine hR _ ?_); clear hN hX hR Z) | refine Q6 rfl ?_ | refine Q7 (by decide) ?_ | (refine Q8 ?_ ?_; focus (simp only [kS, R1, R2, R3, R4, R5, R6, R7, reduceCtorEq, R9, h5, h0, h1, hlt, hlt', d1, bl, BEq.rfl, Bool.and_self, Bool.not_true, decide_true]; done)) | (refine Q9 ?_ ?_; focus (simp only [kS, R1, R2, R3, R4, R5, R6, R7, reduceCtorEq, R9, h5, h0, h1, hlt, hlt', d1, bl, BEq.rfl, Bool.and_self, Bool.not_true, decide_true]; done)) | refine Qa ?_ | refine Qb ?_ | refine Qc ?_ | refine And.intro (by first | assumption | omega) ?_)
    refine ⟨L.length - (i + 1), by omega, i + 1, by omega, rfl, ?_, by simp only [kS, R1, R2, R3, R4, R5, R6, R7, reduceCtorEq, R9, h0], by simp only [kS, R1, R2, R3, R4, R5, R6, R7, reduceCtorEq, R9, h1]⟩
    simp only [kS, R1, R2, R3, R4, R5, R6, R7, reduceCtorEq, R9]
    rw [wrap_i64 (by omega) (by omega)]; rfl
  · have hlt' : ¬ (i : Int) < (L.length : Int) := by omega
    repeat (first | ((first | refine Q1 ?_ | refine Q2 ?_); intro Z hN hX hR) | refine Q3 (by kernel_rfl) fun K hK => ?_ | ((first | refine Q4 fun R hJ => ?_ | with_reducible change ExpAll _ _ _); simp only [kS, R1, R2, R3, R4, R5, R6, R7, reduceCtorEq, R9, h5, h0, h1, hlt', bl, decide_false]) | (refine hJ _ ?_; clear hJ R) | refine Q5 ?_ | (refine hK _ ?_; clear hK K) | ((first | refine hN _ ?_ | refine hX _ _ ?_ | refine hR _ ?_); clear hN hX hR Z) | refine Q6 rfl ?_ | refine Q7 (by decide) ?_ | (refine Q8 ?_ ?_; focus (simp only [kS, R1, R2, R3, R4, R5, R6, R7, reduceCtorEq, R9, h5, h0, h1, hlt', bl, decide_false]; done)) | (refine Q9 ?_ ?_; focus (simp only [kS, R1, R2, R3, R4, R5, R6, R7, reduceCtorEq, R9, h5, h0, h1, hlt', bl, decide_false]; done)) | refine Qa ?_ | refine Qb ?_ | refine Qc ?_ | refine And.intro (by first | assumption | omega) ?_)
    all_goals rfl

end Go.Proofs.YtilhjiopbbbgmaaGreatDoor

/- The document's Classes: walked. -/
namespace Go.Proofs.YtilhjiopbbbgmaaGreatDoor
open Nat renaming reduceSub → R1, reduceMul → R2, reduceLeDiff → R3, reducePow → R4, reduceBEq → R5, reduceAdd → R6, reduceEqDiff → R7
open Int renaming reduceToNat → R9
open Go Go.RowKit Am
set_option linter.unusedVariables false
set_option linter.unusedSimpArgs false
set_option maxHeartbeats 4000000
attribute [local irreducible] AWp AOps

theorem classes15_ret (gl : Gl) (hdr : ¬ gl.dr) (d : List Nd) (hd : WFd d) (hcw : ∀ n ∈ d, CW n) (s : List It) (hs : List Br) (hh : Ret Tryz.prog gl 53 [.agg (dC d), .c (stC s)] (.c (brC hs))) (hl : hs.length ≤ 1500) (hok : ∀ b ∈ hs, OkS d b.to ∧ rdy d b.to = true) :
    Ret Tryz.prog gl 18 [.agg (dC d), .c (stC s)] (.c (clS (classesF d hs))) := by
  refine retq (rs := [4]) 83 Tryz.func18 (by kernel_rfl) rfl (by kernel_rfl) rfl (by simp) (by simp) fun Z hN hX hR => ?_
  repeat (first | ((first | refine Q1 ?_ | refine Q2 ?_); intro Z hN hX hR) | refine Q3 (by kernel_rfl) fun K hK => ?_ | ((first | refine Q4 fun R hJ => ?_ | with_reducible change ExpAll _ _ _); simp only [kS, R1, R2, R3, R4, R5, R6, R7, reduceCtorEq, R9, dC_length, dC_take]) | (refine hJ _ ?_; clear hJ R) | refine Q5 ?_ | (refine hK _ ?_; clear hK K) | ((first | refine hN _ ?_ | refine hX _ _ ?_ | refine hR _ ?_); clear hN hX hR Z) | refine Q6 rfl ?_ | refine Q7 (by decide) ?_ | (refine Q8 ?_ ?_; focus (simp only [kS, R1, R2, R3, R4, R5, R6, R7, reduceCtorEq, R9, dC_length, dC_take]; done)) | (refine Q9 ?_ ?_; focus (simp only [kS, R1, R2, R3, R4, R5, R6, R7, reduceCtorEq, R9, dC_length, dC_take]; done)) | refine Qa ?_ | refine Qb ?_ | refine Qc ?_ | refine And.intro (by first | assumption | omega) ?_)
  refine ⟨_, hh, rfl, ?_⟩
  simp only [kS, R1, R2, R3, R4, R5, R6, R7, reduceCtorEq, R9, dC_length, dC_take]
  repeat (first | ((first | refine Q1 ?_ | refine Q2 ?_); intro Z hN hX hR) | refine Q3 (by kernel_rfl) fun K hK => ?_ | ((first | refine Q4 fun R hJ => ?_ | with_reducible change ExpAll _ _ _); simp only [kS, R1, R2, R3, R4, R5, R6, R7, reduceCtorEq, R9, dC_length, dC_take]) | (refine hJ _ ?_; clear hJ R) | refine Q5 ?_ | (refine hK _ ?_; clear hK K) | ((first | refine hN _ ?_ | refine hX _ _ ?_ | refine hR _ ?_); clear hN hX hR Z) | refine Q6 rfl ?_ | refine Q7 (by decide) ?_ | (refine Q8 ?_ ?_; focus (simp only [kS, R1, R2, R3, R4, R5, R6, R7, reduceCtorEq, R9, dC_length, dC_take]; done)) | (refine Q9 ?_ ?_; focus (simp only [kS, R1, R2, R3, R4, R5, R6, R7, reduceCtorEq, R9, dC_length, dC_take]; done)) | refine Qa ?_ | refine Qb ?_ | refine Qc ?_ | refine And.intro (by first | assumption | omega) ?_)
  refine awq_loop (fun c f => ∃ i : Nat, i ≤ hs.length ∧ c = hs.length - i ∧ f.t 7 = iv (i : Int) ∧ f.t 5 = .c (brC hs) ∧ f.t 2 = .ref 2 1 0 ∧ f.ob 2 1 = .box (dC d) ∧ 1 < f.k ∧
    ((f.t 6 = .nil ∧ classesF d (hs.take i) = []) ∨ ∃ e t, f.t 6 = .tok e t (classesF d (hs.take i)).length (clC (classesF d (hs.take i))) ∧ f.ob e t = .live 56 4 ∧ t ≤ f.k)) hs.length ?_ ?_
  · exact ⟨0, by omega, rfl, by (simp only [kS, R1, R2, R3, R4, R5, R6, R7, reduceCtorEq, R9]) <;> first | omega | rfl, by (simp only [kS, R1, R2, R3, R4, R5, R6, R7, reduceCtorEq, R9]) <;> first | omega | rfl, by (simp only [kS, R1, R2, R3, R4, R5, R6, R7, reduceCtorEq, R9]) <;> first | omega | rfl, by (simp only [kS, R1, R2, R3, R4, R5, R6, R7, reduceCtorEq, R9]) <;> first | omega | rfl, by (simp only [kS, R1, R2, R3, R4, R5, R6, R7, reduceCtorEq, R9]) <;> first | omega | rfl, .inl ⟨by (simp only [kS, R1, R2, R3, R4, R5, R6, R7, reduceCtorEq, R9]) <;> first | omega | rfl, rfl⟩⟩
  rintro Z c f hN hX hR ⟨i, hi, rfl, h7, h5, h2, hb, hk, h6⟩
  have bl := bsC_length hs
  by_cases hlt : i < hs.length
  · have hlt' : (i : Int) < (hs.length : Int) := by omega
    have d1 := bsC_drop hs i hlt
    have ht := classesF_take d hs i hlt
    obtain ⟨hb1, hb2⟩ := hok _ (List.getElem_mem hlt)
    have hlen := classesF_len d (hs.take i)
    have hlen2 : (hs.take i).length ≤ hs.length := by simp; omega
    generalize hs[i] = b at *
    generalize classesF d (hs.take i) = L at *
    obtain ⟨to, many⟩ := b
    have hcl := clC_length L
    cases to with
    | nil =>
      have e0 : (((0 : Nat) : Int) == 0) = true := rfl
      have ht : classesF d (hs.take (i + 1)) = L := by rw [ht]; simp [clsF]
      repeat (first | ((first | refine Q1 ?_ | refine Q2 ?_); intro Z hN hX hR) | refine Q3 (by kernel_rfl) fun K hK => ?_ | ((first | refine Q4 fun R hJ => ?_ | with_reducible change ExpAll _ _ _); simp only [kS, R1, R2, R3, R4, R5, R6, R7, reduceCtorEq, R9, h7, h5, h2, hb, hlt, hlt', d1, bl, e0, decide_true]) | (refine hJ _ ?_; clear hJ R) | refine Q5 ?_ | (refine hK _ ?_; clear hK K) | ((first | refine hN _ ?_ | refine hX _ _ ?_ | refine hR _ ?_); clear hN hX hR Z) | refine Q6 rfl ?_ | refine Q7 (by decide) ?_ | (refine Q8 ?_ ?_; focus (simp only [kS, R1, R2, R3, R4, R5, R6, R7, reduceCtorEq, R9, h7, h5, h2, hb, hlt, hlt', d1, bl, e0, decide_true]; done)) | (refine Q9 ?_ ?_; focus (simp only [kS, R1, R2, R3, R4, R5, R6, R7, reduceCtorEq, R9, h7, h5, h2, hb, hlt, hlt', d1, bl, e0, decide_true]; done)) | refine Qa ?_ | refine Qb ?_ | refine Qc ?_ | refine And.intro (by first | assumption | omega) ?_)
      refine ⟨hs.length - (i + 1), by omega, i + 1, by omega, rfl, ?_, by simp only [kS, R1, R2, R3, R4, R5, R6, R7, reduceCtorEq, R9, h5], by simp only [kS, R1, R2, R3, R4, R5, R6, R7, reduceCtorEq, R9, h2], by simp only [kS, R1, R2, R3, R4, R5, R6, R7, reduceCtorEq, R9, hb, hk, tk1, tk2, tk3, tk4, tk5, tk6, tk7, tk8, and_false, false_and], by (simp only [kS, R1, R2, R3, R4, R5, R6, R7, reduceCtorEq, R9]) <;> first | omega | rfl, ?_⟩
      · simp only [kS, R1, R2, R3, R4, R5, R6, R7, reduceCtorEq, R9]
        rw [wrap_i64 (by omega) (by omega)]; rfl
      · rw [ht]
        rcases h6 with ⟨h6, h6'⟩ | ⟨e, t, h6, hob, htk⟩
        · exact .inl ⟨by simp only [kS, R1, R2, R3, R4, R5, R6, R7, reduceCtorEq, R9, h6], h6'⟩
        · exact .inr ⟨e, t, by simp only [kS, R1, R2, R3, R4, R5, R6, R7, reduceCtorEq, R9, h6], by simp only [kS, R1, R2, R3, R4, R5, R6, R7, reduceCtorEq, R9, hob, htk, tk1, tk2, tk3, tk4, tk5, tk6, tk7, tk8, and_false, false_and], by (simp only [kS, R1, R2, R3, R4, R5, R6, R7, reduceCtorEq, R9]) <;> first | omega | rfl⟩
    | cons x r =>
      have e0 : (((r.length + 1 : Nat) : Int) == 0) = false := by rw [beq_eq_false_iff_ne]; omega
      have hx := hb1 x (by simp)
      have hin : 0 ≤ x.n ∧ x.n < d.length := by
        have := hd.1
        rcases hx with h | h
        · omega
        · exact h.1
      obtain ⟨k, n, lo, hi⟩ := x
      obtain ⟨m, rfl⟩ : ∃ m : Nat, n = m := ⟨n.toNat, by simp at hin; omega⟩
      have hm : m < d.length := by simp at hin; omega
      have hm' : (m : Int) < (d.length : Int) := by omega
      have e := ndsC_drop d m hm
      have e' := nd_get d m hm
      have hnl := ndsC_length d
      have hil := itsC_length r
      have hkr : k = 3 ∨ (k = 4 ∧ d[m].k = 9) ∨ (k = 1 ∧ (d[m].k = 2 ∨ d[m].k = 8 ∨ d[m].k = 9)) := by
        simp only [rdy, e', Bool.or_eq_true, Bool.and_eq_true, beq_iff_eq] at hb2
        rcases hx with h | ⟨_, h⟩ <;> simp only [e'] at h <;> omega
      cases k3 : (k == 3)
      · have hk3 : k ≠ 3 := by simpa using k3
        cases g2 : (d[m].k == 2)
        · have ht : classesF d (hs.take (i + 1)) = L ++ singles 256 := by
            rw [ht]; simp only [clsF, k3, e', g2, Bool.false_eq_true, if_false]
          have key : (k == 1) = false ∨ (k == 1) = true := by cases (k == 1) <;> simp
          rcases key with hk1 | hk1
          · repeat (first | ((first | refine Q1 ?_ | refine Q2 ?_); intro Z hN hX hR) | refine Q3 (by kernel_rfl) fun K hK => ?_ | ((first | refine Q4 fun R hJ => ?_ | with_reducible change ExpAll _ _ _); simp only [kS, R1, R2, R3, R4, R5, R6, R7, reduceCtorEq, R9, h7, h5, h2, hb, hlt, hlt', d1, bl, e0, hil, itsC_cons, dC, e, hm, hm', hnl, k3, hk1, decide_true, tk1, tk2, tk3, tk4, tk5, tk6, tk7, tk8, and_false, false_and]) | (refine hJ _ ?_; clear hJ R) | refine Q5 ?_ | (refine hK _ ?_; clear hK K) | ((first | refine hN _ ?_ | refine hX _ _ ?_ | refine hR _ ?_); clear hN hX hR Z) | refine Q6 rfl ?_ | refine Q7 (by decide) ?_ | (refine Q8 ?_ ?_; focus (simp only [kS, R1, R2, R3, R4, R5, R6, R7, reduceCtorEq, R9, h7, h5, h2, hb, hlt, hlt', d1, bl, e0, hil, itsC_cons, dC, e, hm, hm', hnl, k3, hk1, decide_true, tk1, tk2, tk3, tk4, tk5, tk6, tk7, tk8, and_false, false_and]; done)) | (refine Q9 ?_ ?_; focus (simp only [kS, R1, R2, R3, R4, R5, R6, R7, reduceCtorEq, R9, h7, h5, h2, hb, hlt, hlt', d1, bl, e0, hil, itsC_cons, dC, e, hm, hm', hnl, k3, hk1, decide_true, tk1, tk2, tk3, tk4, tk5, tk6, tk7, tk8, and_false, false_and]; done)) | refine Qa ?_ | refine Qb ?_ | refine Qc ?_ | refine And.intro (by first | assumption | omega) ?_)
            refine awq_loop (fun n g => ∃ j : Nat, j ≤ 256 ∧ n = 256 - j ∧ g.t 10 = iv (j : Int) ∧ g.t 7 = iv (i : Int) ∧ g.t 5 = .c (brC hs) ∧ g.t 2 = .ref 2 1 0 ∧ g.ob 2 1 = .box (dC d) ∧ 1 < g.k ∧ ((g.t 6 = .nil ∧ L ++ singles j = []) ∨ ∃ e t, g.t 6 = .tok e t (L ++ singles j).length (clC (L ++ singles j)) ∧ g.ob e t = .live 56 4 ∧ t ≤ g.k)) 256 ?_ ?_
            · refine ⟨0, by omega, rfl, by (simp only [kS, R1, R2, R3, R4, R5, R6, R7, reduceCtorEq, R9]) <;> first | omega | rfl, by simp only [kS, R1, R2, R3, R4, R5, R6, R7, reduceCtorEq, R9, h7], by simp only [kS, R1, R2, R3, R4, R5, R6, R7, reduceCtorEq, R9, h5], by simp only [kS, R1, R2, R3, R4, R5, R6, R7, reduceCtorEq, R9, h2], by simp only [kS, R1, R2, R3, R4, R5, R6, R7, reduceCtorEq, R9, hb, hk, tk1, tk2, tk3, tk4, tk5, tk6, tk7, tk8, and_false, false_and], by (simp only [kS, R1, R2, R3, R4, R5, R6, R7, reduceCtorEq, R9]) <;> first | omega | rfl, ?_⟩
              rw [show L ++ singles 0 = L by simp [singles]]
              rcases h6 with ⟨h6, h6'⟩ | ⟨e6, t6, h6, hob, htk⟩
              · exact .inl ⟨by simp only [kS, R1, R2, R3, R4, R5, R6, R7, reduceCtorEq, R9, h6], h6'⟩
              · exact .inr ⟨e6, t6, by simp only [kS, R1, R2, R3, R4, R5, R6, R7, reduceCtorEq, R9, h6], by simp only [kS, R1, R2, R3, R4, R5, R6, R7, reduceCtorEq, R9, hob, htk, tk1, tk2, tk3, tk4, tk5, tk6, tk7, tk8, and_false, false_and], by (simp only [kS, R1, R2, R3, R4, R5, R6, R7, reduceCtorEq, R9]) <;> first | omega | rfl⟩
            clear h6 h7 h5 h2 hb hk
            rintro Z n g hN hX hR ⟨j, hj, rfl, h10, h7, h5, h2, hb, hk, h6⟩
            have hjs : (singles j).length = j := singles_length j
            have hlj : (L ++ singles j).length = L.length + j := by rw [List.length_append, hjs]
            have hcj := clC_length (L ++ singles j)
            by_cases hj2 : j < 256
            · have hj2' : (j : Int) < 256 := by omega
              have hcv : IntKind.u8.wrap (j : Int) = (j : Int) := wrap_u8 hj2
              have ho := row43_ret gl hdr j j hj2 hj2
              have hsl := ws_length (rowN j j 256)
              have hsg : L ++ singles (j + 1) = (L ++ singles j) ++ [one j] := by rw [singles_succ, List.append_assoc]
              have hsn : clC [one j] = ws (rowN j j 256) := by simp [clC, one]
              generalize L ++ singles j = M at *
              rcases h6 with ⟨h6, rfl⟩ | ⟨e6, t6, h6, hob, htk⟩
              · repeat (first | ((first | refine Q1 ?_ | refine Q2 ?_); intro Z hN hX hR) | refine Q3 (by kernel_rfl) fun K hK => ?_ | ((first | refine Q4 fun R hJ => ?_ | with_reducible change ExpAll _ _ _); simp only [kS, R1, R2, R3, R4, R5, R6, R7, reduceCtorEq, R9, h10, h7, h5, h2, hb, h6, hj2', hcv, decide_true, ws_length, ws_take, tk1, tk2, tk3, tk4, tk5, tk6, tk7, tk8, and_false, false_and]) | (refine hJ _ ?_; clear hJ R) | refine Q5 ?_ | (refine hK _ ?_; clear hK K) | ((first | refine hN _ ?_ | refine hX _ _ ?_ | refine hR _ ?_); clear hN hX hR Z) | refine Q6 rfl ?_ | refine Q7 (by decide) ?_ | (refine Q8 ?_ ?_; focus (simp only [kS, R1, R2, R3, R4, R5, R6, R7, reduceCtorEq, R9, h10, h7, h5, h2, hb, h6, hj2', hcv, decide_true, ws_length, ws_take, tk1, tk2, tk3, tk4, tk5, tk6, tk7, tk8, and_false, false_and]; done)) | (refine Q9 ?_ ?_; focus (simp only [kS, R1, R2, R3, R4, R5, R6, R7, reduceCtorEq, R9, h10, h7, h5, h2, hb, h6, hj2', hcv, decide_true, ws_length, ws_take, tk1, tk2, tk3, tk4, tk5, tk6, tk7, tk8, and_false, false_and]; done)) | refine Qa ?_ | refine Qb ?_ | refine Qc ?_ | refine And.intro (by first | assumption | omega) ?_)
                refine ⟨_, ho, rfl, ?_⟩
                simp only [kS, R1, R2, R3, R4, R5, R6, R7, reduceCtorEq, R9, h10, h7, h5, h2, hb, h6, hsl, ws_length, ws_take, tk1, tk2, tk3, tk4, tk5, tk6, tk7, tk8, and_false, false_and]
                repeat (first | ((first | refine Q1 ?_ | refine Q2 ?_); intro Z hN hX hR) | refine Q3 (by kernel_rfl) fun K hK => ?_ | ((first | refine Q4 fun R hJ => ?_ | with_reducible change ExpAll _ _ _); simp only [kS, R1, R2, R3, R4, R5, R6, R7, reduceCtorEq, R9, h10, h7, h5, h2, hb, h6, hsl, ws_length, ws_take, tk1, tk2, tk3, tk4, tk5, tk6, tk7, tk8, and_false, false_and]) | (refine hJ _ ?_; clear hJ R) | refine Q5 ?_ | (refine hK _ ?_; clear hK K) | ((first | refine hN _ ?_ | refine hX _ _ ?_ | refine hR _ ?_); clear hN hX hR Z) | refine Q6 rfl ?_ | refine Q7 (by decide) ?_ | (refine Q8 ?_ ?_; focus (simp only [kS, R1, R2, R3, R4, R5, R6, R7, reduceCtorEq, R9, h10, h7, h5, h2, hb, h6, hsl, ws_length, ws_take, tk1, tk2, tk3, tk4, tk5, tk6, tk7, tk8, and_false, false_and]; done)) | (refine Q9 ?_ ?_; focus (simp only [kS, R1, R2, R3, R4, R5, R6, R7, reduceCtorEq, R9, h10, h7, h5, h2, hb, h6, hsl, ws_length, ws_take, tk1, tk2, tk3, tk4, tk5, tk6, tk7, tk8, and_false, false_and]; done)) | refine Qa ?_ | refine Qb ?_ | refine Qc ?_ | refine And.intro (by first | assumption | omega) ?_)
                refine ⟨256 - (j + 1), by omega, j + 1, by omega, rfl, ?_, by simp only [kS, R1, R2, R3, R4, R5, R6, R7, reduceCtorEq, R9, h7], by simp only [kS, R1, R2, R3, R4, R5, R6, R7, reduceCtorEq, R9, h5], by simp only [kS, R1, R2, R3, R4, R5, R6, R7, reduceCtorEq, R9, h2], by simp only [kS, R1, R2, R3, R4, R5, R6, R7, reduceCtorEq, R9, hb, hk, tk1, tk2, tk3, tk4, tk5, tk6, tk7, tk8, and_false, false_and], by (simp only [kS, R1, R2, R3, R4, R5, R6, R7, reduceCtorEq, R9]) <;> first | omega | rfl, ?_⟩
                · simp only [kS, R1, R2, R3, R4, R5, R6, R7, reduceCtorEq, R9]
                  rw [wrap_i64 (by omega) (by omega)]; rfl
                · rw [hsg]; exact .inr ⟨_, _, by simp only [kS, R1, R2, R3, R4, R5, R6, R7, reduceCtorEq, R9, clC_append, hsl, hsn, ws_length, ws_take, tk1, tk2, tk3, tk4, tk5, tk6, tk7, tk8, and_false, false_and]; exact rfl, by simp only [kS, R1, R2, R3, R4, R5, R6, R7, reduceCtorEq, R9], by (simp only [kS, R1, R2, R3, R4, R5, R6, R7, reduceCtorEq, R9]) <;> first | omega | rfl⟩
              · have hne : ¬ (2 = e6 ∧ 1 = t6) := by rintro ⟨rfl, rfl⟩; rw [hb] at hob; cases hob
                have hne' : ¬ (e6 = 2 ∧ t6 = 1) := by rintro ⟨rfl, rfl⟩; rw [hb] at hob; cases hob
                repeat (first | ((first | refine Q1 ?_ | refine Q2 ?_); intro Z hN hX hR) | refine Q3 (by kernel_rfl) fun K hK => ?_ | ((first | refine Q4 fun R hJ => ?_ | with_reducible change ExpAll _ _ _); simp only [kS, R1, R2, R3, R4, R5, R6, R7, reduceCtorEq, R9, h10, h7, h5, h2, hb, h6, hob, htk, hcj, hlj, hj2', hcv, decide_true, ws_length, ws_take, tk1, tk2, tk3, tk4, tk5, tk6, tk7, tk8, and_false, false_and]) | (refine hJ _ ?_; clear hJ R) | refine Q5 ?_ | (refine hK _ ?_; clear hK K) | ((first | refine hN _ ?_ | refine hX _ _ ?_ | refine hR _ ?_); clear hN hX hR Z) | refine Q6 rfl ?_ | refine Q7 (by decide) ?_ | (refine Q8 ?_ ?_; focus (simp only [kS, R1, R2, R3, R4, R5, R6, R7, reduceCtorEq, R9, h10, h7, h5, h2, hb, h6, hob, htk, hcj, hlj, hj2', hcv, decide_true, ws_length, ws_take, tk1, tk2, tk3, tk4, tk5, tk6, tk7, tk8, and_false, false_and]; done)) | (refine Q9 ?_ ?_; focus (simp only [kS, R1, R2, R3, R4, R5, R6, R7, reduceCtorEq, R9, h10, h7, h5, h2, hb, h6, hob, htk, hcj, hlj, hj2', hcv, decide_true, ws_length, ws_take, tk1, tk2, tk3, tk4, tk5, tk6, tk7, tk8, and_false, false_and]; done)) | refine Qa ?_ | refine Qb ?_ | refine Qc ?_ | refine And.intro (by first | assumption | omega) ?_)
                refine ⟨_, ho, rfl, ?_⟩
                simp only [kS, R1, R2, R3, R4, R5, R6, R7, reduceCtorEq, R9, h10, h7, h5, h2, hb, h6, hob, htk, hcj, hlj, hsl, ws_length, ws_take, tk1, tk2, tk3, tk4, tk5, tk6, tk7, tk8, and_false, false_and]
                repeat (first | ((first | refine Q1 ?_ | refine Q2 ?_); intro Z hN hX hR) | refine Q3 (by kernel_rfl) fun K hK => ?_ | ((first | refine Q4 fun R hJ => ?_ | with_reducible change ExpAll _ _ _); simp only [kS, R1, R2, R3, R4, R5, R6, R7, reduceCtorEq, R9, h10, h7, h5, h2, hb, h6, hob, htk, hcj, hlj, hsl, ws_length, ws_take, tk1, tk2, tk3, tk4, tk5, tk6, tk7, tk8, and_false, false_and]) | (refine hJ _ ?_; clear hJ R) | refine Q5 ?_ | (refine hK _ ?_; clear hK K) | ((first | refine hN _ ?_ | refine hX _ _ ?_ | refine hR _ ?_); clear hN hX hR Z) | refine Q6 rfl ?_ | refine Q7 (by decide) ?_ | (refine Q8 ?_ ?_; focus (simp only [kS, R1, R2, R3, R4, R5, R6, R7, reduceCtorEq, R9, h10, h7, h5, h2, hb, h6, hob, htk, hcj, hlj, hsl, ws_length, ws_take, tk1, tk2, tk3, tk4, tk5, tk6, tk7, tk8, and_false, false_and]; done)) | (refine Q9 ?_ ?_; focus (simp only [kS, R1, R2, R3, R4, R5, R6, R7, reduceCtorEq, R9, h10, h7, h5, h2, hb, h6, hob, htk, hcj, hlj, hsl, ws_length, ws_take, tk1, tk2, tk3, tk4, tk5, tk6, tk7, tk8, and_false, false_and]; done)) | refine Qa ?_ | refine Qb ?_ | refine Qc ?_ | refine And.intro (by first | assumption | omega) ?_)
                refine ⟨256 - (j + 1), by omega, j + 1, by omega, rfl, ?_, by simp only [kS, R1, R2, R3, R4, R5, R6, R7, reduceCtorEq, R9, h7], by simp only [kS, R1, R2, R3, R4, R5, R6, R7, reduceCtorEq, R9, h5], by simp only [kS, R1, R2, R3, R4, R5, R6, R7, reduceCtorEq, R9, h2], by simp only [kS, R1, R2, R3, R4, R5, R6, R7, reduceCtorEq, R9, hb, hk, hne, hne', tk1, tk2, tk3, tk4, tk5, tk6, tk7, tk8, and_false, false_and], by (simp only [kS, R1, R2, R3, R4, R5, R6, R7, reduceCtorEq, R9]) <;> first | omega | rfl, ?_⟩
                · simp only [kS, R1, R2, R3, R4, R5, R6, R7, reduceCtorEq, R9]
                  rw [wrap_i64 (by omega) (by omega)]; rfl
                · rw [hsg]; exact .inr ⟨_, _, by simp only [kS, R1, R2, R3, R4, R5, R6, R7, reduceCtorEq, R9, clC_append, hob, htk, hcj, hlj, hsl, hsn, ws_length, ws_take, tk1, tk2, tk3, tk4, tk5, tk6, tk7, tk8, and_false, false_and]; exact rfl, by simp only [kS, R1, R2, R3, R4, R5, R6, R7, reduceCtorEq, R9], by (simp only [kS, R1, R2, R3, R4, R5, R6, R7, reduceCtorEq, R9]) <;> first | omega | rfl⟩
            · have hj2' : ¬ (j : Int) < 256 := by omega
              have hj256 : j = 256 := by omega
              rw [hj256, ← ht] at h6
              repeat (first | ((first | refine Q1 ?_ | refine Q2 ?_); intro Z hN hX hR) | refine Q3 (by kernel_rfl) fun K hK => ?_ | ((first | refine Q4 fun R hJ => ?_ | with_reducible change ExpAll _ _ _); simp only [kS, R1, R2, R3, R4, R5, R6, R7, reduceCtorEq, R9, h10, h7, h5, h2, hb, hj2', decide_false]) | (refine hJ _ ?_; clear hJ R) | refine Q5 ?_ | (refine hK _ ?_; clear hK K) | ((first | refine hN _ ?_ | refine hX _ _ ?_ | refine hR _ ?_); clear hN hX hR Z) | refine Q6 rfl ?_ | refine Q7 (by decide) ?_ | (refine Q8 ?_ ?_; focus (simp only [kS, R1, R2, R3, R4, R5, R6, R7, reduceCtorEq, R9, h10, h7, h5, h2, hb, hj2', decide_false]; done)) | (refine Q9 ?_ ?_; focus (simp only [kS, R1, R2, R3, R4, R5, R6, R7, reduceCtorEq, R9, h10, h7, h5, h2, hb, hj2', decide_false]; done)) | refine Qa ?_ | refine Qb ?_ | refine Qc ?_ | refine And.intro (by first | assumption | omega) ?_)
              refine ⟨hs.length - (i + 1), by omega, i + 1, by omega, rfl, ?_, by simp only [kS, R1, R2, R3, R4, R5, R6, R7, reduceCtorEq, R9, h5], by simp only [kS, R1, R2, R3, R4, R5, R6, R7, reduceCtorEq, R9, h2], by simp only [kS, R1, R2, R3, R4, R5, R6, R7, reduceCtorEq, R9, hb], by (simp only [kS, R1, R2, R3, R4, R5, R6, R7, reduceCtorEq, R9]) <;> first | omega | rfl, ?_⟩
              · simp only [kS, R1, R2, R3, R4, R5, R6, R7, reduceCtorEq, R9]
                rw [wrap_i64 (by omega) (by omega)]; rfl
              · rcases h6 with ⟨h6, h6'⟩ | ⟨e6, t6, h6, hob, htk⟩
                · exact .inl ⟨by simp only [kS, R1, R2, R3, R4, R5, R6, R7, reduceCtorEq, R9, h6], h6'⟩
                · exact .inr ⟨e6, t6, by simp only [kS, R1, R2, R3, R4, R5, R6, R7, reduceCtorEq, R9, h6], by simp only [kS, R1, R2, R3, R4, R5, R6, R7, reduceCtorEq, R9, hob, htk, tk1, tk2, tk3, tk4, tk5, tk6, tk7, tk8, and_false, false_and], by (simp only [kS, R1, R2, R3, R4, R5, R6, R7, reduceCtorEq, R9]) <;> first | omega | rfl⟩
          · repeat (first | ((first | refine Q1 ?_ | refine Q2 ?_); intro Z hN hX hR) | refine Q3 (by kernel_rfl) fun K hK => ?_ | ((first | refine Q4 fun R hJ => ?_ | with_reducible change ExpAll _ _ _); simp only [kS, R1, R2, R3, R4, R5, R6, R7, reduceCtorEq, R9, h7, h5, h2, hb, hlt, hlt', d1, bl, e0, hil, itsC_cons, dC, e, hm, hm', hnl, k3, hk1, g2, decide_true, tk1, tk2, tk3, tk4, tk5, tk6, tk7, tk8, and_false, false_and]) | (refine hJ _ ?_; clear hJ R) | refine Q5 ?_ | (refine hK _ ?_; clear hK K) | ((first | refine hN _ ?_ | refine hX _ _ ?_ | refine hR _ ?_); clear hN hX hR Z) | refine Q6 rfl ?_ | refine Q7 (by decide) ?_ | (refine Q8 ?_ ?_; focus (simp only [kS, R1, R2, R3, R4, R5, R6, R7, reduceCtorEq, R9, h7, h5, h2, hb, hlt, hlt', d1, bl, e0, hil, itsC_cons, dC, e, hm, hm', hnl, k3, hk1, g2, decide_true, tk1, tk2, tk3, tk4, tk5, tk6, tk7, tk8, and_false, false_and]; done)) | (refine Q9 ?_ ?_; focus (simp only [kS, R1, R2, R3, R4, R5, R6, R7, reduceCtorEq, R9, h7, h5, h2, hb, hlt, hlt', d1, bl, e0, hil, itsC_cons, dC, e, hm, hm', hnl, k3, hk1, g2, decide_true, tk1, tk2, tk3, tk4, tk5, tk6, tk7, tk8, and_false, false_and]; done)) | refine Qa ?_ | refine Qb ?_ | refine Qc ?_ | refine And.intro (by first | assumption | omega) ?_)
            refine awq_loop (fun n g => ∃ j : Nat, j ≤ 256 ∧ n = 256 - j ∧ g.t 10 = iv (j : Int) ∧ g.t 7 = iv (i : Int) ∧ g.t 5 = .c (brC hs) ∧ g.t 2 = .ref 2 1 0 ∧ g.ob 2 1 = .box (dC d) ∧ 1 < g.k ∧ ((g.t 6 = .nil ∧ L ++ singles j = []) ∨ ∃ e t, g.t 6 = .tok e t (L ++ singles j).length (clC (L ++ singles j)) ∧ g.ob e t = .live 56 4 ∧ t ≤ g.k)) 256 ?_ ?_
            · refine ⟨0, by omega, rfl, by (simp only [kS, R1, R2, R3, R4, R5, R6, R7, reduceCtorEq, R9]) <;> first | omega | rfl, by simp only [kS, R1, R2, R3, R4, R5, R6, R7, reduceCtorEq, R9, h7], by simp only [kS, R1, R2, R3, R4, R5, R6, R7, reduceCtorEq, R9, h5], by simp only [kS, R1, R2, R3, R4, R5, R6, R7, reduceCtorEq, R9, h2], by simp only [kS, R1, R2, R3, R4, R5, R6, R7, reduceCtorEq, R9, hb, hk, tk1, tk2, tk3, tk4, tk5, tk6, tk7, tk8, and_false, false_and], by (simp only [kS, R1, R2, R3, R4, R5, R6, R7, reduceCtorEq, R9]) <;> first | omega | rfl, ?_⟩
              rw [show L ++ singles 0 = L by simp [singles]]
              rcases h6 with ⟨h6, h6'⟩ | ⟨e6, t6, h6, hob, htk⟩
              · exact .inl ⟨by simp only [kS, R1, R2, R3, R4, R5, R6, R7, reduceCtorEq, R9, h6], h6'⟩
              · exact .inr ⟨e6, t6, by simp only [kS, R1, R2, R3, R4, R5, R6, R7, reduceCtorEq, R9, h6], by simp only [kS, R1, R2, R3, R4, R5, R6, R7, reduceCtorEq, R9, hob, htk, tk1, tk2, tk3, tk4, tk5, tk6, tk7, tk8, and_false, false_and], by (simp only [kS, R1, R2, R3, R4, R5, R6, R7, reduceCtorEq, R9]) <;> first | omega | rfl⟩
            clear h6 h7 h5 h2 hb hk
            rintro Z n g hN hX hR ⟨j, hj, rfl, h10, h7, h5, h2, hb, hk, h6⟩
            have hjs : (singles j).length = j := singles_length j
            have hlj : (L ++ singles j).length = L.length + j := by rw [List.length_append, hjs]
            have hcj := clC_length (L ++ singles j)
            by_cases hj2 : j < 256
            · have hj2' : (j : Int) < 256 := by omega
              have hcv : IntKind.u8.wrap (j : Int) = (j : Int) := wrap_u8 hj2
              have ho := row43_ret gl hdr j j hj2 hj2
              have hsl := ws_length (rowN j j 256)
              have hsg : L ++ singles (j + 1) = (L ++ singles j) ++ [one j] := by rw [singles_succ, List.append_assoc]
              have hsn : clC [one j] = ws (rowN j j 256) := by simp [clC, one]
              generalize L ++ singles j = M at *
              rcases h6 with ⟨h6, rfl⟩ | ⟨e6, t6, h6, hob, htk⟩
              · repeat (first | ((first | refine Q1 ?_ | refine Q2 ?_); intro Z hN hX hR) | refine Q3 (by kernel_rfl) fun K hK => ?_ | ((first | refine Q4 fun R hJ => ?_ | with_reducible change ExpAll _ _ _); simp only [kS, R1, R2, R3, R4, R5, R6, R7, reduceCtorEq, R9, h10, h7, h5, h2, hb, h6, hj2', hcv, decide_true, ws_length, ws_take, tk1, tk2, tk3, tk4, tk5, tk6, tk7, tk8, and_false, false_and]) | (refine hJ _ ?_; clear hJ R) | refine Q5 ?_ | (refine hK _ ?_; clear hK K) | ((first | refine hN _ ?_ | refine hX _ _ ?_ | refine hR _ ?_); clear hN hX hR Z) | refine Q6 rfl ?_ | refine Q7 (by decide) ?_ | (refine Q8 ?_ ?_; focus (simp only [kS, R1, R2, R3, R4, R5, R6, R7, reduceCtorEq, R9, h10, h7, h5, h2, hb, h6, hj2', hcv, decide_true, ws_length, ws_take, tk1, tk2, tk3, tk4, tk5, tk6, tk7, tk8, and_false, false_and]; done)) | (refine Q9 ?_ ?_; focus (simp only [kS, R1, R2, R3, R4, R5, R6, R7, reduceCtorEq, R9, h10, h7, h5, h2, hb, h6, hj2', hcv, decide_true, ws_length, ws_take, tk1, tk2, tk3, tk4, tk5, tk6, tk7, tk8, and_false, false_and]; done)) | refine Qa ?_ | refine Qb ?_ | refine Qc ?_ | refine And.intro (by first | assumption | omega) ?_)
                refine ⟨_, ho, rfl, ?_⟩
                simp only [kS, R1, R2, R3, R4, R5, R6, R7, reduceCtorEq, R9, h10, h7, h5, h2, hb, h6, hsl, ws_length, ws_take, tk1, tk2, tk3, tk4, tk5, tk6, tk7, tk8, and_false, false_and]
                repeat (first | ((first | refine Q1 ?_ | refine Q2 ?_); intro Z hN hX hR) | refine Q3 (by kernel_rfl) fun K hK => ?_ | ((first | refine Q4 fun R hJ => ?_ | with_reducible change ExpAll _ _ _); simp only [kS, R1, R2, R3, R4, R5, R6, R7, reduceCtorEq, R9, h10, h7, h5, h2, hb, h6, hsl, ws_length, ws_take, tk1, tk2, tk3, tk4, tk5, tk6, tk7, tk8, and_false, false_and]) | (refine hJ _ ?_; clear hJ R) | refine Q5 ?_ | (refine hK _ ?_; clear hK K) | ((first | refine hN _ ?_ | refine hX _ _ ?_ | refine hR _ ?_); clear hN hX hR Z) | refine Q6 rfl ?_ | refine Q7 (by decide) ?_ | (refine Q8 ?_ ?_; focus (simp only [kS, R1, R2, R3, R4, R5, R6, R7, reduceCtorEq, R9, h10, h7, h5, h2, hb, h6, hsl, ws_length, ws_take, tk1, tk2, tk3, tk4, tk5, tk6, tk7, tk8, and_false, false_and]; done)) | (refine Q9 ?_ ?_; focus (simp only [kS, R1, R2, R3, R4, R5, R6, R7, reduceCtorEq, R9, h10, h7, h5, h2, hb, h6, hsl, ws_length, ws_take, tk1, tk2, tk3, tk4, tk5, tk6, tk7, tk8, and_false, false_and]; done)) | refine Qa ?_ | refine Qb ?_ | refine Qc ?_ | refine And.intro (by first | assumption | omega) ?_)
                refine ⟨256 - (j + 1), by omega, j + 1, by omega, rfl, ?_, by simp only [kS, R1, R2, R3, R4, R5, R6, R7, reduceCtorEq, R9, h7], by simp only [kS, R1, R2, R3, R4, R5, R6, R7, reduceCtorEq, R9, h5], by simp only [kS, R1, R2, R3, R4, R5, R6, R7, reduceCtorEq, R9, h2], by simp only [kS, R1, R2, R3, R4, R5, R6, R7, reduceCtorEq, R9, hb, hk, tk1, tk2, tk3, tk4, tk5, tk6, tk7, tk8, and_false, false_and], by (simp only [kS, R1, R2, R3, R4, R5, R6, R7, reduceCtorEq, R9]) <;> first | omega | rfl, ?_⟩
                · simp only [kS, R1, R2, R3, R4, R5, R6, R7, reduceCtorEq, R9]
                  rw [wrap_i64 (by omega) (by omega)]; rfl
                · rw [hsg]; exact .inr ⟨_, _, by simp only [kS, R1, R2, R3, R4, R5, R6, R7, reduceCtorEq, R9, clC_append, hsl, hsn, ws_length, ws_take, tk1, tk2, tk3, tk4, tk5, tk6, tk7, tk8, and_false, false_and]; exact rfl, by simp only [kS, R1, R2, R3, R4, R5, R6, R7, reduceCtorEq, R9], by (simp only [kS, R1, R2, R3, R4, R5, R6, R7, reduceCtorEq, R9]) <;> first | omega | rfl⟩
              · have hne : ¬ (2 = e6 ∧ 1 = t6) := by rintro ⟨rfl, rfl⟩; rw [hb] at hob; cases hob
                have hne' : ¬ (e6 = 2 ∧ t6 = 1) := by rintro ⟨rfl, rfl⟩; rw [hb] at hob; cases hob
                repeat (first | ((first | refine Q1 ?_ | refine Q2 ?_); intro Z hN hX hR) | refine Q3 (by kernel_rfl) fun K hK => ?_ | ((first | refine Q4 fun R hJ => ?_ | with_reducible change ExpAll _ _ _); simp only [kS, R1, R2, R3, R4, R5, R6, R7, reduceCtorEq, R9, h10, h7, h5, h2, hb, h6, hob, htk, hcj, hlj, hj2', hcv, decide_true, ws_length, ws_take, tk1, tk2, tk3, tk4, tk5, tk6, tk7, tk8, and_false, false_and]) | (refine hJ _ ?_; clear hJ R) | refine Q5 ?_ | (refine hK _ ?_; clear hK K) | ((first | refine hN _ ?_ | refine hX _ _ ?_ | refine hR _ ?_); clear hN hX hR Z) | refine Q6 rfl ?_ | refine Q7 (by decide) ?_ | (refine Q8 ?_ ?_; focus (simp only [kS, R1, R2, R3, R4, R5, R6, R7, reduceCtorEq, R9, h10, h7, h5, h2, hb, h6, hob, htk, hcj, hlj, hj2', hcv, decide_true, ws_length, ws_take, tk1, tk2, tk3, tk4, tk5, tk6, tk7, tk8, and_false, false_and]; done)) | (refine Q9 ?_ ?_; focus (simp only [kS, R1, R2, R3, R4, R5, R6, R7, reduceCtorEq, R9, h10, h7, h5, h2, hb, h6, hob, htk, hcj, hlj, hj2', hcv, decide_true, ws_length, ws_take, tk1, tk2, tk3, tk4, tk5, tk6, tk7, tk8, and_false, false_and]; done)) | refine Qa ?_ | refine Qb ?_ | refine Qc ?_ | refine And.intro (by first | assumption | omega) ?_)
                refine ⟨_, ho, rfl, ?_⟩
                simp only [kS, R1, R2, R3, R4, R5, R6, R7, reduceCtorEq, R9, h10, h7, h5, h2, hb, h6, hob, htk, hcj, hlj, hsl, ws_length, ws_take, tk1, tk2, tk3, tk4, tk5, tk6, tk7, tk8, and_false, false_and]
                repeat (first | ((first | refine Q1 ?_ | refine Q2 ?_); intro Z hN hX hR) | refine Q3 (by kernel_rfl) fun K hK => ?_ | ((first | refine Q4 fun R hJ => ?_ | with_reducible change ExpAll _ _ _); simp only [kS, R1, R2, R3, R4, R5, R6, R7, reduceCtorEq, R9, h10, h7, h5, h2, hb, h6, hob, htk, hcj, hlj, hsl, ws_length, ws_take, tk1, tk2, tk3, tk4, tk5, tk6, tk7, tk8, and_false, false_and]) | (refine hJ _ ?_; clear hJ R) | refine Q5 ?_ | (refine hK _ ?_; clear hK K) | ((first | refine hN _ ?_ | refine hX _ _ ?_ | refine hR _ ?_); clear hN hX hR Z) | refine Q6 rfl ?_ | refine Q7 (by decide) ?_ | (refine Q8 ?_ ?_; focus (simp only [kS, R1, R2, R3, R4, R5, R6, R7, reduceCtorEq, R9, h10, h7, h5, h2, hb, h6, hob, htk, hcj, hlj, hsl, ws_length, ws_take, tk1, tk2, tk3, tk4, tk5, tk6, tk7, tk8, and_false, false_and]; done)) | (refine Q9 ?_ ?_; focus (simp only [kS, R1, R2, R3, R4, R5, R6, R7, reduceCtorEq, R9, h10, h7, h5, h2, hb, h6, hob, htk, hcj, hlj, hsl, ws_length, ws_take, tk1, tk2, tk3, tk4, tk5, tk6, tk7, tk8, and_false, false_and]; done)) | refine Qa ?_ | refine Qb ?_ | refine Qc ?_ | refine And.intro (by first | assumption | omega) ?_)
                refine ⟨256 - (j + 1), by omega, j + 1, by omega, rfl, ?_, by simp only [kS, R1, R2, R3, R4, R5, R6, R7, reduceCtorEq, R9, h7], by simp only [kS, R1, R2, R3, R4, R5, R6, R7, reduceCtorEq, R9, h5], by simp only [kS, R1, R2, R3, R4, R5, R6, R7, reduceCtorEq, R9, h2], by simp only [kS, R1, R2, R3, R4, R5, R6, R7, reduceCtorEq, R9, hb, hk, hne, hne', tk1, tk2, tk3, tk4, tk5, tk6, tk7, tk8, and_false, false_and], by (simp only [kS, R1, R2, R3, R4, R5, R6, R7, reduceCtorEq, R9]) <;> first | omega | rfl, ?_⟩
                · simp only [kS, R1, R2, R3, R4, R5, R6, R7, reduceCtorEq, R9]
                  rw [wrap_i64 (by omega) (by omega)]; rfl
                · rw [hsg]; exact .inr ⟨_, _, by simp only [kS, R1, R2, R3, R4, R5, R6, R7, reduceCtorEq, R9, clC_append, hob, htk, hcj, hlj, hsl, hsn, ws_length, ws_take, tk1, tk2, tk3, tk4, tk5, tk6, tk7, tk8, and_false, false_and]; exact rfl, by simp only [kS, R1, R2, R3, R4, R5, R6, R7, reduceCtorEq, R9], by (simp only [kS, R1, R2, R3, R4, R5, R6, R7, reduceCtorEq, R9]) <;> first | omega | rfl⟩
            · have hj2' : ¬ (j : Int) < 256 := by omega
              have hj256 : j = 256 := by omega
              rw [hj256, ← ht] at h6
              repeat (first | ((first | refine Q1 ?_ | refine Q2 ?_); intro Z hN hX hR) | refine Q3 (by kernel_rfl) fun K hK => ?_ | ((first | refine Q4 fun R hJ => ?_ | with_reducible change ExpAll _ _ _); simp only [kS, R1, R2, R3, R4, R5, R6, R7, reduceCtorEq, R9, h10, h7, h5, h2, hb, hj2', decide_false]) | (refine hJ _ ?_; clear hJ R) | refine Q5 ?_ | (refine hK _ ?_; clear hK K) | ((first | refine hN _ ?_ | refine hX _ _ ?_ | refine hR _ ?_); clear hN hX hR Z) | refine Q6 rfl ?_ | refine Q7 (by decide) ?_ | (refine Q8 ?_ ?_; focus (simp only [kS, R1, R2, R3, R4, R5, R6, R7, reduceCtorEq, R9, h10, h7, h5, h2, hb, hj2', decide_false]; done)) | (refine Q9 ?_ ?_; focus (simp only [kS, R1, R2, R3, R4, R5, R6, R7, reduceCtorEq, R9, h10, h7, h5, h2, hb, hj2', decide_false]; done)) | refine Qa ?_ | refine Qb ?_ | refine Qc ?_ | refine And.intro (by first | assumption | omega) ?_)
              refine ⟨hs.length - (i + 1), by omega, i + 1, by omega, rfl, ?_, by simp only [kS, R1, R2, R3, R4, R5, R6, R7, reduceCtorEq, R9, h5], by simp only [kS, R1, R2, R3, R4, R5, R6, R7, reduceCtorEq, R9, h2], by simp only [kS, R1, R2, R3, R4, R5, R6, R7, reduceCtorEq, R9, hb], by (simp only [kS, R1, R2, R3, R4, R5, R6, R7, reduceCtorEq, R9]) <;> first | omega | rfl, ?_⟩
              · simp only [kS, R1, R2, R3, R4, R5, R6, R7, reduceCtorEq, R9]
                rw [wrap_i64 (by omega) (by omega)]; rfl
              · rcases h6 with ⟨h6, h6'⟩ | ⟨e6, t6, h6, hob, htk⟩
                · exact .inl ⟨by simp only [kS, R1, R2, R3, R4, R5, R6, R7, reduceCtorEq, R9, h6], h6'⟩
                · exact .inr ⟨e6, t6, by simp only [kS, R1, R2, R3, R4, R5, R6, R7, reduceCtorEq, R9, h6], by simp only [kS, R1, R2, R3, R4, R5, R6, R7, reduceCtorEq, R9, hob, htk, tk1, tk2, tk3, tk4, tk5, tk6, tk7, tk8, and_false, false_and], by (simp only [kS, R1, R2, R3, R4, R5, R6, R7, reduceCtorEq, R9]) <;> first | omega | rfl⟩
        · have hk1 : (k == 1) = true := by
            have : d[m].k = 2 := by simpa using g2
            have : k = 1 := by omega
            simpa using this
          have ht : classesF d (hs.take (i + 1)) = L ++ [d[m].g] := by
            rw [ht]; simp only [clsF, k3, e', g2, Bool.false_eq_true, if_false, if_true]
          have hw := (hcw d[m] (List.getElem_mem hm)).ws
          have hsl := ws_length d[m].g
          have hsn : clC [d[m].g] = ws d[m].g := by simp [clC]
          rcases h6 with ⟨h6, rfl⟩ | ⟨e6, t6, h6, hob, htk⟩
          · repeat (first | ((first | refine Q1 ?_ | refine Q2 ?_); intro Z hN hX hR) | refine Q3 (by kernel_rfl) fun K hK => ?_ | ((first | refine Q4 fun R hJ => ?_ | with_reducible change ExpAll _ _ _); simp only [kS, R1, R2, R3, R4, R5, R6, R7, reduceCtorEq, R9, h7, h5, h2, hb, h6, hlt, hlt', d1, bl, e0, hil, itsC_cons, dC, e, hm, hm', hnl, k3, g2, hk1, decide_true, tk1, tk2, tk3, tk4, tk5, tk6, tk7, tk8, and_false, false_and]) | (refine hJ _ ?_; clear hJ R) | refine Q5 ?_ | (refine hK _ ?_; clear hK K) | ((first | refine hN _ ?_ | refine hX _ _ ?_ | refine hR _ ?_); clear hN hX hR Z) | refine Q6 rfl ?_ | refine Q7 (by decide) ?_ | (refine Q8 ?_ ?_; focus (simp only [kS, R1, R2, R3, R4, R5, R6, R7, reduceCtorEq, R9, h7, h5, h2, hb, h6, hlt, hlt', d1, bl, e0, hil, itsC_cons, dC, e, hm, hm', hnl, k3, g2, hk1, decide_true, tk1, tk2, tk3, tk4, tk5, tk6, tk7, tk8, and_false, false_and]; done)) | (refine Q9 ?_ ?_; focus (simp only [kS, R1, R2, R3, R4, R5, R6, R7, reduceCtorEq, R9, h7, h5, h2, hb, h6, hlt, hlt', d1, bl, e0, hil, itsC_cons, dC, e, hm, hm', hnl, k3, g2, hk1, decide_true, tk1, tk2, tk3, tk4, tk5, tk6, tk7, tk8, and_false, false_and]; done)) | refine Qa ?_ | refine Qb ?_ | refine Qc ?_ | refine And.intro (by first | assumption | omega) ?_)
            refine ⟨hs.length - (i + 1), by omega, i + 1, by omega, rfl, ?_, by simp only [kS, R1, R2, R3, R4, R5, R6, R7, reduceCtorEq, R9, h5], by simp only [kS, R1, R2, R3, R4, R5, R6, R7, reduceCtorEq, R9, h2], by simp only [kS, R1, R2, R3, R4, R5, R6, R7, reduceCtorEq, R9, hb, hk, tk1, tk2, tk3, tk4, tk5, tk6, tk7, tk8, and_false, false_and], by (simp only [kS, R1, R2, R3, R4, R5, R6, R7, reduceCtorEq, R9]) <;> first | omega | rfl, ?_⟩
            · simp only [kS, R1, R2, R3, R4, R5, R6, R7, reduceCtorEq, R9]
              rw [wrap_i64 (by omega) (by omega)]; rfl
            · rw [ht]; exact .inr ⟨_, _, by simp only [kS, R1, R2, R3, R4, R5, R6, R7, reduceCtorEq, R9, clC_append, hsl, hsn, hw, ws_length, ws_take, tk1, tk2, tk3, tk4, tk5, tk6, tk7, tk8, and_false, false_and]; exact rfl, by simp only [kS, R1, R2, R3, R4, R5, R6, R7, reduceCtorEq, R9], by (simp only [kS, R1, R2, R3, R4, R5, R6, R7, reduceCtorEq, R9]) <;> first | omega | rfl⟩
          · have hne : ¬ (2 = e6 ∧ 1 = t6) := by rintro ⟨rfl, rfl⟩; rw [hb] at hob; cases hob
            have hne' : ¬ (e6 = 2 ∧ t6 = 1) := by rintro ⟨rfl, rfl⟩; rw [hb] at hob; cases hob
            repeat (first | ((first | refine Q1 ?_ | refine Q2 ?_); intro Z hN hX hR) | refine Q3 (by kernel_rfl) fun K hK => ?_ | ((first | refine Q4 fun R hJ => ?_ | with_reducible change ExpAll _ _ _); simp only [kS, R1, R2, R3, R4, R5, R6, R7, reduceCtorEq, R9, h7, h5, h2, hb, h6, hob, htk, hcl, hlt, hlt', d1, bl, e0, hil, itsC_cons, dC, e, hm, hm', hnl, k3, g2, hk1, decide_true, tk1, tk2, tk3, tk4, tk5, tk6, tk7, tk8, and_false, false_and]) | (refine hJ _ ?_; clear hJ R) | refine Q5 ?_ | (refine hK _ ?_; clear hK K) | ((first | refine hN _ ?_ | refine hX _ _ ?_ | refine hR _ ?_); clear hN hX hR Z) | refine Q6 rfl ?_ | refine Q7 (by decide) ?_ | (refine Q8 ?_ ?_; focus (simp only [kS, R1, R2, R3, R4, R5, R6, R7, reduceCtorEq, R9, h7, h5, h2, hb, h6, hob, htk, hcl, hlt, hlt', d1, bl, e0, hil, itsC_cons, dC, e, hm, hm', hnl, k3, g2, hk1, decide_true, tk1, tk2, tk3, tk4, tk5, tk6, tk7, tk8, and_false, false_and]; done)) | (refine Q9 ?_ ?_; focus (simp only [kS, R1, R2, R3, R4, R5, R6, R7, reduceCtorEq, R9, h7, h5, h2, hb, h6, hob, htk, hcl, hlt, hlt', d1, bl, e0, hil, itsC_cons, dC, e, hm, hm', hnl, k3, g2, hk1, decide_true, tk1, tk2, tk3, tk4, tk5, tk6, tk7, tk8, and_false, false_and]; done)) | refine Qa ?_ | refine Qb ?_ | refine Qc ?_ | refine And.intro (by first | assumption | omega) ?_)
            refine ⟨hs.length - (i + 1), by omega, i + 1, by omega, rfl, ?_, by simp only [kS, R1, R2, R3, R4, R5, R6, R7, reduceCtorEq, R9, h5], by simp only [kS, R1, R2, R3, R4, R5, R6, R7, reduceCtorEq, R9, h2], by simp only [kS, R1, R2, R3, R4, R5, R6, R7, reduceCtorEq, R9, hb, hk, hne, hne', tk1, tk2, tk3, tk4, tk5, tk6, tk7, tk8, and_false, false_and], by (simp only [kS, R1, R2, R3, R4, R5, R6, R7, reduceCtorEq, R9]) <;> first | omega | rfl, ?_⟩
            · simp only [kS, R1, R2, R3, R4, R5, R6, R7, reduceCtorEq, R9]
              rw [wrap_i64 (by omega) (by omega)]; rfl
            · rw [ht]; exact .inr ⟨_, _, by simp only [kS, R1, R2, R3, R4, R5, R6, R7, reduceCtorEq, R9, clC_append, hob, htk, hcl, hsl, hsn, hw, ws_length, ws_take, tk1, tk2, tk3, tk4, tk5, tk6, tk7, tk8, and_false, false_and]; exact rfl, by simp only [kS, R1, R2, R3, R4, R5, R6, R7, reduceCtorEq, R9], by (simp only [kS, R1, R2, R3, R4, R5, R6, R7, reduceCtorEq, R9]) <;> first | omega | rfl⟩
      · have ht : classesF d (hs.take (i + 1)) = L ++ [one (bAt d[m].s lo).toNat] := by
          rw [ht]; simp only [clsF, k3, e', if_true]
        have hlo : 0 ≤ lo ∧ lo < d[m].s.size := by
          have k3' : k = 3 := by simpa using k3
          rcases hx with h | ⟨_, h | h | h | h⟩ <;> simp only at h
          · omega
          · omega
          · omega
          · rw [e'] at h; exact ⟨h.2.2.2.1, h.2.2.2.2⟩
          · omega
        obtain ⟨lo1, lo2⟩ := hlo
        obtain ⟨b1, b2⟩ := bAt_r d[m].s lo
        have hbt : bAt d[m].s lo = (((bAt d[m].s lo).toNat : Nat) : Int) := by omega
        have ho := row43_ret gl hdr (bAt d[m].s lo).toNat (bAt d[m].s lo).toNat (by omega) (by omega)
        rw [← hbt] at ho
        have hsl := ws_length (rowN (bAt d[m].s lo).toNat (bAt d[m].s lo).toNat 256)
        have hsn : clC [one (bAt d[m].s lo).toNat] = ws (rowN (bAt d[m].s lo).toNat (bAt d[m].s lo).toNat 256) := by simp [clC, one]
        rcases h6 with ⟨h6, rfl⟩ | ⟨e6, t6, h6, hob, htk⟩
        · repeat (first | ((first | refine Q1 ?_ | refine Q2 ?_); intro Z hN hX hR) | refine Q3 (by kernel_rfl) fun K hK => ?_ | ((first | refine Q4 fun R hJ => ?_ | with_reducible change ExpAll _ _ _); simp only [kS, R1, R2, R3, R4, R5, R6, R7, reduceCtorEq, R9, h7, h5, h2, hb, h6, hlt, hlt', d1, bl, e0, hil, itsC_cons, dC, e, hm, hm', hnl, k3, lo1, lo2, decide_true, tk1, tk2, tk3, tk4, tk5, tk6, tk7, tk8, and_false, false_and]) | (refine hJ _ ?_; clear hJ R) | refine Q5 ?_ | (refine hK _ ?_; clear hK K) | ((first | refine hN _ ?_ | refine hX _ _ ?_ | refine hR _ ?_); clear hN hX hR Z) | refine Q6 rfl ?_ | refine Q7 (by decide) ?_ | (refine Q8 ?_ ?_; focus (simp only [kS, R1, R2, R3, R4, R5, R6, R7, reduceCtorEq, R9, h7, h5, h2, hb, h6, hlt, hlt', d1, bl, e0, hil, itsC_cons, dC, e, hm, hm', hnl, k3, lo1, lo2, decide_true, tk1, tk2, tk3, tk4, tk5, tk6, tk7, tk8, and_false, false_and]; done)) | (refine Q9 ?_ ?_; focus (simp only [kS, R1, R2, R3, R4, R5, R6, R7, reduceCtorEq, R9, h7, h5, h2, hb, h6, hlt, hlt', d1, bl, e0, hil, itsC_cons, dC, e, hm, hm', hnl, k3, lo1, lo2, decide_true, tk1, tk2, tk3, tk4, tk5, tk6, tk7, tk8, and_false, false_and]; done)) | refine Qa ?_ | refine Qb ?_ | refine Qc ?_ | refine And.intro (by first | assumption | omega) ?_)
          refine ⟨_, ho, rfl, ?_⟩
          simp only [kS, R1, R2, R3, R4, R5, R6, R7, reduceCtorEq, R9, h7, h5, h2, hb, h6, hsl, hsn, ws_length, ws_take, tk1, tk2, tk3, tk4, tk5, tk6, tk7, tk8, and_false, false_and]
          repeat (first | ((first | refine Q1 ?_ | refine Q2 ?_); intro Z hN hX hR) | refine Q3 (by kernel_rfl) fun K hK => ?_ | ((first | refine Q4 fun R hJ => ?_ | with_reducible change ExpAll _ _ _); simp only [kS, R1, R2, R3, R4, R5, R6, R7, reduceCtorEq, R9, h7, h5, h2, hb, h6, hsl, hsn, ws_length, ws_take, tk1, tk2, tk3, tk4, tk5, tk6, tk7, tk8, and_false, false_and]) | (refine hJ _ ?_; clear hJ R) | refine Q5 ?_ | (refine hK _ ?_; clear hK K) | ((first | refine hN _ ?_ | refine hX _ _ ?_ | refine hR _ ?_); clear hN hX hR Z) | refine Q6 rfl ?_ | refine Q7 (by decide) ?_ | (refine Q8 ?_ ?_; focus (simp only [kS, R1, R2, R3, R4, R5, R6, R7, reduceCtorEq, R9, h7, h5, h2, hb, h6, hsl, hsn, ws_length, ws_take, tk1, tk2, tk3, tk4, tk5, tk6, tk7, tk8, and_false, false_and]; done)) | (refine Q9 ?_ ?_; focus (simp only [kS, R1, R2, R3, R4, R5, R6, R7, reduceCtorEq, R9, h7, h5, h2, hb, h6, hsl, hsn, ws_length, ws_take, tk1, tk2, tk3, tk4, tk5, tk6, tk7, tk8, and_false, false_and]; done)) | refine Qa ?_ | refine Qb ?_ | refine Qc ?_ | refine And.intro (by first | assumption | omega) ?_)
          refine ⟨hs.length - (i + 1), by omega, i + 1, by omega, rfl, ?_, by simp only [kS, R1, R2, R3, R4, R5, R6, R7, reduceCtorEq, R9, h5], by simp only [kS, R1, R2, R3, R4, R5, R6, R7, reduceCtorEq, R9, h2], by simp only [kS, R1, R2, R3, R4, R5, R6, R7, reduceCtorEq, R9, hb, hk, tk1, tk2, tk3, tk4, tk5, tk6, tk7, tk8, and_false, false_and], by (simp only [kS, R1, R2, R3, R4, R5, R6, R7, reduceCtorEq, R9]) <;> first | omega | rfl, ?_⟩
          · simp only [kS, R1, R2, R3, R4, R5, R6, R7, reduceCtorEq, R9]
            rw [wrap_i64 (by omega) (by omega)]; rfl
          · rw [ht]; exact .inr ⟨_, _, by simp only [kS, R1, R2, R3, R4, R5, R6, R7, reduceCtorEq, R9, clC_append, hsl, hsn, ws_length, ws_take, tk1, tk2, tk3, tk4, tk5, tk6, tk7, tk8, and_false, false_and]; exact rfl, by simp only [kS, R1, R2, R3, R4, R5, R6, R7, reduceCtorEq, R9], by (simp only [kS, R1, R2, R3, R4, R5, R6, R7, reduceCtorEq, R9]) <;> first | omega | rfl⟩
        · have hne : ¬ (2 = e6 ∧ 1 = t6) := by rintro ⟨rfl, rfl⟩; rw [hb] at hob; cases hob
          have hne' : ¬ (e6 = 2 ∧ t6 = 1) := by rintro ⟨rfl, rfl⟩; rw [hb] at hob; cases hob
          repeat (first | ((first | refine Q1 ?_ | refine Q2 ?_); intro Z hN hX hR) | refine Q3 (by kernel_rfl) fun K hK => ?_ | ((first | refine Q4 fun R hJ => ?_ | with_reducible change ExpAll _ _ _); simp only [kS, R1, R2, R3, R4, R5, R6, R7, reduceCtorEq, R9, h7, h5, h2, hb, h6, hob, htk, hcl, hlt, hlt', d1, bl, e0, hil, itsC_cons, dC, e, hm, hm', hnl, k3, lo1, lo2, decide_true, tk1, tk2, tk3, tk4, tk5, tk6, tk7, tk8, and_false, false_and]) | (refine hJ _ ?_; clear hJ R) | refine Q5 ?_ | (refine hK _ ?_; clear hK K) | ((first | refine hN _ ?_ | refine hX _ _ ?_ | refine hR _ ?_); clear hN hX hR Z) | refine Q6 rfl ?_ | refine Q7 (by decide) ?_ | (refine Q8 ?_ ?_; focus (simp only [kS, R1, R2, R3, R4, R5, R6, R7, reduceCtorEq, R9, h7, h5, h2, hb, h6, hob, htk, hcl, hlt, hlt', d1, bl, e0, hil, itsC_cons, dC, e, hm, hm', hnl, k3, lo1, lo2, decide_true, tk1, tk2, tk3, tk4, tk5, tk6, tk7, tk8, and_false, false_and]; done)) | (refine Q9 ?_ ?_; focus (simp only [kS, R1, R2, R3, R4, R5, R6, R7, reduceCtorEq, R9, h7, h5, h2, hb, h6, hob, htk, hcl, hlt, hlt', d1, bl, e0, hil, itsC_cons, dC, e, hm, hm', hnl, k3, lo1, lo2, decide_true, tk1, tk2, tk3, tk4, tk5, tk6, tk7, tk8, and_false, false_and]; done)) | refine Qa ?_ | refine Qb ?_ | refine Qc ?_ | refine And.intro (by first | assumption | omega) ?_)
          refine ⟨_, ho, rfl, ?_⟩
          simp only [kS, R1, R2, R3, R4, R5, R6, R7, reduceCtorEq, R9, h7, h5, h2, hb, h6, hob, htk, hcl, hsl, hsn, ws_length, ws_take, tk1, tk2, tk3, tk4, tk5, tk6, tk7, tk8, and_false, false_and]
          repeat (first | ((first | refine Q1 ?_ | refine Q2 ?_); intro Z hN hX hR) | refine Q3 (by kernel_rfl) fun K hK => ?_ | ((first | refine Q4 fun R hJ => ?_ | with_reducible change ExpAll _ _ _); simp only [kS, R1, R2, R3, R4, R5, R6, R7, reduceCtorEq, R9, h7, h5, h2, hb, h6, hob, htk, hcl, hsl, hsn, ws_length, ws_take, tk1, tk2, tk3, tk4, tk5, tk6, tk7, tk8, and_false, false_and]) | (refine hJ _ ?_; clear hJ R) | refine Q5 ?_ | (refine hK _ ?_; clear hK K) | ((first | refine hN _ ?_ | refine hX _ _ ?_ | refine hR _ ?_); clear hN hX hR Z) | refine Q6 rfl ?_ | refine Q7 (by decide) ?_ | (refine Q8 ?_ ?_; focus (simp only [kS, R1, R2, R3, R4, R5, R6, R7, reduceCtorEq, R9, h7, h5, h2, hb, h6, hob, htk, hcl, hsl, hsn, ws_length, ws_take, tk1, tk2, tk3, tk4, tk5, tk6, tk7, tk8, and_false, false_and]; done)) | (refine Q9 ?_ ?_; focus (simp only [kS, R1, R2, R3, R4, R5, R6, R7, reduceCtorEq, R9, h7, h5, h2, hb, h6, hob, htk, hcl, hsl, hsn, ws_length, ws_take, tk1, tk2, tk3, tk4, tk5, tk6, tk7, tk8, and_false, false_and]; done)) | refine Qa ?_ | refine Qb ?_ | refine Qc ?_ | refine And.intro (by first | assumption | omega) ?_)
          refine ⟨hs.length - (i + 1), by omega, i + 1, by omega, rfl, ?_, by simp only [kS, R1, R2, R3, R4, R5, R6, R7, reduceCtorEq, R9, h5], by simp only [kS, R1, R2, R3, R4, R5, R6, R7, reduceCtorEq, R9, h2], by simp only [kS, R1, R2, R3, R4, R5, R6, R7, reduceCtorEq, R9, hb, hk, hne, hne', tk1, tk2, tk3, tk4, tk5, tk6, tk7, tk8, and_false, false_and], by (simp only [kS, R1, R2, R3, R4, R5, R6, R7, reduceCtorEq, R9]) <;> first | omega | rfl, ?_⟩
          · simp only [kS, R1, R2, R3, R4, R5, R6, R7, reduceCtorEq, R9]
            rw [wrap_i64 (by omega) (by omega)]; rfl
          · rw [ht]; exact .inr ⟨_, _, by simp only [kS, R1, R2, R3, R4, R5, R6, R7, reduceCtorEq, R9, clC_append, hob, htk, hcl, hsl, hsn, ws_length, ws_take, tk1, tk2, tk3, tk4, tk5, tk6, tk7, tk8, and_false, false_and]; exact rfl, by simp only [kS, R1, R2, R3, R4, R5, R6, R7, reduceCtorEq, R9], by (simp only [kS, R1, R2, R3, R4, R5, R6, R7, reduceCtorEq, R9]) <;> first | omega | rfl⟩
  · have hlt' : ¬ (i : Int) < (hs.length : Int) := by omega
    have he : hs.take i = hs := List.take_of_length_le (by omega)
    rw [he] at h6
    have hcl := clC_length (classesF d hs)
    rcases h6 with ⟨h6, h6'⟩ | ⟨e6, t6, h6, hob, htk⟩
    · repeat (first | ((first | refine Q1 ?_ | refine Q2 ?_); intro Z hN hX hR) | refine Q3 (by kernel_rfl) fun K hK => ?_ | ((first | refine Q4 fun R hJ => ?_ | with_reducible change ExpAll _ _ _); simp only [kS, R1, R2, R3, R4, R5, R6, R7, reduceCtorEq, R9, h7, h5, h6, hlt', decide_false]) | (refine hJ _ ?_; clear hJ R) | refine Q5 ?_ | (refine hK _ ?_; clear hK K) | ((first | refine hN _ ?_ | refine hX _ _ ?_ | refine hR _ ?_); clear hN hX hR Z) | refine Q6 rfl ?_ | refine Q7 (by decide) ?_ | (refine Q8 ?_ ?_; focus (simp only [kS, R1, R2, R3, R4, R5, R6, R7, reduceCtorEq, R9, h7, h5, h6, hlt', decide_false]; done)) | (refine Q9 ?_ ?_; focus (simp only [kS, R1, R2, R3, R4, R5, R6, R7, reduceCtorEq, R9, h7, h5, h6, hlt', decide_false]; done)) | refine Qa ?_ | refine Qb ?_ | refine Qc ?_ | refine And.intro (by first | assumption | omega) ?_)
      all_goals (rw [h6']; exact .inr rfl)
    · repeat (first | ((first | refine Q1 ?_ | refine Q2 ?_); intro Z hN hX hR) | refine Q3 (by kernel_rfl) fun K hK => ?_ | ((first | refine Q4 fun R hJ => ?_ | with_reducible change ExpAll _ _ _); simp only [kS, R1, R2, R3, R4, R5, R6, R7, reduceCtorEq, R9, h7, h5, h6, hob, htk, hcl, hlt', decide_false]) | (refine hJ _ ?_; clear hJ R) | refine Q5 ?_ | (refine hK _ ?_; clear hK K) | ((first | refine hN _ ?_ | refine hX _ _ ?_ | refine hR _ ?_); clear hN hX hR Z) | refine Q6 rfl ?_ | refine Q7 (by decide) ?_ | (refine Q8 ?_ ?_; focus (simp only [kS, R1, R2, R3, R4, R5, R6, R7, reduceCtorEq, R9, h7, h5, h6, hob, htk, hcl, hlt', decide_false]; done)) | (refine Q9 ?_ ?_; focus (simp only [kS, R1, R2, R3, R4, R5, R6, R7, reduceCtorEq, R9, h7, h5, h6, hob, htk, hcl, hlt', decide_false]; done)) | refine Qa ?_ | refine Qb ?_ | refine Qc ?_ | refine And.intro (by first | assumption | omega) ?_)
      all_goals exact .inl trivial

end Go.Proofs.YtilhjiopbbbgmaaGreatDoor

/- NextTells: its body answers true, whatever it is given. -/
namespace Go.Proofs.YtilhjiopbbbgmaaGreatDoor
open Nat renaming reduceSub → R1, reduceMul → R2, reduceLeDiff → R3, reducePow → R4, reduceBEq → R5, reduceAdd → R6, reduceEqDiff → R7
open Int renaming reduceToNat → R9
open Go Go.RowKit Am
set_option linter.unusedVariables false
set_option linter.unusedSimpArgs false
set_option maxHeartbeats 4000000
attribute [local irreducible] AWp AOps

theorem FitN.onR {d : List Nd} {s : List It} (F : FitN d s) (c : Nat) (hc : c < 256) : Ret Tryz.prog glN 13 [.agg (dC d), .c (stC s), .c (.v (.int .u8 (c : Int)))] (.c (brC (onS d 1500 s c))) := by
  have hlen := F.hlen
  have h := on15_ret glN d s (headsS d 1500 s) c hc (F.headsR glN) (by omega) (fun b hb => by have := heads_many b hb; omega) (fun b hb => by
    have hl := okS_leaves F.wf 1500 F.fo _ (heads_mem hb)
    have h2 := (leaves_len F.wf 1500 s F.gd _ (heads_mem hb)).2
    have h3 := F.len
    exact read15_ret glN d F.wf F.cw F.sz b.to (by omega) hl.1 hl.2 c hc) (fun b hb t ht => by
    have h1 := readF_len ht
    have h2 := (leaves_len F.wf 1500 s F.gd _ (heads_mem hb)).2
    have h3 := F.len
    omega)
  rw [onR_eq] at h
  exact h
theorem FitN.endsR {d : List Nd} {s : List It} (F : FitN d s) : Ret Tryz.prog glN 15 [.agg (dC d), .c (stC s)] (iv (endsF (headsS d 1500 s))) :=
  ends15_ret glN d s _ (F.headsR glN) (by have := F.hlen; omega)
theorem FitN.classesR {d : List Nd} {s : List It} (F : FitN d s) : Ret Tryz.prog glN 18 [.agg (dC d), .c (stC s)] (.c (clS (classesF d (headsS d 1500 s)))) :=
  classes15_ret glN (fun h => h) d F.wf F.cw s _ (F.headsR glN) F.hlen (fun b hb => okS_leaves F.wf 1500 F.fo _ (heads_mem hb))

theorem tellsLaw_ret (d : List Nd) (s : List It) (c : Nat) (hc : c < 256) (hl : d.length ≤ 140737488355328) (hs : ∀ n ∈ d, n.s.size ≤ 140737488355328) (hsl : s.length ≤ 140737488355328) (hcw : ∀ n ∈ d, CW n) :
    Ret Tryz.prog glN 3 [.agg (dC d), .c (stC s), .c (.v (.int .u8 (c : Int)))] (bv true) := by
  refine retq (rs := [6]) 85 Tryz.func3 (by kernel_rfl) rfl (by kernel_rfl) rfl (by simp) (by simp) fun Z hN hX hR => ?_
  have haw := awake15_ret
  have hfew := few_ret glN d hl hs
  repeat (first | ((first | refine Q1 ?_ | refine Q2 ?_); intro Z hN hX hR) | refine Q3 (by kernel_rfl) fun K hK => ?_ | ((first | refine Q4 fun R hJ => ?_ | with_reducible change ExpAll _ _ _); simp only [kS, R1, R2, R3, R4, R5, R6, R7, reduceCtorEq, R9, dC_length, dC_take]) | (refine hJ _ ?_; clear hJ R) | refine Q5 ?_ | (refine hK _ ?_; clear hK K) | ((first | refine hN _ ?_ | refine hX _ _ ?_ | refine hR _ ?_); clear hN hX hR Z) | refine Q6 rfl ?_ | refine Q7 (by decide) ?_ | (refine Q8 ?_ ?_; focus (simp only [kS, R1, R2, R3, R4, R5, R6, R7, reduceCtorEq, R9, dC_length, dC_take]; done)) | (refine Q9 ?_ ?_; focus (simp only [kS, R1, R2, R3, R4, R5, R6, R7, reduceCtorEq, R9, dC_length, dC_take]; done)) | refine Qa ?_ | refine Qb ?_ | refine Qc ?_ | refine And.intro (by first | assumption | omega) ?_)
  refine ⟨_, haw, rfl, ?_⟩
  try simp only [kS, R1, R2, R3, R4, R5, R6, R7, reduceCtorEq, R9, dC_length, dC_take, Bool.not_true, Bool.not_false]
  repeat (first | ((first | refine Q1 ?_ | refine Q2 ?_); intro Z hN hX hR) | refine Q3 (by kernel_rfl) fun K hK => ?_ | ((first | refine Q4 fun R hJ => ?_ | with_reducible change ExpAll _ _ _); simp only [kS, R1, R2, R3, R4, R5, R6, R7, reduceCtorEq, R9, dC_length, dC_take, Bool.not_true, Bool.not_false]) | (refine hJ _ ?_; clear hJ R) | refine Q5 ?_ | (refine hK _ ?_; clear hK K) | ((first | refine hN _ ?_ | refine hX _ _ ?_ | refine hR _ ?_); clear hN hX hR Z) | refine Q6 rfl ?_ | refine Q7 (by decide) ?_ | (refine Q8 ?_ ?_; focus (simp only [kS, R1, R2, R3, R4, R5, R6, R7, reduceCtorEq, R9, dC_length, dC_take, Bool.not_true, Bool.not_false]; done)) | (refine Q9 ?_ ?_; focus (simp only [kS, R1, R2, R3, R4, R5, R6, R7, reduceCtorEq, R9, dC_length, dC_take, Bool.not_true, Bool.not_false]; done)) | refine Qa ?_ | refine Qb ?_ | refine Qc ?_ | refine And.intro (by first | assumption | omega) ?_)
  cases gf : fewB d
  · rw [gf] at hfew
    refine ⟨_, hfew, rfl, ?_⟩
    try simp only [kS, R1, R2, R3, R4, R5, R6, R7, reduceCtorEq, R9, dC_length, dC_take, Bool.not_true, Bool.not_false]
    repeat (first | ((first | refine Q1 ?_ | refine Q2 ?_); intro Z hN hX hR) | refine Q3 (by kernel_rfl) fun K hK => ?_ | ((first | refine Q4 fun R hJ => ?_ | with_reducible change ExpAll _ _ _); simp only [kS, R1, R2, R3, R4, R5, R6, R7, reduceCtorEq, R9, dC_length, dC_take, Bool.not_true, Bool.not_false]) | (refine hJ _ ?_; clear hJ R) | refine Q5 ?_ | (refine hK _ ?_; clear hK K) | ((first | refine hN _ ?_ | refine hX _ _ ?_ | refine hR _ ?_); clear hN hX hR Z) | refine Q6 rfl ?_ | refine Q7 (by decide) ?_ | (refine Q8 ?_ ?_; focus (simp only [kS, R1, R2, R3, R4, R5, R6, R7, reduceCtorEq, R9, dC_length, dC_take, Bool.not_true, Bool.not_false]; done)) | (refine Q9 ?_ ?_; focus (simp only [kS, R1, R2, R3, R4, R5, R6, R7, reduceCtorEq, R9, dC_length, dC_take, Bool.not_true, Bool.not_false]; done)) | refine Qa ?_ | refine Qb ?_ | refine Qc ?_ | refine And.intro (by first | assumption | omega) ?_)
    refine ⟨_, haw, rfl, ?_⟩
    try simp only [kS, R1, R2, R3, R4, R5, R6, R7, reduceCtorEq, R9, dC_length, dC_take, Bool.not_true, Bool.not_false]
    repeat (first | ((first | refine Q1 ?_ | refine Q2 ?_); intro Z hN hX hR) | refine Q3 (by kernel_rfl) fun K hK => ?_ | ((first | refine Q4 fun R hJ => ?_ | with_reducible change ExpAll _ _ _); simp only [kS, R1, R2, R3, R4, R5, R6, R7, reduceCtorEq, R9, dC_length, dC_take, Bool.not_true, Bool.not_false]) | (refine hJ _ ?_; clear hJ R) | refine Q5 ?_ | (refine hK _ ?_; clear hK K) | ((first | refine hN _ ?_ | refine hX _ _ ?_ | refine hR _ ?_); clear hN hX hR Z) | refine Q6 rfl ?_ | refine Q7 (by decide) ?_ | (refine Q8 ?_ ?_; focus (simp only [kS, R1, R2, R3, R4, R5, R6, R7, reduceCtorEq, R9, dC_length, dC_take, Bool.not_true, Bool.not_false]; done)) | (refine Q9 ?_ ?_; focus (simp only [kS, R1, R2, R3, R4, R5, R6, R7, reduceCtorEq, R9, dC_length, dC_take, Bool.not_true, Bool.not_false]; done)) | refine Qa ?_ | refine Qb ?_ | refine Qc ?_ | refine And.intro (by first | assumption | omega) ?_)
    all_goals rfl
  rw [gf] at hfew
  obtain ⟨f1, f2⟩ := fewB_true gf
  have hright := right_ret glN d f1 hs
  refine ⟨_, hfew, rfl, ?_⟩
  try simp only [kS, R1, R2, R3, R4, R5, R6, R7, reduceCtorEq, R9, dC_length, dC_take, Bool.not_true, Bool.not_false]
  repeat (first | ((first | refine Q1 ?_ | refine Q2 ?_); intro Z hN hX hR) | refine Q3 (by kernel_rfl) fun K hK => ?_ | ((first | refine Q4 fun R hJ => ?_ | with_reducible change ExpAll _ _ _); simp only [kS, R1, R2, R3, R4, R5, R6, R7, reduceCtorEq, R9, dC_length, dC_take, Bool.not_true, Bool.not_false]) | (refine hJ _ ?_; clear hJ R) | refine Q5 ?_ | (refine hK _ ?_; clear hK K) | ((first | refine hN _ ?_ | refine hX _ _ ?_ | refine hR _ ?_); clear hN hX hR Z) | refine Q6 rfl ?_ | refine Q7 (by decide) ?_ | (refine Q8 ?_ ?_; focus (simp only [kS, R1, R2, R3, R4, R5, R6, R7, reduceCtorEq, R9, dC_length, dC_take, Bool.not_true, Bool.not_false]; done)) | (refine Q9 ?_ ?_; focus (simp only [kS, R1, R2, R3, R4, R5, R6, R7, reduceCtorEq, R9, dC_length, dC_take, Bool.not_true, Bool.not_false]; done)) | refine Qa ?_ | refine Qb ?_ | refine Qc ?_ | refine And.intro (by first | assumption | omega) ?_)
  cases gr : rightB d
  · rw [gr] at hright
    refine ⟨_, hright, rfl, ?_⟩
    try simp only [kS, R1, R2, R3, R4, R5, R6, R7, reduceCtorEq, R9, dC_length, dC_take, Bool.not_true, Bool.not_false]
    repeat (first | ((first | refine Q1 ?_ | refine Q2 ?_); intro Z hN hX hR) | refine Q3 (by kernel_rfl) fun K hK => ?_ | ((first | refine Q4 fun R hJ => ?_ | with_reducible change ExpAll _ _ _); simp only [kS, R1, R2, R3, R4, R5, R6, R7, reduceCtorEq, R9, dC_length, dC_take, Bool.not_true, Bool.not_false]) | (refine hJ _ ?_; clear hJ R) | refine Q5 ?_ | (refine hK _ ?_; clear hK K) | ((first | refine hN _ ?_ | refine hX _ _ ?_ | refine hR _ ?_); clear hN hX hR Z) | refine Q6 rfl ?_ | refine Q7 (by decide) ?_ | (refine Q8 ?_ ?_; focus (simp only [kS, R1, R2, R3, R4, R5, R6, R7, reduceCtorEq, R9, dC_length, dC_take, Bool.not_true, Bool.not_false]; done)) | (refine Q9 ?_ ?_; focus (simp only [kS, R1, R2, R3, R4, R5, R6, R7, reduceCtorEq, R9, dC_length, dC_take, Bool.not_true, Bool.not_false]; done)) | refine Qa ?_ | refine Qb ?_ | refine Qc ?_ | refine And.intro (by first | assumption | omega) ?_)
    refine ⟨_, haw, rfl, ?_⟩
    try simp only [kS, R1, R2, R3, R4, R5, R6, R7, reduceCtorEq, R9, dC_length, dC_take, Bool.not_true, Bool.not_false]
    repeat (first | ((first | refine Q1 ?_ | refine Q2 ?_); intro Z hN hX hR) | refine Q3 (by kernel_rfl) fun K hK => ?_ | ((first | refine Q4 fun R hJ => ?_ | with_reducible change ExpAll _ _ _); simp only [kS, R1, R2, R3, R4, R5, R6, R7, reduceCtorEq, R9, dC_length, dC_take, Bool.not_true, Bool.not_false]) | (refine hJ _ ?_; clear hJ R) | refine Q5 ?_ | (refine hK _ ?_; clear hK K) | ((first | refine hN _ ?_ | refine hX _ _ ?_ | refine hR _ ?_); clear hN hX hR Z) | refine Q6 rfl ?_ | refine Q7 (by decide) ?_ | (refine Q8 ?_ ?_; focus (simp only [kS, R1, R2, R3, R4, R5, R6, R7, reduceCtorEq, R9, dC_length, dC_take, Bool.not_true, Bool.not_false]; done)) | (refine Q9 ?_ ?_; focus (simp only [kS, R1, R2, R3, R4, R5, R6, R7, reduceCtorEq, R9, dC_length, dC_take, Bool.not_true, Bool.not_false]; done)) | refine Qa ?_ | refine Qb ?_ | refine Qc ?_ | refine And.intro (by first | assumption | omega) ?_)
    all_goals rfl
  rw [gr] at hright
  obtain ⟨hwf, hwo⟩ := rightB_ok gr f1
  have hf6 : ∀ n ∈ d, n.s.size ≤ 1000000 := fun n hn => by have := f2 n hn; omega
  have hfit := fits15_ret glN d s (fits_ret glN d s hwf hf6 gr hsl)
  refine ⟨_, hright, rfl, ?_⟩
  try simp only [kS, R1, R2, R3, R4, R5, R6, R7, reduceCtorEq, R9, dC_length, dC_take, Bool.not_true, Bool.not_false]
  repeat (first | ((first | refine Q1 ?_ | refine Q2 ?_); intro Z hN hX hR) | refine Q3 (by kernel_rfl) fun K hK => ?_ | ((first | refine Q4 fun R hJ => ?_ | with_reducible change ExpAll _ _ _); simp only [kS, R1, R2, R3, R4, R5, R6, R7, reduceCtorEq, R9, dC_length, dC_take, Bool.not_true, Bool.not_false]) | (refine hJ _ ?_; clear hJ R) | refine Q5 ?_ | (refine hK _ ?_; clear hK K) | ((first | refine hN _ ?_ | refine hX _ _ ?_ | refine hR _ ?_); clear hN hX hR Z) | refine Q6 rfl ?_ | refine Q7 (by decide) ?_ | (refine Q8 ?_ ?_; focus (simp only [kS, R1, R2, R3, R4, R5, R6, R7, reduceCtorEq, R9, dC_length, dC_take, Bool.not_true, Bool.not_false]; done)) | (refine Q9 ?_ ?_; focus (simp only [kS, R1, R2, R3, R4, R5, R6, R7, reduceCtorEq, R9, dC_length, dC_take, Bool.not_true, Bool.not_false]; done)) | refine Qa ?_ | refine Qb ?_ | refine Qc ?_ | refine And.intro (by first | assumption | omega) ?_)
  cases gt : fitsB d s
  · rw [gt] at hfit
    refine ⟨_, hfit, rfl, ?_⟩
    try simp only [kS, R1, R2, R3, R4, R5, R6, R7, reduceCtorEq, R9, dC_length, dC_take, Bool.not_true, Bool.not_false]
    repeat (first | ((first | refine Q1 ?_ | refine Q2 ?_); intro Z hN hX hR) | refine Q3 (by kernel_rfl) fun K hK => ?_ | ((first | refine Q4 fun R hJ => ?_ | with_reducible change ExpAll _ _ _); simp only [kS, R1, R2, R3, R4, R5, R6, R7, reduceCtorEq, R9, dC_length, dC_take, Bool.not_true, Bool.not_false]) | (refine hJ _ ?_; clear hJ R) | refine Q5 ?_ | (refine hK _ ?_; clear hK K) | ((first | refine hN _ ?_ | refine hX _ _ ?_ | refine hR _ ?_); clear hN hX hR Z) | refine Q6 rfl ?_ | refine Q7 (by decide) ?_ | (refine Q8 ?_ ?_; focus (simp only [kS, R1, R2, R3, R4, R5, R6, R7, reduceCtorEq, R9, dC_length, dC_take, Bool.not_true, Bool.not_false]; done)) | (refine Q9 ?_ ?_; focus (simp only [kS, R1, R2, R3, R4, R5, R6, R7, reduceCtorEq, R9, dC_length, dC_take, Bool.not_true, Bool.not_false]; done)) | refine Qa ?_ | refine Qb ?_ | refine Qc ?_ | refine And.intro (by first | assumption | omega) ?_)
    refine ⟨_, haw, rfl, ?_⟩
    try simp only [kS, R1, R2, R3, R4, R5, R6, R7, reduceCtorEq, R9, dC_length, dC_take, Bool.not_true, Bool.not_false]
    repeat (first | ((first | refine Q1 ?_ | refine Q2 ?_); intro Z hN hX hR) | refine Q3 (by kernel_rfl) fun K hK => ?_ | ((first | refine Q4 fun R hJ => ?_ | with_reducible change ExpAll _ _ _); simp only [kS, R1, R2, R3, R4, R5, R6, R7, reduceCtorEq, R9, dC_length, dC_take, Bool.not_true, Bool.not_false]) | (refine hJ _ ?_; clear hJ R) | refine Q5 ?_ | (refine hK _ ?_; clear hK K) | ((first | refine hN _ ?_ | refine hX _ _ ?_ | refine hR _ ?_); clear hN hX hR Z) | refine Q6 rfl ?_ | refine Q7 (by decide) ?_ | (refine Q8 ?_ ?_; focus (simp only [kS, R1, R2, R3, R4, R5, R6, R7, reduceCtorEq, R9, dC_length, dC_take, Bool.not_true, Bool.not_false]; done)) | (refine Q9 ?_ ?_; focus (simp only [kS, R1, R2, R3, R4, R5, R6, R7, reduceCtorEq, R9, dC_length, dC_take, Bool.not_true, Bool.not_false]; done)) | refine Qa ?_ | refine Qb ?_ | refine Qc ?_ | refine And.intro (by first | assumption | omega) ?_)
    all_goals rfl
  rw [gt] at hfit
  have F := fitN hwf hf6 hcw gt
  refine ⟨_, hfit, rfl, ?_⟩
  try simp only [kS, R1, R2, R3, R4, R5, R6, R7, reduceCtorEq, R9, dC_length, dC_take, Bool.not_true, Bool.not_false]
  repeat (first | ((first | refine Q1 ?_ | refine Q2 ?_); intro Z hN hX hR) | refine Q3 (by kernel_rfl) fun K hK => ?_ | ((first | refine Q4 fun R hJ => ?_ | with_reducible change ExpAll _ _ _); simp only [kS, R1, R2, R3, R4, R5, R6, R7, reduceCtorEq, R9, dC_length, dC_take, Bool.not_true, Bool.not_false]) | (refine hJ _ ?_; clear hJ R) | refine Q5 ?_ | (refine hK _ ?_; clear hK K) | ((first | refine hN _ ?_ | refine hX _ _ ?_ | refine hR _ ?_); clear hN hX hR Z) | refine Q6 rfl ?_ | refine Q7 (by decide) ?_ | (refine Q8 ?_ ?_; focus (simp only [kS, R1, R2, R3, R4, R5, R6, R7, reduceCtorEq, R9, dC_length, dC_take, Bool.not_true, Bool.not_false]; done)) | (refine Q9 ?_ ?_; focus (simp only [kS, R1, R2, R3, R4, R5, R6, R7, reduceCtorEq, R9, dC_length, dC_take, Bool.not_true, Bool.not_false]; done)) | refine Qa ?_ | refine Qb ?_ | refine Qc ?_ | refine And.intro (by first | assumption | omega) ?_)
  obtain ⟨k1, k2⟩ := F.onok c hc
  have hsame := same14_ret glN (onS d 1500 s c) (onS d 1500 s c) (fun x hx => by have := (k2 x hx).1; omega) (fun x hx => by have := (k2 x hx).1; omega) (by omega)
  rw [sameB_refl] at hsame
  have hcl0 := classesF_len d (headsS d 1500 s)
  have hhl := F.hlen
  have hsm2 := same02_ret glN (classesF d (headsS d 1500 s)) (by omega)
  have hr13 := ready_ret glN d s (gd_inR F.gd)
  have hon := F.on c hc
  have honR := F.onR c hc
  have hen := F.ends
  have henR := F.endsR
  have hcl := F.classes
  have hclR := F.classesR
  refine ⟨_, hon, rfl, ?_⟩
  try simp only [kS, R1, R2, R3, R4, R5, R6, R7, reduceCtorEq, R9, dC_length, dC_take, Bool.not_true, Bool.not_false, bne_self_eq_false, BEq.rfl]
  repeat (first | ((first | refine Q1 ?_ | refine Q2 ?_); intro Z hN hX hR) | refine Q3 (by kernel_rfl) fun K hK => ?_ | ((first | refine Q4 fun R hJ => ?_ | with_reducible change ExpAll _ _ _); simp only [kS, R1, R2, R3, R4, R5, R6, R7, reduceCtorEq, R9, dC_length, dC_take, Bool.not_true, Bool.not_false, bne_self_eq_false, BEq.rfl]) | (refine hJ _ ?_; clear hJ R) | refine Q5 ?_ | (refine hK _ ?_; clear hK K) | ((first | refine hN _ ?_ | refine hX _ _ ?_ | refine hR _ ?_); clear hN hX hR Z) | refine Q6 rfl ?_ | refine Q7 (by decide) ?_ | (refine Q8 ?_ ?_; focus (simp only [kS, R1, R2, R3, R4, R5, R6, R7, reduceCtorEq, R9, dC_length, dC_take, Bool.not_true, Bool.not_false, bne_self_eq_false, BEq.rfl]; done)) | (refine Q9 ?_ ?_; focus (simp only [kS, R1, R2, R3, R4, R5, R6, R7, reduceCtorEq, R9, dC_length, dC_take, Bool.not_true, Bool.not_false, bne_self_eq_false, BEq.rfl]; done)) | refine Qa ?_ | refine Qb ?_ | refine Qc ?_ | refine And.intro (by first | assumption | omega) ?_)
  refine ⟨_, honR, rfl, ?_⟩
  try simp only [kS, R1, R2, R3, R4, R5, R6, R7, reduceCtorEq, R9, dC_length, dC_take, Bool.not_true, Bool.not_false, bne_self_eq_false, BEq.rfl]
  repeat (first | ((first | refine Q1 ?_ | refine Q2 ?_); intro Z hN hX hR) | refine Q3 (by kernel_rfl) fun K hK => ?_ | ((first | refine Q4 fun R hJ => ?_ | with_reducible change ExpAll _ _ _); simp only [kS, R1, R2, R3, R4, R5, R6, R7, reduceCtorEq, R9, dC_length, dC_take, Bool.not_true, Bool.not_false, bne_self_eq_false, BEq.rfl]) | (refine hJ _ ?_; clear hJ R) | refine Q5 ?_ | (refine hK _ ?_; clear hK K) | ((first | refine hN _ ?_ | refine hX _ _ ?_ | refine hR _ ?_); clear hN hX hR Z) | refine Q6 rfl ?_ | refine Q7 (by decide) ?_ | (refine Q8 ?_ ?_; focus (simp only [kS, R1, R2, R3, R4, R5, R6, R7, reduceCtorEq, R9, dC_length, dC_take, Bool.not_true, Bool.not_false, bne_self_eq_false, BEq.rfl]; done)) | (refine Q9 ?_ ?_; focus (simp only [kS, R1, R2, R3, R4, R5, R6, R7, reduceCtorEq, R9, dC_length, dC_take, Bool.not_true, Bool.not_false, bne_self_eq_false, BEq.rfl]; done)) | refine Qa ?_ | refine Qb ?_ | refine Qc ?_ | refine And.intro (by first | assumption | omega) ?_)
  refine ⟨_, hsame, rfl, ?_⟩
  try simp only [kS, R1, R2, R3, R4, R5, R6, R7, reduceCtorEq, R9, dC_length, dC_take, Bool.not_true, Bool.not_false, bne_self_eq_false, BEq.rfl]
  repeat (first | ((first | refine Q1 ?_ | refine Q2 ?_); intro Z hN hX hR) | refine Q3 (by kernel_rfl) fun K hK => ?_ | ((first | refine Q4 fun R hJ => ?_ | with_reducible change ExpAll _ _ _); simp only [kS, R1, R2, R3, R4, R5, R6, R7, reduceCtorEq, R9, dC_length, dC_take, Bool.not_true, Bool.not_false, bne_self_eq_false, BEq.rfl]) | (refine hJ _ ?_; clear hJ R) | refine Q5 ?_ | (refine hK _ ?_; clear hK K) | ((first | refine hN _ ?_ | refine hX _ _ ?_ | refine hR _ ?_); clear hN hX hR Z) | refine Q6 rfl ?_ | refine Q7 (by decide) ?_ | (refine Q8 ?_ ?_; focus (simp only [kS, R1, R2, R3, R4, R5, R6, R7, reduceCtorEq, R9, dC_length, dC_take, Bool.not_true, Bool.not_false, bne_self_eq_false, BEq.rfl]; done)) | (refine Q9 ?_ ?_; focus (simp only [kS, R1, R2, R3, R4, R5, R6, R7, reduceCtorEq, R9, dC_length, dC_take, Bool.not_true, Bool.not_false, bne_self_eq_false, BEq.rfl]; done)) | refine Qa ?_ | refine Qb ?_ | refine Qc ?_ | refine And.intro (by first | assumption | omega) ?_)
  refine ⟨_, hen, rfl, ?_⟩
  try simp only [kS, R1, R2, R3, R4, R5, R6, R7, reduceCtorEq, R9, dC_length, dC_take, Bool.not_true, Bool.not_false, bne_self_eq_false, BEq.rfl]
  repeat (first | ((first | refine Q1 ?_ | refine Q2 ?_); intro Z hN hX hR) | refine Q3 (by kernel_rfl) fun K hK => ?_ | ((first | refine Q4 fun R hJ => ?_ | with_reducible change ExpAll _ _ _); simp only [kS, R1, R2, R3, R4, R5, R6, R7, reduceCtorEq, R9, dC_length, dC_take, Bool.not_true, Bool.not_false, bne_self_eq_false, BEq.rfl]) | (refine hJ _ ?_; clear hJ R) | refine Q5 ?_ | (refine hK _ ?_; clear hK K) | ((first | refine hN _ ?_ | refine hX _ _ ?_ | refine hR _ ?_); clear hN hX hR Z) | refine Q6 rfl ?_ | refine Q7 (by decide) ?_ | (refine Q8 ?_ ?_; focus (simp only [kS, R1, R2, R3, R4, R5, R6, R7, reduceCtorEq, R9, dC_length, dC_take, Bool.not_true, Bool.not_false, bne_self_eq_false, BEq.rfl]; done)) | (refine Q9 ?_ ?_; focus (simp only [kS, R1, R2, R3, R4, R5, R6, R7, reduceCtorEq, R9, dC_length, dC_take, Bool.not_true, Bool.not_false, bne_self_eq_false, BEq.rfl]; done)) | refine Qa ?_ | refine Qb ?_ | refine Qc ?_ | refine And.intro (by first | assumption | omega) ?_)
  refine ⟨_, henR, rfl, ?_⟩
  try simp only [kS, R1, R2, R3, R4, R5, R6, R7, reduceCtorEq, R9, dC_length, dC_take, Bool.not_true, Bool.not_false, bne_self_eq_false, BEq.rfl]
  repeat (first | ((first | refine Q1 ?_ | refine Q2 ?_); intro Z hN hX hR) | refine Q3 (by kernel_rfl) fun K hK => ?_ | ((first | refine Q4 fun R hJ => ?_ | with_reducible change ExpAll _ _ _); simp only [kS, R1, R2, R3, R4, R5, R6, R7, reduceCtorEq, R9, dC_length, dC_take, Bool.not_true, Bool.not_false, bne_self_eq_false, BEq.rfl]) | (refine hJ _ ?_; clear hJ R) | refine Q5 ?_ | (refine hK _ ?_; clear hK K) | ((first | refine hN _ ?_ | refine hX _ _ ?_ | refine hR _ ?_); clear hN hX hR Z) | refine Q6 rfl ?_ | refine Q7 (by decide) ?_ | (refine Q8 ?_ ?_; focus (simp only [kS, R1, R2, R3, R4, R5, R6, R7, reduceCtorEq, R9, dC_length, dC_take, Bool.not_true, Bool.not_false, bne_self_eq_false, BEq.rfl]; done)) | (refine Q9 ?_ ?_; focus (simp only [kS, R1, R2, R3, R4, R5, R6, R7, reduceCtorEq, R9, dC_length, dC_take, Bool.not_true, Bool.not_false, bne_self_eq_false, BEq.rfl]; done)) | refine Qa ?_ | refine Qb ?_ | refine Qc ?_ | refine And.intro (by first | assumption | omega) ?_)
  refine ⟨_, hcl, rfl, ?_⟩
  try simp only [kS, R1, R2, R3, R4, R5, R6, R7, reduceCtorEq, R9, dC_length, dC_take, Bool.not_true, Bool.not_false, bne_self_eq_false, BEq.rfl]
  repeat (first | ((first | refine Q1 ?_ | refine Q2 ?_); intro Z hN hX hR) | refine Q3 (by kernel_rfl) fun K hK => ?_ | ((first | refine Q4 fun R hJ => ?_ | with_reducible change ExpAll _ _ _); simp only [kS, R1, R2, R3, R4, R5, R6, R7, reduceCtorEq, R9, dC_length, dC_take, Bool.not_true, Bool.not_false, bne_self_eq_false, BEq.rfl]) | (refine hJ _ ?_; clear hJ R) | refine Q5 ?_ | (refine hK _ ?_; clear hK K) | ((first | refine hN _ ?_ | refine hX _ _ ?_ | refine hR _ ?_); clear hN hX hR Z) | refine Q6 rfl ?_ | refine Q7 (by decide) ?_ | (refine Q8 ?_ ?_; focus (simp only [kS, R1, R2, R3, R4, R5, R6, R7, reduceCtorEq, R9, dC_length, dC_take, Bool.not_true, Bool.not_false, bne_self_eq_false, BEq.rfl]; done)) | (refine Q9 ?_ ?_; focus (simp only [kS, R1, R2, R3, R4, R5, R6, R7, reduceCtorEq, R9, dC_length, dC_take, Bool.not_true, Bool.not_false, bne_self_eq_false, BEq.rfl]; done)) | refine Qa ?_ | refine Qb ?_ | refine Qc ?_ | refine And.intro (by first | assumption | omega) ?_)
  refine ⟨_, hclR, rfl, ?_⟩
  try simp only [kS, R1, R2, R3, R4, R5, R6, R7, reduceCtorEq, R9, dC_length, dC_take, Bool.not_true, Bool.not_false, bne_self_eq_false, BEq.rfl]
  repeat (first | ((first | refine Q1 ?_ | refine Q2 ?_); intro Z hN hX hR) | refine Q3 (by kernel_rfl) fun K hK => ?_ | ((first | refine Q4 fun R hJ => ?_ | with_reducible change ExpAll _ _ _); simp only [kS, R1, R2, R3, R4, R5, R6, R7, reduceCtorEq, R9, dC_length, dC_take, Bool.not_true, Bool.not_false, bne_self_eq_false, BEq.rfl]) | (refine hJ _ ?_; clear hJ R) | refine Q5 ?_ | (refine hK _ ?_; clear hK K) | ((first | refine hN _ ?_ | refine hX _ _ ?_ | refine hR _ ?_); clear hN hX hR Z) | refine Q6 rfl ?_ | refine Q7 (by decide) ?_ | (refine Q8 ?_ ?_; focus (simp only [kS, R1, R2, R3, R4, R5, R6, R7, reduceCtorEq, R9, dC_length, dC_take, Bool.not_true, Bool.not_false, bne_self_eq_false, BEq.rfl]; done)) | (refine Q9 ?_ ?_; focus (simp only [kS, R1, R2, R3, R4, R5, R6, R7, reduceCtorEq, R9, dC_length, dC_take, Bool.not_true, Bool.not_false, bne_self_eq_false, BEq.rfl]; done)) | refine Qa ?_ | refine Qb ?_ | refine Qc ?_ | refine And.intro (by first | assumption | omega) ?_)
  refine ⟨_, hsm2, rfl, ?_⟩
  try simp only [kS, R1, R2, R3, R4, R5, R6, R7, reduceCtorEq, R9, dC_length, dC_take, Bool.not_true, Bool.not_false, bne_self_eq_false, BEq.rfl]
  repeat (first | ((first | refine Q1 ?_ | refine Q2 ?_); intro Z hN hX hR) | refine Q3 (by kernel_rfl) fun K hK => ?_ | ((first | refine Q4 fun R hJ => ?_ | with_reducible change ExpAll _ _ _); simp only [kS, R1, R2, R3, R4, R5, R6, R7, reduceCtorEq, R9, dC_length, dC_take, Bool.not_true, Bool.not_false, bne_self_eq_false, BEq.rfl]) | (refine hJ _ ?_; clear hJ R) | refine Q5 ?_ | (refine hK _ ?_; clear hK K) | ((first | refine hN _ ?_ | refine hX _ _ ?_ | refine hR _ ?_); clear hN hX hR Z) | refine Q6 rfl ?_ | refine Q7 (by decide) ?_ | (refine Q8 ?_ ?_; focus (simp only [kS, R1, R2, R3, R4, R5, R6, R7, reduceCtorEq, R9, dC_length, dC_take, Bool.not_true, Bool.not_false, bne_self_eq_false, BEq.rfl]; done)) | (refine Q9 ?_ ?_; focus (simp only [kS, R1, R2, R3, R4, R5, R6, R7, reduceCtorEq, R9, dC_length, dC_take, Bool.not_true, Bool.not_false, bne_self_eq_false, BEq.rfl]; done)) | refine Qa ?_ | refine Qb ?_ | refine Qc ?_ | refine And.intro (by first | assumption | omega) ?_)
  have hrdR := read15_ret glN d F.wf F.cw F.sz s (by have := F.len; omega) F.fo
  have hread := F.read c hc
  cases grd : rdy d s
  · rw [grd] at hr13
    refine ⟨_, hr13, rfl, ?_⟩
    try simp only [kS, R1, R2, R3, R4, R5, R6, R7, reduceCtorEq, R9, dC_length, dC_take, Bool.not_true, Bool.not_false]
    repeat (first | ((first | refine Q1 ?_ | refine Q2 ?_); intro Z hN hX hR) | refine Q3 (by kernel_rfl) fun K hK => ?_ | ((first | refine Q4 fun R hJ => ?_ | with_reducible change ExpAll _ _ _); simp only [kS, R1, R2, R3, R4, R5, R6, R7, reduceCtorEq, R9, dC_length, dC_take, Bool.not_true, Bool.not_false]) | (refine hJ _ ?_; clear hJ R) | refine Q5 ?_ | (refine hK _ ?_; clear hK K) | ((first | refine hN _ ?_ | refine hX _ _ ?_ | refine hR _ ?_); clear hN hX hR Z) | refine Q6 rfl ?_ | refine Q7 (by decide) ?_ | (refine Q8 ?_ ?_; focus (simp only [kS, R1, R2, R3, R4, R5, R6, R7, reduceCtorEq, R9, dC_length, dC_take, Bool.not_true, Bool.not_false]; done)) | (refine Q9 ?_ ?_; focus (simp only [kS, R1, R2, R3, R4, R5, R6, R7, reduceCtorEq, R9, dC_length, dC_take, Bool.not_true, Bool.not_false]; done)) | refine Qa ?_ | refine Qb ?_ | refine Qc ?_ | refine And.intro (by first | assumption | omega) ?_)
    all_goals rfl
  rw [grd] at hr13
  have hrdR := hrdR grd c hc
  have hlr : ((readF d c s).getD []).length ≤ 1000000 := by
    cases e : readF d c s with
    | none => simp
    | some t =>
      have := readF_len e
      have := F.len
      simp only [Option.getD_some]
      omega
  generalize (readF d c s).getD [] = t at *
  generalize (readF d c s).isSome = q at *
  have hsm := same13_ret glN t t hlr hlr
  rw [scmp_refl] at hsm
  have hsm : Ret Tryz.prog glN 22 [.c (stC t), .c (stC t)] (bv true) := hsm
  refine ⟨_, hr13, rfl, ?_⟩
  try simp only [kS, R1, R2, R3, R4, R5, R6, R7, reduceCtorEq, R9, dC_length, dC_take, Bool.not_true, Bool.not_false, bne_self_eq_false, BEq.rfl]
  repeat (first | ((first | refine Q1 ?_ | refine Q2 ?_); intro Z hN hX hR) | refine Q3 (by kernel_rfl) fun K hK => ?_ | ((first | refine Q4 fun R hJ => ?_ | with_reducible change ExpAll _ _ _); simp only [kS, R1, R2, R3, R4, R5, R6, R7, reduceCtorEq, R9, dC_length, dC_take, Bool.not_true, Bool.not_false, bne_self_eq_false, BEq.rfl]) | (refine hJ _ ?_; clear hJ R) | refine Q5 ?_ | (refine hK _ ?_; clear hK K) | ((first | refine hN _ ?_ | refine hX _ _ ?_ | refine hR _ ?_); clear hN hX hR Z) | refine Q6 rfl ?_ | refine Q7 (by decide) ?_ | (refine Q8 ?_ ?_; focus (simp only [kS, R1, R2, R3, R4, R5, R6, R7, reduceCtorEq, R9, dC_length, dC_take, Bool.not_true, Bool.not_false, bne_self_eq_false, BEq.rfl]; done)) | (refine Q9 ?_ ?_; focus (simp only [kS, R1, R2, R3, R4, R5, R6, R7, reduceCtorEq, R9, dC_length, dC_take, Bool.not_true, Bool.not_false, bne_self_eq_false, BEq.rfl]; done)) | refine Qa ?_ | refine Qb ?_ | refine Qc ?_ | refine And.intro (by first | assumption | omega) ?_)
  refine ⟨_, hread, rfl, ?_⟩
  try simp only [kS, R1, R2, R3, R4, R5, R6, R7, reduceCtorEq, R9, dC_length, dC_take, Bool.not_true, Bool.not_false, bne_self_eq_false, BEq.rfl]
  repeat (first | ((first | refine Q1 ?_ | refine Q2 ?_); intro Z hN hX hR) | refine Q3 (by kernel_rfl) fun K hK => ?_ | ((first | refine Q4 fun R hJ => ?_ | with_reducible change ExpAll _ _ _); simp only [kS, R1, R2, R3, R4, R5, R6, R7, reduceCtorEq, R9, dC_length, dC_take, Bool.not_true, Bool.not_false, bne_self_eq_false, BEq.rfl]) | (refine hJ _ ?_; clear hJ R) | refine Q5 ?_ | (refine hK _ ?_; clear hK K) | ((first | refine hN _ ?_ | refine hX _ _ ?_ | refine hR _ ?_); clear hN hX hR Z) | refine Q6 rfl ?_ | refine Q7 (by decide) ?_ | (refine Q8 ?_ ?_; focus (simp only [kS, R1, R2, R3, R4, R5, R6, R7, reduceCtorEq, R9, dC_length, dC_take, Bool.not_true, Bool.not_false, bne_self_eq_false, BEq.rfl]; done)) | (refine Q9 ?_ ?_; focus (simp only [kS, R1, R2, R3, R4, R5, R6, R7, reduceCtorEq, R9, dC_length, dC_take, Bool.not_true, Bool.not_false, bne_self_eq_false, BEq.rfl]; done)) | refine Qa ?_ | refine Qb ?_ | refine Qc ?_ | refine And.intro (by first | assumption | omega) ?_)
  refine ⟨_, hrdR, rfl, ?_⟩
  try simp only [kS, R1, R2, R3, R4, R5, R6, R7, reduceCtorEq, R9, dC_length, dC_take, Bool.not_true, Bool.not_false, bne_self_eq_false, BEq.rfl]
  repeat (first | ((first | refine Q1 ?_ | refine Q2 ?_); intro Z hN hX hR) | refine Q3 (by kernel_rfl) fun K hK => ?_ | ((first | refine Q4 fun R hJ => ?_ | with_reducible change ExpAll _ _ _); simp only [kS, R1, R2, R3, R4, R5, R6, R7, reduceCtorEq, R9, dC_length, dC_take, Bool.not_true, Bool.not_false, bne_self_eq_false, BEq.rfl]) | (refine hJ _ ?_; clear hJ R) | refine Q5 ?_ | (refine hK _ ?_; clear hK K) | ((first | refine hN _ ?_ | refine hX _ _ ?_ | refine hR _ ?_); clear hN hX hR Z) | refine Q6 rfl ?_ | refine Q7 (by decide) ?_ | (refine Q8 ?_ ?_; focus (simp only [kS, R1, R2, R3, R4, R5, R6, R7, reduceCtorEq, R9, dC_length, dC_take, Bool.not_true, Bool.not_false, bne_self_eq_false, BEq.rfl]; done)) | (refine Q9 ?_ ?_; focus (simp only [kS, R1, R2, R3, R4, R5, R6, R7, reduceCtorEq, R9, dC_length, dC_take, Bool.not_true, Bool.not_false, bne_self_eq_false, BEq.rfl]; done)) | refine Qa ?_ | refine Qb ?_ | refine Qc ?_ | refine And.intro (by first | assumption | omega) ?_)
  refine ⟨_, hsm, rfl, ?_⟩
  try simp only [kS, R1, R2, R3, R4, R5, R6, R7, reduceCtorEq, R9, dC_length, dC_take, Bool.not_true, Bool.not_false, bne_self_eq_false, BEq.rfl]
  repeat (first | ((first | refine Q1 ?_ | refine Q2 ?_); intro Z hN hX hR) | refine Q3 (by kernel_rfl) fun K hK => ?_ | ((first | refine Q4 fun R hJ => ?_ | with_reducible change ExpAll _ _ _); simp only [kS, R1, R2, R3, R4, R5, R6, R7, reduceCtorEq, R9, dC_length, dC_take, Bool.not_true, Bool.not_false, bne_self_eq_false, BEq.rfl]) | (refine hJ _ ?_; clear hJ R) | refine Q5 ?_ | (refine hK _ ?_; clear hK K) | ((first | refine hN _ ?_ | refine hX _ _ ?_ | refine hR _ ?_); clear hN hX hR Z) | refine Q6 rfl ?_ | refine Q7 (by decide) ?_ | (refine Q8 ?_ ?_; focus (simp only [kS, R1, R2, R3, R4, R5, R6, R7, reduceCtorEq, R9, dC_length, dC_take, Bool.not_true, Bool.not_false, bne_self_eq_false, BEq.rfl]; done)) | (refine Q9 ?_ ?_; focus (simp only [kS, R1, R2, R3, R4, R5, R6, R7, reduceCtorEq, R9, dC_length, dC_take, Bool.not_true, Bool.not_false, bne_self_eq_false, BEq.rfl]; done)) | refine Qa ?_ | refine Qb ?_ | refine Qc ?_ | refine And.intro (by first | assumption | omega) ?_)
  all_goals rfl

end Go.Proofs.YtilhjiopbbbgmaaGreatDoor
