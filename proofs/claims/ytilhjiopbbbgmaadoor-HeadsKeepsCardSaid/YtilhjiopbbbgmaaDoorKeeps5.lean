/- Proved: HeadsKeeps of chapter 14, as a tied card: for every description and state the law's body answers true: what is handed in stays, what is answered is new memory. This is part 5 of 6 of that proof (first the abstract machine and its soundness, then the walks, the plain law, the card): no condition beyond the statement's own. -/
import Derived.Test.YtilhjiopbbbgmaaDoorKeeps4

/- May a text be a node's? Are nodes well formed? -/
namespace Go.Proofs.YtilhjiopbbbgmaaDoor
open Nat renaming reduceSub → R1, reduceMul → R2, reduceLeDiff → R3, reducePow → R4, reduceBEq → R5, reduceAdd → R6, reduceEqDiff → R7
open Int renaming reduceToNat → R9
open Go Go.RowKit Am
set_option linter.unusedVariables false
set_option linter.unusedSimpArgs false
set_option maxHeartbeats 4000000
attribute [local irreducible] AWp AOps

def noQ (s : ByteArray) : Nat → Nat → Bool
  | 0, _ => true
  | k + 1, i => if i < s.size then (if (bAt s (i : Int) == 34) = true then false else noQ s k (i + 1)) else true

def textB (s : ByteArray) : Bool := noQ s s.size 0 && (decide ((0 : Int) < (s.size : Int)) && utfB s)

theorem text_ret (gl : Gl) (s : ByteArray) (hs : s.size ≤ 140737488355328) : Ret Tryd.prog gl 71 [.c (.v (.string s))] (bv (textB s)) := by
  refine retq (rs := [2]) 21 Tryd.func71 (by kernel_rfl) rfl (by kernel_rfl) rfl (by simp) (by simp) fun Z hN hX hR => ?_
  repeat (first | ((first | refine Q1 ?_ | refine Q2 ?_); intro Z hN hX hR) | refine Q3 (by kernel_rfl) fun K hK => ?_ | ((first | refine Q4 fun R hJ => ?_ | with_reducible change ExpAll _ _ _); simp only [kS, R1, R2, R3, R4, R5, R6, R7, reduceCtorEq, R9]) | (refine hJ _ ?_; clear hJ R) | refine Q5 ?_ | (refine hK _ ?_; clear hK K) | ((first | refine hN _ ?_ | refine hX _ _ ?_ | refine hR _ ?_); clear hN hX hR Z) | refine Q6 rfl ?_ | refine Q7 (by decide) ?_ | (refine Q8 ?_ ?_; focus (simp only [kS, R1, R2, R3, R4, R5, R6, R7, reduceCtorEq, R9]; done)) | (refine Q9 ?_ ?_; focus (simp only [kS, R1, R2, R3, R4, R5, R6, R7, reduceCtorEq, R9]; done)) | refine Qa ?_ | refine Qb ?_ | refine Qc ?_ | refine And.intro (by first | assumption | omega) ?_)
  refine awq_loop (fun c f => ∃ (i : Nat), i ≤ s.size ∧ s.size = i + c ∧ f.t 0 = .c (.v (.string s)) ∧ f.t 3 = iv (i : Int) ∧ noQ s c i = noQ s s.size 0) s.size ?_ ?_
  · exact ⟨0, by omega, by omega, by simp only [kS, R1, R2, R3, R4, R5, R6, R7, reduceCtorEq, R9], by simp only [kS, R1, R2, R3, R4, R5, R6, R7, reduceCtorEq, R9]; rfl, rfl⟩
  rintro Z c f hN hX hR ⟨i, hi, hk, h0, h3, hc⟩
  by_cases hlt : i < s.size
  · obtain ⟨c, rfl⟩ : ∃ c', c = c' + 1 := ⟨c - 1, by omega⟩
    simp only [noQ, if_pos hlt] at hc
    cases hq : (bAt s (i : Int) == 34)
    · simp only [hq, Bool.false_eq_true, if_false] at hc
      repeat (first | ((first | refine Q1 ?_ | refine Q2 ?_); intro Z hN hX hR) | refine Q3 (by kernel_rfl) fun K hK => ?_ | ((first | refine Q4 fun R hJ => ?_ | with_reducible change ExpAll _ _ _); simp only [kS, R1, R2, R3, R4, R5, R6, R7, reduceCtorEq, R9, h0, h3, hlt, hq, decide_true]) | (refine hJ _ ?_; clear hJ R) | refine Q5 ?_ | (refine hK _ ?_; clear hK K) | ((first | refine hN _ ?_ | refine hX _ _ ?_ | refine hR _ ?_); clear hN hX hR Z) | refine Q6 rfl ?_ | refine Q7 (by decide) ?_ | (refine Q8 ?_ ?_; focus (simp only [kS, R1, R2, R3, R4, R5, R6, R7, reduceCtorEq, R9, h0, h3, hlt, hq, decide_true]; done)) | (refine Q9 ?_ ?_; focus (simp only [kS, R1, R2, R3, R4, R5, R6, R7, reduceCtorEq, R9, h0, h3, hlt, hq, decide_true]; done)) | refine Qa ?_ | refine Qb ?_ | refine Qc ?_ | refine And.intro (by first | assumption | omega) ?_)
      refine ⟨c, by omega, i + 1, by omega, by omega, by simp only [kS, R1, R2, R3, R4, R5, R6, R7, reduceCtorEq, R9, h0], ?_, hc⟩
      simp only [kS, R1, R2, R3, R4, R5, R6, R7, reduceCtorEq, R9]
      rw [wrap_i64 (by omega) (by omega)]; rfl
    · simp only [hq, if_true] at hc
      repeat (first | ((first | refine Q1 ?_ | refine Q2 ?_); intro Z hN hX hR) | refine Q3 (by kernel_rfl) fun K hK => ?_ | ((first | refine Q4 fun R hJ => ?_ | with_reducible change ExpAll _ _ _); simp only [kS, R1, R2, R3, R4, R5, R6, R7, reduceCtorEq, R9, h0, h3, hlt, hq, decide_true]) | (refine hJ _ ?_; clear hJ R) | refine Q5 ?_ | (refine hK _ ?_; clear hK K) | ((first | refine hN _ ?_ | refine hX _ _ ?_ | refine hR _ ?_); clear hN hX hR Z) | refine Q6 rfl ?_ | refine Q7 (by decide) ?_ | (refine Q8 ?_ ?_; focus (simp only [kS, R1, R2, R3, R4, R5, R6, R7, reduceCtorEq, R9, h0, h3, hlt, hq, decide_true]; done)) | (refine Q9 ?_ ?_; focus (simp only [kS, R1, R2, R3, R4, R5, R6, R7, reduceCtorEq, R9, h0, h3, hlt, hq, decide_true]; done)) | refine Qa ?_ | refine Qb ?_ | refine Qc ?_ | refine And.intro (by first | assumption | omega) ?_)
      simp only [textB, ← hc, Bool.false_and]
  · have e : c = 0 := by omega
    subst e
    simp only [noQ] at hc
    cases hp : decide ((0 : Int) < (s.size : Int))
    · repeat (first | ((first | refine Q1 ?_ | refine Q2 ?_); intro Z hN hX hR) | refine Q3 (by kernel_rfl) fun K hK => ?_ | ((first | refine Q4 fun R hJ => ?_ | with_reducible change ExpAll _ _ _); simp only [kS, R1, R2, R3, R4, R5, R6, R7, reduceCtorEq, R9, h0, h3, hlt, hp, decide_false]) | (refine hJ _ ?_; clear hJ R) | refine Q5 ?_ | (refine hK _ ?_; clear hK K) | ((first | refine hN _ ?_ | refine hX _ _ ?_ | refine hR _ ?_); clear hN hX hR Z) | refine Q6 rfl ?_ | refine Q7 (by decide) ?_ | (refine Q8 ?_ ?_; focus (simp only [kS, R1, R2, R3, R4, R5, R6, R7, reduceCtorEq, R9, h0, h3, hlt, hp, decide_false]; done)) | (refine Q9 ?_ ?_; focus (simp only [kS, R1, R2, R3, R4, R5, R6, R7, reduceCtorEq, R9, h0, h3, hlt, hp, decide_false]; done)) | refine Qa ?_ | refine Qb ?_ | refine Qc ?_ | refine And.intro (by first | assumption | omega) ?_)
      simp only [textB, hp, Bool.false_and, Bool.and_false]
    · repeat (first | ((first | refine Q1 ?_ | refine Q2 ?_); intro Z hN hX hR) | refine Q3 (by kernel_rfl) fun K hK => ?_ | ((first | refine Q4 fun R hJ => ?_ | with_reducible change ExpAll _ _ _); simp only [kS, R1, R2, R3, R4, R5, R6, R7, reduceCtorEq, R9, h0, h3, hlt, hp, decide_false]) | (refine hJ _ ?_; clear hJ R) | refine Q5 ?_ | (refine hK _ ?_; clear hK K) | ((first | refine hN _ ?_ | refine hX _ _ ?_ | refine hR _ ?_); clear hN hX hR Z) | refine Q6 rfl ?_ | refine Q7 (by decide) ?_ | (refine Q8 ?_ ?_; focus (simp only [kS, R1, R2, R3, R4, R5, R6, R7, reduceCtorEq, R9, h0, h3, hlt, hp, decide_false]; done)) | (refine Q9 ?_ ?_; focus (simp only [kS, R1, R2, R3, R4, R5, R6, R7, reduceCtorEq, R9, h0, h3, hlt, hp, decide_false]; done)) | refine Qa ?_ | refine Qb ?_ | refine Qc ?_ | refine And.intro (by first | assumption | omega) ?_)
      refine ⟨_, utf_ret gl s hs, rfl, ?_⟩
      simp only [kS, R1, R2, R3, R4, R5, R6, R7, reduceCtorEq, R9]
      repeat (first | ((first | refine Q1 ?_ | refine Q2 ?_); intro Z hN hX hR) | refine Q3 (by kernel_rfl) fun K hK => ?_ | ((first | refine Q4 fun R hJ => ?_ | with_reducible change ExpAll _ _ _); simp only [kS, R1, R2, R3, R4, R5, R6, R7, reduceCtorEq, R9, h0, h3, hlt, hp, decide_false]) | (refine hJ _ ?_; clear hJ R) | refine Q5 ?_ | (refine hK _ ?_; clear hK K) | ((first | refine hN _ ?_ | refine hX _ _ ?_ | refine hR _ ?_); clear hN hX hR Z) | refine Q6 rfl ?_ | refine Q7 (by decide) ?_ | (refine Q8 ?_ ?_; focus (simp only [kS, R1, R2, R3, R4, R5, R6, R7, reduceCtorEq, R9, h0, h3, hlt, hp, decide_false]; done)) | (refine Q9 ?_ ?_; focus (simp only [kS, R1, R2, R3, R4, R5, R6, R7, reduceCtorEq, R9, h0, h3, hlt, hp, decide_false]; done)) | refine Qa ?_ | refine Qb ?_ | refine Qc ?_ | refine And.intro (by first | assumption | omega) ?_)
      simp only [textB, hp, ← hc, Bool.true_and]

def eqN (n w : Nd) : Bool := n.k == w.k && (n.a == w.a && (n.b == w.b && (n.lo == w.lo && (n.hi == w.hi && (n.c0 == w.c0 && (n.c1 == w.c1 && (n.c2 == w.c2 && (n.c3 == w.c3 && n.s == w.s))))))))

def firstF (d : List Nd) : Nat → Int → Int
  | 0, _ => -1
  | k + 1, i =>
    if decide (i < 0) = true then -1
    else if ((nd d i).k == 1) = true then (if eqN (nd d i) ⟨(nd d i).k, 0, 0, 0, 0, 0, 0, 0, 0, ⟨#[]⟩⟩ = true then i else -1)
    else if ((nd d i).k == 2) = true then (if eqN (nd d i) ⟨(nd d i).k, 0, 0, 0, 0, (nd d i).c0, (nd d i).c1, (nd d i).c2, (nd d i).c3, ⟨#[]⟩⟩ = true then i else -1)
    else if ((nd d i).k == 3) = true then (if textB (nd d i).s = true then (if eqN (nd d i) ⟨(nd d i).k, 0, 0, 0, 0, 0, 0, 0, 0, (nd d i).s⟩ = true then i else -1) else -1)
    else if ((nd d i).k == 6 || ((nd d i).k == 8 || (nd d i).k == 9)) = true then (if eqN (nd d i) ⟨(nd d i).k, i - 1, 0, 0, 0, 0, 0, 0, 0, ⟨#[]⟩⟩ = true then firstF d k (i - 1) else -1)
    else if ((nd d i).k == 7) = true then
      (if (decide ((nd d i).lo < 0) || (decide ((nd d i).hi < (nd d i).lo) || decide (255 < (nd d i).hi))) = true then -1
       else if eqN (nd d i) ⟨(nd d i).k, i - 1, 0, (nd d i).lo, (nd d i).hi, 0, 0, 0, 0, ⟨#[]⟩⟩ = true then firstF d k (i - 1) else -1)
    else if ((nd d i).k == 4 || (nd d i).k == 5) = true then
      (if decide (firstF d k (i - 1) < 0) = true then -1
       else if eqN (nd d i) ⟨(nd d i).k, firstF d k (i - 1) - 1, i - 1, 0, 0, 0, 0, 0, 0, ⟨#[]⟩⟩ = true then firstF d k (firstF d k (i - 1) - 1) else -1)
    else -1

theorem firstF_le (d : List Nd) : ∀ (k : Nat) (i : Int), firstF d k i ≤ i ∨ firstF d k i = -1
  | 0, i => .inr rfl
  | k + 1, i => by
    have ih := firstF_le d k
    simp only [firstF]
    repeat' split
    all_goals (first | (right; rfl) | (left; omega) | (have h1 := ih (i - 1); have h2 := ih (firstF d k (i - 1) - 1); simp only [decide_eq_true_eq] at *; omega))

theorem first_ret (gl : Gl) (d : List Nd) (hl : d.length ≤ 1000000) (hs : ∀ n ∈ d, n.s.size ≤ 140737488355328) : ∀ (k : Nat) (i : Int), i < k → i < d.length → -1000000 ≤ i → Ret Tryd.prog gl 55 [.c (.sl d.length (ndsC d)), iv i] (iv (firstF d k i)) := by
  intro k
  induction k with
  | zero =>
    intro i h1 h2 h3
    refine retq (rs := [4]) 96 Tryd.func55 (by kernel_rfl) rfl (by kernel_rfl) rfl (by simp) (by simp) fun Z hN hX hR => ?_
    have h0 : i < 0 := by omega
    repeat (first | ((first | refine Q1 ?_ | refine Q2 ?_); intro Z hN hX hR) | refine Q3 (by kernel_rfl) fun K hK => ?_ | ((first | refine Q4 fun R hJ => ?_ | with_reducible change ExpAll _ _ _); simp only [kS, R1, R2, R3, R4, R5, R6, R7, reduceCtorEq, R9, h0, decide_true]) | (refine hJ _ ?_; clear hJ R) | refine Q5 ?_ | (refine hK _ ?_; clear hK K) | ((first | refine hN _ ?_ | refine hX _ _ ?_ | refine hR _ ?_); clear hN hX hR Z) | refine Q6 rfl ?_ | refine Q7 (by decide) ?_ | (refine Q8 ?_ ?_; focus (simp only [kS, R1, R2, R3, R4, R5, R6, R7, reduceCtorEq, R9, h0, decide_true]; done)) | (refine Q9 ?_ ?_; focus (simp only [kS, R1, R2, R3, R4, R5, R6, R7, reduceCtorEq, R9, h0, decide_true]; done)) | refine Qa ?_ | refine Qb ?_ | refine Qc ?_ | refine And.intro (by first | assumption | omega) ?_)
    rfl
  | succ k ih =>
    intro i h1 h2 h3
    refine retq (rs := [4]) 96 Tryd.func55 (by kernel_rfl) rfl (by kernel_rfl) rfl (by simp) (by simp) fun Z hN hX hR => ?_
    cases g0 : decide (i < 0)
    · obtain ⟨m, rfl⟩ : ∃ m : Nat, i = m := ⟨i.toNat, by simp at g0; omega⟩
      have hm : m < d.length := by omega
      have e := ndsC_drop d m hm
      have e' := nd_get d m hm
      have el := ndsC_length d
      have hlt : (m : Int) < d.length := by omega
      have hw : IntKind.i64.wrap ((m : Int) - 1) = (m : Int) - 1 := wrap_i64 (by omega) (by omega)
      repeat (first | ((first | refine Q1 ?_ | refine Q2 ?_); intro Z hN hX hR) | refine Q3 (by kernel_rfl) fun K hK => ?_ | ((first | refine Q4 fun R hJ => ?_ | with_reducible change ExpAll _ _ _); simp only [kS, R1, R2, R3, R4, R5, R6, R7, reduceCtorEq, R9, g0, e, el, hm, hlt]) | (refine hJ _ ?_; clear hJ R) | refine Q5 ?_ | (refine hK _ ?_; clear hK K) | ((first | refine hN _ ?_ | refine hX _ _ ?_ | refine hR _ ?_); clear hN hX hR Z) | refine Q6 rfl ?_ | refine Q7 (by decide) ?_ | (refine Q8 ?_ ?_; focus (simp only [kS, R1, R2, R3, R4, R5, R6, R7, reduceCtorEq, R9, g0, e, el, hm, hlt]; done)) | (refine Q9 ?_ ?_; focus (simp only [kS, R1, R2, R3, R4, R5, R6, R7, reduceCtorEq, R9, g0, e, el, hm, hlt]; done)) | refine Qa ?_ | refine Qb ?_ | refine Qc ?_ | refine And.intro (by first | assumption | omega) ?_)
      by_cases hk : d[m].k = 1
      · skip
        cases q : eqN d[m] ⟨1, 0, 0, 0, 0, 0, 0, 0, 0, ⟨#[]⟩⟩
        · have hq := q
          simp only [eqN, hk, Int.reduceBEq, BEq.rfl] at hq
          repeat (first | ((first | refine Q1 ?_ | refine Q2 ?_); intro Z hN hX hR) | refine Q3 (by kernel_rfl) fun K hK => ?_ | ((first | refine Q4 fun R hJ => ?_ | with_reducible change ExpAll _ _ _); simp only [kS, R1, R2, R3, R4, R5, R6, R7, reduceCtorEq, R9, g0, e, el, hm, hlt, hw, hk, Int.reduceBEq, cellsEq, eqks54, Bool.not_true, Bool.not_false, hq, ]) | (refine hJ _ ?_; clear hJ R) | refine Q5 ?_ | (refine hK _ ?_; clear hK K) | ((first | refine hN _ ?_ | refine hX _ _ ?_ | refine hR _ ?_); clear hN hX hR Z) | refine Q6 rfl ?_ | refine Q7 (by decide) ?_ | (refine Q8 ?_ ?_; focus (simp only [kS, R1, R2, R3, R4, R5, R6, R7, reduceCtorEq, R9, g0, e, el, hm, hlt, hw, hk, Int.reduceBEq, cellsEq, eqks54, Bool.not_true, Bool.not_false, hq, ]; done)) | (refine Q9 ?_ ?_; focus (simp only [kS, R1, R2, R3, R4, R5, R6, R7, reduceCtorEq, R9, g0, e, el, hm, hlt, hw, hk, Int.reduceBEq, cellsEq, eqks54, Bool.not_true, Bool.not_false, hq, ]; done)) | refine Qa ?_ | refine Qb ?_ | refine Qc ?_ | refine And.intro (by first | assumption | omega) ?_)
          simp only [firstF, g0, e', hk, Int.reduceBEq, Bool.or_true, Bool.or_false, Bool.true_or, Bool.false_eq_true, if_true, if_false, q, ]
        · have hq := q
          simp only [eqN, hk, Int.reduceBEq, BEq.rfl] at hq
          repeat (first | ((first | refine Q1 ?_ | refine Q2 ?_); intro Z hN hX hR) | refine Q3 (by kernel_rfl) fun K hK => ?_ | ((first | refine Q4 fun R hJ => ?_ | with_reducible change ExpAll _ _ _); simp only [kS, R1, R2, R3, R4, R5, R6, R7, reduceCtorEq, R9, g0, e, el, hm, hlt, hw, hk, Int.reduceBEq, cellsEq, eqks54, Bool.not_true, Bool.not_false, hq, ]) | (refine hJ _ ?_; clear hJ R) | refine Q5 ?_ | (refine hK _ ?_; clear hK K) | ((first | refine hN _ ?_ | refine hX _ _ ?_ | refine hR _ ?_); clear hN hX hR Z) | refine Q6 rfl ?_ | refine Q7 (by decide) ?_ | (refine Q8 ?_ ?_; focus (simp only [kS, R1, R2, R3, R4, R5, R6, R7, reduceCtorEq, R9, g0, e, el, hm, hlt, hw, hk, Int.reduceBEq, cellsEq, eqks54, Bool.not_true, Bool.not_false, hq, ]; done)) | (refine Q9 ?_ ?_; focus (simp only [kS, R1, R2, R3, R4, R5, R6, R7, reduceCtorEq, R9, g0, e, el, hm, hlt, hw, hk, Int.reduceBEq, cellsEq, eqks54, Bool.not_true, Bool.not_false, hq, ]; done)) | refine Qa ?_ | refine Qb ?_ | refine Qc ?_ | refine And.intro (by first | assumption | omega) ?_)
          simp only [firstF, g0, e', hk, Int.reduceBEq, Bool.or_true, Bool.or_false, Bool.true_or, Bool.false_eq_true, if_true, if_false, q, ]
      by_cases hk : d[m].k = 2
      · skip
        cases q : eqN d[m] ⟨2, 0, 0, 0, 0, d[m].c0, d[m].c1, d[m].c2, d[m].c3, ⟨#[]⟩⟩
        · have hq := q
          simp only [eqN, hk, Int.reduceBEq, BEq.rfl] at hq
          repeat (first | ((first | refine Q1 ?_ | refine Q2 ?_); intro Z hN hX hR) | refine Q3 (by kernel_rfl) fun K hK => ?_ | ((first | refine Q4 fun R hJ => ?_ | with_reducible change ExpAll _ _ _); simp only [kS, R1, R2, R3, R4, R5, R6, R7, reduceCtorEq, R9, g0, e, el, hm, hlt, hw, hk, Int.reduceBEq, cellsEq, eqks54, Bool.not_true, Bool.not_false, hq, ]) | (refine hJ _ ?_; clear hJ R) | refine Q5 ?_ | (refine hK _ ?_; clear hK K) | ((first | refine hN _ ?_ | refine hX _ _ ?_ | refine hR _ ?_); clear hN hX hR Z) | refine Q6 rfl ?_ | refine Q7 (by decide) ?_ | (refine Q8 ?_ ?_; focus (simp only [kS, R1, R2, R3, R4, R5, R6, R7, reduceCtorEq, R9, g0, e, el, hm, hlt, hw, hk, Int.reduceBEq, cellsEq, eqks54, Bool.not_true, Bool.not_false, hq, ]; done)) | (refine Q9 ?_ ?_; focus (simp only [kS, R1, R2, R3, R4, R5, R6, R7, reduceCtorEq, R9, g0, e, el, hm, hlt, hw, hk, Int.reduceBEq, cellsEq, eqks54, Bool.not_true, Bool.not_false, hq, ]; done)) | refine Qa ?_ | refine Qb ?_ | refine Qc ?_ | refine And.intro (by first | assumption | omega) ?_)
          simp only [firstF, g0, e', hk, Int.reduceBEq, Bool.or_true, Bool.or_false, Bool.true_or, Bool.false_eq_true, if_true, if_false, q, ]
        · have hq := q
          simp only [eqN, hk, Int.reduceBEq, BEq.rfl] at hq
          repeat (first | ((first | refine Q1 ?_ | refine Q2 ?_); intro Z hN hX hR) | refine Q3 (by kernel_rfl) fun K hK => ?_ | ((first | refine Q4 fun R hJ => ?_ | with_reducible change ExpAll _ _ _); simp only [kS, R1, R2, R3, R4, R5, R6, R7, reduceCtorEq, R9, g0, e, el, hm, hlt, hw, hk, Int.reduceBEq, cellsEq, eqks54, Bool.not_true, Bool.not_false, hq, ]) | (refine hJ _ ?_; clear hJ R) | refine Q5 ?_ | (refine hK _ ?_; clear hK K) | ((first | refine hN _ ?_ | refine hX _ _ ?_ | refine hR _ ?_); clear hN hX hR Z) | refine Q6 rfl ?_ | refine Q7 (by decide) ?_ | (refine Q8 ?_ ?_; focus (simp only [kS, R1, R2, R3, R4, R5, R6, R7, reduceCtorEq, R9, g0, e, el, hm, hlt, hw, hk, Int.reduceBEq, cellsEq, eqks54, Bool.not_true, Bool.not_false, hq, ]; done)) | (refine Q9 ?_ ?_; focus (simp only [kS, R1, R2, R3, R4, R5, R6, R7, reduceCtorEq, R9, g0, e, el, hm, hlt, hw, hk, Int.reduceBEq, cellsEq, eqks54, Bool.not_true, Bool.not_false, hq, ]; done)) | refine Qa ?_ | refine Qb ?_ | refine Qc ?_ | refine And.intro (by first | assumption | omega) ?_)
          simp only [firstF, g0, e', hk, Int.reduceBEq, Bool.or_true, Bool.or_false, Bool.true_or, Bool.false_eq_true, if_true, if_false, q, ]
      by_cases hk : d[m].k = 3
      · skip
        have tr := text_ret gl d[m].s (hs _ (List.getElem_mem hm))
        cases tb : textB d[m].s
        · repeat (first | ((first | refine Q1 ?_ | refine Q2 ?_); intro Z hN hX hR) | refine Q3 (by kernel_rfl) fun K hK => ?_ | ((first | refine Q4 fun R hJ => ?_ | with_reducible change ExpAll _ _ _); simp only [kS, R1, R2, R3, R4, R5, R6, R7, reduceCtorEq, R9, g0, e, el, hm, hlt, hw, hk, Int.reduceBEq, cellsEq, eqks54, Bool.not_true, Bool.not_false, tb]) | (refine hJ _ ?_; clear hJ R) | refine Q5 ?_ | (refine hK _ ?_; clear hK K) | ((first | refine hN _ ?_ | refine hX _ _ ?_ | refine hR _ ?_); clear hN hX hR Z) | refine Q6 rfl ?_ | refine Q7 (by decide) ?_ | (refine Q8 ?_ ?_; focus (simp only [kS, R1, R2, R3, R4, R5, R6, R7, reduceCtorEq, R9, g0, e, el, hm, hlt, hw, hk, Int.reduceBEq, cellsEq, eqks54, Bool.not_true, Bool.not_false, tb]; done)) | (refine Q9 ?_ ?_; focus (simp only [kS, R1, R2, R3, R4, R5, R6, R7, reduceCtorEq, R9, g0, e, el, hm, hlt, hw, hk, Int.reduceBEq, cellsEq, eqks54, Bool.not_true, Bool.not_false, tb]; done)) | refine Qa ?_ | refine Qb ?_ | refine Qc ?_ | refine And.intro (by first | assumption | omega) ?_)
          refine ⟨_, tr, rfl, ?_⟩
          simp only [kS, R1, R2, R3, R4, R5, R6, R7, reduceCtorEq, R9, g0, e, el, hm, hlt, hw, hk, Int.reduceBEq, cellsEq, eqks54, Bool.not_true, Bool.not_false, tb]
          repeat (first | ((first | refine Q1 ?_ | refine Q2 ?_); intro Z hN hX hR) | refine Q3 (by kernel_rfl) fun K hK => ?_ | ((first | refine Q4 fun R hJ => ?_ | with_reducible change ExpAll _ _ _); simp only [kS, R1, R2, R3, R4, R5, R6, R7, reduceCtorEq, R9, g0, e, el, hm, hlt, hw, hk, Int.reduceBEq, cellsEq, eqks54, Bool.not_true, Bool.not_false, tb]) | (refine hJ _ ?_; clear hJ R) | refine Q5 ?_ | (refine hK _ ?_; clear hK K) | ((first | refine hN _ ?_ | refine hX _ _ ?_ | refine hR _ ?_); clear hN hX hR Z) | refine Q6 rfl ?_ | refine Q7 (by decide) ?_ | (refine Q8 ?_ ?_; focus (simp only [kS, R1, R2, R3, R4, R5, R6, R7, reduceCtorEq, R9, g0, e, el, hm, hlt, hw, hk, Int.reduceBEq, cellsEq, eqks54, Bool.not_true, Bool.not_false, tb]; done)) | (refine Q9 ?_ ?_; focus (simp only [kS, R1, R2, R3, R4, R5, R6, R7, reduceCtorEq, R9, g0, e, el, hm, hlt, hw, hk, Int.reduceBEq, cellsEq, eqks54, Bool.not_true, Bool.not_false, tb]; done)) | refine Qa ?_ | refine Qb ?_ | refine Qc ?_ | refine And.intro (by first | assumption | omega) ?_)
          simp only [firstF, g0, e', hk, Int.reduceBEq, Bool.or_true, Bool.or_false, Bool.true_or, Bool.false_eq_true, if_true, if_false, tb]
        · skip
          cases q : eqN d[m] ⟨3, 0, 0, 0, 0, 0, 0, 0, 0, d[m].s⟩
          · have hq := q
            simp only [eqN, hk, Int.reduceBEq, BEq.rfl] at hq
            repeat (first | ((first | refine Q1 ?_ | refine Q2 ?_); intro Z hN hX hR) | refine Q3 (by kernel_rfl) fun K hK => ?_ | ((first | refine Q4 fun R hJ => ?_ | with_reducible change ExpAll _ _ _); simp only [kS, R1, R2, R3, R4, R5, R6, R7, reduceCtorEq, R9, g0, e, el, hm, hlt, hw, hk, Int.reduceBEq, cellsEq, eqks54, Bool.not_true, Bool.not_false, hq, tb]) | (refine hJ _ ?_; clear hJ R) | refine Q5 ?_ | (refine hK _ ?_; clear hK K) | ((first | refine hN _ ?_ | refine hX _ _ ?_ | refine hR _ ?_); clear hN hX hR Z) | refine Q6 rfl ?_ | refine Q7 (by decide) ?_ | (refine Q8 ?_ ?_; focus (simp only [kS, R1, R2, R3, R4, R5, R6, R7, reduceCtorEq, R9, g0, e, el, hm, hlt, hw, hk, Int.reduceBEq, cellsEq, eqks54, Bool.not_true, Bool.not_false, hq, tb]; done)) | (refine Q9 ?_ ?_; focus (simp only [kS, R1, R2, R3, R4, R5, R6, R7, reduceCtorEq, R9, g0, e, el, hm, hlt, hw, hk, Int.reduceBEq, cellsEq, eqks54, Bool.not_true, Bool.not_false, hq, tb]; done)) | refine Qa ?_ | refine Qb ?_ | refine Qc ?_ | refine And.intro (by first | assumption | omega) ?_)
            refine ⟨_, tr, rfl, ?_⟩
            simp only [kS, R1, R2, R3, R4, R5, R6, R7, reduceCtorEq, R9, g0, e, el, hm, hlt, hw, hk, Int.reduceBEq, cellsEq, eqks54, Bool.not_true, Bool.not_false, hq, tb]
            repeat (first | ((first | refine Q1 ?_ | refine Q2 ?_); intro Z hN hX hR) | refine Q3 (by kernel_rfl) fun K hK => ?_ | ((first | refine Q4 fun R hJ => ?_ | with_reducible change ExpAll _ _ _); simp only [kS, R1, R2, R3, R4, R5, R6, R7, reduceCtorEq, R9, g0, e, el, hm, hlt, hw, hk, Int.reduceBEq, cellsEq, eqks54, Bool.not_true, Bool.not_false, hq, tb]) | (refine hJ _ ?_; clear hJ R) | refine Q5 ?_ | (refine hK _ ?_; clear hK K) | ((first | refine hN _ ?_ | refine hX _ _ ?_ | refine hR _ ?_); clear hN hX hR Z) | refine Q6 rfl ?_ | refine Q7 (by decide) ?_ | (refine Q8 ?_ ?_; focus (simp only [kS, R1, R2, R3, R4, R5, R6, R7, reduceCtorEq, R9, g0, e, el, hm, hlt, hw, hk, Int.reduceBEq, cellsEq, eqks54, Bool.not_true, Bool.not_false, hq, tb]; done)) | (refine Q9 ?_ ?_; focus (simp only [kS, R1, R2, R3, R4, R5, R6, R7, reduceCtorEq, R9, g0, e, el, hm, hlt, hw, hk, Int.reduceBEq, cellsEq, eqks54, Bool.not_true, Bool.not_false, hq, tb]; done)) | refine Qa ?_ | refine Qb ?_ | refine Qc ?_ | refine And.intro (by first | assumption | omega) ?_)
            simp only [firstF, g0, e', hk, Int.reduceBEq, Bool.or_true, Bool.or_false, Bool.true_or, Bool.false_eq_true, if_true, if_false, q, tb]
          · have hq := q
            simp only [eqN, hk, Int.reduceBEq, BEq.rfl] at hq
            repeat (first | ((first | refine Q1 ?_ | refine Q2 ?_); intro Z hN hX hR) | refine Q3 (by kernel_rfl) fun K hK => ?_ | ((first | refine Q4 fun R hJ => ?_ | with_reducible change ExpAll _ _ _); simp only [kS, R1, R2, R3, R4, R5, R6, R7, reduceCtorEq, R9, g0, e, el, hm, hlt, hw, hk, Int.reduceBEq, cellsEq, eqks54, Bool.not_true, Bool.not_false, hq, tb]) | (refine hJ _ ?_; clear hJ R) | refine Q5 ?_ | (refine hK _ ?_; clear hK K) | ((first | refine hN _ ?_ | refine hX _ _ ?_ | refine hR _ ?_); clear hN hX hR Z) | refine Q6 rfl ?_ | refine Q7 (by decide) ?_ | (refine Q8 ?_ ?_; focus (simp only [kS, R1, R2, R3, R4, R5, R6, R7, reduceCtorEq, R9, g0, e, el, hm, hlt, hw, hk, Int.reduceBEq, cellsEq, eqks54, Bool.not_true, Bool.not_false, hq, tb]; done)) | (refine Q9 ?_ ?_; focus (simp only [kS, R1, R2, R3, R4, R5, R6, R7, reduceCtorEq, R9, g0, e, el, hm, hlt, hw, hk, Int.reduceBEq, cellsEq, eqks54, Bool.not_true, Bool.not_false, hq, tb]; done)) | refine Qa ?_ | refine Qb ?_ | refine Qc ?_ | refine And.intro (by first | assumption | omega) ?_)
            refine ⟨_, tr, rfl, ?_⟩
            simp only [kS, R1, R2, R3, R4, R5, R6, R7, reduceCtorEq, R9, g0, e, el, hm, hlt, hw, hk, Int.reduceBEq, cellsEq, eqks54, Bool.not_true, Bool.not_false, hq, tb]
            repeat (first | ((first | refine Q1 ?_ | refine Q2 ?_); intro Z hN hX hR) | refine Q3 (by kernel_rfl) fun K hK => ?_ | ((first | refine Q4 fun R hJ => ?_ | with_reducible change ExpAll _ _ _); simp only [kS, R1, R2, R3, R4, R5, R6, R7, reduceCtorEq, R9, g0, e, el, hm, hlt, hw, hk, Int.reduceBEq, cellsEq, eqks54, Bool.not_true, Bool.not_false, hq, tb]) | (refine hJ _ ?_; clear hJ R) | refine Q5 ?_ | (refine hK _ ?_; clear hK K) | ((first | refine hN _ ?_ | refine hX _ _ ?_ | refine hR _ ?_); clear hN hX hR Z) | refine Q6 rfl ?_ | refine Q7 (by decide) ?_ | (refine Q8 ?_ ?_; focus (simp only [kS, R1, R2, R3, R4, R5, R6, R7, reduceCtorEq, R9, g0, e, el, hm, hlt, hw, hk, Int.reduceBEq, cellsEq, eqks54, Bool.not_true, Bool.not_false, hq, tb]; done)) | (refine Q9 ?_ ?_; focus (simp only [kS, R1, R2, R3, R4, R5, R6, R7, reduceCtorEq, R9, g0, e, el, hm, hlt, hw, hk, Int.reduceBEq, cellsEq, eqks54, Bool.not_true, Bool.not_false, hq, tb]; done)) | refine Qa ?_ | refine Qb ?_ | refine Qc ?_ | refine And.intro (by first | assumption | omega) ?_)
            simp only [firstF, g0, e', hk, Int.reduceBEq, Bool.or_true, Bool.or_false, Bool.true_or, Bool.false_eq_true, if_true, if_false, q, tb]
      by_cases hk : d[m].k = 6
      · skip
        cases q : eqN d[m] ⟨6, m - 1, 0, 0, 0, 0, 0, 0, 0, ⟨#[]⟩⟩
        · have hq := q
          simp only [eqN, hk, Int.reduceBEq, BEq.rfl] at hq
          repeat (first | ((first | refine Q1 ?_ | refine Q2 ?_); intro Z hN hX hR) | refine Q3 (by kernel_rfl) fun K hK => ?_ | ((first | refine Q4 fun R hJ => ?_ | with_reducible change ExpAll _ _ _); simp only [kS, R1, R2, R3, R4, R5, R6, R7, reduceCtorEq, R9, g0, e, el, hm, hlt, hw, hk, Int.reduceBEq, cellsEq, eqks54, Bool.not_true, Bool.not_false, hq, ]) | (refine hJ _ ?_; clear hJ R) | refine Q5 ?_ | (refine hK _ ?_; clear hK K) | ((first | refine hN _ ?_ | refine hX _ _ ?_ | refine hR _ ?_); clear hN hX hR Z) | refine Q6 rfl ?_ | refine Q7 (by decide) ?_ | (refine Q8 ?_ ?_; focus (simp only [kS, R1, R2, R3, R4, R5, R6, R7, reduceCtorEq, R9, g0, e, el, hm, hlt, hw, hk, Int.reduceBEq, cellsEq, eqks54, Bool.not_true, Bool.not_false, hq, ]; done)) | (refine Q9 ?_ ?_; focus (simp only [kS, R1, R2, R3, R4, R5, R6, R7, reduceCtorEq, R9, g0, e, el, hm, hlt, hw, hk, Int.reduceBEq, cellsEq, eqks54, Bool.not_true, Bool.not_false, hq, ]; done)) | refine Qa ?_ | refine Qb ?_ | refine Qc ?_ | refine And.intro (by first | assumption | omega) ?_)
          refine ⟨_, ih ((m : Int) - 1) (by omega) (by omega) (by omega), rfl, ?_⟩
          simp only [kS, R1, R2, R3, R4, R5, R6, R7, reduceCtorEq, R9, g0, e, el, hm, hlt, hw, hk, Int.reduceBEq, cellsEq, eqks54, Bool.not_true, Bool.not_false, hq, ]
          repeat (first | ((first | refine Q1 ?_ | refine Q2 ?_); intro Z hN hX hR) | refine Q3 (by kernel_rfl) fun K hK => ?_ | ((first | refine Q4 fun R hJ => ?_ | with_reducible change ExpAll _ _ _); simp only [kS, R1, R2, R3, R4, R5, R6, R7, reduceCtorEq, R9, g0, e, el, hm, hlt, hw, hk, Int.reduceBEq, cellsEq, eqks54, Bool.not_true, Bool.not_false, hq, ]) | (refine hJ _ ?_; clear hJ R) | refine Q5 ?_ | (refine hK _ ?_; clear hK K) | ((first | refine hN _ ?_ | refine hX _ _ ?_ | refine hR _ ?_); clear hN hX hR Z) | refine Q6 rfl ?_ | refine Q7 (by decide) ?_ | (refine Q8 ?_ ?_; focus (simp only [kS, R1, R2, R3, R4, R5, R6, R7, reduceCtorEq, R9, g0, e, el, hm, hlt, hw, hk, Int.reduceBEq, cellsEq, eqks54, Bool.not_true, Bool.not_false, hq, ]; done)) | (refine Q9 ?_ ?_; focus (simp only [kS, R1, R2, R3, R4, R5, R6, R7, reduceCtorEq, R9, g0, e, el, hm, hlt, hw, hk, Int.reduceBEq, cellsEq, eqks54, Bool.not_true, Bool.not_false, hq, ]; done)) | refine Qa ?_ | refine Qb ?_ | refine Qc ?_ | refine And.intro (by first | assumption | omega) ?_)
          simp only [firstF, g0, e', hk, Int.reduceBEq, Bool.or_true, Bool.or_false, Bool.true_or, Bool.false_eq_true, if_true, if_false, q, ]
        · have hq := q
          simp only [eqN, hk, Int.reduceBEq, BEq.rfl] at hq
          repeat (first | ((first | refine Q1 ?_ | refine Q2 ?_); intro Z hN hX hR) | refine Q3 (by kernel_rfl) fun K hK => ?_ | ((first | refine Q4 fun R hJ => ?_ | with_reducible change ExpAll _ _ _); simp only [kS, R1, R2, R3, R4, R5, R6, R7, reduceCtorEq, R9, g0, e, el, hm, hlt, hw, hk, Int.reduceBEq, cellsEq, eqks54, Bool.not_true, Bool.not_false, hq, ]) | (refine hJ _ ?_; clear hJ R) | refine Q5 ?_ | (refine hK _ ?_; clear hK K) | ((first | refine hN _ ?_ | refine hX _ _ ?_ | refine hR _ ?_); clear hN hX hR Z) | refine Q6 rfl ?_ | refine Q7 (by decide) ?_ | (refine Q8 ?_ ?_; focus (simp only [kS, R1, R2, R3, R4, R5, R6, R7, reduceCtorEq, R9, g0, e, el, hm, hlt, hw, hk, Int.reduceBEq, cellsEq, eqks54, Bool.not_true, Bool.not_false, hq, ]; done)) | (refine Q9 ?_ ?_; focus (simp only [kS, R1, R2, R3, R4, R5, R6, R7, reduceCtorEq, R9, g0, e, el, hm, hlt, hw, hk, Int.reduceBEq, cellsEq, eqks54, Bool.not_true, Bool.not_false, hq, ]; done)) | refine Qa ?_ | refine Qb ?_ | refine Qc ?_ | refine And.intro (by first | assumption | omega) ?_)
          refine ⟨_, ih ((m : Int) - 1) (by omega) (by omega) (by omega), rfl, ?_⟩
          simp only [kS, R1, R2, R3, R4, R5, R6, R7, reduceCtorEq, R9, g0, e, el, hm, hlt, hw, hk, Int.reduceBEq, cellsEq, eqks54, Bool.not_true, Bool.not_false, hq, ]
          repeat (first | ((first | refine Q1 ?_ | refine Q2 ?_); intro Z hN hX hR) | refine Q3 (by kernel_rfl) fun K hK => ?_ | ((first | refine Q4 fun R hJ => ?_ | with_reducible change ExpAll _ _ _); simp only [kS, R1, R2, R3, R4, R5, R6, R7, reduceCtorEq, R9, g0, e, el, hm, hlt, hw, hk, Int.reduceBEq, cellsEq, eqks54, Bool.not_true, Bool.not_false, hq, ]) | (refine hJ _ ?_; clear hJ R) | refine Q5 ?_ | (refine hK _ ?_; clear hK K) | ((first | refine hN _ ?_ | refine hX _ _ ?_ | refine hR _ ?_); clear hN hX hR Z) | refine Q6 rfl ?_ | refine Q7 (by decide) ?_ | (refine Q8 ?_ ?_; focus (simp only [kS, R1, R2, R3, R4, R5, R6, R7, reduceCtorEq, R9, g0, e, el, hm, hlt, hw, hk, Int.reduceBEq, cellsEq, eqks54, Bool.not_true, Bool.not_false, hq, ]; done)) | (refine Q9 ?_ ?_; focus (simp only [kS, R1, R2, R3, R4, R5, R6, R7, reduceCtorEq, R9, g0, e, el, hm, hlt, hw, hk, Int.reduceBEq, cellsEq, eqks54, Bool.not_true, Bool.not_false, hq, ]; done)) | refine Qa ?_ | refine Qb ?_ | refine Qc ?_ | refine And.intro (by first | assumption | omega) ?_)
          simp only [firstF, g0, e', hk, Int.reduceBEq, Bool.or_true, Bool.or_false, Bool.true_or, Bool.false_eq_true, if_true, if_false, q, ]
      by_cases hk : d[m].k = 8
      · skip
        cases q : eqN d[m] ⟨8, m - 1, 0, 0, 0, 0, 0, 0, 0, ⟨#[]⟩⟩
        · have hq := q
          simp only [eqN, hk, Int.reduceBEq, BEq.rfl] at hq
          repeat (first | ((first | refine Q1 ?_ | refine Q2 ?_); intro Z hN hX hR) | refine Q3 (by kernel_rfl) fun K hK => ?_ | ((first | refine Q4 fun R hJ => ?_ | with_reducible change ExpAll _ _ _); simp only [kS, R1, R2, R3, R4, R5, R6, R7, reduceCtorEq, R9, g0, e, el, hm, hlt, hw, hk, Int.reduceBEq, cellsEq, eqks54, Bool.not_true, Bool.not_false, hq, ]) | (refine hJ _ ?_; clear hJ R) | refine Q5 ?_ | (refine hK _ ?_; clear hK K) | ((first | refine hN _ ?_ | refine hX _ _ ?_ | refine hR _ ?_); clear hN hX hR Z) | refine Q6 rfl ?_ | refine Q7 (by decide) ?_ | (refine Q8 ?_ ?_; focus (simp only [kS, R1, R2, R3, R4, R5, R6, R7, reduceCtorEq, R9, g0, e, el, hm, hlt, hw, hk, Int.reduceBEq, cellsEq, eqks54, Bool.not_true, Bool.not_false, hq, ]; done)) | (refine Q9 ?_ ?_; focus (simp only [kS, R1, R2, R3, R4, R5, R6, R7, reduceCtorEq, R9, g0, e, el, hm, hlt, hw, hk, Int.reduceBEq, cellsEq, eqks54, Bool.not_true, Bool.not_false, hq, ]; done)) | refine Qa ?_ | refine Qb ?_ | refine Qc ?_ | refine And.intro (by first | assumption | omega) ?_)
          refine ⟨_, ih ((m : Int) - 1) (by omega) (by omega) (by omega), rfl, ?_⟩
          simp only [kS, R1, R2, R3, R4, R5, R6, R7, reduceCtorEq, R9, g0, e, el, hm, hlt, hw, hk, Int.reduceBEq, cellsEq, eqks54, Bool.not_true, Bool.not_false, hq, ]
          repeat (first | ((first | refine Q1 ?_ | refine Q2 ?_); intro Z hN hX hR) | refine Q3 (by kernel_rfl) fun K hK => ?_ | ((first | refine Q4 fun R hJ => ?_ | with_reducible change ExpAll _ _ _); simp only [kS, R1, R2, R3, R4, R5, R6, R7, reduceCtorEq, R9, g0, e, el, hm, hlt, hw, hk, Int.reduceBEq, cellsEq, eqks54, Bool.not_true, Bool.not_false, hq, ]) | (refine hJ _ ?_; clear hJ R) | refine Q5 ?_ | (refine hK _ ?_; clear hK K) | ((first | refine hN _ ?_ | refine hX _ _ ?_ | refine hR _ ?_); clear hN hX hR Z) | refine Q6 rfl ?_ | refine Q7 (by decide) ?_ | (refine Q8 ?_ ?_; focus (simp only [kS, R1, R2, R3, R4, R5, R6, R7, reduceCtorEq, R9, g0, e, el, hm, hlt, hw, hk, Int.reduceBEq, cellsEq, eqks54, Bool.not_true, Bool.not_false, hq, ]; done)) | (refine Q9 ?_ ?_; focus (simp only [kS, R1, R2, R3, R4, R5, R6, R7, reduceCtorEq, R9, g0, e, el, hm, hlt, hw, hk, Int.reduceBEq, cellsEq, eqks54, Bool.not_true, Bool.not_false, hq, ]; done)) | refine Qa ?_ | refine Qb ?_ | refine Qc ?_ | refine And.intro (by first | assumption | omega) ?_)
          simp only [firstF, g0, e', hk, Int.reduceBEq, Bool.or_true, Bool.or_false, Bool.true_or, Bool.false_eq_true, if_true, if_false, q, ]
        · have hq := q
          simp only [eqN, hk, Int.reduceBEq, BEq.rfl] at hq
          repeat (first | ((first | refine Q1 ?_ | refine Q2 ?_); intro Z hN hX hR) | refine Q3 (by kernel_rfl) fun K hK => ?_ | ((first | refine Q4 fun R hJ => ?_ | with_reducible change ExpAll _ _ _); simp only [kS, R1, R2, R3, R4, R5, R6, R7, reduceCtorEq, R9, g0, e, el, hm, hlt, hw, hk, Int.reduceBEq, cellsEq, eqks54, Bool.not_true, Bool.not_false, hq, ]) | (refine hJ _ ?_; clear hJ R) | refine Q5 ?_ | (refine hK _ ?_; clear hK K) | ((first | refine hN _ ?_ | refine hX _ _ ?_ | refine hR _ ?_); clear hN hX hR Z) | refine Q6 rfl ?_ | refine Q7 (by decide) ?_ | (refine Q8 ?_ ?_; focus (simp only [kS, R1, R2, R3, R4, R5, R6, R7, reduceCtorEq, R9, g0, e, el, hm, hlt, hw, hk, Int.reduceBEq, cellsEq, eqks54, Bool.not_true, Bool.not_false, hq, ]; done)) | (refine Q9 ?_ ?_; focus (simp only [kS, R1, R2, R3, R4, R5, R6, R7, reduceCtorEq, R9, g0, e, el, hm, hlt, hw, hk, Int.reduceBEq, cellsEq, eqks54, Bool.not_true, Bool.not_false, hq, ]; done)) | refine Qa ?_ | refine Qb ?_ | refine Qc ?_ | refine And.intro (by first | assumption | omega) ?_)
          refine ⟨_, ih ((m : Int) - 1) (by omega) (by omega) (by omega), rfl, ?_⟩
          simp only [kS, R1, R2, R3, R4, R5, R6, R7, reduceCtorEq, R9, g0, e, el, hm, hlt, hw, hk, Int.reduceBEq, cellsEq, eqks54, Bool.not_true, Bool.not_false, hq, ]
          repeat (first | ((first | refine Q1 ?_ | refine Q2 ?_); intro Z hN hX hR) | refine Q3 (by kernel_rfl) fun K hK => ?_ | ((first | refine Q4 fun R hJ => ?_ | with_reducible change ExpAll _ _ _); simp only [kS, R1, R2, R3, R4, R5, R6, R7, reduceCtorEq, R9, g0, e, el, hm, hlt, hw, hk, Int.reduceBEq, cellsEq, eqks54, Bool.not_true, Bool.not_false, hq, ]) | (refine hJ _ ?_; clear hJ R) | refine Q5 ?_ | (refine hK _ ?_; clear hK K) | ((first | refine hN _ ?_ | refine hX _ _ ?_ | refine hR _ ?_); clear hN hX hR Z) | refine Q6 rfl ?_ | refine Q7 (by decide) ?_ | (refine Q8 ?_ ?_; focus (simp only [kS, R1, R2, R3, R4, R5, R6, R7, reduceCtorEq, R9, g0, e, el, hm, hlt, hw, hk, Int.reduceBEq, cellsEq, eqks54, Bool.not_true, Bool.not_false, hq, ]; done)) | (refine Q9 ?_ ?_; focus (simp only [kS, R1, R2, R3, R4, R5, R6, R7, reduceCtorEq, R9, g0, e, el, hm, hlt, hw, hk, Int.reduceBEq, cellsEq, eqks54, Bool.not_true, Bool.not_false, hq, ]; done)) | refine Qa ?_ | refine Qb ?_ | refine Qc ?_ | refine And.intro (by first | assumption | omega) ?_)
          simp only [firstF, g0, e', hk, Int.reduceBEq, Bool.or_true, Bool.or_false, Bool.true_or, Bool.false_eq_true, if_true, if_false, q, ]
      by_cases hk : d[m].k = 9
      · skip
        cases q : eqN d[m] ⟨9, m - 1, 0, 0, 0, 0, 0, 0, 0, ⟨#[]⟩⟩
        · have hq := q
          simp only [eqN, hk, Int.reduceBEq, BEq.rfl] at hq
          repeat (first | ((first | refine Q1 ?_ | refine Q2 ?_); intro Z hN hX hR) | refine Q3 (by kernel_rfl) fun K hK => ?_ | ((first | refine Q4 fun R hJ => ?_ | with_reducible change ExpAll _ _ _); simp only [kS, R1, R2, R3, R4, R5, R6, R7, reduceCtorEq, R9, g0, e, el, hm, hlt, hw, hk, Int.reduceBEq, cellsEq, eqks54, Bool.not_true, Bool.not_false, hq, ]) | (refine hJ _ ?_; clear hJ R) | refine Q5 ?_ | (refine hK _ ?_; clear hK K) | ((first | refine hN _ ?_ | refine hX _ _ ?_ | refine hR _ ?_); clear hN hX hR Z) | refine Q6 rfl ?_ | refine Q7 (by decide) ?_ | (refine Q8 ?_ ?_; focus (simp only [kS, R1, R2, R3, R4, R5, R6, R7, reduceCtorEq, R9, g0, e, el, hm, hlt, hw, hk, Int.reduceBEq, cellsEq, eqks54, Bool.not_true, Bool.not_false, hq, ]; done)) | (refine Q9 ?_ ?_; focus (simp only [kS, R1, R2, R3, R4, R5, R6, R7, reduceCtorEq, R9, g0, e, el, hm, hlt, hw, hk, Int.reduceBEq, cellsEq, eqks54, Bool.not_true, Bool.not_false, hq, ]; done)) | refine Qa ?_ | refine Qb ?_ | refine Qc ?_ | refine And.intro (by first | assumption | omega) ?_)
          refine ⟨_, ih ((m : Int) - 1) (by omega) (by omega) (by omega), rfl, ?_⟩
          simp only [kS, R1, R2, R3, R4, R5, R6, R7, reduceCtorEq, R9, g0, e, el, hm, hlt, hw, hk, Int.reduceBEq, cellsEq, eqks54, Bool.not_true, Bool.not_false, hq, ]
          repeat (first | ((first | refine Q1 ?_ | refine Q2 ?_); intro Z hN hX hR) | refine Q3 (by kernel_rfl) fun K hK => ?_ | ((first | refine Q4 fun R hJ => ?_ | with_reducible change ExpAll _ _ _); simp only [kS, R1, R2, R3, R4, R5, R6, R7, reduceCtorEq, R9, g0, e, el, hm, hlt, hw, hk, Int.reduceBEq, cellsEq, eqks54, Bool.not_true, Bool.not_false, hq, ]) | (refine hJ _ ?_; clear hJ R) | refine Q5 ?_ | (refine hK _ ?_; clear hK K) | ((first | refine hN _ ?_ | refine hX _ _ ?_ | refine hR _ ?_); clear hN hX hR Z) | refine Q6 rfl ?_ | refine Q7 (by decide) ?_ | (refine Q8 ?_ ?_; focus (simp only [kS, R1, R2, R3, R4, R5, R6, R7, reduceCtorEq, R9, g0, e, el, hm, hlt, hw, hk, Int.reduceBEq, cellsEq, eqks54, Bool.not_true, Bool.not_false, hq, ]; done)) | (refine Q9 ?_ ?_; focus (simp only [kS, R1, R2, R3, R4, R5, R6, R7, reduceCtorEq, R9, g0, e, el, hm, hlt, hw, hk, Int.reduceBEq, cellsEq, eqks54, Bool.not_true, Bool.not_false, hq, ]; done)) | refine Qa ?_ | refine Qb ?_ | refine Qc ?_ | refine And.intro (by first | assumption | omega) ?_)
          simp only [firstF, g0, e', hk, Int.reduceBEq, Bool.or_true, Bool.or_false, Bool.true_or, Bool.false_eq_true, if_true, if_false, q, ]
        · have hq := q
          simp only [eqN, hk, Int.reduceBEq, BEq.rfl] at hq
          repeat (first | ((first | refine Q1 ?_ | refine Q2 ?_); intro Z hN hX hR) | refine Q3 (by kernel_rfl) fun K hK => ?_ | ((first | refine Q4 fun R hJ => ?_ | with_reducible change ExpAll _ _ _); simp only [kS, R1, R2, R3, R4, R5, R6, R7, reduceCtorEq, R9, g0, e, el, hm, hlt, hw, hk, Int.reduceBEq, cellsEq, eqks54, Bool.not_true, Bool.not_false, hq, ]) | (refine hJ _ ?_; clear hJ R) | refine Q5 ?_ | (refine hK _ ?_; clear hK K) | ((first | refine hN _ ?_ | refine hX _ _ ?_ | refine hR _ ?_); clear hN hX hR Z) | refine Q6 rfl ?_ | refine Q7 (by decide) ?_ | (refine Q8 ?_ ?_; focus (simp only [kS, R1, R2, R3, R4, R5, R6, R7, reduceCtorEq, R9, g0, e, el, hm, hlt, hw, hk, Int.reduceBEq, cellsEq, eqks54, Bool.not_true, Bool.not_false, hq, ]; done)) | (refine Q9 ?_ ?_; focus (simp only [kS, R1, R2, R3, R4, R5, R6, R7, reduceCtorEq, R9, g0, e, el, hm, hlt, hw, hk, Int.reduceBEq, cellsEq, eqks54, Bool.not_true, Bool.not_false, hq, ]; done)) | refine Qa ?_ | refine Qb ?_ | refine Qc ?_ | refine And.intro (by first | assumption | omega) ?_)
          refine ⟨_, ih ((m : Int) - 1) (by omega) (by omega) (by omega), rfl, ?_⟩
          simp only [kS, R1, R2, R3, R4, R5, R6, R7, reduceCtorEq, R9, g0, e, el, hm, hlt, hw, hk, Int.reduceBEq, cellsEq, eqks54, Bool.not_true, Bool.not_false, hq, ]
          repeat (first | ((first | refine Q1 ?_ | refine Q2 ?_); intro Z hN hX hR) | refine Q3 (by kernel_rfl) fun K hK => ?_ | ((first | refine Q4 fun R hJ => ?_ | with_reducible change ExpAll _ _ _); simp only [kS, R1, R2, R3, R4, R5, R6, R7, reduceCtorEq, R9, g0, e, el, hm, hlt, hw, hk, Int.reduceBEq, cellsEq, eqks54, Bool.not_true, Bool.not_false, hq, ]) | (refine hJ _ ?_; clear hJ R) | refine Q5 ?_ | (refine hK _ ?_; clear hK K) | ((first | refine hN _ ?_ | refine hX _ _ ?_ | refine hR _ ?_); clear hN hX hR Z) | refine Q6 rfl ?_ | refine Q7 (by decide) ?_ | (refine Q8 ?_ ?_; focus (simp only [kS, R1, R2, R3, R4, R5, R6, R7, reduceCtorEq, R9, g0, e, el, hm, hlt, hw, hk, Int.reduceBEq, cellsEq, eqks54, Bool.not_true, Bool.not_false, hq, ]; done)) | (refine Q9 ?_ ?_; focus (simp only [kS, R1, R2, R3, R4, R5, R6, R7, reduceCtorEq, R9, g0, e, el, hm, hlt, hw, hk, Int.reduceBEq, cellsEq, eqks54, Bool.not_true, Bool.not_false, hq, ]; done)) | refine Qa ?_ | refine Qb ?_ | refine Qc ?_ | refine And.intro (by first | assumption | omega) ?_)
          simp only [firstF, g0, e', hk, Int.reduceBEq, Bool.or_true, Bool.or_false, Bool.true_or, Bool.false_eq_true, if_true, if_false, q, ]
      by_cases hk : d[m].k = 7
      · skip
        cases b1 : decide (d[m].lo < 0)
        · skip
          cases b2 : decide (d[m].hi < d[m].lo)
          · skip
            cases b3 : decide (255 < d[m].hi)
            · skip
              cases q : eqN d[m] ⟨7, m - 1, 0, d[m].lo, d[m].hi, 0, 0, 0, 0, ⟨#[]⟩⟩
              · have hq := q
                simp only [eqN, hk, Int.reduceBEq, BEq.rfl] at hq
                repeat (first | ((first | refine Q1 ?_ | refine Q2 ?_); intro Z hN hX hR) | refine Q3 (by kernel_rfl) fun K hK => ?_ | ((first | refine Q4 fun R hJ => ?_ | with_reducible change ExpAll _ _ _); simp only [kS, R1, R2, R3, R4, R5, R6, R7, reduceCtorEq, R9, g0, e, el, hm, hlt, hw, hk, Int.reduceBEq, cellsEq, eqks54, Bool.not_true, Bool.not_false, hq, b1, b2, b3]) | (refine hJ _ ?_; clear hJ R) | refine Q5 ?_ | (refine hK _ ?_; clear hK K) | ((first | refine hN _ ?_ | refine hX _ _ ?_ | refine hR _ ?_); clear hN hX hR Z) | refine Q6 rfl ?_ | refine Q7 (by decide) ?_ | (refine Q8 ?_ ?_; focus (simp only [kS, R1, R2, R3, R4, R5, R6, R7, reduceCtorEq, R9, g0, e, el, hm, hlt, hw, hk, Int.reduceBEq, cellsEq, eqks54, Bool.not_true, Bool.not_false, hq, b1, b2, b3]; done)) | (refine Q9 ?_ ?_; focus (simp only [kS, R1, R2, R3, R4, R5, R6, R7, reduceCtorEq, R9, g0, e, el, hm, hlt, hw, hk, Int.reduceBEq, cellsEq, eqks54, Bool.not_true, Bool.not_false, hq, b1, b2, b3]; done)) | refine Qa ?_ | refine Qb ?_ | refine Qc ?_ | refine And.intro (by first | assumption | omega) ?_)
                refine ⟨_, ih ((m : Int) - 1) (by omega) (by omega) (by omega), rfl, ?_⟩
                simp only [kS, R1, R2, R3, R4, R5, R6, R7, reduceCtorEq, R9, g0, e, el, hm, hlt, hw, hk, Int.reduceBEq, cellsEq, eqks54, Bool.not_true, Bool.not_false, hq, b1, b2, b3]
                repeat (first | ((first | refine Q1 ?_ | refine Q2 ?_); intro Z hN hX hR) | refine Q3 (by kernel_rfl) fun K hK => ?_ | ((first | refine Q4 fun R hJ => ?_ | with_reducible change ExpAll _ _ _); simp only [kS, R1, R2, R3, R4, R5, R6, R7, reduceCtorEq, R9, g0, e, el, hm, hlt, hw, hk, Int.reduceBEq, cellsEq, eqks54, Bool.not_true, Bool.not_false, hq, b1, b2, b3]) | (refine hJ _ ?_; clear hJ R) | refine Q5 ?_ | (refine hK _ ?_; clear hK K) | ((first | refine hN _ ?_ | refine hX _ _ ?_ | refine hR _ ?_); clear hN hX hR Z) | refine Q6 rfl ?_ | refine Q7 (by decide) ?_ | (refine Q8 ?_ ?_; focus (simp only [kS, R1, R2, R3, R4, R5, R6, R7, reduceCtorEq, R9, g0, e, el, hm, hlt, hw, hk, Int.reduceBEq, cellsEq, eqks54, Bool.not_true, Bool.not_false, hq, b1, b2, b3]; done)) | (refine Q9 ?_ ?_; focus (simp only [kS, R1, R2, R3, R4, R5, R6, R7, reduceCtorEq, R9, g0, e, el, hm, hlt, hw, hk, Int.reduceBEq, cellsEq, eqks54, Bool.not_true, Bool.not_false, hq, b1, b2, b3]; done)) | refine Qa ?_ | refine Qb ?_ | refine Qc ?_ | refine And.intro (by first | assumption | omega) ?_)
                simp only [firstF, g0, e', hk, Int.reduceBEq, Bool.or_true, Bool.or_false, Bool.true_or, Bool.false_eq_true, if_true, if_false, q, b1, b2, b3]
              · have hq := q
                simp only [eqN, hk, Int.reduceBEq, BEq.rfl] at hq
                repeat (first | ((first | refine Q1 ?_ | refine Q2 ?_); intro Z hN hX hR) | refine Q3 (by kernel_rfl) fun K hK => ?_ | ((first | refine Q4 fun R hJ => ?_ | with_reducible change ExpAll _ _ _); simp only [kS, R1, R2, R3, R4, R5, R6, R7, reduceCtorEq, R9, g0, e, el, hm, hlt, hw, hk, Int.reduceBEq, cellsEq, eqks54, Bool.not_true, Bool.not_false, hq, b1, b2, b3]) | (refine hJ _ ?_; clear hJ R) | refine Q5 ?_ | (refine hK _ ?_; clear hK K) | ((first | refine hN _ ?_ | refine hX _ _ ?_ | refine hR _ ?_); clear hN hX hR Z) | refine Q6 rfl ?_ | refine Q7 (by decide) ?_ | (refine Q8 ?_ ?_; focus (simp only [kS, R1, R2, R3, R4, R5, R6, R7, reduceCtorEq, R9, g0, e, el, hm, hlt, hw, hk, Int.reduceBEq, cellsEq, eqks54, Bool.not_true, Bool.not_false, hq, b1, b2, b3]; done)) | (refine Q9 ?_ ?_; focus (simp only [kS, R1, R2, R3, R4, R5, R6, R7, reduceCtorEq, R9, g0, e, el, hm, hlt, hw, hk, Int.reduceBEq, cellsEq, eqks54, Bool.not_true, Bool.not_false, hq, b1, b2, b3]; done)) | refine Qa ?_ | refine Qb ?_ | refine Qc ?_ | refine And.intro (by first | assumption | omega) ?_)
                refine ⟨_, ih ((m : Int) - 1) (by omega) (by omega) (by omega), rfl, ?_⟩
                simp only [kS, R1, R2, R3, R4, R5, R6, R7, reduceCtorEq, R9, g0, e, el, hm, hlt, hw, hk, Int.reduceBEq, cellsEq, eqks54, Bool.not_true, Bool.not_false, hq, b1, b2, b3]
                repeat (first | ((first | refine Q1 ?_ | refine Q2 ?_); intro Z hN hX hR) | refine Q3 (by kernel_rfl) fun K hK => ?_ | ((first | refine Q4 fun R hJ => ?_ | with_reducible change ExpAll _ _ _); simp only [kS, R1, R2, R3, R4, R5, R6, R7, reduceCtorEq, R9, g0, e, el, hm, hlt, hw, hk, Int.reduceBEq, cellsEq, eqks54, Bool.not_true, Bool.not_false, hq, b1, b2, b3]) | (refine hJ _ ?_; clear hJ R) | refine Q5 ?_ | (refine hK _ ?_; clear hK K) | ((first | refine hN _ ?_ | refine hX _ _ ?_ | refine hR _ ?_); clear hN hX hR Z) | refine Q6 rfl ?_ | refine Q7 (by decide) ?_ | (refine Q8 ?_ ?_; focus (simp only [kS, R1, R2, R3, R4, R5, R6, R7, reduceCtorEq, R9, g0, e, el, hm, hlt, hw, hk, Int.reduceBEq, cellsEq, eqks54, Bool.not_true, Bool.not_false, hq, b1, b2, b3]; done)) | (refine Q9 ?_ ?_; focus (simp only [kS, R1, R2, R3, R4, R5, R6, R7, reduceCtorEq, R9, g0, e, el, hm, hlt, hw, hk, Int.reduceBEq, cellsEq, eqks54, Bool.not_true, Bool.not_false, hq, b1, b2, b3]; done)) | refine Qa ?_ | refine Qb ?_ | refine Qc ?_ | refine And.intro (by first | assumption | omega) ?_)
                simp only [firstF, g0, e', hk, Int.reduceBEq, Bool.or_true, Bool.or_false, Bool.true_or, Bool.false_eq_true, if_true, if_false, q, b1, b2, b3]
            · repeat (first | ((first | refine Q1 ?_ | refine Q2 ?_); intro Z hN hX hR) | refine Q3 (by kernel_rfl) fun K hK => ?_ | ((first | refine Q4 fun R hJ => ?_ | with_reducible change ExpAll _ _ _); simp only [kS, R1, R2, R3, R4, R5, R6, R7, reduceCtorEq, R9, g0, e, el, hm, hlt, hw, hk, Int.reduceBEq, cellsEq, eqks54, Bool.not_true, Bool.not_false, b1, b2, b3]) | (refine hJ _ ?_; clear hJ R) | refine Q5 ?_ | (refine hK _ ?_; clear hK K) | ((first | refine hN _ ?_ | refine hX _ _ ?_ | refine hR _ ?_); clear hN hX hR Z) | refine Q6 rfl ?_ | refine Q7 (by decide) ?_ | (refine Q8 ?_ ?_; focus (simp only [kS, R1, R2, R3, R4, R5, R6, R7, reduceCtorEq, R9, g0, e, el, hm, hlt, hw, hk, Int.reduceBEq, cellsEq, eqks54, Bool.not_true, Bool.not_false, b1, b2, b3]; done)) | (refine Q9 ?_ ?_; focus (simp only [kS, R1, R2, R3, R4, R5, R6, R7, reduceCtorEq, R9, g0, e, el, hm, hlt, hw, hk, Int.reduceBEq, cellsEq, eqks54, Bool.not_true, Bool.not_false, b1, b2, b3]; done)) | refine Qa ?_ | refine Qb ?_ | refine Qc ?_ | refine And.intro (by first | assumption | omega) ?_)
              simp only [firstF, g0, e', hk, Int.reduceBEq, Bool.or_true, Bool.or_false, Bool.true_or, Bool.false_eq_true, if_true, if_false, b1, b2, b3]
          · repeat (first | ((first | refine Q1 ?_ | refine Q2 ?_); intro Z hN hX hR) | refine Q3 (by kernel_rfl) fun K hK => ?_ | ((first | refine Q4 fun R hJ => ?_ | with_reducible change ExpAll _ _ _); simp only [kS, R1, R2, R3, R4, R5, R6, R7, reduceCtorEq, R9, g0, e, el, hm, hlt, hw, hk, Int.reduceBEq, cellsEq, eqks54, Bool.not_true, Bool.not_false, b1, b2]) | (refine hJ _ ?_; clear hJ R) | refine Q5 ?_ | (refine hK _ ?_; clear hK K) | ((first | refine hN _ ?_ | refine hX _ _ ?_ | refine hR _ ?_); clear hN hX hR Z) | refine Q6 rfl ?_ | refine Q7 (by decide) ?_ | (refine Q8 ?_ ?_; focus (simp only [kS, R1, R2, R3, R4, R5, R6, R7, reduceCtorEq, R9, g0, e, el, hm, hlt, hw, hk, Int.reduceBEq, cellsEq, eqks54, Bool.not_true, Bool.not_false, b1, b2]; done)) | (refine Q9 ?_ ?_; focus (simp only [kS, R1, R2, R3, R4, R5, R6, R7, reduceCtorEq, R9, g0, e, el, hm, hlt, hw, hk, Int.reduceBEq, cellsEq, eqks54, Bool.not_true, Bool.not_false, b1, b2]; done)) | refine Qa ?_ | refine Qb ?_ | refine Qc ?_ | refine And.intro (by first | assumption | omega) ?_)
            simp only [firstF, g0, e', hk, Int.reduceBEq, Bool.or_true, Bool.or_false, Bool.true_or, Bool.false_eq_true, if_true, if_false, b1, b2]
        · repeat (first | ((first | refine Q1 ?_ | refine Q2 ?_); intro Z hN hX hR) | refine Q3 (by kernel_rfl) fun K hK => ?_ | ((first | refine Q4 fun R hJ => ?_ | with_reducible change ExpAll _ _ _); simp only [kS, R1, R2, R3, R4, R5, R6, R7, reduceCtorEq, R9, g0, e, el, hm, hlt, hw, hk, Int.reduceBEq, cellsEq, eqks54, Bool.not_true, Bool.not_false, b1]) | (refine hJ _ ?_; clear hJ R) | refine Q5 ?_ | (refine hK _ ?_; clear hK K) | ((first | refine hN _ ?_ | refine hX _ _ ?_ | refine hR _ ?_); clear hN hX hR Z) | refine Q6 rfl ?_ | refine Q7 (by decide) ?_ | (refine Q8 ?_ ?_; focus (simp only [kS, R1, R2, R3, R4, R5, R6, R7, reduceCtorEq, R9, g0, e, el, hm, hlt, hw, hk, Int.reduceBEq, cellsEq, eqks54, Bool.not_true, Bool.not_false, b1]; done)) | (refine Q9 ?_ ?_; focus (simp only [kS, R1, R2, R3, R4, R5, R6, R7, reduceCtorEq, R9, g0, e, el, hm, hlt, hw, hk, Int.reduceBEq, cellsEq, eqks54, Bool.not_true, Bool.not_false, b1]; done)) | refine Qa ?_ | refine Qb ?_ | refine Qc ?_ | refine And.intro (by first | assumption | omega) ?_)
          simp only [firstF, g0, e', hk, Int.reduceBEq, Bool.or_true, Bool.or_false, Bool.true_or, Bool.false_eq_true, if_true, if_false, b1]
      by_cases hk : d[m].k = 4
      · skip
        cases fk : decide (firstF d k ((m : Int) - 1) < 0)
        · have hf : 0 ≤ firstF d k ((m : Int) - 1) := by simp only [decide_eq_false_iff_not] at fk; omega
          have hfl := firstF_le d k ((m : Int) - 1)
          have hw2 : IntKind.i64.wrap (firstF d k ((m : Int) - 1) - 1) = firstF d k ((m : Int) - 1) - 1 := wrap_i64 (by omega) (by omega)
          cases q : eqN d[m] ⟨4, firstF d k ((m : Int) - 1) - 1, m - 1, 0, 0, 0, 0, 0, 0, ⟨#[]⟩⟩
          · have hq := q
            simp only [eqN, hk, Int.reduceBEq, BEq.rfl] at hq
            repeat (first | ((first | refine Q1 ?_ | refine Q2 ?_); intro Z hN hX hR) | refine Q3 (by kernel_rfl) fun K hK => ?_ | ((first | refine Q4 fun R hJ => ?_ | with_reducible change ExpAll _ _ _); simp only [kS, R1, R2, R3, R4, R5, R6, R7, reduceCtorEq, R9, g0, e, el, hm, hlt, hw, hk, Int.reduceBEq, cellsEq, eqks54, Bool.not_true, Bool.not_false, hq, fk, hw2]) | (refine hJ _ ?_; clear hJ R) | refine Q5 ?_ | (refine hK _ ?_; clear hK K) | ((first | refine hN _ ?_ | refine hX _ _ ?_ | refine hR _ ?_); clear hN hX hR Z) | refine Q6 rfl ?_ | refine Q7 (by decide) ?_ | (refine Q8 ?_ ?_; focus (simp only [kS, R1, R2, R3, R4, R5, R6, R7, reduceCtorEq, R9, g0, e, el, hm, hlt, hw, hk, Int.reduceBEq, cellsEq, eqks54, Bool.not_true, Bool.not_false, hq, fk, hw2]; done)) | (refine Q9 ?_ ?_; focus (simp only [kS, R1, R2, R3, R4, R5, R6, R7, reduceCtorEq, R9, g0, e, el, hm, hlt, hw, hk, Int.reduceBEq, cellsEq, eqks54, Bool.not_true, Bool.not_false, hq, fk, hw2]; done)) | refine Qa ?_ | refine Qb ?_ | refine Qc ?_ | refine And.intro (by first | assumption | omega) ?_)
            refine ⟨_, ih ((m : Int) - 1) (by omega) (by omega) (by omega), rfl, ?_⟩
            simp only [kS, R1, R2, R3, R4, R5, R6, R7, reduceCtorEq, R9, g0, e, el, hm, hlt, hw, hk, Int.reduceBEq, cellsEq, eqks54, Bool.not_true, Bool.not_false, hq, fk, hw2]
            repeat (first | ((first | refine Q1 ?_ | refine Q2 ?_); intro Z hN hX hR) | refine Q3 (by kernel_rfl) fun K hK => ?_ | ((first | refine Q4 fun R hJ => ?_ | with_reducible change ExpAll _ _ _); simp only [kS, R1, R2, R3, R4, R5, R6, R7, reduceCtorEq, R9, g0, e, el, hm, hlt, hw, hk, Int.reduceBEq, cellsEq, eqks54, Bool.not_true, Bool.not_false, hq, fk, hw2]) | (refine hJ _ ?_; clear hJ R) | refine Q5 ?_ | (refine hK _ ?_; clear hK K) | ((first | refine hN _ ?_ | refine hX _ _ ?_ | refine hR _ ?_); clear hN hX hR Z) | refine Q6 rfl ?_ | refine Q7 (by decide) ?_ | (refine Q8 ?_ ?_; focus (simp only [kS, R1, R2, R3, R4, R5, R6, R7, reduceCtorEq, R9, g0, e, el, hm, hlt, hw, hk, Int.reduceBEq, cellsEq, eqks54, Bool.not_true, Bool.not_false, hq, fk, hw2]; done)) | (refine Q9 ?_ ?_; focus (simp only [kS, R1, R2, R3, R4, R5, R6, R7, reduceCtorEq, R9, g0, e, el, hm, hlt, hw, hk, Int.reduceBEq, cellsEq, eqks54, Bool.not_true, Bool.not_false, hq, fk, hw2]; done)) | refine Qa ?_ | refine Qb ?_ | refine Qc ?_ | refine And.intro (by first | assumption | omega) ?_)
            refine ⟨_, ih (firstF d k ((m : Int) - 1) - 1) (by omega) (by omega) (by omega), rfl, ?_⟩
            simp only [kS, R1, R2, R3, R4, R5, R6, R7, reduceCtorEq, R9, g0, e, el, hm, hlt, hw, hk, Int.reduceBEq, cellsEq, eqks54, Bool.not_true, Bool.not_false, hq, fk, hw2]
            repeat (first | ((first | refine Q1 ?_ | refine Q2 ?_); intro Z hN hX hR) | refine Q3 (by kernel_rfl) fun K hK => ?_ | ((first | refine Q4 fun R hJ => ?_ | with_reducible change ExpAll _ _ _); simp only [kS, R1, R2, R3, R4, R5, R6, R7, reduceCtorEq, R9, g0, e, el, hm, hlt, hw, hk, Int.reduceBEq, cellsEq, eqks54, Bool.not_true, Bool.not_false, hq, fk, hw2]) | (refine hJ _ ?_; clear hJ R) | refine Q5 ?_ | (refine hK _ ?_; clear hK K) | ((first | refine hN _ ?_ | refine hX _ _ ?_ | refine hR _ ?_); clear hN hX hR Z) | refine Q6 rfl ?_ | refine Q7 (by decide) ?_ | (refine Q8 ?_ ?_; focus (simp only [kS, R1, R2, R3, R4, R5, R6, R7, reduceCtorEq, R9, g0, e, el, hm, hlt, hw, hk, Int.reduceBEq, cellsEq, eqks54, Bool.not_true, Bool.not_false, hq, fk, hw2]; done)) | (refine Q9 ?_ ?_; focus (simp only [kS, R1, R2, R3, R4, R5, R6, R7, reduceCtorEq, R9, g0, e, el, hm, hlt, hw, hk, Int.reduceBEq, cellsEq, eqks54, Bool.not_true, Bool.not_false, hq, fk, hw2]; done)) | refine Qa ?_ | refine Qb ?_ | refine Qc ?_ | refine And.intro (by first | assumption | omega) ?_)
            simp only [firstF, g0, e', hk, Int.reduceBEq, Bool.or_true, Bool.or_false, Bool.true_or, Bool.false_eq_true, if_true, if_false, q, fk]
          · have hq := q
            simp only [eqN, hk, Int.reduceBEq, BEq.rfl] at hq
            repeat (first | ((first | refine Q1 ?_ | refine Q2 ?_); intro Z hN hX hR) | refine Q3 (by kernel_rfl) fun K hK => ?_ | ((first | refine Q4 fun R hJ => ?_ | with_reducible change ExpAll _ _ _); simp only [kS, R1, R2, R3, R4, R5, R6, R7, reduceCtorEq, R9, g0, e, el, hm, hlt, hw, hk, Int.reduceBEq, cellsEq, eqks54, Bool.not_true, Bool.not_false, hq, fk, hw2]) | (refine hJ _ ?_; clear hJ R) | refine Q5 ?_ | (refine hK _ ?_; clear hK K) | ((first | refine hN _ ?_ | refine hX _ _ ?_ | refine hR _ ?_); clear hN hX hR Z) | refine Q6 rfl ?_ | refine Q7 (by decide) ?_ | (refine Q8 ?_ ?_; focus (simp only [kS, R1, R2, R3, R4, R5, R6, R7, reduceCtorEq, R9, g0, e, el, hm, hlt, hw, hk, Int.reduceBEq, cellsEq, eqks54, Bool.not_true, Bool.not_false, hq, fk, hw2]; done)) | (refine Q9 ?_ ?_; focus (simp only [kS, R1, R2, R3, R4, R5, R6, R7, reduceCtorEq, R9, g0, e, el, hm, hlt, hw, hk, Int.reduceBEq, cellsEq, eqks54, Bool.not_true, Bool.not_false, hq, fk, hw2]; done)) | refine Qa ?_ | refine Qb ?_ | refine Qc ?_ | refine And.intro (by first | assumption | omega) ?_)
            refine ⟨_, ih ((m : Int) - 1) (by omega) (by omega) (by omega), rfl, ?_⟩
            simp only [kS, R1, R2, R3, R4, R5, R6, R7, reduceCtorEq, R9, g0, e, el, hm, hlt, hw, hk, Int.reduceBEq, cellsEq, eqks54, Bool.not_true, Bool.not_false, hq, fk, hw2]
            repeat (first | ((first | refine Q1 ?_ | refine Q2 ?_); intro Z hN hX hR) | refine Q3 (by kernel_rfl) fun K hK => ?_ | ((first | refine Q4 fun R hJ => ?_ | with_reducible change ExpAll _ _ _); simp only [kS, R1, R2, R3, R4, R5, R6, R7, reduceCtorEq, R9, g0, e, el, hm, hlt, hw, hk, Int.reduceBEq, cellsEq, eqks54, Bool.not_true, Bool.not_false, hq, fk, hw2]) | (refine hJ _ ?_; clear hJ R) | refine Q5 ?_ | (refine hK _ ?_; clear hK K) | ((first | refine hN _ ?_ | refine hX _ _ ?_ | refine hR _ ?_); clear hN hX hR Z) | refine Q6 rfl ?_ | refine Q7 (by decide) ?_ | (refine Q8 ?_ ?_; focus (simp only [kS, R1, R2, R3, R4, R5, R6, R7, reduceCtorEq, R9, g0, e, el, hm, hlt, hw, hk, Int.reduceBEq, cellsEq, eqks54, Bool.not_true, Bool.not_false, hq, fk, hw2]; done)) | (refine Q9 ?_ ?_; focus (simp only [kS, R1, R2, R3, R4, R5, R6, R7, reduceCtorEq, R9, g0, e, el, hm, hlt, hw, hk, Int.reduceBEq, cellsEq, eqks54, Bool.not_true, Bool.not_false, hq, fk, hw2]; done)) | refine Qa ?_ | refine Qb ?_ | refine Qc ?_ | refine And.intro (by first | assumption | omega) ?_)
            refine ⟨_, ih (firstF d k ((m : Int) - 1) - 1) (by omega) (by omega) (by omega), rfl, ?_⟩
            simp only [kS, R1, R2, R3, R4, R5, R6, R7, reduceCtorEq, R9, g0, e, el, hm, hlt, hw, hk, Int.reduceBEq, cellsEq, eqks54, Bool.not_true, Bool.not_false, hq, fk, hw2]
            repeat (first | ((first | refine Q1 ?_ | refine Q2 ?_); intro Z hN hX hR) | refine Q3 (by kernel_rfl) fun K hK => ?_ | ((first | refine Q4 fun R hJ => ?_ | with_reducible change ExpAll _ _ _); simp only [kS, R1, R2, R3, R4, R5, R6, R7, reduceCtorEq, R9, g0, e, el, hm, hlt, hw, hk, Int.reduceBEq, cellsEq, eqks54, Bool.not_true, Bool.not_false, hq, fk, hw2]) | (refine hJ _ ?_; clear hJ R) | refine Q5 ?_ | (refine hK _ ?_; clear hK K) | ((first | refine hN _ ?_ | refine hX _ _ ?_ | refine hR _ ?_); clear hN hX hR Z) | refine Q6 rfl ?_ | refine Q7 (by decide) ?_ | (refine Q8 ?_ ?_; focus (simp only [kS, R1, R2, R3, R4, R5, R6, R7, reduceCtorEq, R9, g0, e, el, hm, hlt, hw, hk, Int.reduceBEq, cellsEq, eqks54, Bool.not_true, Bool.not_false, hq, fk, hw2]; done)) | (refine Q9 ?_ ?_; focus (simp only [kS, R1, R2, R3, R4, R5, R6, R7, reduceCtorEq, R9, g0, e, el, hm, hlt, hw, hk, Int.reduceBEq, cellsEq, eqks54, Bool.not_true, Bool.not_false, hq, fk, hw2]; done)) | refine Qa ?_ | refine Qb ?_ | refine Qc ?_ | refine And.intro (by first | assumption | omega) ?_)
            simp only [firstF, g0, e', hk, Int.reduceBEq, Bool.or_true, Bool.or_false, Bool.true_or, Bool.false_eq_true, if_true, if_false, q, fk]
        · repeat (first | ((first | refine Q1 ?_ | refine Q2 ?_); intro Z hN hX hR) | refine Q3 (by kernel_rfl) fun K hK => ?_ | ((first | refine Q4 fun R hJ => ?_ | with_reducible change ExpAll _ _ _); simp only [kS, R1, R2, R3, R4, R5, R6, R7, reduceCtorEq, R9, g0, e, el, hm, hlt, hw, hk, Int.reduceBEq, cellsEq, eqks54, Bool.not_true, Bool.not_false, fk]) | (refine hJ _ ?_; clear hJ R) | refine Q5 ?_ | (refine hK _ ?_; clear hK K) | ((first | refine hN _ ?_ | refine hX _ _ ?_ | refine hR _ ?_); clear hN hX hR Z) | refine Q6 rfl ?_ | refine Q7 (by decide) ?_ | (refine Q8 ?_ ?_; focus (simp only [kS, R1, R2, R3, R4, R5, R6, R7, reduceCtorEq, R9, g0, e, el, hm, hlt, hw, hk, Int.reduceBEq, cellsEq, eqks54, Bool.not_true, Bool.not_false, fk]; done)) | (refine Q9 ?_ ?_; focus (simp only [kS, R1, R2, R3, R4, R5, R6, R7, reduceCtorEq, R9, g0, e, el, hm, hlt, hw, hk, Int.reduceBEq, cellsEq, eqks54, Bool.not_true, Bool.not_false, fk]; done)) | refine Qa ?_ | refine Qb ?_ | refine Qc ?_ | refine And.intro (by first | assumption | omega) ?_)
          refine ⟨_, ih ((m : Int) - 1) (by omega) (by omega) (by omega), rfl, ?_⟩
          simp only [kS, R1, R2, R3, R4, R5, R6, R7, reduceCtorEq, R9, g0, e, el, hm, hlt, hw, hk, Int.reduceBEq, cellsEq, eqks54, Bool.not_true, Bool.not_false, fk]
          repeat (first | ((first | refine Q1 ?_ | refine Q2 ?_); intro Z hN hX hR) | refine Q3 (by kernel_rfl) fun K hK => ?_ | ((first | refine Q4 fun R hJ => ?_ | with_reducible change ExpAll _ _ _); simp only [kS, R1, R2, R3, R4, R5, R6, R7, reduceCtorEq, R9, g0, e, el, hm, hlt, hw, hk, Int.reduceBEq, cellsEq, eqks54, Bool.not_true, Bool.not_false, fk]) | (refine hJ _ ?_; clear hJ R) | refine Q5 ?_ | (refine hK _ ?_; clear hK K) | ((first | refine hN _ ?_ | refine hX _ _ ?_ | refine hR _ ?_); clear hN hX hR Z) | refine Q6 rfl ?_ | refine Q7 (by decide) ?_ | (refine Q8 ?_ ?_; focus (simp only [kS, R1, R2, R3, R4, R5, R6, R7, reduceCtorEq, R9, g0, e, el, hm, hlt, hw, hk, Int.reduceBEq, cellsEq, eqks54, Bool.not_true, Bool.not_false, fk]; done)) | (refine Q9 ?_ ?_; focus (simp only [kS, R1, R2, R3, R4, R5, R6, R7, reduceCtorEq, R9, g0, e, el, hm, hlt, hw, hk, Int.reduceBEq, cellsEq, eqks54, Bool.not_true, Bool.not_false, fk]; done)) | refine Qa ?_ | refine Qb ?_ | refine Qc ?_ | refine And.intro (by first | assumption | omega) ?_)
          simp only [firstF, g0, e', hk, Int.reduceBEq, Bool.or_true, Bool.or_false, Bool.true_or, Bool.false_eq_true, if_true, if_false, fk]
      by_cases hk : d[m].k = 5
      · skip
        cases fk : decide (firstF d k ((m : Int) - 1) < 0)
        · have hf : 0 ≤ firstF d k ((m : Int) - 1) := by simp only [decide_eq_false_iff_not] at fk; omega
          have hfl := firstF_le d k ((m : Int) - 1)
          have hw2 : IntKind.i64.wrap (firstF d k ((m : Int) - 1) - 1) = firstF d k ((m : Int) - 1) - 1 := wrap_i64 (by omega) (by omega)
          cases q : eqN d[m] ⟨5, firstF d k ((m : Int) - 1) - 1, m - 1, 0, 0, 0, 0, 0, 0, ⟨#[]⟩⟩
          · have hq := q
            simp only [eqN, hk, Int.reduceBEq, BEq.rfl] at hq
            repeat (first | ((first | refine Q1 ?_ | refine Q2 ?_); intro Z hN hX hR) | refine Q3 (by kernel_rfl) fun K hK => ?_ | ((first | refine Q4 fun R hJ => ?_ | with_reducible change ExpAll _ _ _); simp only [kS, R1, R2, R3, R4, R5, R6, R7, reduceCtorEq, R9, g0, e, el, hm, hlt, hw, hk, Int.reduceBEq, cellsEq, eqks54, Bool.not_true, Bool.not_false, hq, fk, hw2]) | (refine hJ _ ?_; clear hJ R) | refine Q5 ?_ | (refine hK _ ?_; clear hK K) | ((first | refine hN _ ?_ | refine hX _ _ ?_ | refine hR _ ?_); clear hN hX hR Z) | refine Q6 rfl ?_ | refine Q7 (by decide) ?_ | (refine Q8 ?_ ?_; focus (simp only [kS, R1, R2, R3, R4, R5, R6, R7, reduceCtorEq, R9, g0, e, el, hm, hlt, hw, hk, Int.reduceBEq, cellsEq, eqks54, Bool.not_true, Bool.not_false, hq, fk, hw2]; done)) | (refine Q9 ?_ ?_; focus (simp only [kS, R1, R2, R3, R4, R5, R6, R7, reduceCtorEq, R9, g0, e, el, hm, hlt, hw, hk, Int.reduceBEq, cellsEq, eqks54, Bool.not_true, Bool.not_false, hq, fk, hw2]; done)) | refine Qa ?_ | refine Qb ?_ | refine Qc ?_ | refine And.intro (by first | assumption | omega) ?_)
            refine ⟨_, ih ((m : Int) - 1) (by omega) (by omega) (by omega), rfl, ?_⟩
            simp only [kS, R1, R2, R3, R4, R5, R6, R7, reduceCtorEq, R9, g0, e, el, hm, hlt, hw, hk, Int.reduceBEq, cellsEq, eqks54, Bool.not_true, Bool.not_false, hq, fk, hw2]
            repeat (first | ((first | refine Q1 ?_ | refine Q2 ?_); intro Z hN hX hR) | refine Q3 (by kernel_rfl) fun K hK => ?_ | ((first | refine Q4 fun R hJ => ?_ | with_reducible change ExpAll _ _ _); simp only [kS, R1, R2, R3, R4, R5, R6, R7, reduceCtorEq, R9, g0, e, el, hm, hlt, hw, hk, Int.reduceBEq, cellsEq, eqks54, Bool.not_true, Bool.not_false, hq, fk, hw2]) | (refine hJ _ ?_; clear hJ R) | refine Q5 ?_ | (refine hK _ ?_; clear hK K) | ((first | refine hN _ ?_ | refine hX _ _ ?_ | refine hR _ ?_); clear hN hX hR Z) | refine Q6 rfl ?_ | refine Q7 (by decide) ?_ | (refine Q8 ?_ ?_; focus (simp only [kS, R1, R2, R3, R4, R5, R6, R7, reduceCtorEq, R9, g0, e, el, hm, hlt, hw, hk, Int.reduceBEq, cellsEq, eqks54, Bool.not_true, Bool.not_false, hq, fk, hw2]; done)) | (refine Q9 ?_ ?_; focus (simp only [kS, R1, R2, R3, R4, R5, R6, R7, reduceCtorEq, R9, g0, e, el, hm, hlt, hw, hk, Int.reduceBEq, cellsEq, eqks54, Bool.not_true, Bool.not_false, hq, fk, hw2]; done)) | refine Qa ?_ | refine Qb ?_ | refine Qc ?_ | refine And.intro (by first | assumption | omega) ?_)
            refine ⟨_, ih (firstF d k ((m : Int) - 1) - 1) (by omega) (by omega) (by omega), rfl, ?_⟩
            simp only [kS, R1, R2, R3, R4, R5, R6, R7, reduceCtorEq, R9, g0, e, el, hm, hlt, hw, hk, Int.reduceBEq, cellsEq, eqks54, Bool.not_true, Bool.not_false, hq, fk, hw2]
            repeat (first | ((first | refine Q1 ?_ | refine Q2 ?_); intro Z hN hX hR) | refine Q3 (by kernel_rfl) fun K hK => ?_ | ((first | refine Q4 fun R hJ => ?_ | with_reducible change ExpAll _ _ _); simp only [kS, R1, R2, R3, R4, R5, R6, R7, reduceCtorEq, R9, g0, e, el, hm, hlt, hw, hk, Int.reduceBEq, cellsEq, eqks54, Bool.not_true, Bool.not_false, hq, fk, hw2]) | (refine hJ _ ?_; clear hJ R) | refine Q5 ?_ | (refine hK _ ?_; clear hK K) | ((first | refine hN _ ?_ | refine hX _ _ ?_ | refine hR _ ?_); clear hN hX hR Z) | refine Q6 rfl ?_ | refine Q7 (by decide) ?_ | (refine Q8 ?_ ?_; focus (simp only [kS, R1, R2, R3, R4, R5, R6, R7, reduceCtorEq, R9, g0, e, el, hm, hlt, hw, hk, Int.reduceBEq, cellsEq, eqks54, Bool.not_true, Bool.not_false, hq, fk, hw2]; done)) | (refine Q9 ?_ ?_; focus (simp only [kS, R1, R2, R3, R4, R5, R6, R7, reduceCtorEq, R9, g0, e, el, hm, hlt, hw, hk, Int.reduceBEq, cellsEq, eqks54, Bool.not_true, Bool.not_false, hq, fk, hw2]; done)) | refine Qa ?_ | refine Qb ?_ | refine Qc ?_ | refine And.intro (by first | assumption | omega) ?_)
            simp only [firstF, g0, e', hk, Int.reduceBEq, Bool.or_true, Bool.or_false, Bool.true_or, Bool.false_eq_true, if_true, if_false, q, fk]
          · have hq := q
            simp only [eqN, hk, Int.reduceBEq, BEq.rfl] at hq
            repeat (first | ((first | refine Q1 ?_ | refine Q2 ?_); intro Z hN hX hR) | refine Q3 (by kernel_rfl) fun K hK => ?_ | ((first | refine Q4 fun R hJ => ?_ | with_reducible change ExpAll _ _ _); simp only [kS, R1, R2, R3, R4, R5, R6, R7, reduceCtorEq, R9, g0, e, el, hm, hlt, hw, hk, Int.reduceBEq, cellsEq, eqks54, Bool.not_true, Bool.not_false, hq, fk, hw2]) | (refine hJ _ ?_; clear hJ R) | refine Q5 ?_ | (refine hK _ ?_; clear hK K) | ((first | refine hN _ ?_ | refine hX _ _ ?_ | refine hR _ ?_); clear hN hX hR Z) | refine Q6 rfl ?_ | refine Q7 (by decide) ?_ | (refine Q8 ?_ ?_; focus (simp only [kS, R1, R2, R3, R4, R5, R6, R7, reduceCtorEq, R9, g0, e, el, hm, hlt, hw, hk, Int.reduceBEq, cellsEq, eqks54, Bool.not_true, Bool.not_false, hq, fk, hw2]; done)) | (refine Q9 ?_ ?_; focus (simp only [kS, R1, R2, R3, R4, R5, R6, R7, reduceCtorEq, R9, g0, e, el, hm, hlt, hw, hk, Int.reduceBEq, cellsEq, eqks54, Bool.not_true, Bool.not_false, hq, fk, hw2]; done)) | refine Qa ?_ | refine Qb ?_ | refine Qc ?_ | refine And.intro (by first | assumption | omega) ?_)
            refine ⟨_, ih ((m : Int) - 1) (by omega) (by omega) (by omega), rfl, ?_⟩
            simp only [kS, R1, R2, R3, R4, R5, R6, R7, reduceCtorEq, R9, g0, e, el, hm, hlt, hw, hk, Int.reduceBEq, cellsEq, eqks54, Bool.not_true, Bool.not_false, hq, fk, hw2]
            repeat (first | ((first | refine Q1 ?_ | refine Q2 ?_); intro Z hN hX hR) | refine Q3 (by kernel_rfl) fun K hK => ?_ | ((first | refine Q4 fun R hJ => ?_ | with_reducible change ExpAll _ _ _); simp only [kS, R1, R2, R3, R4, R5, R6, R7, reduceCtorEq, R9, g0, e, el, hm, hlt, hw, hk, Int.reduceBEq, cellsEq, eqks54, Bool.not_true, Bool.not_false, hq, fk, hw2]) | (refine hJ _ ?_; clear hJ R) | refine Q5 ?_ | (refine hK _ ?_; clear hK K) | ((first | refine hN _ ?_ | refine hX _ _ ?_ | refine hR _ ?_); clear hN hX hR Z) | refine Q6 rfl ?_ | refine Q7 (by decide) ?_ | (refine Q8 ?_ ?_; focus (simp only [kS, R1, R2, R3, R4, R5, R6, R7, reduceCtorEq, R9, g0, e, el, hm, hlt, hw, hk, Int.reduceBEq, cellsEq, eqks54, Bool.not_true, Bool.not_false, hq, fk, hw2]; done)) | (refine Q9 ?_ ?_; focus (simp only [kS, R1, R2, R3, R4, R5, R6, R7, reduceCtorEq, R9, g0, e, el, hm, hlt, hw, hk, Int.reduceBEq, cellsEq, eqks54, Bool.not_true, Bool.not_false, hq, fk, hw2]; done)) | refine Qa ?_ | refine Qb ?_ | refine Qc ?_ | refine And.intro (by first | assumption | omega) ?_)
            refine ⟨_, ih (firstF d k ((m : Int) - 1) - 1) (by omega) (by omega) (by omega), rfl, ?_⟩
            simp only [kS, R1, R2, R3, R4, R5, R6, R7, reduceCtorEq, R9, g0, e, el, hm, hlt, hw, hk, Int.reduceBEq, cellsEq, eqks54, Bool.not_true, Bool.not_false, hq, fk, hw2]
            repeat (first | ((first | refine Q1 ?_ | refine Q2 ?_); intro Z hN hX hR) | refine Q3 (by kernel_rfl) fun K hK => ?_ | ((first | refine Q4 fun R hJ => ?_ | with_reducible change ExpAll _ _ _); simp only [kS, R1, R2, R3, R4, R5, R6, R7, reduceCtorEq, R9, g0, e, el, hm, hlt, hw, hk, Int.reduceBEq, cellsEq, eqks54, Bool.not_true, Bool.not_false, hq, fk, hw2]) | (refine hJ _ ?_; clear hJ R) | refine Q5 ?_ | (refine hK _ ?_; clear hK K) | ((first | refine hN _ ?_ | refine hX _ _ ?_ | refine hR _ ?_); clear hN hX hR Z) | refine Q6 rfl ?_ | refine Q7 (by decide) ?_ | (refine Q8 ?_ ?_; focus (simp only [kS, R1, R2, R3, R4, R5, R6, R7, reduceCtorEq, R9, g0, e, el, hm, hlt, hw, hk, Int.reduceBEq, cellsEq, eqks54, Bool.not_true, Bool.not_false, hq, fk, hw2]; done)) | (refine Q9 ?_ ?_; focus (simp only [kS, R1, R2, R3, R4, R5, R6, R7, reduceCtorEq, R9, g0, e, el, hm, hlt, hw, hk, Int.reduceBEq, cellsEq, eqks54, Bool.not_true, Bool.not_false, hq, fk, hw2]; done)) | refine Qa ?_ | refine Qb ?_ | refine Qc ?_ | refine And.intro (by first | assumption | omega) ?_)
            simp only [firstF, g0, e', hk, Int.reduceBEq, Bool.or_true, Bool.or_false, Bool.true_or, Bool.false_eq_true, if_true, if_false, q, fk]
        · repeat (first | ((first | refine Q1 ?_ | refine Q2 ?_); intro Z hN hX hR) | refine Q3 (by kernel_rfl) fun K hK => ?_ | ((first | refine Q4 fun R hJ => ?_ | with_reducible change ExpAll _ _ _); simp only [kS, R1, R2, R3, R4, R5, R6, R7, reduceCtorEq, R9, g0, e, el, hm, hlt, hw, hk, Int.reduceBEq, cellsEq, eqks54, Bool.not_true, Bool.not_false, fk]) | (refine hJ _ ?_; clear hJ R) | refine Q5 ?_ | (refine hK _ ?_; clear hK K) | ((first | refine hN _ ?_ | refine hX _ _ ?_ | refine hR _ ?_); clear hN hX hR Z) | refine Q6 rfl ?_ | refine Q7 (by decide) ?_ | (refine Q8 ?_ ?_; focus (simp only [kS, R1, R2, R3, R4, R5, R6, R7, reduceCtorEq, R9, g0, e, el, hm, hlt, hw, hk, Int.reduceBEq, cellsEq, eqks54, Bool.not_true, Bool.not_false, fk]; done)) | (refine Q9 ?_ ?_; focus (simp only [kS, R1, R2, R3, R4, R5, R6, R7, reduceCtorEq, R9, g0, e, el, hm, hlt, hw, hk, Int.reduceBEq, cellsEq, eqks54, Bool.not_true, Bool.not_false, fk]; done)) | refine Qa ?_ | refine Qb ?_ | refine Qc ?_ | refine And.intro (by first | assumption | omega) ?_)
          refine ⟨_, ih ((m : Int) - 1) (by omega) (by omega) (by omega), rfl, ?_⟩
          simp only [kS, R1, R2, R3, R4, R5, R6, R7, reduceCtorEq, R9, g0, e, el, hm, hlt, hw, hk, Int.reduceBEq, cellsEq, eqks54, Bool.not_true, Bool.not_false, fk]
          repeat (first | ((first | refine Q1 ?_ | refine Q2 ?_); intro Z hN hX hR) | refine Q3 (by kernel_rfl) fun K hK => ?_ | ((first | refine Q4 fun R hJ => ?_ | with_reducible change ExpAll _ _ _); simp only [kS, R1, R2, R3, R4, R5, R6, R7, reduceCtorEq, R9, g0, e, el, hm, hlt, hw, hk, Int.reduceBEq, cellsEq, eqks54, Bool.not_true, Bool.not_false, fk]) | (refine hJ _ ?_; clear hJ R) | refine Q5 ?_ | (refine hK _ ?_; clear hK K) | ((first | refine hN _ ?_ | refine hX _ _ ?_ | refine hR _ ?_); clear hN hX hR Z) | refine Q6 rfl ?_ | refine Q7 (by decide) ?_ | (refine Q8 ?_ ?_; focus (simp only [kS, R1, R2, R3, R4, R5, R6, R7, reduceCtorEq, R9, g0, e, el, hm, hlt, hw, hk, Int.reduceBEq, cellsEq, eqks54, Bool.not_true, Bool.not_false, fk]; done)) | (refine Q9 ?_ ?_; focus (simp only [kS, R1, R2, R3, R4, R5, R6, R7, reduceCtorEq, R9, g0, e, el, hm, hlt, hw, hk, Int.reduceBEq, cellsEq, eqks54, Bool.not_true, Bool.not_false, fk]; done)) | refine Qa ?_ | refine Qb ?_ | refine Qc ?_ | refine And.intro (by first | assumption | omega) ?_)
          simp only [firstF, g0, e', hk, Int.reduceBEq, Bool.or_true, Bool.or_false, Bool.true_or, Bool.false_eq_true, if_true, if_false, fk]
      have z1 : (d[m].k == 1) = false := by simpa using (‹¬ d[m].k = 1› : ¬ d[m].k = 1)
      have z2 : (d[m].k == 2) = false := by simpa using (‹¬ d[m].k = 2› : ¬ d[m].k = 2)
      have z3 : (d[m].k == 3) = false := by simpa using (‹¬ d[m].k = 3› : ¬ d[m].k = 3)
      have z6 : (d[m].k == 6) = false := by simpa using (‹¬ d[m].k = 6› : ¬ d[m].k = 6)
      have z8 : (d[m].k == 8) = false := by simpa using (‹¬ d[m].k = 8› : ¬ d[m].k = 8)
      have z9 : (d[m].k == 9) = false := by simpa using (‹¬ d[m].k = 9› : ¬ d[m].k = 9)
      have z7 : (d[m].k == 7) = false := by simpa using (‹¬ d[m].k = 7› : ¬ d[m].k = 7)
      have z4 : (d[m].k == 4) = false := by simpa using (‹¬ d[m].k = 4› : ¬ d[m].k = 4)
      have z5 : (d[m].k == 5) = false := by simpa using (‹¬ d[m].k = 5› : ¬ d[m].k = 5)
      repeat (first | ((first | refine Q1 ?_ | refine Q2 ?_); intro Z hN hX hR) | refine Q3 (by kernel_rfl) fun K hK => ?_ | ((first | refine Q4 fun R hJ => ?_ | with_reducible change ExpAll _ _ _); simp only [kS, R1, R2, R3, R4, R5, R6, R7, reduceCtorEq, R9, g0, e, el, hm, hlt, hw, z1, z2, z3, z6, z8, z9, z7, z4, z5]) | (refine hJ _ ?_; clear hJ R) | refine Q5 ?_ | (refine hK _ ?_; clear hK K) | ((first | refine hN _ ?_ | refine hX _ _ ?_ | refine hR _ ?_); clear hN hX hR Z) | refine Q6 rfl ?_ | refine Q7 (by decide) ?_ | (refine Q8 ?_ ?_; focus (simp only [kS, R1, R2, R3, R4, R5, R6, R7, reduceCtorEq, R9, g0, e, el, hm, hlt, hw, z1, z2, z3, z6, z8, z9, z7, z4, z5]; done)) | (refine Q9 ?_ ?_; focus (simp only [kS, R1, R2, R3, R4, R5, R6, R7, reduceCtorEq, R9, g0, e, el, hm, hlt, hw, z1, z2, z3, z6, z8, z9, z7, z4, z5]; done)) | refine Qa ?_ | refine Qb ?_ | refine Qc ?_ | refine And.intro (by first | assumption | omega) ?_)
      simp only [firstF, g0, e', z1, z2, z3, z6, z8, z9, z7, z4, z5, Bool.or_false, Bool.false_eq_true, if_false]
    · repeat (first | ((first | refine Q1 ?_ | refine Q2 ?_); intro Z hN hX hR) | refine Q3 (by kernel_rfl) fun K hK => ?_ | ((first | refine Q4 fun R hJ => ?_ | with_reducible change ExpAll _ _ _); simp only [kS, R1, R2, R3, R4, R5, R6, R7, reduceCtorEq, R9, g0]) | (refine hJ _ ?_; clear hJ R) | refine Q5 ?_ | (refine hK _ ?_; clear hK K) | ((first | refine hN _ ?_ | refine hX _ _ ?_ | refine hR _ ?_); clear hN hX hR Z) | refine Q6 rfl ?_ | refine Q7 (by decide) ?_ | (refine Q8 ?_ ?_; focus (simp only [kS, R1, R2, R3, R4, R5, R6, R7, reduceCtorEq, R9, g0]; done)) | (refine Q9 ?_ ?_; focus (simp only [kS, R1, R2, R3, R4, R5, R6, R7, reduceCtorEq, R9, g0]; done)) | refine Qa ?_ | refine Qb ?_ | refine Qc ?_ | refine And.intro (by first | assumption | omega) ?_)
      simp only [firstF, g0, if_true]

end Go.Proofs.YtilhjiopbbbgmaaDoor

/- Has a description its form? What that gives. -/
namespace Go.Proofs.YtilhjiopbbbgmaaDoor
open Nat renaming reduceSub → R1, reduceMul → R2, reduceLeDiff → R3, reducePow → R4, reduceBEq → R5, reduceAdd → R6, reduceEqDiff → R7
open Int renaming reduceToNat → R9
open Go Go.RowKit Am
set_option linter.unusedVariables false
set_option linter.unusedSimpArgs false
set_option maxHeartbeats 4000000
attribute [local irreducible] AWp AOps

def formB (d : List Nd) : Bool := decide ((0 : Int) < d.length) && firstF d d.length ((d.length : Int) - 1) == 0

theorem form04_ret (gl : Gl) (d : List Nd) (hl : d.length ≤ 1000000) (hs : ∀ n ∈ d, n.s.size ≤ 140737488355328) : Ret Tryd.prog gl 32 [.agg (dC d)] (bv (formB d)) := by
  refine retq (rs := [2]) 17 Tryd.func32 (by kernel_rfl) rfl (by kernel_rfl) rfl (by simp) (by simp) fun Z hN hX hR => ?_
  have hw : IntKind.i64.wrap ((d.length : Int) - 1) = (d.length : Int) - 1 := wrap_i64 (by omega) (by omega)
  simp only [dC]
  cases g : decide ((0 : Int) < d.length)
  · repeat (first | ((first | refine Q1 ?_ | refine Q2 ?_); intro Z hN hX hR) | refine Q3 (by kernel_rfl) fun K hK => ?_ | ((first | refine Q4 fun R hJ => ?_ | with_reducible change ExpAll _ _ _); simp only [kS, R1, R2, R3, R4, R5, R6, R7, reduceCtorEq, R9, g]) | (refine hJ _ ?_; clear hJ R) | refine Q5 ?_ | (refine hK _ ?_; clear hK K) | ((first | refine hN _ ?_ | refine hX _ _ ?_ | refine hR _ ?_); clear hN hX hR Z) | refine Q6 rfl ?_ | refine Q7 (by decide) ?_ | (refine Q8 ?_ ?_; focus (simp only [kS, R1, R2, R3, R4, R5, R6, R7, reduceCtorEq, R9, g]; done)) | (refine Q9 ?_ ?_; focus (simp only [kS, R1, R2, R3, R4, R5, R6, R7, reduceCtorEq, R9, g]; done)) | refine Qa ?_ | refine Qb ?_ | refine Qc ?_ | refine And.intro (by first | assumption | omega) ?_)
    simp only [formB, g, Bool.false_and]
  · repeat (first | ((first | refine Q1 ?_ | refine Q2 ?_); intro Z hN hX hR) | refine Q3 (by kernel_rfl) fun K hK => ?_ | ((first | refine Q4 fun R hJ => ?_ | with_reducible change ExpAll _ _ _); simp only [kS, R1, R2, R3, R4, R5, R6, R7, reduceCtorEq, R9, g, hw]) | (refine hJ _ ?_; clear hJ R) | refine Q5 ?_ | (refine hK _ ?_; clear hK K) | ((first | refine hN _ ?_ | refine hX _ _ ?_ | refine hR _ ?_); clear hN hX hR Z) | refine Q6 rfl ?_ | refine Q7 (by decide) ?_ | (refine Q8 ?_ ?_; focus (simp only [kS, R1, R2, R3, R4, R5, R6, R7, reduceCtorEq, R9, g, hw]; done)) | (refine Q9 ?_ ?_; focus (simp only [kS, R1, R2, R3, R4, R5, R6, R7, reduceCtorEq, R9, g, hw]; done)) | refine Qa ?_ | refine Qb ?_ | refine Qc ?_ | refine And.intro (by first | assumption | omega) ?_)
    refine ⟨_, first_ret gl d hl hs d.length _ (by omega) (by omega) (by omega), rfl, ?_⟩
    simp only [kS, R1, R2, R3, R4, R5, R6, R7, reduceCtorEq, R9, g]
    repeat (first | ((first | refine Q1 ?_ | refine Q2 ?_); intro Z hN hX hR) | refine Q3 (by kernel_rfl) fun K hK => ?_ | ((first | refine Q4 fun R hJ => ?_ | with_reducible change ExpAll _ _ _); simp only [kS, R1, R2, R3, R4, R5, R6, R7, reduceCtorEq, R9, g]) | (refine hJ _ ?_; clear hJ R) | refine Q5 ?_ | (refine hK _ ?_; clear hK K) | ((first | refine hN _ ?_ | refine hX _ _ ?_ | refine hR _ ?_); clear hN hX hR Z) | refine Q6 rfl ?_ | refine Q7 (by decide) ?_ | (refine Q8 ?_ ?_; focus (simp only [kS, R1, R2, R3, R4, R5, R6, R7, reduceCtorEq, R9, g]; done)) | (refine Q9 ?_ ?_; focus (simp only [kS, R1, R2, R3, R4, R5, R6, R7, reduceCtorEq, R9, g]; done)) | refine Qa ?_ | refine Qb ?_ | refine Qc ?_ | refine And.intro (by first | assumption | omega) ?_)
    simp only [formB, g, Bool.true_and]

theorem eqN_eq {n w : Nd} (h : eqN n w = true) : n.k = w.k ∧ n.a = w.a ∧ n.b = w.b ∧ n.lo = w.lo ∧ n.hi = w.hi := by
  simp only [eqN, Bool.and_eq_true, beq_iff_eq] at h
  obtain ⟨h1, h2, h3, h4, h5, _⟩ := h
  exact ⟨h1, h2, h3, h4, h5⟩

theorem textB_pos {s : ByteArray} (h : textB s = true) : 0 < s.size := by
  simp only [textB, Bool.and_eq_true, decide_eq_true_eq] at h
  omega

def okNj (d : List Nd) (j : Int) (n : Nd) : Prop := okNd d n ∧ (4 ≤ n.k → n.a < j ∧ n.b < j)

theorem firstF_ok (d : List Nd) : ∀ (k : Nat) (i f : Int), i < d.length → firstF d k i = f → 0 ≤ f → 0 ≤ i ∧ f ≤ i ∧ ∀ j : Int, f ≤ j → j ≤ i → okNj d j (nd d j)
  | 0, i, f, h, hf, h0 => by simp [firstF] at hf; omega
  | k + 1, i, f, h, hf, h0 => by
    have ih := firstF_ok d k
    simp only [firstF] at hf
    split at hf
    · omega
    · rename_i g0
      have i0 : 0 ≤ i := by simpa using g0
      have one : okNj d i (nd d i) → i = f → 0 ≤ i ∧ f ≤ i ∧ ∀ j : Int, f ≤ j → j ≤ i → okNj d j (nd d j) := fun ho e => ⟨i0, by omega, fun j h1 h2 => by rw [show j = i by omega]; exact ho⟩
      split at hf
      · rename_i g; have g := eq_of_beq g
        split at hf
        · rename_i q; obtain ⟨q1, q2, q3, q4, q5⟩ := eqN_eq q
          simp only at q2 q3 q4 q5
          exact one ⟨⟨by omega, by omega, by omega, by omega, by omega, by omega, by omega, by omega, by omega, fun h => by omega⟩, fun _ => by omega⟩ hf
        · omega
      · split at hf
        · rename_i g; have g := eq_of_beq g
          split at hf
          · rename_i q; obtain ⟨q1, q2, q3, q4, q5⟩ := eqN_eq q
            simp only at q2 q3 q4 q5
            exact one ⟨⟨by omega, by omega, by omega, by omega, by omega, by omega, by omega, by omega, by omega, fun h => by omega⟩, fun _ => by omega⟩ hf
          · omega
        · split at hf
          · rename_i g; have g := eq_of_beq g
            split at hf
            · rename_i ht
              split at hf
              · rename_i q; obtain ⟨q1, q2, q3, q4, q5⟩ := eqN_eq q
                simp only at q2 q3 q4 q5
                exact one ⟨⟨by omega, by omega, by omega, by omega, by omega, by omega, by omega, by omega, by omega, fun h => textB_pos ht⟩, fun _ => by omega⟩ hf
              · omega
            · omega
          · split at hf
            · rename_i g
              have g : (nd d i).k = 6 ∨ (nd d i).k = 8 ∨ (nd d i).k = 9 := by simpa [Bool.or_eq_true, beq_iff_eq] using g
              split at hf
              · rename_i q; obtain ⟨q1, q2, q3, q4, q5⟩ := eqN_eq q
                simp only at q2 q3 q4 q5
                obtain ⟨r1, r2, r3⟩ := ih (i - 1) f (by omega) hf h0
                refine ⟨i0, by omega, fun j h1 h2 => ?_⟩
                by_cases hj : j = i
                · subst hj; exact ⟨⟨by omega, by omega, by omega, by omega, by omega, by omega, by omega, by omega, by omega, fun h => by omega⟩, fun _ => by omega⟩
                · exact r3 j h1 (by omega)
              · omega
            · split at hf
              · rename_i g; have g := eq_of_beq g
                split at hf
                · omega
                · rename_i b
                  have b : ¬ (nd d i).lo < 0 ∧ ¬ (nd d i).hi < (nd d i).lo ∧ ¬ 255 < (nd d i).hi := by simpa [Bool.or_eq_true, decide_eq_true_eq, not_or] using b
                  split at hf
                  · rename_i q; obtain ⟨q1, q2, q3, q4, q5⟩ := eqN_eq q
                    simp only at q2 q3 q4 q5
                    obtain ⟨r1, r2, r3⟩ := ih (i - 1) f (by omega) hf h0
                    refine ⟨i0, by omega, fun j h1 h2 => ?_⟩
                    by_cases hj : j = i
                    · subst hj; exact ⟨⟨by omega, by omega, by omega, by omega, by omega, by omega, by omega, by omega, by omega, fun h => by omega⟩, fun _ => by omega⟩
                    · exact r3 j h1 (by omega)
                  · omega
              · split at hf
                · rename_i g
                  have g : (nd d i).k = 4 ∨ (nd d i).k = 5 := by simpa [Bool.or_eq_true, beq_iff_eq] using g
                  split at hf
                  · omega
                  · rename_i b
                    have b : ¬ firstF d k (i - 1) < 0 := by simpa using b
                    split at hf
                    · rename_i q; obtain ⟨q1, q2, q3, q4, q5⟩ := eqN_eq q
                      simp only at q2 q3 q4 q5
                      obtain ⟨r1, r2, r3⟩ := ih (i - 1) _ (by omega) rfl (by omega)
                      obtain ⟨s1, s2, s3⟩ := ih (firstF d k (i - 1) - 1) f (by omega) hf h0
                      refine ⟨i0, by omega, fun j h1 h2 => ?_⟩
                      by_cases hj : j = i
                      · subst hj; exact ⟨⟨by omega, by omega, by omega, by omega, by omega, by omega, by omega, by omega, by omega, fun h => by omega⟩, fun _ => by omega⟩
                      · by_cases hj2 : firstF d k (i - 1) ≤ j
                        · exact r3 j hj2 (by omega)
                        · exact s3 j h1 (by omega)
                    · omega
                · omega

def WFo (d : List Nd) : Prop := ∀ (i : Nat) (h : i < d.length), 4 ≤ d[i].k → d[i].a < i ∧ d[i].b < i

theorem formB_ok {d : List Nd} (h : formB d = true) (hl : d.length ≤ 100) : WFd d ∧ WFo d := by
  simp only [formB, Bool.and_eq_true, decide_eq_true_eq, beq_iff_eq] at h
  obtain ⟨h1, h2⟩ := h
  obtain ⟨_, _, h3⟩ := firstF_ok d d.length ((d.length : Int) - 1) 0 (by omega) h2 (by omega)
  have h4 : ∀ (i : Nat) (hi : i < d.length), okNj d i d[i] := fun i hi => by
    have := h3 (i : Int) (by omega) (by omega)
    rwa [nd_get d i hi] at this
  refine ⟨⟨by omega, hl, fun n hn => ?_⟩, fun i hi => (h4 i hi).2⟩
  obtain ⟨i, hi, rfl⟩ := List.getElem_of_mem hn
  exact (h4 i hi).1

end Go.Proofs.YtilhjiopbbbgmaaDoor

/- In how many ways a node is of nothing. -/
namespace Go.Proofs.YtilhjiopbbbgmaaDoor
open Nat renaming reduceSub → R1, reduceMul → R2, reduceLeDiff → R3, reducePow → R4, reduceBEq → R5, reduceAdd → R6, reduceEqDiff → R7
open Int renaming reduceToNat → R9
open Go Go.RowKit Am
set_option linter.unusedVariables false
set_option linter.unusedSimpArgs false
set_option maxHeartbeats 4000000
attribute [local irreducible] AWp AOps

def min2 (y : Int) : Int := if y < 2 then y else 2
def getI (l : List Int) (a : Int) : Int := l.getD a.toNat 0
def pwF (a : Int) : Nat → Int
  | 0 => 1
  | m + 1 => min2 (pwF a m * a)
def sumF (a : Int) (lo : Nat) : Nat → Int
  | 0 => 0
  | t + 1 => min2 (sumF a lo t + pwF a (lo + t))
def wayS (l : List Int) (n : Nd) : Int :=
  if n.k = 1 then 1 else if n.k = 4 then getI l n.a * getI l n.b else if n.k = 5 then getI l n.a + getI l n.b
  else if n.k = 6 then (if 0 < getI l n.a then 2 else 1) else if n.k = 7 then sumF (getI l n.a) n.lo.toNat (n.hi + 1 - n.lo).toNat else 0
def wayL : List Nd → List Int → List Int
  | [], l => l
  | n :: d, l => wayL d (l ++ [min2 (wayS l n)])
def waysF (d : List Nd) (i : Nat) : Int := getI (wayL (d.take (i + 1)) []) i

theorem min2_r {y : Int} (h : 0 ≤ y) : 0 ≤ min2 y ∧ min2 y ≤ 2 := by
  simp only [min2]; split <;> omega
theorem pwF_r {a : Int} (h : 0 ≤ a) : ∀ m, 0 ≤ pwF a m ∧ pwF a m ≤ 2
  | 0 => by simp [pwF]
  | m + 1 => min2_r (Int.mul_nonneg (pwF_r h m).1 h)
theorem sumF_r {a : Int} (h : 0 ≤ a) (lo : Nat) : ∀ t, 0 ≤ sumF a lo t ∧ sumF a lo t ≤ 2
  | 0 => by simp [sumF]
  | t + 1 => min2_r (by have := (sumF_r h lo t).1; have := (pwF_r h (lo + t)).1; omega)

def okW (l : List Int) : Prop := ∀ x ∈ l, 0 ≤ x ∧ x ≤ 2
theorem okW_get {l : List Int} (h : okW l) (a : Int) : 0 ≤ getI l a ∧ getI l a ≤ 2 := by
  simp only [getI]
  by_cases ha : a.toNat < l.length
  · simp only [List.getD_eq_getElem?_getD, List.getElem?_eq_getElem ha, Option.getD_some]; exact h _ (List.getElem_mem ha)
  · simp [List.getD_eq_getElem?_getD, List.getElem?_eq_none (by omega : l.length ≤ a.toNat)]

theorem mul_r {x y : Int} (hx : 0 ≤ x ∧ x ≤ 2) (hy : 0 ≤ y ∧ y ≤ 2) : 0 ≤ x * y ∧ x * y ≤ 4 := by
  obtain ⟨h1, h2⟩ := hx
  obtain ⟨h3, h4⟩ := hy
  refine ⟨Int.mul_nonneg h1 h3, ?_⟩
  have := Int.mul_le_mul h2 h4 h3 (by omega : (0 : Int) ≤ 2)
  omega

theorem wayS_r {l : List Int} (h : okW l) (n : Nd) : 0 ≤ wayS l n ∧ wayS l n ≤ 4 := by
  have ha := okW_get h n.a
  have hb := okW_get h n.b
  have := mul_r ha hb
  have := sumF_r ha.1 n.lo.toNat (n.hi + 1 - n.lo).toNat
  simp only [wayS]
  repeat' split
  all_goals omega

theorem wayL_append : ∀ (a b : List Nd) (l : List Int), wayL (a ++ b) l = wayL b (wayL a l)
  | [], b, l => rfl
  | n :: a, b, l => by simp only [List.cons_append, wayL]; exact wayL_append a b _
theorem wayL_len : ∀ (a : List Nd) (l : List Int), (wayL a l).length = l.length + a.length
  | [], l => rfl
  | n :: a, l => by simp only [wayL, wayL_len a]; simp; omega
theorem wayL_ok : ∀ (a : List Nd) (l : List Int), okW l → okW (wayL a l)
  | [], l, h => h
  | n :: a, l, h => wayL_ok a _ fun x hx => by
    rcases List.mem_append.1 hx with hx | hx
    · exact h x hx
    · simp only [List.mem_singleton] at hx; subst hx; exact min2_r (wayS_r h n).1

theorem getI_drop (l : List Int) (a : Int) (h0 : 0 ≤ a) (h : a < l.length) : (intsC l).drop a.toNat = .v (.int .i64 (getI l a)) :: intsC (l.drop (a.toNat + 1)) := by
  have : a.toNat < l.length := by omega
  simp only [intsC, ← List.map_drop, List.drop_eq_getElem_cons this, List.map_cons, getI, List.getD_eq_getElem?_getD, List.getElem?_eq_getElem this, Option.getD_some]

theorem ways_ret (gl : Gl) (d : List Nd) (hd : WFd d) (ho : WFo d) (i : Nat) (hi : i < d.length) : Ret Tryd.prog gl 56 [.agg (dC d), iv (i : Int)] (iv (waysF d i)) := by
  refine retq (rs := [4]) 96 Tryd.func56 (by kernel_rfl) rfl (by kernel_rfl) rfl (by simp) (by simp) fun Z hN hX hR => ?_
  have hl100 := hd.2.1
  repeat (first | ((first | refine Q1 ?_ | refine Q2 ?_); intro Z hN hX hR) | refine Q3 (by kernel_rfl) fun K hK => ?_ | ((first | refine Q4 fun R hJ => ?_ | with_reducible change ExpAll _ _ _); simp only [kS, R1, R2, R3, R4, R5, R6, R7, reduceCtorEq, R9]) | (refine hJ _ ?_; clear hJ R) | refine Q5 ?_ | (refine hK _ ?_; clear hK K) | ((first | refine hN _ ?_ | refine hX _ _ ?_ | refine hR _ ?_); clear hN hX hR Z) | refine Q6 rfl ?_ | refine Q7 (by decide) ?_ | (refine Q8 ?_ ?_; focus (simp only [kS, R1, R2, R3, R4, R5, R6, R7, reduceCtorEq, R9]; done)) | (refine Q9 ?_ ?_; focus (simp only [kS, R1, R2, R3, R4, R5, R6, R7, reduceCtorEq, R9]; done)) | refine Qa ?_ | refine Qb ?_ | refine Qc ?_ | refine And.intro (by first | assumption | omega) ?_)
  refine awq_loop (fun c f => ∃ (k : Nat), k ≤ i + 1 ∧ c = i + 1 - k ∧ f.t 1 = iv (i : Int) ∧ f.t 6 = iv (k : Int) ∧ f.t 2 = .ref 2 1 0 ∧ f.ob 2 1 = .box (dC d) ∧ 1 < f.k ∧
    ((f.t 5 = .nil ∧ k = 0) ∨ ∃ e t, f.t 5 = .tok e t k (intsC (wayL (d.take k) [])) ∧ f.ob e t = .live 3 1 ∧ t ≤ f.k ∧ 0 < k)) (i + 1) ?_ ?_
  · exact ⟨0, by omega, rfl, by simp only [kS, R1, R2, R3, R4, R5, R6, R7, reduceCtorEq, R9], by simp only [kS, R1, R2, R3, R4, R5, R6, R7, reduceCtorEq, R9]; rfl, by simp only [kS, R1, R2, R3, R4, R5, R6, R7, reduceCtorEq, R9], by simp only [kS, R1, R2, R3, R4, R5, R6, R7, reduceCtorEq, R9], by (simp only [kS, R1, R2, R3, R4, R5, R6, R7, reduceCtorEq, R9]) <;> first | omega | rfl, .inl ⟨by simp only [kS, R1, R2, R3, R4, R5, R6, R7, reduceCtorEq, R9], rfl⟩⟩
  rintro Z c f hN hX hR ⟨k, hk, rfl, h1, h6, h2, hb, hfk, h5⟩
  by_cases hlt : k ≤ i
  · have hki : k < d.length := by omega
    have hle : (k : Int) ≤ (i : Int) := by omega
    have e := ndsC_drop d k hki
    have el := ndsC_length d
    simp only [dC] at hb
    repeat (first | ((first | refine Q1 ?_ | refine Q2 ?_); intro Z hN hX hR) | refine Q3 (by kernel_rfl) fun K hK => ?_ | ((first | refine Q4 fun R hJ => ?_ | with_reducible change ExpAll _ _ _); simp only [kS, R1, R2, R3, R4, R5, R6, R7, reduceCtorEq, R9, h1, h6, h2, hb, hle, hki, e, el, decide_true]) | (refine hJ _ ?_; clear hJ R) | refine Q5 ?_ | (refine hK _ ?_; clear hK K) | ((first | refine hN _ ?_ | refine hX _ _ ?_ | refine hR _ ?_); clear hN hX hR Z) | refine Q6 rfl ?_ | refine Q7 (by decide) ?_ | (refine Q8 ?_ ?_; focus (simp only [kS, R1, R2, R3, R4, R5, R6, R7, reduceCtorEq, R9, h1, h6, h2, hb, hle, hki, e, el, decide_true]; done)) | (refine Q9 ?_ ?_; focus (simp only [kS, R1, R2, R3, R4, R5, R6, R7, reduceCtorEq, R9, h1, h6, h2, hb, hle, hki, e, el, decide_true]; done)) | refine Qa ?_ | refine Qb ?_ | refine Qc ?_ | refine And.intro (by first | assumption | omega) ?_)
    have ok := wayL_ok (d.take k) [] (fun x hx => by cases hx)
    have hlen : (wayL (d.take k) []).length = k := by rw [wayL_len]; simp; omega
    have hsucc : wayL (d.take (k + 1)) [] = wayL (d.take k) [] ++ [min2 (wayS (wayL (d.take k) []) d[k])] := by
      rw [List.take_succ_eq_append_getElem hki, wayL_append]; rfl
    have hwr := wayS_r ok d[k]
    have hord := ho k hki
    have hnd := hd.2.2 d[k] (List.getElem_mem hki)
    generalize hL : wayL (d.take k) [] = L at *
    have hil : (intsC L).length = k := by rw [intsC_length, hlen]
    have fin : ∀ f' : AF, (f'.t 1 = iv (i : Int) ∧ f'.t 6 = iv (k : Int) ∧ f'.t 2 = .ref 2 1 0 ∧ f'.ob 2 1 = .box (dC d) ∧ 1 < f'.k ∧ ((f'.t 5 = .nil ∧ k = 0) ∨ ∃ e t, f'.t 5 = .tok e t k (intsC L) ∧ f'.ob e t = .live 3 1 ∧ t ≤ f'.k ∧ 0 < k) ∧
        f'.t 8 = iv (wayS L d[k])) → Z .normal f' := by
      rintro f' ⟨a1, a6, a2, ab, ak, a5, a8⟩
      rcases a5 with ⟨a5, k0⟩ | ⟨e, t, a5, aob, aht, k0⟩
      · have L0 : L = [] := List.eq_nil_of_length_eq_zero (by omega)
        repeat (first | ((first | refine Q1 ?_ | refine Q2 ?_); intro Z hN hX hR) | refine Q3 (by kernel_rfl) fun K hK => ?_ | ((first | refine Q4 fun R hJ => ?_ | with_reducible change ExpAll _ _ _); simp only [kS, R1, R2, R3, R4, R5, R6, R7, reduceCtorEq, R9, a1, a6, a2, ab, a5, a8, tk1, tk2, tk3, tk4, tk5, tk6, tk7, tk8, and_false, false_and]) | (refine hJ _ ?_; clear hJ R) | refine Q5 ?_ | (refine hK _ ?_; clear hK K) | ((first | refine hN _ ?_ | refine hX _ _ ?_ | refine hR _ ?_); clear hN hX hR Z) | refine Q6 rfl ?_ | refine Q7 (by decide) ?_ | (refine Q8 ?_ ?_; focus (simp only [kS, R1, R2, R3, R4, R5, R6, R7, reduceCtorEq, R9, a1, a6, a2, ab, a5, a8, tk1, tk2, tk3, tk4, tk5, tk6, tk7, tk8, and_false, false_and]; done)) | (refine Q9 ?_ ?_; focus (simp only [kS, R1, R2, R3, R4, R5, R6, R7, reduceCtorEq, R9, a1, a6, a2, ab, a5, a8, tk1, tk2, tk3, tk4, tk5, tk6, tk7, tk8, and_false, false_and]; done)) | refine Qa ?_ | refine Qb ?_ | refine Qc ?_ | refine And.intro (by first | assumption | omega) ?_)
        refine ⟨i + 1 - (k + 1), by omega, k + 1, by omega, rfl, by simp only [kS, R1, R2, R3, R4, R5, R6, R7, reduceCtorEq, R9, a1], ?_, by simp only [kS, R1, R2, R3, R4, R5, R6, R7, reduceCtorEq, R9, a2], by simp only [kS, R1, R2, R3, R4, R5, R6, R7, reduceCtorEq, R9, ab, tk1, tk2, tk3, tk4, tk5, tk6, tk7, tk8, and_false, false_and], by (simp only [kS, R1, R2, R3, R4, R5, R6, R7, reduceCtorEq, R9]) <;> first | omega | rfl, .inr ⟨91, f'.k + 1, ?_, by simp only [kS, R1, R2, R3, R4, R5, R6, R7, reduceCtorEq, R9, tk1, tk2, tk3, tk4, tk5, tk6, tk7, tk8, and_false, false_and], by (simp only [kS, R1, R2, R3, R4, R5, R6, R7, reduceCtorEq, R9]) <;> first | omega | rfl, by omega⟩⟩
        · simp only [kS, R1, R2, R3, R4, R5, R6, R7, reduceCtorEq, R9]
          rw [wrap_i64 (by omega) (by omega)]; rfl
        · simp only [kS, R1, R2, R3, R4, R5, R6, R7, reduceCtorEq, R9]
          rw [hsucc, show k + 1 = 1 by omega]; subst L0; rfl
      · have hne : ¬ (2 = e ∧ 1 = t) := by rintro ⟨rfl, rfl⟩; rw [ab] at aob; cases aob
        have hne' : ¬ (e = 2 ∧ t = 1) := by rintro ⟨rfl, rfl⟩; rw [ab] at aob; cases aob
        repeat (first | ((first | refine Q1 ?_ | refine Q2 ?_); intro Z hN hX hR) | refine Q3 (by kernel_rfl) fun K hK => ?_ | ((first | refine Q4 fun R hJ => ?_ | with_reducible change ExpAll _ _ _); simp only [kS, R1, R2, R3, R4, R5, R6, R7, reduceCtorEq, R9, a1, a6, a2, ab, a5, a8, aob, aht, hil, tk1, tk2, tk3, tk4, tk5, tk6, tk7, tk8, and_false, false_and]) | (refine hJ _ ?_; clear hJ R) | refine Q5 ?_ | (refine hK _ ?_; clear hK K) | ((first | refine hN _ ?_ | refine hX _ _ ?_ | refine hR _ ?_); clear hN hX hR Z) | refine Q6 rfl ?_ | refine Q7 (by decide) ?_ | (refine Q8 ?_ ?_; focus (simp only [kS, R1, R2, R3, R4, R5, R6, R7, reduceCtorEq, R9, a1, a6, a2, ab, a5, a8, aob, aht, hil, tk1, tk2, tk3, tk4, tk5, tk6, tk7, tk8, and_false, false_and]; done)) | (refine Q9 ?_ ?_; focus (simp only [kS, R1, R2, R3, R4, R5, R6, R7, reduceCtorEq, R9, a1, a6, a2, ab, a5, a8, aob, aht, hil, tk1, tk2, tk3, tk4, tk5, tk6, tk7, tk8, and_false, false_and]; done)) | refine Qa ?_ | refine Qb ?_ | refine Qc ?_ | refine And.intro (by first | assumption | omega) ?_)
        refine ⟨i + 1 - (k + 1), by omega, k + 1, by omega, rfl, by simp only [kS, R1, R2, R3, R4, R5, R6, R7, reduceCtorEq, R9, a1], ?_, by simp only [kS, R1, R2, R3, R4, R5, R6, R7, reduceCtorEq, R9, a2], by simp only [kS, R1, R2, R3, R4, R5, R6, R7, reduceCtorEq, R9, ab, hne, hne', tk1, tk2, tk3, tk4, tk5, tk6, tk7, tk8, and_false, false_and], by (simp only [kS, R1, R2, R3, R4, R5, R6, R7, reduceCtorEq, R9]) <;> first | omega | rfl, .inr ⟨91, f'.k + 1, ?_, by simp only [kS, R1, R2, R3, R4, R5, R6, R7, reduceCtorEq, R9, tk1, tk2, tk3, tk4, tk5, tk6, tk7, tk8, and_false, false_and], by (simp only [kS, R1, R2, R3, R4, R5, R6, R7, reduceCtorEq, R9]) <;> first | omega | rfl, by omega⟩⟩
        · simp only [kS, R1, R2, R3, R4, R5, R6, R7, reduceCtorEq, R9]
          rw [wrap_i64 (by omega) (by omega)]; rfl
        · simp only [kS, R1, R2, R3, R4, R5, R6, R7, reduceCtorEq, R9]
          rw [hsucc]; simp only [intsC, List.map_append]; rfl
    clear hN
    rcases h5 with ⟨h5, k0⟩ | ⟨e2, t2, h5, hob, ht, k0⟩
    · skip
      by_cases hk : d[k].k = 1
      · repeat (first | ((first | refine Q1 ?_ | refine Q2 ?_); intro Z hN hX hR) | refine Q3 (by kernel_rfl) fun K hK => ?_ | ((first | refine Q4 fun R hJ => ?_ | with_reducible change ExpAll _ _ _); simp only [kS, R1, R2, R3, R4, R5, R6, R7, reduceCtorEq, R9, h1, h6, h2, hb, hki, e, el, decide_true, Int.reduceBEq, tk1, tk2, tk3, tk4, tk5, tk6, tk7, tk8, and_false, false_and, h5, hk]) | (refine hJ _ ?_; clear hJ R) | refine Q5 ?_ | (refine hK _ ?_; clear hK K) | ((first | refine hN _ ?_ | refine hX _ _ ?_ | refine hR _ ?_); clear hN hX hR Z) | refine Q6 rfl ?_ | refine Q7 (by decide) ?_ | (refine Q8 ?_ ?_; focus (simp only [kS, R1, R2, R3, R4, R5, R6, R7, reduceCtorEq, R9, h1, h6, h2, hb, hki, e, el, decide_true, Int.reduceBEq, tk1, tk2, tk3, tk4, tk5, tk6, tk7, tk8, and_false, false_and, h5, hk]; done)) | (refine Q9 ?_ ?_; focus (simp only [kS, R1, R2, R3, R4, R5, R6, R7, reduceCtorEq, R9, h1, h6, h2, hb, hki, e, el, decide_true, Int.reduceBEq, tk1, tk2, tk3, tk4, tk5, tk6, tk7, tk8, and_false, false_and, h5, hk]; done)) | refine Qa ?_ | refine Qb ?_ | refine Qc ?_ | refine And.intro (by first | assumption | omega) ?_)
        exact fin _ ⟨by simp only [kS, R1, R2, R3, R4, R5, R6, R7, reduceCtorEq, R9, h1], by simp only [kS, R1, R2, R3, R4, R5, R6, R7, reduceCtorEq, R9, h6], by simp only [kS, R1, R2, R3, R4, R5, R6, R7, reduceCtorEq, R9, h2], by simp only [kS, R1, R2, R3, R4, R5, R6, R7, reduceCtorEq, R9, hb, dC, tk1, tk2, tk3, tk4, tk5, tk6, tk7, tk8, and_false, false_and], by (simp only [kS, R1, R2, R3, R4, R5, R6, R7, reduceCtorEq, R9]) <;> first | omega | rfl, .inl ⟨by simp only [kS, R1, R2, R3, R4, R5, R6, R7, reduceCtorEq, R9, h5], k0⟩, by simp only [kS, R1, R2, R3, R4, R5, R6, R7, reduceCtorEq, R9, wayS, hk, Int.reduceEq]⟩
      by_cases hk : d[k].k = 2
      · repeat (first | ((first | refine Q1 ?_ | refine Q2 ?_); intro Z hN hX hR) | refine Q3 (by kernel_rfl) fun K hK => ?_ | ((first | refine Q4 fun R hJ => ?_ | with_reducible change ExpAll _ _ _); simp only [kS, R1, R2, R3, R4, R5, R6, R7, reduceCtorEq, R9, h1, h6, h2, hb, hki, e, el, decide_true, Int.reduceBEq, tk1, tk2, tk3, tk4, tk5, tk6, tk7, tk8, and_false, false_and, h5, hk]) | (refine hJ _ ?_; clear hJ R) | refine Q5 ?_ | (refine hK _ ?_; clear hK K) | ((first | refine hN _ ?_ | refine hX _ _ ?_ | refine hR _ ?_); clear hN hX hR Z) | refine Q6 rfl ?_ | refine Q7 (by decide) ?_ | (refine Q8 ?_ ?_; focus (simp only [kS, R1, R2, R3, R4, R5, R6, R7, reduceCtorEq, R9, h1, h6, h2, hb, hki, e, el, decide_true, Int.reduceBEq, tk1, tk2, tk3, tk4, tk5, tk6, tk7, tk8, and_false, false_and, h5, hk]; done)) | (refine Q9 ?_ ?_; focus (simp only [kS, R1, R2, R3, R4, R5, R6, R7, reduceCtorEq, R9, h1, h6, h2, hb, hki, e, el, decide_true, Int.reduceBEq, tk1, tk2, tk3, tk4, tk5, tk6, tk7, tk8, and_false, false_and, h5, hk]; done)) | refine Qa ?_ | refine Qb ?_ | refine Qc ?_ | refine And.intro (by first | assumption | omega) ?_)
        exact fin _ ⟨by simp only [kS, R1, R2, R3, R4, R5, R6, R7, reduceCtorEq, R9, h1], by simp only [kS, R1, R2, R3, R4, R5, R6, R7, reduceCtorEq, R9, h6], by simp only [kS, R1, R2, R3, R4, R5, R6, R7, reduceCtorEq, R9, h2], by simp only [kS, R1, R2, R3, R4, R5, R6, R7, reduceCtorEq, R9, hb, dC, tk1, tk2, tk3, tk4, tk5, tk6, tk7, tk8, and_false, false_and], by (simp only [kS, R1, R2, R3, R4, R5, R6, R7, reduceCtorEq, R9]) <;> first | omega | rfl, .inl ⟨by simp only [kS, R1, R2, R3, R4, R5, R6, R7, reduceCtorEq, R9, h5], k0⟩, by simp only [kS, R1, R2, R3, R4, R5, R6, R7, reduceCtorEq, R9, wayS, hk, Int.reduceEq]⟩
      by_cases hk : d[k].k = 3
      · repeat (first | ((first | refine Q1 ?_ | refine Q2 ?_); intro Z hN hX hR) | refine Q3 (by kernel_rfl) fun K hK => ?_ | ((first | refine Q4 fun R hJ => ?_ | with_reducible change ExpAll _ _ _); simp only [kS, R1, R2, R3, R4, R5, R6, R7, reduceCtorEq, R9, h1, h6, h2, hb, hki, e, el, decide_true, Int.reduceBEq, tk1, tk2, tk3, tk4, tk5, tk6, tk7, tk8, and_false, false_and, h5, hk]) | (refine hJ _ ?_; clear hJ R) | refine Q5 ?_ | (refine hK _ ?_; clear hK K) | ((first | refine hN _ ?_ | refine hX _ _ ?_ | refine hR _ ?_); clear hN hX hR Z) | refine Q6 rfl ?_ | refine Q7 (by decide) ?_ | (refine Q8 ?_ ?_; focus (simp only [kS, R1, R2, R3, R4, R5, R6, R7, reduceCtorEq, R9, h1, h6, h2, hb, hki, e, el, decide_true, Int.reduceBEq, tk1, tk2, tk3, tk4, tk5, tk6, tk7, tk8, and_false, false_and, h5, hk]; done)) | (refine Q9 ?_ ?_; focus (simp only [kS, R1, R2, R3, R4, R5, R6, R7, reduceCtorEq, R9, h1, h6, h2, hb, hki, e, el, decide_true, Int.reduceBEq, tk1, tk2, tk3, tk4, tk5, tk6, tk7, tk8, and_false, false_and, h5, hk]; done)) | refine Qa ?_ | refine Qb ?_ | refine Qc ?_ | refine And.intro (by first | assumption | omega) ?_)
        exact fin _ ⟨by simp only [kS, R1, R2, R3, R4, R5, R6, R7, reduceCtorEq, R9, h1], by simp only [kS, R1, R2, R3, R4, R5, R6, R7, reduceCtorEq, R9, h6], by simp only [kS, R1, R2, R3, R4, R5, R6, R7, reduceCtorEq, R9, h2], by simp only [kS, R1, R2, R3, R4, R5, R6, R7, reduceCtorEq, R9, hb, dC, tk1, tk2, tk3, tk4, tk5, tk6, tk7, tk8, and_false, false_and], by (simp only [kS, R1, R2, R3, R4, R5, R6, R7, reduceCtorEq, R9]) <;> first | omega | rfl, .inl ⟨by simp only [kS, R1, R2, R3, R4, R5, R6, R7, reduceCtorEq, R9, h5], k0⟩, by simp only [kS, R1, R2, R3, R4, R5, R6, R7, reduceCtorEq, R9, wayS, hk, Int.reduceEq]⟩
      · have := hord (by obtain ⟨q1, q2, _⟩ := hnd; omega)
        obtain ⟨_, _, q3, _⟩ := hnd
        omega
    · have hne : ¬ (2 = e2 ∧ 1 = t2) := by rintro ⟨rfl, rfl⟩; rw [hb] at hob; cases hob
      have hne' : ¬ (e2 = 2 ∧ t2 = 1) := by rintro ⟨rfl, rfl⟩; rw [hb] at hob; cases hob
      by_cases hk : d[k].k = 1
      · repeat (first | ((first | refine Q1 ?_ | refine Q2 ?_); intro Z hN hX hR) | refine Q3 (by kernel_rfl) fun K hK => ?_ | ((first | refine Q4 fun R hJ => ?_ | with_reducible change ExpAll _ _ _); simp only [kS, R1, R2, R3, R4, R5, R6, R7, reduceCtorEq, R9, h1, h6, h2, hb, hki, e, el, decide_true, Int.reduceBEq, tk1, tk2, tk3, tk4, tk5, tk6, tk7, tk8, and_false, false_and, h5, hob, ht, hk]) | (refine hJ _ ?_; clear hJ R) | refine Q5 ?_ | (refine hK _ ?_; clear hK K) | ((first | refine hN _ ?_ | refine hX _ _ ?_ | refine hR _ ?_); clear hN hX hR Z) | refine Q6 rfl ?_ | refine Q7 (by decide) ?_ | (refine Q8 ?_ ?_; focus (simp only [kS, R1, R2, R3, R4, R5, R6, R7, reduceCtorEq, R9, h1, h6, h2, hb, hki, e, el, decide_true, Int.reduceBEq, tk1, tk2, tk3, tk4, tk5, tk6, tk7, tk8, and_false, false_and, h5, hob, ht, hk]; done)) | (refine Q9 ?_ ?_; focus (simp only [kS, R1, R2, R3, R4, R5, R6, R7, reduceCtorEq, R9, h1, h6, h2, hb, hki, e, el, decide_true, Int.reduceBEq, tk1, tk2, tk3, tk4, tk5, tk6, tk7, tk8, and_false, false_and, h5, hob, ht, hk]; done)) | refine Qa ?_ | refine Qb ?_ | refine Qc ?_ | refine And.intro (by first | assumption | omega) ?_)
        exact fin _ ⟨by simp only [kS, R1, R2, R3, R4, R5, R6, R7, reduceCtorEq, R9, h1], by simp only [kS, R1, R2, R3, R4, R5, R6, R7, reduceCtorEq, R9, h6], by simp only [kS, R1, R2, R3, R4, R5, R6, R7, reduceCtorEq, R9, h2], by simp only [kS, R1, R2, R3, R4, R5, R6, R7, reduceCtorEq, R9, hb, dC, tk1, tk2, tk3, tk4, tk5, tk6, tk7, tk8, and_false, false_and, hne, hne'], by (simp only [kS, R1, R2, R3, R4, R5, R6, R7, reduceCtorEq, R9]) <;> first | omega | rfl, .inr ⟨e2, t2, by simp only [kS, R1, R2, R3, R4, R5, R6, R7, reduceCtorEq, R9, h5], by simp only [kS, R1, R2, R3, R4, R5, R6, R7, reduceCtorEq, R9, hob, ht, tk1, tk2, tk3, tk4, tk5, tk6, tk7, tk8, and_false, false_and], by (simp only [kS, R1, R2, R3, R4, R5, R6, R7, reduceCtorEq, R9]) <;> first | omega | rfl, k0⟩, by simp only [kS, R1, R2, R3, R4, R5, R6, R7, reduceCtorEq, R9, wayS, hk, Int.reduceEq]⟩
      by_cases hk : d[k].k = 2
      · repeat (first | ((first | refine Q1 ?_ | refine Q2 ?_); intro Z hN hX hR) | refine Q3 (by kernel_rfl) fun K hK => ?_ | ((first | refine Q4 fun R hJ => ?_ | with_reducible change ExpAll _ _ _); simp only [kS, R1, R2, R3, R4, R5, R6, R7, reduceCtorEq, R9, h1, h6, h2, hb, hki, e, el, decide_true, Int.reduceBEq, tk1, tk2, tk3, tk4, tk5, tk6, tk7, tk8, and_false, false_and, h5, hob, ht, hk]) | (refine hJ _ ?_; clear hJ R) | refine Q5 ?_ | (refine hK _ ?_; clear hK K) | ((first | refine hN _ ?_ | refine hX _ _ ?_ | refine hR _ ?_); clear hN hX hR Z) | refine Q6 rfl ?_ | refine Q7 (by decide) ?_ | (refine Q8 ?_ ?_; focus (simp only [kS, R1, R2, R3, R4, R5, R6, R7, reduceCtorEq, R9, h1, h6, h2, hb, hki, e, el, decide_true, Int.reduceBEq, tk1, tk2, tk3, tk4, tk5, tk6, tk7, tk8, and_false, false_and, h5, hob, ht, hk]; done)) | (refine Q9 ?_ ?_; focus (simp only [kS, R1, R2, R3, R4, R5, R6, R7, reduceCtorEq, R9, h1, h6, h2, hb, hki, e, el, decide_true, Int.reduceBEq, tk1, tk2, tk3, tk4, tk5, tk6, tk7, tk8, and_false, false_and, h5, hob, ht, hk]; done)) | refine Qa ?_ | refine Qb ?_ | refine Qc ?_ | refine And.intro (by first | assumption | omega) ?_)
        exact fin _ ⟨by simp only [kS, R1, R2, R3, R4, R5, R6, R7, reduceCtorEq, R9, h1], by simp only [kS, R1, R2, R3, R4, R5, R6, R7, reduceCtorEq, R9, h6], by simp only [kS, R1, R2, R3, R4, R5, R6, R7, reduceCtorEq, R9, h2], by simp only [kS, R1, R2, R3, R4, R5, R6, R7, reduceCtorEq, R9, hb, dC, tk1, tk2, tk3, tk4, tk5, tk6, tk7, tk8, and_false, false_and, hne, hne'], by (simp only [kS, R1, R2, R3, R4, R5, R6, R7, reduceCtorEq, R9]) <;> first | omega | rfl, .inr ⟨e2, t2, by simp only [kS, R1, R2, R3, R4, R5, R6, R7, reduceCtorEq, R9, h5], by simp only [kS, R1, R2, R3, R4, R5, R6, R7, reduceCtorEq, R9, hob, ht, tk1, tk2, tk3, tk4, tk5, tk6, tk7, tk8, and_false, false_and], by (simp only [kS, R1, R2, R3, R4, R5, R6, R7, reduceCtorEq, R9]) <;> first | omega | rfl, k0⟩, by simp only [kS, R1, R2, R3, R4, R5, R6, R7, reduceCtorEq, R9, wayS, hk, Int.reduceEq]⟩
      by_cases hk : d[k].k = 3
      · repeat (first | ((first | refine Q1 ?_ | refine Q2 ?_); intro Z hN hX hR) | refine Q3 (by kernel_rfl) fun K hK => ?_ | ((first | refine Q4 fun R hJ => ?_ | with_reducible change ExpAll _ _ _); simp only [kS, R1, R2, R3, R4, R5, R6, R7, reduceCtorEq, R9, h1, h6, h2, hb, hki, e, el, decide_true, Int.reduceBEq, tk1, tk2, tk3, tk4, tk5, tk6, tk7, tk8, and_false, false_and, h5, hob, ht, hk]) | (refine hJ _ ?_; clear hJ R) | refine Q5 ?_ | (refine hK _ ?_; clear hK K) | ((first | refine hN _ ?_ | refine hX _ _ ?_ | refine hR _ ?_); clear hN hX hR Z) | refine Q6 rfl ?_ | refine Q7 (by decide) ?_ | (refine Q8 ?_ ?_; focus (simp only [kS, R1, R2, R3, R4, R5, R6, R7, reduceCtorEq, R9, h1, h6, h2, hb, hki, e, el, decide_true, Int.reduceBEq, tk1, tk2, tk3, tk4, tk5, tk6, tk7, tk8, and_false, false_and, h5, hob, ht, hk]; done)) | (refine Q9 ?_ ?_; focus (simp only [kS, R1, R2, R3, R4, R5, R6, R7, reduceCtorEq, R9, h1, h6, h2, hb, hki, e, el, decide_true, Int.reduceBEq, tk1, tk2, tk3, tk4, tk5, tk6, tk7, tk8, and_false, false_and, h5, hob, ht, hk]; done)) | refine Qa ?_ | refine Qb ?_ | refine Qc ?_ | refine And.intro (by first | assumption | omega) ?_)
        exact fin _ ⟨by simp only [kS, R1, R2, R3, R4, R5, R6, R7, reduceCtorEq, R9, h1], by simp only [kS, R1, R2, R3, R4, R5, R6, R7, reduceCtorEq, R9, h6], by simp only [kS, R1, R2, R3, R4, R5, R6, R7, reduceCtorEq, R9, h2], by simp only [kS, R1, R2, R3, R4, R5, R6, R7, reduceCtorEq, R9, hb, dC, tk1, tk2, tk3, tk4, tk5, tk6, tk7, tk8, and_false, false_and, hne, hne'], by (simp only [kS, R1, R2, R3, R4, R5, R6, R7, reduceCtorEq, R9]) <;> first | omega | rfl, .inr ⟨e2, t2, by simp only [kS, R1, R2, R3, R4, R5, R6, R7, reduceCtorEq, R9, h5], by simp only [kS, R1, R2, R3, R4, R5, R6, R7, reduceCtorEq, R9, hob, ht, tk1, tk2, tk3, tk4, tk5, tk6, tk7, tk8, and_false, false_and], by (simp only [kS, R1, R2, R3, R4, R5, R6, R7, reduceCtorEq, R9]) <;> first | omega | rfl, k0⟩, by simp only [kS, R1, R2, R3, R4, R5, R6, R7, reduceCtorEq, R9, wayS, hk, Int.reduceEq]⟩
      obtain ⟨y1, y2, qa0, _, qb0, _, lo0, lohi, hi0, _⟩ := hnd
      by_cases k4 : 4 ≤ d[k].k
      · obtain ⟨qa1, qb1⟩ := hord k4
        have ga := getI_drop L d[k].a qa0 (by omega)
        have gb := getI_drop L d[k].b qb0 (by omega)
        have ra := okW_get ok d[k].a
        have rb := okW_get ok d[k].b
        have rm := mul_r ra rb
        have hwm : IntKind.i64.wrap (getI L d[k].a * getI L d[k].b) = getI L d[k].a * getI L d[k].b := wrap_i64 (by omega) (by omega)
        have hwa : IntKind.i64.wrap (getI L d[k].a + getI L d[k].b) = getI L d[k].a + getI L d[k].b := wrap_i64 (by omega) (by omega)
        by_cases hk : d[k].k = 4
        · repeat (first | ((first | refine Q1 ?_ | refine Q2 ?_); intro Z hN hX hR) | refine Q3 (by kernel_rfl) fun K hK => ?_ | ((first | refine Q4 fun R hJ => ?_ | with_reducible change ExpAll _ _ _); simp only [kS, R1, R2, R3, R4, R5, R6, R7, reduceCtorEq, R9, h1, h6, h2, hb, hki, e, el, decide_true, Int.reduceBEq, tk1, tk2, tk3, tk4, tk5, tk6, tk7, tk8, and_false, false_and, h5, hob, ht, hil, ga, gb, qa0, qa1, qb0, qb1, hk, hwm, hwa]) | (refine hJ _ ?_; clear hJ R) | refine Q5 ?_ | (refine hK _ ?_; clear hK K) | ((first | refine hN _ ?_ | refine hX _ _ ?_ | refine hR _ ?_); clear hN hX hR Z) | refine Q6 rfl ?_ | refine Q7 (by decide) ?_ | (refine Q8 ?_ ?_; focus (simp only [kS, R1, R2, R3, R4, R5, R6, R7, reduceCtorEq, R9, h1, h6, h2, hb, hki, e, el, decide_true, Int.reduceBEq, tk1, tk2, tk3, tk4, tk5, tk6, tk7, tk8, and_false, false_and, h5, hob, ht, hil, ga, gb, qa0, qa1, qb0, qb1, hk, hwm, hwa]; done)) | (refine Q9 ?_ ?_; focus (simp only [kS, R1, R2, R3, R4, R5, R6, R7, reduceCtorEq, R9, h1, h6, h2, hb, hki, e, el, decide_true, Int.reduceBEq, tk1, tk2, tk3, tk4, tk5, tk6, tk7, tk8, and_false, false_and, h5, hob, ht, hil, ga, gb, qa0, qa1, qb0, qb1, hk, hwm, hwa]; done)) | refine Qa ?_ | refine Qb ?_ | refine Qc ?_ | refine And.intro (by first | assumption | omega) ?_)
          exact fin _ ⟨by simp only [kS, R1, R2, R3, R4, R5, R6, R7, reduceCtorEq, R9, h1], by simp only [kS, R1, R2, R3, R4, R5, R6, R7, reduceCtorEq, R9, h6], by simp only [kS, R1, R2, R3, R4, R5, R6, R7, reduceCtorEq, R9, h2], by simp only [kS, R1, R2, R3, R4, R5, R6, R7, reduceCtorEq, R9, hb, dC, tk1, tk2, tk3, tk4, tk5, tk6, tk7, tk8, and_false, false_and, hne, hne'], by (simp only [kS, R1, R2, R3, R4, R5, R6, R7, reduceCtorEq, R9]) <;> first | omega | rfl, .inr ⟨e2, t2, by simp only [kS, R1, R2, R3, R4, R5, R6, R7, reduceCtorEq, R9, h5], by simp only [kS, R1, R2, R3, R4, R5, R6, R7, reduceCtorEq, R9, hob, ht, tk1, tk2, tk3, tk4, tk5, tk6, tk7, tk8, and_false, false_and], by (simp only [kS, R1, R2, R3, R4, R5, R6, R7, reduceCtorEq, R9]) <;> first | omega | rfl, k0⟩, by simp only [kS, R1, R2, R3, R4, R5, R6, R7, reduceCtorEq, R9, wayS, Int.reduceEq, hk]⟩
        by_cases hk : d[k].k = 5
        · repeat (first | ((first | refine Q1 ?_ | refine Q2 ?_); intro Z hN hX hR) | refine Q3 (by kernel_rfl) fun K hK => ?_ | ((first | refine Q4 fun R hJ => ?_ | with_reducible change ExpAll _ _ _); simp only [kS, R1, R2, R3, R4, R5, R6, R7, reduceCtorEq, R9, h1, h6, h2, hb, hki, e, el, decide_true, Int.reduceBEq, tk1, tk2, tk3, tk4, tk5, tk6, tk7, tk8, and_false, false_and, h5, hob, ht, hil, ga, gb, qa0, qa1, qb0, qb1, hk, hwm, hwa]) | (refine hJ _ ?_; clear hJ R) | refine Q5 ?_ | (refine hK _ ?_; clear hK K) | ((first | refine hN _ ?_ | refine hX _ _ ?_ | refine hR _ ?_); clear hN hX hR Z) | refine Q6 rfl ?_ | refine Q7 (by decide) ?_ | (refine Q8 ?_ ?_; focus (simp only [kS, R1, R2, R3, R4, R5, R6, R7, reduceCtorEq, R9, h1, h6, h2, hb, hki, e, el, decide_true, Int.reduceBEq, tk1, tk2, tk3, tk4, tk5, tk6, tk7, tk8, and_false, false_and, h5, hob, ht, hil, ga, gb, qa0, qa1, qb0, qb1, hk, hwm, hwa]; done)) | (refine Q9 ?_ ?_; focus (simp only [kS, R1, R2, R3, R4, R5, R6, R7, reduceCtorEq, R9, h1, h6, h2, hb, hki, e, el, decide_true, Int.reduceBEq, tk1, tk2, tk3, tk4, tk5, tk6, tk7, tk8, and_false, false_and, h5, hob, ht, hil, ga, gb, qa0, qa1, qb0, qb1, hk, hwm, hwa]; done)) | refine Qa ?_ | refine Qb ?_ | refine Qc ?_ | refine And.intro (by first | assumption | omega) ?_)
          exact fin _ ⟨by simp only [kS, R1, R2, R3, R4, R5, R6, R7, reduceCtorEq, R9, h1], by simp only [kS, R1, R2, R3, R4, R5, R6, R7, reduceCtorEq, R9, h6], by simp only [kS, R1, R2, R3, R4, R5, R6, R7, reduceCtorEq, R9, h2], by simp only [kS, R1, R2, R3, R4, R5, R6, R7, reduceCtorEq, R9, hb, dC, tk1, tk2, tk3, tk4, tk5, tk6, tk7, tk8, and_false, false_and, hne, hne'], by (simp only [kS, R1, R2, R3, R4, R5, R6, R7, reduceCtorEq, R9]) <;> first | omega | rfl, .inr ⟨e2, t2, by simp only [kS, R1, R2, R3, R4, R5, R6, R7, reduceCtorEq, R9, h5], by simp only [kS, R1, R2, R3, R4, R5, R6, R7, reduceCtorEq, R9, hob, ht, tk1, tk2, tk3, tk4, tk5, tk6, tk7, tk8, and_false, false_and], by (simp only [kS, R1, R2, R3, R4, R5, R6, R7, reduceCtorEq, R9]) <;> first | omega | rfl, k0⟩, by simp only [kS, R1, R2, R3, R4, R5, R6, R7, reduceCtorEq, R9, wayS, Int.reduceEq, hk]⟩
        by_cases hk : d[k].k = 6
        · by_cases hp : 0 < getI L d[k].a
          · repeat (first | ((first | refine Q1 ?_ | refine Q2 ?_); intro Z hN hX hR) | refine Q3 (by kernel_rfl) fun K hK => ?_ | ((first | refine Q4 fun R hJ => ?_ | with_reducible change ExpAll _ _ _); simp only [kS, R1, R2, R3, R4, R5, R6, R7, reduceCtorEq, R9, h1, h6, h2, hb, hki, e, el, decide_true, Int.reduceBEq, tk1, tk2, tk3, tk4, tk5, tk6, tk7, tk8, and_false, false_and, h5, hob, ht, hil, ga, gb, qa0, qa1, qb0, qb1, hk, hp, decide_true]) | (refine hJ _ ?_; clear hJ R) | refine Q5 ?_ | (refine hK _ ?_; clear hK K) | ((first | refine hN _ ?_ | refine hX _ _ ?_ | refine hR _ ?_); clear hN hX hR Z) | refine Q6 rfl ?_ | refine Q7 (by decide) ?_ | (refine Q8 ?_ ?_; focus (simp only [kS, R1, R2, R3, R4, R5, R6, R7, reduceCtorEq, R9, h1, h6, h2, hb, hki, e, el, decide_true, Int.reduceBEq, tk1, tk2, tk3, tk4, tk5, tk6, tk7, tk8, and_false, false_and, h5, hob, ht, hil, ga, gb, qa0, qa1, qb0, qb1, hk, hp, decide_true]; done)) | (refine Q9 ?_ ?_; focus (simp only [kS, R1, R2, R3, R4, R5, R6, R7, reduceCtorEq, R9, h1, h6, h2, hb, hki, e, el, decide_true, Int.reduceBEq, tk1, tk2, tk3, tk4, tk5, tk6, tk7, tk8, and_false, false_and, h5, hob, ht, hil, ga, gb, qa0, qa1, qb0, qb1, hk, hp, decide_true]; done)) | refine Qa ?_ | refine Qb ?_ | refine Qc ?_ | refine And.intro (by first | assumption | omega) ?_)
            exact fin _ ⟨by simp only [kS, R1, R2, R3, R4, R5, R6, R7, reduceCtorEq, R9, h1], by simp only [kS, R1, R2, R3, R4, R5, R6, R7, reduceCtorEq, R9, h6], by simp only [kS, R1, R2, R3, R4, R5, R6, R7, reduceCtorEq, R9, h2], by simp only [kS, R1, R2, R3, R4, R5, R6, R7, reduceCtorEq, R9, hb, dC, tk1, tk2, tk3, tk4, tk5, tk6, tk7, tk8, and_false, false_and, hne, hne'], by (simp only [kS, R1, R2, R3, R4, R5, R6, R7, reduceCtorEq, R9]) <;> first | omega | rfl, .inr ⟨e2, t2, by simp only [kS, R1, R2, R3, R4, R5, R6, R7, reduceCtorEq, R9, h5], by simp only [kS, R1, R2, R3, R4, R5, R6, R7, reduceCtorEq, R9, hob, ht, tk1, tk2, tk3, tk4, tk5, tk6, tk7, tk8, and_false, false_and], by (simp only [kS, R1, R2, R3, R4, R5, R6, R7, reduceCtorEq, R9]) <;> first | omega | rfl, k0⟩, by simp only [kS, R1, R2, R3, R4, R5, R6, R7, reduceCtorEq, R9, wayS, Int.reduceEq, hk, hp]⟩
          · repeat (first | ((first | refine Q1 ?_ | refine Q2 ?_); intro Z hN hX hR) | refine Q3 (by kernel_rfl) fun K hK => ?_ | ((first | refine Q4 fun R hJ => ?_ | with_reducible change ExpAll _ _ _); simp only [kS, R1, R2, R3, R4, R5, R6, R7, reduceCtorEq, R9, h1, h6, h2, hb, hki, e, el, decide_true, Int.reduceBEq, tk1, tk2, tk3, tk4, tk5, tk6, tk7, tk8, and_false, false_and, h5, hob, ht, hil, ga, gb, qa0, qa1, qb0, qb1, hk, hp, decide_false]) | (refine hJ _ ?_; clear hJ R) | refine Q5 ?_ | (refine hK _ ?_; clear hK K) | ((first | refine hN _ ?_ | refine hX _ _ ?_ | refine hR _ ?_); clear hN hX hR Z) | refine Q6 rfl ?_ | refine Q7 (by decide) ?_ | (refine Q8 ?_ ?_; focus (simp only [kS, R1, R2, R3, R4, R5, R6, R7, reduceCtorEq, R9, h1, h6, h2, hb, hki, e, el, decide_true, Int.reduceBEq, tk1, tk2, tk3, tk4, tk5, tk6, tk7, tk8, and_false, false_and, h5, hob, ht, hil, ga, gb, qa0, qa1, qb0, qb1, hk, hp, decide_false]; done)) | (refine Q9 ?_ ?_; focus (simp only [kS, R1, R2, R3, R4, R5, R6, R7, reduceCtorEq, R9, h1, h6, h2, hb, hki, e, el, decide_true, Int.reduceBEq, tk1, tk2, tk3, tk4, tk5, tk6, tk7, tk8, and_false, false_and, h5, hob, ht, hil, ga, gb, qa0, qa1, qb0, qb1, hk, hp, decide_false]; done)) | refine Qa ?_ | refine Qb ?_ | refine Qc ?_ | refine And.intro (by first | assumption | omega) ?_)
            exact fin _ ⟨by simp only [kS, R1, R2, R3, R4, R5, R6, R7, reduceCtorEq, R9, h1], by simp only [kS, R1, R2, R3, R4, R5, R6, R7, reduceCtorEq, R9, h6], by simp only [kS, R1, R2, R3, R4, R5, R6, R7, reduceCtorEq, R9, h2], by simp only [kS, R1, R2, R3, R4, R5, R6, R7, reduceCtorEq, R9, hb, dC, tk1, tk2, tk3, tk4, tk5, tk6, tk7, tk8, and_false, false_and, hne, hne'], by (simp only [kS, R1, R2, R3, R4, R5, R6, R7, reduceCtorEq, R9]) <;> first | omega | rfl, .inr ⟨e2, t2, by simp only [kS, R1, R2, R3, R4, R5, R6, R7, reduceCtorEq, R9, h5], by simp only [kS, R1, R2, R3, R4, R5, R6, R7, reduceCtorEq, R9, hob, ht, tk1, tk2, tk3, tk4, tk5, tk6, tk7, tk8, and_false, false_and], by (simp only [kS, R1, R2, R3, R4, R5, R6, R7, reduceCtorEq, R9]) <;> first | omega | rfl, k0⟩, by simp only [kS, R1, R2, R3, R4, R5, R6, R7, reduceCtorEq, R9, wayS, Int.reduceEq, hk, hp]⟩
        by_cases hk : d[k].k = 7
        · obtain ⟨lo, hlo⟩ : ∃ lo : Nat, d[k].lo = lo := ⟨d[k].lo.toNat, by omega⟩
          obtain ⟨n, hn⟩ : ∃ n : Nat, d[k].hi + 1 - lo = n := ⟨(d[k].hi + 1 - lo).toNat, by omega⟩
          generalize hA : getI L d[k].a = A at *
          have hs : wayS L d[k] = sumF A lo n := by simp only [wayS, hk, Int.reduceEq, if_false, if_true, hA, hlo, hn, Int.toNat_natCast]
          repeat (first | ((first | refine Q1 ?_ | refine Q2 ?_); intro Z hN hX hR) | refine Q3 (by kernel_rfl) fun K hK => ?_ | ((first | refine Q4 fun R hJ => ?_ | with_reducible change ExpAll _ _ _); simp only [kS, R1, R2, R3, R4, R5, R6, R7, reduceCtorEq, R9, h1, h6, h2, hb, hki, e, el, decide_true, Int.reduceBEq, tk1, tk2, tk3, tk4, tk5, tk6, tk7, tk8, and_false, false_and, h5, hob, ht, hil, hk, hlo]) | (refine hJ _ ?_; clear hJ R) | refine Q5 ?_ | (refine hK _ ?_; clear hK K) | ((first | refine hN _ ?_ | refine hX _ _ ?_ | refine hR _ ?_); clear hN hX hR Z) | refine Q6 rfl ?_ | refine Q7 (by decide) ?_ | (refine Q8 ?_ ?_; focus (simp only [kS, R1, R2, R3, R4, R5, R6, R7, reduceCtorEq, R9, h1, h6, h2, hb, hki, e, el, decide_true, Int.reduceBEq, tk1, tk2, tk3, tk4, tk5, tk6, tk7, tk8, and_false, false_and, h5, hob, ht, hil, hk, hlo]; done)) | (refine Q9 ?_ ?_; focus (simp only [kS, R1, R2, R3, R4, R5, R6, R7, reduceCtorEq, R9, h1, h6, h2, hb, hki, e, el, decide_true, Int.reduceBEq, tk1, tk2, tk3, tk4, tk5, tk6, tk7, tk8, and_false, false_and, h5, hob, ht, hil, hk, hlo]; done)) | refine Qa ?_ | refine Qb ?_ | refine Qc ?_ | refine And.intro (by first | assumption | omega) ?_)
          refine awq_loop (fun c f' => ∃ j : Nat, j ≤ n ∧ c = n - j ∧ f'.t 9 = iv ((lo + j : Nat) : Int) ∧ f'.t 8 = iv (sumF A lo j) ∧ f'.t 1 = iv (i : Int) ∧ f'.t 6 = iv (k : Int) ∧ f'.t 2 = .ref 2 1 0 ∧ f'.ob 2 1 = .box (dC d) ∧ 1 < f'.k ∧ f'.t 5 = .tok e2 t2 k (intsC L) ∧ f'.ob e2 t2 = .live 3 1 ∧ t2 ≤ f'.k ∧ ∃ b7, f'.t 7 = .ref 7 b7 0 ∧ f'.ob 7 b7 = .box d[k].c) n ?_ ?_
          · exact ⟨0, by omega, by omega, by first | (simp only [kS, R1, R2, R3, R4, R5, R6, R7, reduceCtorEq, R9]; done) | (simp only [kS, R1, R2, R3, R4, R5, R6, R7, reduceCtorEq, R9]; rfl), by first | (simp only [kS, R1, R2, R3, R4, R5, R6, R7, reduceCtorEq, R9]; done) | (simp only [kS, R1, R2, R3, R4, R5, R6, R7, reduceCtorEq, R9]; rfl), by simp only [kS, R1, R2, R3, R4, R5, R6, R7, reduceCtorEq, R9, h1], by simp only [kS, R1, R2, R3, R4, R5, R6, R7, reduceCtorEq, R9, h6], by simp only [kS, R1, R2, R3, R4, R5, R6, R7, reduceCtorEq, R9, h2], by simp only [kS, R1, R2, R3, R4, R5, R6, R7, reduceCtorEq, R9, hb, dC, tk1, tk2, tk3, tk4, tk5, tk6, tk7, tk8, and_false, false_and, hne, hne'], by (simp only [kS, R1, R2, R3, R4, R5, R6, R7, reduceCtorEq, R9]) <;> first | omega | rfl, by simp only [kS, R1, R2, R3, R4, R5, R6, R7, reduceCtorEq, R9, h5], by simp only [kS, R1, R2, R3, R4, R5, R6, R7, reduceCtorEq, R9, hob, ht, tk1, tk2, tk3, tk4, tk5, tk6, tk7, tk8, and_false, false_and], by (simp only [kS, R1, R2, R3, R4, R5, R6, R7, reduceCtorEq, R9]) <;> first | omega | rfl, f.k + 1 + 1, by simp only [kS, R1, R2, R3, R4, R5, R6, R7, reduceCtorEq, R9], by simp only [kS, R1, R2, R3, R4, R5, R6, R7, reduceCtorEq, R9, Nd.c, hk, hlo]⟩
          rintro Z c f' hN hX hR ⟨j, hj, rfl, a9, a8, a1, a6, a2, ab, ak, a5, aob, aht, b7, a7, ab7⟩
          have hhi : d[k].hi = (lo : Int) + n - 1 := by omega
          simp only [Nd.c] at ab7
          by_cases hjn : j < n
          · have c1 : ((lo + j : Nat) : Int) ≤ d[k].hi := by omega
            repeat (first | ((first | refine Q1 ?_ | refine Q2 ?_); intro Z hN hX hR) | refine Q3 (by kernel_rfl) fun K hK => ?_ | ((first | refine Q4 fun R hJ => ?_ | with_reducible change ExpAll _ _ _); simp only [kS, R1, R2, R3, R4, R5, R6, R7, reduceCtorEq, R9, a9, a7, ab7, c1, decide_true]) | (refine hJ _ ?_; clear hJ R) | refine Q5 ?_ | (refine hK _ ?_; clear hK K) | ((first | refine hN _ ?_ | refine hX _ _ ?_ | refine hR _ ?_); clear hN hX hR Z) | refine Q6 rfl ?_ | refine Q7 (by decide) ?_ | (refine Q8 ?_ ?_; focus (simp only [kS, R1, R2, R3, R4, R5, R6, R7, reduceCtorEq, R9, a9, a7, ab7, c1, decide_true]; done)) | (refine Q9 ?_ ?_; focus (simp only [kS, R1, R2, R3, R4, R5, R6, R7, reduceCtorEq, R9, a9, a7, ab7, c1, decide_true]; done)) | refine Qa ?_ | refine Qb ?_ | refine Qc ?_ | refine And.intro (by first | assumption | omega) ?_)
            have rs := sumF_r ra.1 lo j
            refine awq_loop (fun c f' => ∃ m : Nat, m ≤ lo + j ∧ c = lo + j - m ∧ f'.t 9 = iv ((lo + j : Nat) : Int) ∧ f'.t 8 = iv (sumF A lo j) ∧ f'.t 11 = iv (m : Int) ∧ f'.t 10 = iv (pwF A m) ∧ f'.t 1 = iv (i : Int) ∧ f'.t 6 = iv (k : Int) ∧ f'.t 2 = .ref 2 1 0 ∧ f'.ob 2 1 = .box (dC d) ∧ 1 < f'.k ∧ f'.t 5 = .tok e2 t2 k (intsC L) ∧ f'.ob e2 t2 = .live 3 1 ∧ t2 ≤ f'.k ∧ f'.t 7 = .ref 7 b7 0 ∧ f'.ob 7 b7 = .box d[k].c) (lo + j) ?_ ?_
            · exact ⟨0, by omega, by omega, by simp only [kS, R1, R2, R3, R4, R5, R6, R7, reduceCtorEq, R9, a9], by simp only [kS, R1, R2, R3, R4, R5, R6, R7, reduceCtorEq, R9, a8], by first | (simp only [kS, R1, R2, R3, R4, R5, R6, R7, reduceCtorEq, R9]; done) | (simp only [kS, R1, R2, R3, R4, R5, R6, R7, reduceCtorEq, R9]; rfl), by first | (simp only [kS, R1, R2, R3, R4, R5, R6, R7, reduceCtorEq, R9]; done) | (simp only [kS, R1, R2, R3, R4, R5, R6, R7, reduceCtorEq, R9]; rfl), by simp only [kS, R1, R2, R3, R4, R5, R6, R7, reduceCtorEq, R9, a1], by simp only [kS, R1, R2, R3, R4, R5, R6, R7, reduceCtorEq, R9, a6], by simp only [kS, R1, R2, R3, R4, R5, R6, R7, reduceCtorEq, R9, a2], by simp only [kS, R1, R2, R3, R4, R5, R6, R7, reduceCtorEq, R9, ab], by (simp only [kS, R1, R2, R3, R4, R5, R6, R7, reduceCtorEq, R9]) <;> first | omega | rfl, by simp only [kS, R1, R2, R3, R4, R5, R6, R7, reduceCtorEq, R9, a5], by simp only [kS, R1, R2, R3, R4, R5, R6, R7, reduceCtorEq, R9, aob], by (simp only [kS, R1, R2, R3, R4, R5, R6, R7, reduceCtorEq, R9]) <;> first | omega | rfl, by simp only [kS, R1, R2, R3, R4, R5, R6, R7, reduceCtorEq, R9, a7], by simp only [kS, R1, R2, R3, R4, R5, R6, R7, reduceCtorEq, R9, ab7, Nd.c]⟩
            clear a9 a8 a1 a6 a2 ab ak a5 aob aht a7 ab7
            rintro Z c f'' hN hX hR ⟨m, hm, rfl, a9, a8, a11, a10, a1, a6, a2, ab, ak, a5, aob, aht, a7, ab7⟩
            have rp := pwF_r ra.1 m
            simp only [Nd.c] at ab7
            have rpa := mul_r rp ra
            have hwp : IntKind.i64.wrap (pwF A m * A) = pwF A m * A := wrap_i64 (by omega) (by omega)
            have hws : IntKind.i64.wrap (sumF A lo j + pwF A (lo + j)) = sumF A lo j + pwF A (lo + j) := wrap_i64 (by have := pwF_r ra.1 (lo + j); omega) (by have := pwF_r ra.1 (lo + j); omega)
            by_cases hml : m < lo + j
            · have c2 : (m : Int) < ((lo + j : Nat) : Int) := by omega
              repeat (first | ((first | refine Q1 ?_ | refine Q2 ?_); intro Z hN hX hR) | refine Q3 (by kernel_rfl) fun K hK => ?_ | ((first | refine Q4 fun R hJ => ?_ | with_reducible change ExpAll _ _ _); simp only [kS, R1, R2, R3, R4, R5, R6, R7, reduceCtorEq, R9, a9, a8, a11, a10, a1, a6, a2, ab, a5, aob, a7, ab7, c2, hml, hil, ga, qa0, qa1, hA, hwp, decide_true, Int.reduceBEq]) | (refine hJ _ ?_; clear hJ R) | refine Q5 ?_ | (refine hK _ ?_; clear hK K) | ((first | refine hN _ ?_ | refine hX _ _ ?_ | refine hR _ ?_); clear hN hX hR Z) | refine Q6 rfl ?_ | refine Q7 (by decide) ?_ | (refine Q8 ?_ ?_; focus (simp only [kS, R1, R2, R3, R4, R5, R6, R7, reduceCtorEq, R9, a9, a8, a11, a10, a1, a6, a2, ab, a5, aob, a7, ab7, c2, hml, hil, ga, qa0, qa1, hA, hwp, decide_true, Int.reduceBEq]; done)) | (refine Q9 ?_ ?_; focus (simp only [kS, R1, R2, R3, R4, R5, R6, R7, reduceCtorEq, R9, a9, a8, a11, a10, a1, a6, a2, ab, a5, aob, a7, ab7, c2, hml, hil, ga, qa0, qa1, hA, hwp, decide_true, Int.reduceBEq]; done)) | refine Qa ?_ | refine Qb ?_ | refine Qc ?_ | refine And.intro (by first | assumption | omega) ?_)
              refine ⟨lo + j - (m + 1), by omega, m + 1, by omega, rfl, by simp only [kS, R1, R2, R3, R4, R5, R6, R7, reduceCtorEq, R9, a9], by simp only [kS, R1, R2, R3, R4, R5, R6, R7, reduceCtorEq, R9, a8], ?_, by simp only [kS, R1, R2, R3, R4, R5, R6, R7, reduceCtorEq, R9, pwF, min2], by simp only [kS, R1, R2, R3, R4, R5, R6, R7, reduceCtorEq, R9, a1], by simp only [kS, R1, R2, R3, R4, R5, R6, R7, reduceCtorEq, R9, a6], by simp only [kS, R1, R2, R3, R4, R5, R6, R7, reduceCtorEq, R9, a2], by simp only [kS, R1, R2, R3, R4, R5, R6, R7, reduceCtorEq, R9, ab], by (simp only [kS, R1, R2, R3, R4, R5, R6, R7, reduceCtorEq, R9]) <;> first | omega | rfl, by simp only [kS, R1, R2, R3, R4, R5, R6, R7, reduceCtorEq, R9, a5], by simp only [kS, R1, R2, R3, R4, R5, R6, R7, reduceCtorEq, R9, aob], by (simp only [kS, R1, R2, R3, R4, R5, R6, R7, reduceCtorEq, R9]) <;> first | omega | rfl, by simp only [kS, R1, R2, R3, R4, R5, R6, R7, reduceCtorEq, R9, a7], by simp only [kS, R1, R2, R3, R4, R5, R6, R7, reduceCtorEq, R9, ab7, Nd.c]⟩
              simp only [kS, R1, R2, R3, R4, R5, R6, R7, reduceCtorEq, R9]
              rw [wrap_i64 (by omega) (by omega)]; rfl
            · have c2 : ¬ (m : Int) < ((lo + j : Nat) : Int) := by omega
              have em : m = lo + j := by omega
              subst em
              repeat (first | ((first | refine Q1 ?_ | refine Q2 ?_); intro Z hN hX hR) | refine Q3 (by kernel_rfl) fun K hK => ?_ | ((first | refine Q4 fun R hJ => ?_ | with_reducible change ExpAll _ _ _); simp only [kS, R1, R2, R3, R4, R5, R6, R7, reduceCtorEq, R9, a9, a8, a11, a10, a1, a6, a2, ab, a5, aob, a7, ab7, c2, hml, hws, decide_false, Int.reduceBEq]) | (refine hJ _ ?_; clear hJ R) | refine Q5 ?_ | (refine hK _ ?_; clear hK K) | ((first | refine hN _ ?_ | refine hX _ _ ?_ | refine hR _ ?_); clear hN hX hR Z) | refine Q6 rfl ?_ | refine Q7 (by decide) ?_ | (refine Q8 ?_ ?_; focus (simp only [kS, R1, R2, R3, R4, R5, R6, R7, reduceCtorEq, R9, a9, a8, a11, a10, a1, a6, a2, ab, a5, aob, a7, ab7, c2, hml, hws, decide_false, Int.reduceBEq]; done)) | (refine Q9 ?_ ?_; focus (simp only [kS, R1, R2, R3, R4, R5, R6, R7, reduceCtorEq, R9, a9, a8, a11, a10, a1, a6, a2, ab, a5, aob, a7, ab7, c2, hml, hws, decide_false, Int.reduceBEq]; done)) | refine Qa ?_ | refine Qb ?_ | refine Qc ?_ | refine And.intro (by first | assumption | omega) ?_)
              refine ⟨n - (j + 1), by omega, j + 1, by omega, rfl, ?_, by simp only [kS, R1, R2, R3, R4, R5, R6, R7, reduceCtorEq, R9, sumF, min2], by simp only [kS, R1, R2, R3, R4, R5, R6, R7, reduceCtorEq, R9, a1], by simp only [kS, R1, R2, R3, R4, R5, R6, R7, reduceCtorEq, R9, a6], by simp only [kS, R1, R2, R3, R4, R5, R6, R7, reduceCtorEq, R9, a2], by simp only [kS, R1, R2, R3, R4, R5, R6, R7, reduceCtorEq, R9, ab], by (simp only [kS, R1, R2, R3, R4, R5, R6, R7, reduceCtorEq, R9]) <;> first | omega | rfl, by simp only [kS, R1, R2, R3, R4, R5, R6, R7, reduceCtorEq, R9, a5], by simp only [kS, R1, R2, R3, R4, R5, R6, R7, reduceCtorEq, R9, aob], by (simp only [kS, R1, R2, R3, R4, R5, R6, R7, reduceCtorEq, R9]) <;> first | omega | rfl, b7, by simp only [kS, R1, R2, R3, R4, R5, R6, R7, reduceCtorEq, R9, a7], by simp only [kS, R1, R2, R3, R4, R5, R6, R7, reduceCtorEq, R9, ab7, Nd.c]⟩
              simp only [kS, R1, R2, R3, R4, R5, R6, R7, reduceCtorEq, R9]
              rw [wrap_i64 (by omega) (by omega)]; rfl
          · have c1 : ¬ ((lo + j : Nat) : Int) ≤ d[k].hi := by omega
            have ej : j = n := by omega
            subst ej
            repeat (first | ((first | refine Q1 ?_ | refine Q2 ?_); intro Z hN hX hR) | refine Q3 (by kernel_rfl) fun K hK => ?_ | ((first | refine Q4 fun R hJ => ?_ | with_reducible change ExpAll _ _ _); simp only [kS, R1, R2, R3, R4, R5, R6, R7, reduceCtorEq, R9, a9, a7, ab7, c1, decide_false]) | (refine hJ _ ?_; clear hJ R) | refine Q5 ?_ | (refine hK _ ?_; clear hK K) | ((first | refine hN _ ?_ | refine hX _ _ ?_ | refine hR _ ?_); clear hN hX hR Z) | refine Q6 rfl ?_ | refine Q7 (by decide) ?_ | (refine Q8 ?_ ?_; focus (simp only [kS, R1, R2, R3, R4, R5, R6, R7, reduceCtorEq, R9, a9, a7, ab7, c1, decide_false]; done)) | (refine Q9 ?_ ?_; focus (simp only [kS, R1, R2, R3, R4, R5, R6, R7, reduceCtorEq, R9, a9, a7, ab7, c1, decide_false]; done)) | refine Qa ?_ | refine Qb ?_ | refine Qc ?_ | refine And.intro (by first | assumption | omega) ?_)
            exact fin _ ⟨by simp only [kS, R1, R2, R3, R4, R5, R6, R7, reduceCtorEq, R9, a1], by simp only [kS, R1, R2, R3, R4, R5, R6, R7, reduceCtorEq, R9, a6], by simp only [kS, R1, R2, R3, R4, R5, R6, R7, reduceCtorEq, R9, a2], by simp only [kS, R1, R2, R3, R4, R5, R6, R7, reduceCtorEq, R9, ab], by (simp only [kS, R1, R2, R3, R4, R5, R6, R7, reduceCtorEq, R9]) <;> first | omega | rfl, .inr ⟨e2, t2, by simp only [kS, R1, R2, R3, R4, R5, R6, R7, reduceCtorEq, R9, a5], by simp only [kS, R1, R2, R3, R4, R5, R6, R7, reduceCtorEq, R9, aob], by (simp only [kS, R1, R2, R3, R4, R5, R6, R7, reduceCtorEq, R9]) <;> first | omega | rfl, k0⟩, by simp only [kS, R1, R2, R3, R4, R5, R6, R7, reduceCtorEq, R9, a8, hs]⟩
        have z1 : (d[k].k == 1) = false := by rw [beq_eq_false_iff_ne]; omega
        have x1 : (d[k].k = 1) = False := by rw [eq_iff_iff, iff_false]; omega
        have z4 : (d[k].k == 4) = false := by rw [beq_eq_false_iff_ne]; omega
        have x4 : (d[k].k = 4) = False := by rw [eq_iff_iff, iff_false]; omega
        have z5 : (d[k].k == 5) = false := by rw [beq_eq_false_iff_ne]; omega
        have x5 : (d[k].k = 5) = False := by rw [eq_iff_iff, iff_false]; omega
        have z6 : (d[k].k == 6) = false := by rw [beq_eq_false_iff_ne]; omega
        have x6 : (d[k].k = 6) = False := by rw [eq_iff_iff, iff_false]; omega
        have z7 : (d[k].k == 7) = false := by rw [beq_eq_false_iff_ne]; omega
        have x7 : (d[k].k = 7) = False := by rw [eq_iff_iff, iff_false]; omega
        repeat (first | ((first | refine Q1 ?_ | refine Q2 ?_); intro Z hN hX hR) | refine Q3 (by kernel_rfl) fun K hK => ?_ | ((first | refine Q4 fun R hJ => ?_ | with_reducible change ExpAll _ _ _); simp only [kS, R1, R2, R3, R4, R5, R6, R7, reduceCtorEq, R9, h1, h6, h2, hb, hki, e, el, decide_true, Int.reduceBEq, tk1, tk2, tk3, tk4, tk5, tk6, tk7, tk8, and_false, false_and, h5, hob, ht, hil, ga, gb, qa0, qa1, qb0, qb1, z1, z4, z5, z6, z7]) | (refine hJ _ ?_; clear hJ R) | refine Q5 ?_ | (refine hK _ ?_; clear hK K) | ((first | refine hN _ ?_ | refine hX _ _ ?_ | refine hR _ ?_); clear hN hX hR Z) | refine Q6 rfl ?_ | refine Q7 (by decide) ?_ | (refine Q8 ?_ ?_; focus (simp only [kS, R1, R2, R3, R4, R5, R6, R7, reduceCtorEq, R9, h1, h6, h2, hb, hki, e, el, decide_true, Int.reduceBEq, tk1, tk2, tk3, tk4, tk5, tk6, tk7, tk8, and_false, false_and, h5, hob, ht, hil, ga, gb, qa0, qa1, qb0, qb1, z1, z4, z5, z6, z7]; done)) | (refine Q9 ?_ ?_; focus (simp only [kS, R1, R2, R3, R4, R5, R6, R7, reduceCtorEq, R9, h1, h6, h2, hb, hki, e, el, decide_true, Int.reduceBEq, tk1, tk2, tk3, tk4, tk5, tk6, tk7, tk8, and_false, false_and, h5, hob, ht, hil, ga, gb, qa0, qa1, qb0, qb1, z1, z4, z5, z6, z7]; done)) | refine Qa ?_ | refine Qb ?_ | refine Qc ?_ | refine And.intro (by first | assumption | omega) ?_)
        exact fin _ ⟨by simp only [kS, R1, R2, R3, R4, R5, R6, R7, reduceCtorEq, R9, h1], by simp only [kS, R1, R2, R3, R4, R5, R6, R7, reduceCtorEq, R9, h6], by simp only [kS, R1, R2, R3, R4, R5, R6, R7, reduceCtorEq, R9, h2], by simp only [kS, R1, R2, R3, R4, R5, R6, R7, reduceCtorEq, R9, hb, dC, tk1, tk2, tk3, tk4, tk5, tk6, tk7, tk8, and_false, false_and, hne, hne'], by (simp only [kS, R1, R2, R3, R4, R5, R6, R7, reduceCtorEq, R9]) <;> first | omega | rfl, .inr ⟨e2, t2, by simp only [kS, R1, R2, R3, R4, R5, R6, R7, reduceCtorEq, R9, h5], by simp only [kS, R1, R2, R3, R4, R5, R6, R7, reduceCtorEq, R9, hob, ht, tk1, tk2, tk3, tk4, tk5, tk6, tk7, tk8, and_false, false_and], by (simp only [kS, R1, R2, R3, R4, R5, R6, R7, reduceCtorEq, R9]) <;> first | omega | rfl, k0⟩, by simp only [kS, R1, R2, R3, R4, R5, R6, R7, reduceCtorEq, R9, wayS, Int.reduceEq, x1, x4, x5, x6, x7]⟩
      · omega
  · have hle : ¬ (k : Int) ≤ (i : Int) := by omega
    have ek : k = i + 1 := by omega
    subst ek
    rcases h5 with ⟨h5, h⟩ | ⟨e, t, h5, hob, ht, _⟩
    · omega
    · have hg := getI_drop (wayL (d.take (i + 1)) []) i (by omega) (by rw [wayL_len]; simp; omega)
      have hln : (intsC (wayL (d.take (i + 1)) [])).length = i + 1 := by rw [intsC_length, wayL_len]; simp; omega
      simp only [Int.toNat_natCast] at hg
      have hlt' : i < i + 1 := by omega
      repeat (first | ((first | refine Q1 ?_ | refine Q2 ?_); intro Z hN hX hR) | refine Q3 (by kernel_rfl) fun K hK => ?_ | ((first | refine Q4 fun R hJ => ?_ | with_reducible change ExpAll _ _ _); simp only [kS, R1, R2, R3, R4, R5, R6, R7, reduceCtorEq, R9, h1, h6, h2, h5, hob, hle, hg, hln, hlt', decide_false]) | (refine hJ _ ?_; clear hJ R) | refine Q5 ?_ | (refine hK _ ?_; clear hK K) | ((first | refine hN _ ?_ | refine hX _ _ ?_ | refine hR _ ?_); clear hN hX hR Z) | refine Q6 rfl ?_ | refine Q7 (by decide) ?_ | (refine Q8 ?_ ?_; focus (simp only [kS, R1, R2, R3, R4, R5, R6, R7, reduceCtorEq, R9, h1, h6, h2, h5, hob, hle, hg, hln, hlt', decide_false]; done)) | (refine Q9 ?_ ?_; focus (simp only [kS, R1, R2, R3, R4, R5, R6, R7, reduceCtorEq, R9, h1, h6, h2, h5, hob, hle, hg, hln, hlt', decide_false]; done)) | refine Qa ?_ | refine Qb ?_ | refine Qc ?_ | refine And.intro (by first | assumption | omega) ?_)
      rfl

end Go.Proofs.YtilhjiopbbbgmaaDoor

/- Whether a description is right: no star, and no repetition, is of what may be nothing. -/
namespace Go.Proofs.YtilhjiopbbbgmaaDoor
open Nat renaming reduceSub → R1, reduceMul → R2, reduceLeDiff → R3, reducePow → R4, reduceBEq → R5, reduceAdd → R6, reduceEqDiff → R7
open Int renaming reduceToNat → R9
open Go Go.RowKit Am
set_option linter.unusedVariables false
set_option linter.unusedSimpArgs false
set_option maxHeartbeats 4000000
attribute [local irreducible] AWp AOps

def wrongAt (d : List Nd) (i : Nat) : Bool := ((nd d i).k == 6 || (nd d i).k == 7) && waysF d (nd d i).a.toNat != 0
def firstW (d : List Nd) : Nat → Nat → Option Nat
  | 0, _ => none
  | c + 1, i => if wrongAt d i = true then some i else firstW d c (i + 1)
def fwI : Option Nat → Int
  | some i => (i : Int)
  | none => 0

theorem first08_ret (gl : Gl) (d : List Nd) (hd : WFd d) (ho : WFo d) : Ret Tryd.prog gl 33 [.agg (dC d)] (.tup [iv (fwI (firstW d d.length 0)), bv (firstW d d.length 0).isSome]) := by
  refine retq (rs := [2, 3]) 37 Tryd.func33 (by kernel_rfl) rfl (by kernel_rfl) rfl (by simp) (by simp) fun Z hN hX hR => ?_
  have hl100 := hd.2.1
  repeat (first | ((first | refine Q1 ?_ | refine Q2 ?_); intro Z hN hX hR) | refine Q3 (by kernel_rfl) fun K hK => ?_ | ((first | refine Q4 fun R hJ => ?_ | with_reducible change ExpAll _ _ _); simp only [kS, R1, R2, R3, R4, R5, R6, R7, reduceCtorEq, R9]) | (refine hJ _ ?_; clear hJ R) | refine Q5 ?_ | (refine hK _ ?_; clear hK K) | ((first | refine hN _ ?_ | refine hX _ _ ?_ | refine hR _ ?_); clear hN hX hR Z) | refine Q6 rfl ?_ | refine Q7 (by decide) ?_ | (refine Q8 ?_ ?_; focus (simp only [kS, R1, R2, R3, R4, R5, R6, R7, reduceCtorEq, R9]; done)) | (refine Q9 ?_ ?_; focus (simp only [kS, R1, R2, R3, R4, R5, R6, R7, reduceCtorEq, R9]; done)) | refine Qa ?_ | refine Qb ?_ | refine Qc ?_ | refine And.intro (by first | assumption | omega) ?_)
  refine awq_loop (fun c f => ∃ (i : Nat), i ≤ d.length ∧ c = d.length - i ∧ f.t 4 = iv (i : Int) ∧ f.t 1 = .ref 1 1 0 ∧ f.ob 1 1 = .box (dC d) ∧ 1 < f.k ∧ firstW d c i = firstW d d.length 0) d.length ?_ ?_
  · exact ⟨0, by omega, rfl, by (simp only [kS, R1, R2, R3, R4, R5, R6, R7, reduceCtorEq, R9]) <;> first | omega | rfl, by (simp only [kS, R1, R2, R3, R4, R5, R6, R7, reduceCtorEq, R9]) <;> first | omega | rfl, by (simp only [kS, R1, R2, R3, R4, R5, R6, R7, reduceCtorEq, R9]) <;> first | omega | rfl, by (simp only [kS, R1, R2, R3, R4, R5, R6, R7, reduceCtorEq, R9]) <;> first | omega | rfl, rfl⟩
  rintro Z c f hN hX hR ⟨i, hi, rfl, h4, h1, hb, hk, hf⟩
  simp only [dC] at hb
  by_cases hlt : i < d.length
  · have hlt' : (i : Int) < (d.length : Int) := by omega
    have e := ndsC_drop d i hlt
    have el := ndsC_length d
    have hnd := nd_get d i hlt
    have hok := hd.2.2 d[i] (List.getElem_mem hlt)
    have hw : Ret Tryd.prog gl 56 [.agg (dC d), iv d[i].a] (iv (waysF d d[i].a.toNat)) := by
      have := ways_ret gl d hd ho d[i].a.toNat (by obtain ⟨_, _, h1, h2, _⟩ := hok; omega)
      rwa [show ((d[i].a.toNat : Nat) : Int) = d[i].a by obtain ⟨_, _, h1, h2, _⟩ := hok; omega] at this
    simp only [dC] at hw
    have hc : d.length - i = d.length - (i + 1) + 1 := by omega
    have next : wrongAt d i = false → firstW d (d.length - (i + 1)) (i + 1) = firstW d d.length 0 := fun hwr => by
      rw [hc] at hf
      simp only [firstW, hwr, Bool.false_eq_true, if_false] at hf
      exact hf
    have stop : wrongAt d i = true → firstW d d.length 0 = some i := fun hwr => by
      rw [hc] at hf
      simp only [firstW, hwr, if_true] at hf
      exact hf.symm
    have hwr : IntKind.i64.wrap ((i : Int) + 1) = ((i + 1 : Nat) : Int) := by rw [wrap_i64 (by omega) (by omega)]; rfl
    cases g6 : (d[i].k == 6)
    · cases g7 : (d[i].k == 7)
      · repeat (first | ((first | refine Q1 ?_ | refine Q2 ?_); intro Z hN hX hR) | refine Q3 (by kernel_rfl) fun K hK => ?_ | ((first | refine Q4 fun R hJ => ?_ | with_reducible change ExpAll _ _ _); simp only [kS, R1, R2, R3, R4, R5, R6, R7, reduceCtorEq, R9, h4, h1, hb, e, el, hlt, hlt', g6, g7, decide_true]) | (refine hJ _ ?_; clear hJ R) | refine Q5 ?_ | (refine hK _ ?_; clear hK K) | ((first | refine hN _ ?_ | refine hX _ _ ?_ | refine hR _ ?_); clear hN hX hR Z) | refine Q6 rfl ?_ | refine Q7 (by decide) ?_ | (refine Q8 ?_ ?_; focus (simp only [kS, R1, R2, R3, R4, R5, R6, R7, reduceCtorEq, R9, h4, h1, hb, e, el, hlt, hlt', g6, g7, decide_true]; done)) | (refine Q9 ?_ ?_; focus (simp only [kS, R1, R2, R3, R4, R5, R6, R7, reduceCtorEq, R9, h4, h1, hb, e, el, hlt, hlt', g6, g7, decide_true]; done)) | refine Qa ?_ | refine Qb ?_ | refine Qc ?_ | refine And.intro (by first | assumption | omega) ?_)
        exact ⟨d.length - (i + 1), by omega, i + 1, by omega, rfl, by simp only [kS, R1, R2, R3, R4, R5, R6, R7, reduceCtorEq, R9, hwr], by simp only [kS, R1, R2, R3, R4, R5, R6, R7, reduceCtorEq, R9, h1], by simp only [kS, R1, R2, R3, R4, R5, R6, R7, reduceCtorEq, R9, hb, dC], by (simp only [kS, R1, R2, R3, R4, R5, R6, R7, reduceCtorEq, R9]) <;> first | omega | rfl, next (by simp [wrongAt, hnd, g6, g7])⟩
      · repeat (first | ((first | refine Q1 ?_ | refine Q2 ?_); intro Z hN hX hR) | refine Q3 (by kernel_rfl) fun K hK => ?_ | ((first | refine Q4 fun R hJ => ?_ | with_reducible change ExpAll _ _ _); simp only [kS, R1, R2, R3, R4, R5, R6, R7, reduceCtorEq, R9, h4, h1, hb, e, el, hlt, hlt', g6, g7, decide_true]) | (refine hJ _ ?_; clear hJ R) | refine Q5 ?_ | (refine hK _ ?_; clear hK K) | ((first | refine hN _ ?_ | refine hX _ _ ?_ | refine hR _ ?_); clear hN hX hR Z) | refine Q6 rfl ?_ | refine Q7 (by decide) ?_ | (refine Q8 ?_ ?_; focus (simp only [kS, R1, R2, R3, R4, R5, R6, R7, reduceCtorEq, R9, h4, h1, hb, e, el, hlt, hlt', g6, g7, decide_true]; done)) | (refine Q9 ?_ ?_; focus (simp only [kS, R1, R2, R3, R4, R5, R6, R7, reduceCtorEq, R9, h4, h1, hb, e, el, hlt, hlt', g6, g7, decide_true]; done)) | refine Qa ?_ | refine Qb ?_ | refine Qc ?_ | refine And.intro (by first | assumption | omega) ?_)
        refine ⟨_, hw, rfl, ?_⟩
        simp only [kS, R1, R2, R3, R4, R5, R6, R7, reduceCtorEq, R9, h4, h1, hb, e, el, hlt, hlt', g6, g7, decide_true]
        cases g0 : (waysF d d[i].a.toNat != 0)
        · repeat (first | ((first | refine Q1 ?_ | refine Q2 ?_); intro Z hN hX hR) | refine Q3 (by kernel_rfl) fun K hK => ?_ | ((first | refine Q4 fun R hJ => ?_ | with_reducible change ExpAll _ _ _); simp only [kS, R1, R2, R3, R4, R5, R6, R7, reduceCtorEq, R9, h4, h1, hb, e, el, hlt, hlt', g6, g7, decide_true, g0]) | (refine hJ _ ?_; clear hJ R) | refine Q5 ?_ | (refine hK _ ?_; clear hK K) | ((first | refine hN _ ?_ | refine hX _ _ ?_ | refine hR _ ?_); clear hN hX hR Z) | refine Q6 rfl ?_ | refine Q7 (by decide) ?_ | (refine Q8 ?_ ?_; focus (simp only [kS, R1, R2, R3, R4, R5, R6, R7, reduceCtorEq, R9, h4, h1, hb, e, el, hlt, hlt', g6, g7, decide_true, g0]; done)) | (refine Q9 ?_ ?_; focus (simp only [kS, R1, R2, R3, R4, R5, R6, R7, reduceCtorEq, R9, h4, h1, hb, e, el, hlt, hlt', g6, g7, decide_true, g0]; done)) | refine Qa ?_ | refine Qb ?_ | refine Qc ?_ | refine And.intro (by first | assumption | omega) ?_)
          exact ⟨d.length - (i + 1), by omega, i + 1, by omega, rfl, by simp only [kS, R1, R2, R3, R4, R5, R6, R7, reduceCtorEq, R9, hwr], by simp only [kS, R1, R2, R3, R4, R5, R6, R7, reduceCtorEq, R9, h1], by simp only [kS, R1, R2, R3, R4, R5, R6, R7, reduceCtorEq, R9, hb, dC], by (simp only [kS, R1, R2, R3, R4, R5, R6, R7, reduceCtorEq, R9]) <;> first | omega | rfl, next (by simp [wrongAt, hnd, g6, g7, g0])⟩
        · repeat (first | ((first | refine Q1 ?_ | refine Q2 ?_); intro Z hN hX hR) | refine Q3 (by kernel_rfl) fun K hK => ?_ | ((first | refine Q4 fun R hJ => ?_ | with_reducible change ExpAll _ _ _); simp only [kS, R1, R2, R3, R4, R5, R6, R7, reduceCtorEq, R9, h4, h1, hb, e, el, hlt, hlt', g6, g7, decide_true, g0]) | (refine hJ _ ?_; clear hJ R) | refine Q5 ?_ | (refine hK _ ?_; clear hK K) | ((first | refine hN _ ?_ | refine hX _ _ ?_ | refine hR _ ?_); clear hN hX hR Z) | refine Q6 rfl ?_ | refine Q7 (by decide) ?_ | (refine Q8 ?_ ?_; focus (simp only [kS, R1, R2, R3, R4, R5, R6, R7, reduceCtorEq, R9, h4, h1, hb, e, el, hlt, hlt', g6, g7, decide_true, g0]; done)) | (refine Q9 ?_ ?_; focus (simp only [kS, R1, R2, R3, R4, R5, R6, R7, reduceCtorEq, R9, h4, h1, hb, e, el, hlt, hlt', g6, g7, decide_true, g0]; done)) | refine Qa ?_ | refine Qb ?_ | refine Qc ?_ | refine And.intro (by first | assumption | omega) ?_)
          rw [stop (by simp only [wrongAt, hnd, g6, g7, g0]; rfl)]
          first | rfl | exact ⟨_, rfl, rfl, rfl, trivial⟩
    · repeat (first | ((first | refine Q1 ?_ | refine Q2 ?_); intro Z hN hX hR) | refine Q3 (by kernel_rfl) fun K hK => ?_ | ((first | refine Q4 fun R hJ => ?_ | with_reducible change ExpAll _ _ _); simp only [kS, R1, R2, R3, R4, R5, R6, R7, reduceCtorEq, R9, h4, h1, hb, e, el, hlt, hlt', g6, decide_true]) | (refine hJ _ ?_; clear hJ R) | refine Q5 ?_ | (refine hK _ ?_; clear hK K) | ((first | refine hN _ ?_ | refine hX _ _ ?_ | refine hR _ ?_); clear hN hX hR Z) | refine Q6 rfl ?_ | refine Q7 (by decide) ?_ | (refine Q8 ?_ ?_; focus (simp only [kS, R1, R2, R3, R4, R5, R6, R7, reduceCtorEq, R9, h4, h1, hb, e, el, hlt, hlt', g6, decide_true]; done)) | (refine Q9 ?_ ?_; focus (simp only [kS, R1, R2, R3, R4, R5, R6, R7, reduceCtorEq, R9, h4, h1, hb, e, el, hlt, hlt', g6, decide_true]; done)) | refine Qa ?_ | refine Qb ?_ | refine Qc ?_ | refine And.intro (by first | assumption | omega) ?_)
      refine ⟨_, hw, rfl, ?_⟩
      simp only [kS, R1, R2, R3, R4, R5, R6, R7, reduceCtorEq, R9, h4, h1, hb, e, el, hlt, hlt', g6, decide_true]
      cases g0 : (waysF d d[i].a.toNat != 0)
      · repeat (first | ((first | refine Q1 ?_ | refine Q2 ?_); intro Z hN hX hR) | refine Q3 (by kernel_rfl) fun K hK => ?_ | ((first | refine Q4 fun R hJ => ?_ | with_reducible change ExpAll _ _ _); simp only [kS, R1, R2, R3, R4, R5, R6, R7, reduceCtorEq, R9, h4, h1, hb, e, el, hlt, hlt', g6, decide_true, g0]) | (refine hJ _ ?_; clear hJ R) | refine Q5 ?_ | (refine hK _ ?_; clear hK K) | ((first | refine hN _ ?_ | refine hX _ _ ?_ | refine hR _ ?_); clear hN hX hR Z) | refine Q6 rfl ?_ | refine Q7 (by decide) ?_ | (refine Q8 ?_ ?_; focus (simp only [kS, R1, R2, R3, R4, R5, R6, R7, reduceCtorEq, R9, h4, h1, hb, e, el, hlt, hlt', g6, decide_true, g0]; done)) | (refine Q9 ?_ ?_; focus (simp only [kS, R1, R2, R3, R4, R5, R6, R7, reduceCtorEq, R9, h4, h1, hb, e, el, hlt, hlt', g6, decide_true, g0]; done)) | refine Qa ?_ | refine Qb ?_ | refine Qc ?_ | refine And.intro (by first | assumption | omega) ?_)
        exact ⟨d.length - (i + 1), by omega, i + 1, by omega, rfl, by simp only [kS, R1, R2, R3, R4, R5, R6, R7, reduceCtorEq, R9, hwr], by simp only [kS, R1, R2, R3, R4, R5, R6, R7, reduceCtorEq, R9, h1], by simp only [kS, R1, R2, R3, R4, R5, R6, R7, reduceCtorEq, R9, hb, dC], by (simp only [kS, R1, R2, R3, R4, R5, R6, R7, reduceCtorEq, R9]) <;> first | omega | rfl, next (by simp [wrongAt, hnd, g6, g0])⟩
      · repeat (first | ((first | refine Q1 ?_ | refine Q2 ?_); intro Z hN hX hR) | refine Q3 (by kernel_rfl) fun K hK => ?_ | ((first | refine Q4 fun R hJ => ?_ | with_reducible change ExpAll _ _ _); simp only [kS, R1, R2, R3, R4, R5, R6, R7, reduceCtorEq, R9, h4, h1, hb, e, el, hlt, hlt', g6, decide_true, g0]) | (refine hJ _ ?_; clear hJ R) | refine Q5 ?_ | (refine hK _ ?_; clear hK K) | ((first | refine hN _ ?_ | refine hX _ _ ?_ | refine hR _ ?_); clear hN hX hR Z) | refine Q6 rfl ?_ | refine Q7 (by decide) ?_ | (refine Q8 ?_ ?_; focus (simp only [kS, R1, R2, R3, R4, R5, R6, R7, reduceCtorEq, R9, h4, h1, hb, e, el, hlt, hlt', g6, decide_true, g0]; done)) | (refine Q9 ?_ ?_; focus (simp only [kS, R1, R2, R3, R4, R5, R6, R7, reduceCtorEq, R9, h4, h1, hb, e, el, hlt, hlt', g6, decide_true, g0]; done)) | refine Qa ?_ | refine Qb ?_ | refine Qc ?_ | refine And.intro (by first | assumption | omega) ?_)
        rw [stop (by simp only [wrongAt, hnd, g6, g0]; rfl)]
        first | rfl | exact ⟨_, rfl, rfl, rfl, trivial⟩
  · have hlt' : ¬ (i : Int) < (d.length : Int) := by omega
    have el := ndsC_length d
    have hz : d.length - i = 0 := by omega
    rw [hz] at hf
    repeat (first | ((first | refine Q1 ?_ | refine Q2 ?_); intro Z hN hX hR) | refine Q3 (by kernel_rfl) fun K hK => ?_ | ((first | refine Q4 fun R hJ => ?_ | with_reducible change ExpAll _ _ _); simp only [kS, R1, R2, R3, R4, R5, R6, R7, reduceCtorEq, R9, h4, h1, hb, el, hlt', decide_false]) | (refine hJ _ ?_; clear hJ R) | refine Q5 ?_ | (refine hK _ ?_; clear hK K) | ((first | refine hN _ ?_ | refine hX _ _ ?_ | refine hR _ ?_); clear hN hX hR Z) | refine Q6 rfl ?_ | refine Q7 (by decide) ?_ | (refine Q8 ?_ ?_; focus (simp only [kS, R1, R2, R3, R4, R5, R6, R7, reduceCtorEq, R9, h4, h1, hb, el, hlt', decide_false]; done)) | (refine Q9 ?_ ?_; focus (simp only [kS, R1, R2, R3, R4, R5, R6, R7, reduceCtorEq, R9, h4, h1, hb, el, hlt', decide_false]; done)) | refine Qa ?_ | refine Qb ?_ | refine Qc ?_ | refine And.intro (by first | assumption | omega) ?_)
    rw [← hf]
    first | rfl | exact ⟨_, rfl, rfl, rfl, trivial⟩

def rightB (d : List Nd) : Bool := formB d && !(firstW d d.length 0).isSome

theorem right_ret (gl : Gl) (d : List Nd) (hl : d.length ≤ 100) (hs : ∀ n ∈ d, n.s.size ≤ 140737488355328) : Ret Tryd.prog gl 10 [.agg (dC d)] (bv (rightB d)) := by
  refine retq (rs := [2]) 15 Tryd.func10 (by kernel_rfl) rfl (by kernel_rfl) rfl (by simp) (by simp) fun Z hN hX hR => ?_
  have hform := form04_ret gl d (by omega) hs
  cases g : formB d
  · rw [g] at hform
    repeat (first | ((first | refine Q1 ?_ | refine Q2 ?_); intro Z hN hX hR) | refine Q3 (by kernel_rfl) fun K hK => ?_ | ((first | refine Q4 fun R hJ => ?_ | with_reducible change ExpAll _ _ _); simp only [kS, R1, R2, R3, R4, R5, R6, R7, reduceCtorEq, R9, dC_length, dC_take, Bool.not_true, Bool.not_false, Bool.false_eq_true]) | (refine hJ _ ?_; clear hJ R) | refine Q5 ?_ | (refine hK _ ?_; clear hK K) | ((first | refine hN _ ?_ | refine hX _ _ ?_ | refine hR _ ?_); clear hN hX hR Z) | refine Q6 rfl ?_ | refine Q7 (by decide) ?_ | (refine Q8 ?_ ?_; focus (simp only [kS, R1, R2, R3, R4, R5, R6, R7, reduceCtorEq, R9, dC_length, dC_take, Bool.not_true, Bool.not_false, Bool.false_eq_true]; done)) | (refine Q9 ?_ ?_; focus (simp only [kS, R1, R2, R3, R4, R5, R6, R7, reduceCtorEq, R9, dC_length, dC_take, Bool.not_true, Bool.not_false, Bool.false_eq_true]; done)) | refine Qa ?_ | refine Qb ?_ | refine Qc ?_ | refine And.intro (by first | assumption | omega) ?_)
    refine ⟨_, hform, rfl, ?_⟩
    try (simp only [kS, R1, R2, R3, R4, R5, R6, R7, reduceCtorEq, R9, dC_length, dC_take, Bool.not_true, Bool.not_false, Bool.false_eq_true])
    repeat (first | ((first | refine Q1 ?_ | refine Q2 ?_); intro Z hN hX hR) | refine Q3 (by kernel_rfl) fun K hK => ?_ | ((first | refine Q4 fun R hJ => ?_ | with_reducible change ExpAll _ _ _); simp only [kS, R1, R2, R3, R4, R5, R6, R7, reduceCtorEq, R9, dC_length, dC_take, Bool.not_true, Bool.not_false, Bool.false_eq_true]) | (refine hJ _ ?_; clear hJ R) | refine Q5 ?_ | (refine hK _ ?_; clear hK K) | ((first | refine hN _ ?_ | refine hX _ _ ?_ | refine hR _ ?_); clear hN hX hR Z) | refine Q6 rfl ?_ | refine Q7 (by decide) ?_ | (refine Q8 ?_ ?_; focus (simp only [kS, R1, R2, R3, R4, R5, R6, R7, reduceCtorEq, R9, dC_length, dC_take, Bool.not_true, Bool.not_false, Bool.false_eq_true]; done)) | (refine Q9 ?_ ?_; focus (simp only [kS, R1, R2, R3, R4, R5, R6, R7, reduceCtorEq, R9, dC_length, dC_take, Bool.not_true, Bool.not_false, Bool.false_eq_true]; done)) | refine Qa ?_ | refine Qb ?_ | refine Qc ?_ | refine And.intro (by first | assumption | omega) ?_)
    all_goals (simp only [rightB, g]; try rfl)
  · rw [g] at hform
    obtain ⟨w1, w2⟩ := formB_ok g hl
    repeat (first | ((first | refine Q1 ?_ | refine Q2 ?_); intro Z hN hX hR) | refine Q3 (by kernel_rfl) fun K hK => ?_ | ((first | refine Q4 fun R hJ => ?_ | with_reducible change ExpAll _ _ _); simp only [kS, R1, R2, R3, R4, R5, R6, R7, reduceCtorEq, R9, dC_length, dC_take, Bool.not_true, Bool.not_false, Bool.false_eq_true]) | (refine hJ _ ?_; clear hJ R) | refine Q5 ?_ | (refine hK _ ?_; clear hK K) | ((first | refine hN _ ?_ | refine hX _ _ ?_ | refine hR _ ?_); clear hN hX hR Z) | refine Q6 rfl ?_ | refine Q7 (by decide) ?_ | (refine Q8 ?_ ?_; focus (simp only [kS, R1, R2, R3, R4, R5, R6, R7, reduceCtorEq, R9, dC_length, dC_take, Bool.not_true, Bool.not_false, Bool.false_eq_true]; done)) | (refine Q9 ?_ ?_; focus (simp only [kS, R1, R2, R3, R4, R5, R6, R7, reduceCtorEq, R9, dC_length, dC_take, Bool.not_true, Bool.not_false, Bool.false_eq_true]; done)) | refine Qa ?_ | refine Qb ?_ | refine Qc ?_ | refine And.intro (by first | assumption | omega) ?_)
    refine ⟨_, hform, rfl, ?_⟩
    try (simp only [kS, R1, R2, R3, R4, R5, R6, R7, reduceCtorEq, R9, dC_length, dC_take, Bool.not_true, Bool.not_false, Bool.false_eq_true])
    repeat (first | ((first | refine Q1 ?_ | refine Q2 ?_); intro Z hN hX hR) | refine Q3 (by kernel_rfl) fun K hK => ?_ | ((first | refine Q4 fun R hJ => ?_ | with_reducible change ExpAll _ _ _); simp only [kS, R1, R2, R3, R4, R5, R6, R7, reduceCtorEq, R9, dC_length, dC_take, Bool.not_true, Bool.not_false, Bool.false_eq_true]) | (refine hJ _ ?_; clear hJ R) | refine Q5 ?_ | (refine hK _ ?_; clear hK K) | ((first | refine hN _ ?_ | refine hX _ _ ?_ | refine hR _ ?_); clear hN hX hR Z) | refine Q6 rfl ?_ | refine Q7 (by decide) ?_ | (refine Q8 ?_ ?_; focus (simp only [kS, R1, R2, R3, R4, R5, R6, R7, reduceCtorEq, R9, dC_length, dC_take, Bool.not_true, Bool.not_false, Bool.false_eq_true]; done)) | (refine Q9 ?_ ?_; focus (simp only [kS, R1, R2, R3, R4, R5, R6, R7, reduceCtorEq, R9, dC_length, dC_take, Bool.not_true, Bool.not_false, Bool.false_eq_true]; done)) | refine Qa ?_ | refine Qb ?_ | refine Qc ?_ | refine And.intro (by first | assumption | omega) ?_)
    refine ⟨_, first08_ret gl d w1 w2, rfl, ?_⟩
    try (simp only [kS, R1, R2, R3, R4, R5, R6, R7, reduceCtorEq, R9, dC_length, dC_take, Bool.not_true, Bool.not_false, Bool.false_eq_true])
    repeat (first | ((first | refine Q1 ?_ | refine Q2 ?_); intro Z hN hX hR) | refine Q3 (by kernel_rfl) fun K hK => ?_ | ((first | refine Q4 fun R hJ => ?_ | with_reducible change ExpAll _ _ _); simp only [kS, R1, R2, R3, R4, R5, R6, R7, reduceCtorEq, R9, dC_length, dC_take, Bool.not_true, Bool.not_false, Bool.false_eq_true]) | (refine hJ _ ?_; clear hJ R) | refine Q5 ?_ | (refine hK _ ?_; clear hK K) | ((first | refine hN _ ?_ | refine hX _ _ ?_ | refine hR _ ?_); clear hN hX hR Z) | refine Q6 rfl ?_ | refine Q7 (by decide) ?_ | (refine Q8 ?_ ?_; focus (simp only [kS, R1, R2, R3, R4, R5, R6, R7, reduceCtorEq, R9, dC_length, dC_take, Bool.not_true, Bool.not_false, Bool.false_eq_true]; done)) | (refine Q9 ?_ ?_; focus (simp only [kS, R1, R2, R3, R4, R5, R6, R7, reduceCtorEq, R9, dC_length, dC_take, Bool.not_true, Bool.not_false, Bool.false_eq_true]; done)) | refine Qa ?_ | refine Qb ?_ | refine Qc ?_ | refine And.intro (by first | assumption | omega) ?_)
    all_goals (simp only [rightB, g]; try rfl)

theorem rightB_ok {d : List Nd} (h : rightB d = true) (hl : d.length ≤ 100) : WFd d ∧ WFo d := by
  simp only [rightB, Bool.and_eq_true] at h
  exact formB_ok h.1 hl

theorem okSt_gd {d : List Nd} {s : List It} (hd : WFd d) (hf : ∀ n ∈ d, n.s.size ≤ 1000000) (h : okSt d s = true) : gd d s := by
  intro x hx
  have hx' := List.all_eq_true.1 h x hx
  have hd1 := hd.1
  simp only [okIt] at hx'
  split at hx'
  · simp only [Bool.and_eq_true, beq_iff_eq, decide_eq_true_eq] at hx'
    obtain ⟨h1, h2, h3, h4⟩ := hx'
    exact ⟨⟨by omega, by omega⟩, h3, by omega, by omega⟩
  · split at hx'
    · cases hx'
    · rename_i hr
      simp only [Bool.or_eq_true, decide_eq_true_eq, not_or, Int.not_lt, Int.not_le] at hr
      have hin : inR d x := ⟨by omega, by omega⟩
      have hnd := hd.nd x.n hin.1 hin.2
      have hmem : nd d x.n ∈ d := by
        have : x.n.toNat < d.length := by have := hin.2; omega
        have e : nd d x.n = d[x.n.toNat] := by simp [nd, this]
        rw [e]; exact List.getElem_mem this
      have hsz := hf _ hmem
      obtain ⟨_, _, _, _, _, _, _, _, hhi, _⟩ := hnd
      split at hx'
      · simp only [Bool.and_eq_true, beq_iff_eq] at hx'
        exact ⟨hin, by omega, by omega, by omega⟩
      · split at hx'
        · simp only [Bool.and_eq_true, beq_iff_eq, decide_eq_true_eq] at hx'
          exact ⟨hin, by omega, by omega, by omega⟩
        · split at hx'
          · simp only [Bool.and_eq_true, beq_iff_eq, decide_eq_true_eq] at hx'
            exact ⟨hin, by omega, by omega, by omega⟩
          · split at hx'
            · simp only [Bool.and_eq_true, beq_iff_eq, decide_eq_true_eq] at hx'
              exact ⟨hin, by omega, by omega, by omega⟩
            · cases hx'

def fitsB (d : List Nd) (s : List It) : Bool := decide ((d.length : Int) ≤ 24) && (decide ((s.length : Int) ≤ 8) && (okSt d s && decide (stepsF d 1500 s 1500 < 1500)))

theorem fits_ret (gl : Gl) (d : List Nd) (s : List It) (hd : WFd d) (hf : ∀ n ∈ d, n.s.size ≤ 1000000) (hr : rightB d = true) (hs : s.length ≤ 140737488355328) : Ret Tryd.prog gl 11 [.agg (dC d), .c (stC s)] (bv (fitsB d s)) := by
  refine retq (rs := [4]) 30 Tryd.func11 (by kernel_rfl) rfl (by kernel_rfl) rfl (by simp) (by simp) fun Z hN hX hR => ?_
  have hright := right_ret gl d hd.2.1 (fun n hn => Nat.le_trans (hf n hn) (by omega))
  rw [hr] at hright
  have hform := form_ret gl d s hs
  simp only [dC] at hright hform
  have el := ndsC_length d
  by_cases c1 : (d.length : Int) ≤ 24
  · by_cases c2 : (s.length : Int) ≤ 8
    · cases g : okSt d s
      · rw [g] at hform
        repeat (first | ((first | refine Q1 ?_ | refine Q2 ?_); intro Z hN hX hR) | refine Q3 (by kernel_rfl) fun K hK => ?_ | ((first | refine Q4 fun R hJ => ?_ | with_reducible change ExpAll _ _ _); simp only [kS, R1, R2, R3, R4, R5, R6, R7, reduceCtorEq, R9, dC, el, c1, c2, decide_true, Bool.not_true, Bool.false_eq_true]) | (refine hJ _ ?_; clear hJ R) | refine Q5 ?_ | (refine hK _ ?_; clear hK K) | ((first | refine hN _ ?_ | refine hX _ _ ?_ | refine hR _ ?_); clear hN hX hR Z) | refine Q6 rfl ?_ | refine Q7 (by decide) ?_ | (refine Q8 ?_ ?_; focus (simp only [kS, R1, R2, R3, R4, R5, R6, R7, reduceCtorEq, R9, dC, el, c1, c2, decide_true, Bool.not_true, Bool.false_eq_true]; done)) | (refine Q9 ?_ ?_; focus (simp only [kS, R1, R2, R3, R4, R5, R6, R7, reduceCtorEq, R9, dC, el, c1, c2, decide_true, Bool.not_true, Bool.false_eq_true]; done)) | refine Qa ?_ | refine Qb ?_ | refine Qc ?_ | refine And.intro (by first | assumption | omega) ?_)
        refine ⟨_, hform, rfl, ?_⟩
        simp only [kS, R1, R2, R3, R4, R5, R6, R7, reduceCtorEq, R9, dC, el, c1, c2, decide_true, Bool.not_true, Bool.false_eq_true]
        repeat (first | ((first | refine Q1 ?_ | refine Q2 ?_); intro Z hN hX hR) | refine Q3 (by kernel_rfl) fun K hK => ?_ | ((first | refine Q4 fun R hJ => ?_ | with_reducible change ExpAll _ _ _); simp only [kS, R1, R2, R3, R4, R5, R6, R7, reduceCtorEq, R9, dC, el, c1, c2, decide_true, Bool.not_true, Bool.false_eq_true]) | (refine hJ _ ?_; clear hJ R) | refine Q5 ?_ | (refine hK _ ?_; clear hK K) | ((first | refine hN _ ?_ | refine hX _ _ ?_ | refine hR _ ?_); clear hN hX hR Z) | refine Q6 rfl ?_ | refine Q7 (by decide) ?_ | (refine Q8 ?_ ?_; focus (simp only [kS, R1, R2, R3, R4, R5, R6, R7, reduceCtorEq, R9, dC, el, c1, c2, decide_true, Bool.not_true, Bool.false_eq_true]; done)) | (refine Q9 ?_ ?_; focus (simp only [kS, R1, R2, R3, R4, R5, R6, R7, reduceCtorEq, R9, dC, el, c1, c2, decide_true, Bool.not_true, Bool.false_eq_true]; done)) | refine Qa ?_ | refine Qb ?_ | refine Qc ?_ | refine And.intro (by first | assumption | omega) ?_)
        simp only [fitsB, c1, c2, g, decide_true]; rfl
      · rw [g] at hform
        have hst := steps_ret gl d hd 1500 s 1500 (by omega) (by omega) (by omega) (okSt_gd hd hf g) (by omega)
        simp only [dC] at hst
        repeat (first | ((first | refine Q1 ?_ | refine Q2 ?_); intro Z hN hX hR) | refine Q3 (by kernel_rfl) fun K hK => ?_ | ((first | refine Q4 fun R hJ => ?_ | with_reducible change ExpAll _ _ _); simp only [kS, R1, R2, R3, R4, R5, R6, R7, reduceCtorEq, R9, dC, el, c1, c2, decide_true, Bool.not_true, Bool.false_eq_true]) | (refine hJ _ ?_; clear hJ R) | refine Q5 ?_ | (refine hK _ ?_; clear hK K) | ((first | refine hN _ ?_ | refine hX _ _ ?_ | refine hR _ ?_); clear hN hX hR Z) | refine Q6 rfl ?_ | refine Q7 (by decide) ?_ | (refine Q8 ?_ ?_; focus (simp only [kS, R1, R2, R3, R4, R5, R6, R7, reduceCtorEq, R9, dC, el, c1, c2, decide_true, Bool.not_true, Bool.false_eq_true]; done)) | (refine Q9 ?_ ?_; focus (simp only [kS, R1, R2, R3, R4, R5, R6, R7, reduceCtorEq, R9, dC, el, c1, c2, decide_true, Bool.not_true, Bool.false_eq_true]; done)) | refine Qa ?_ | refine Qb ?_ | refine Qc ?_ | refine And.intro (by first | assumption | omega) ?_)
        refine ⟨_, hform, rfl, ?_⟩
        simp only [kS, R1, R2, R3, R4, R5, R6, R7, reduceCtorEq, R9, dC, el, c1, c2, decide_true, Bool.not_true, Bool.false_eq_true]
        repeat (first | ((first | refine Q1 ?_ | refine Q2 ?_); intro Z hN hX hR) | refine Q3 (by kernel_rfl) fun K hK => ?_ | ((first | refine Q4 fun R hJ => ?_ | with_reducible change ExpAll _ _ _); simp only [kS, R1, R2, R3, R4, R5, R6, R7, reduceCtorEq, R9, dC, el, c1, c2, decide_true, Bool.not_true, Bool.false_eq_true]) | (refine hJ _ ?_; clear hJ R) | refine Q5 ?_ | (refine hK _ ?_; clear hK K) | ((first | refine hN _ ?_ | refine hX _ _ ?_ | refine hR _ ?_); clear hN hX hR Z) | refine Q6 rfl ?_ | refine Q7 (by decide) ?_ | (refine Q8 ?_ ?_; focus (simp only [kS, R1, R2, R3, R4, R5, R6, R7, reduceCtorEq, R9, dC, el, c1, c2, decide_true, Bool.not_true, Bool.false_eq_true]; done)) | (refine Q9 ?_ ?_; focus (simp only [kS, R1, R2, R3, R4, R5, R6, R7, reduceCtorEq, R9, dC, el, c1, c2, decide_true, Bool.not_true, Bool.false_eq_true]; done)) | refine Qa ?_ | refine Qb ?_ | refine Qc ?_ | refine And.intro (by first | assumption | omega) ?_)
        refine ⟨_, hright, rfl, ?_⟩
        simp only [kS, R1, R2, R3, R4, R5, R6, R7, reduceCtorEq, R9, dC, el, c1, c2, decide_true, Bool.not_true, Bool.false_eq_true]
        repeat (first | ((first | refine Q1 ?_ | refine Q2 ?_); intro Z hN hX hR) | refine Q3 (by kernel_rfl) fun K hK => ?_ | ((first | refine Q4 fun R hJ => ?_ | with_reducible change ExpAll _ _ _); simp only [kS, R1, R2, R3, R4, R5, R6, R7, reduceCtorEq, R9, dC, el, c1, c2, decide_true, Bool.not_true, Bool.false_eq_true]) | (refine hJ _ ?_; clear hJ R) | refine Q5 ?_ | (refine hK _ ?_; clear hK K) | ((first | refine hN _ ?_ | refine hX _ _ ?_ | refine hR _ ?_); clear hN hX hR Z) | refine Q6 rfl ?_ | refine Q7 (by decide) ?_ | (refine Q8 ?_ ?_; focus (simp only [kS, R1, R2, R3, R4, R5, R6, R7, reduceCtorEq, R9, dC, el, c1, c2, decide_true, Bool.not_true, Bool.false_eq_true]; done)) | (refine Q9 ?_ ?_; focus (simp only [kS, R1, R2, R3, R4, R5, R6, R7, reduceCtorEq, R9, dC, el, c1, c2, decide_true, Bool.not_true, Bool.false_eq_true]; done)) | refine Qa ?_ | refine Qb ?_ | refine Qc ?_ | refine And.intro (by first | assumption | omega) ?_)
        refine ⟨_, hst, rfl, ?_⟩
        simp only [kS, R1, R2, R3, R4, R5, R6, R7, reduceCtorEq, R9, dC, el, c1, c2, decide_true, Bool.not_true, Bool.false_eq_true]
        repeat (first | ((first | refine Q1 ?_ | refine Q2 ?_); intro Z hN hX hR) | refine Q3 (by kernel_rfl) fun K hK => ?_ | ((first | refine Q4 fun R hJ => ?_ | with_reducible change ExpAll _ _ _); simp only [kS, R1, R2, R3, R4, R5, R6, R7, reduceCtorEq, R9, dC, el, c1, c2, decide_true, Bool.not_true, Bool.false_eq_true]) | (refine hJ _ ?_; clear hJ R) | refine Q5 ?_ | (refine hK _ ?_; clear hK K) | ((first | refine hN _ ?_ | refine hX _ _ ?_ | refine hR _ ?_); clear hN hX hR Z) | refine Q6 rfl ?_ | refine Q7 (by decide) ?_ | (refine Q8 ?_ ?_; focus (simp only [kS, R1, R2, R3, R4, R5, R6, R7, reduceCtorEq, R9, dC, el, c1, c2, decide_true, Bool.not_true, Bool.false_eq_true]; done)) | (refine Q9 ?_ ?_; focus (simp only [kS, R1, R2, R3, R4, R5, R6, R7, reduceCtorEq, R9, dC, el, c1, c2, decide_true, Bool.not_true, Bool.false_eq_true]; done)) | refine Qa ?_ | refine Qb ?_ | refine Qc ?_ | refine And.intro (by first | assumption | omega) ?_)
        simp only [fitsB, c1, c2, g, decide_true, Bool.true_and]
    · repeat (first | ((first | refine Q1 ?_ | refine Q2 ?_); intro Z hN hX hR) | refine Q3 (by kernel_rfl) fun K hK => ?_ | ((first | refine Q4 fun R hJ => ?_ | with_reducible change ExpAll _ _ _); simp only [kS, R1, R2, R3, R4, R5, R6, R7, reduceCtorEq, R9, dC, el, c1, c2, decide_true, decide_false]) | (refine hJ _ ?_; clear hJ R) | refine Q5 ?_ | (refine hK _ ?_; clear hK K) | ((first | refine hN _ ?_ | refine hX _ _ ?_ | refine hR _ ?_); clear hN hX hR Z) | refine Q6 rfl ?_ | refine Q7 (by decide) ?_ | (refine Q8 ?_ ?_; focus (simp only [kS, R1, R2, R3, R4, R5, R6, R7, reduceCtorEq, R9, dC, el, c1, c2, decide_true, decide_false]; done)) | (refine Q9 ?_ ?_; focus (simp only [kS, R1, R2, R3, R4, R5, R6, R7, reduceCtorEq, R9, dC, el, c1, c2, decide_true, decide_false]; done)) | refine Qa ?_ | refine Qb ?_ | refine Qc ?_ | refine And.intro (by first | assumption | omega) ?_)
      simp only [fitsB, c1, c2, decide_false, decide_true]; rfl
  · repeat (first | ((first | refine Q1 ?_ | refine Q2 ?_); intro Z hN hX hR) | refine Q3 (by kernel_rfl) fun K hK => ?_ | ((first | refine Q4 fun R hJ => ?_ | with_reducible change ExpAll _ _ _); simp only [kS, R1, R2, R3, R4, R5, R6, R7, reduceCtorEq, R9, dC, el, c1, decide_false]) | (refine hJ _ ?_; clear hJ R) | refine Q5 ?_ | (refine hK _ ?_; clear hK K) | ((first | refine hN _ ?_ | refine hX _ _ ?_ | refine hR _ ?_); clear hN hX hR Z) | refine Q6 rfl ?_ | refine Q7 (by decide) ?_ | (refine Q8 ?_ ?_; focus (simp only [kS, R1, R2, R3, R4, R5, R6, R7, reduceCtorEq, R9, dC, el, c1, decide_false]; done)) | (refine Q9 ?_ ?_; focus (simp only [kS, R1, R2, R3, R4, R5, R6, R7, reduceCtorEq, R9, dC, el, c1, decide_false]; done)) | refine Qa ?_ | refine Qb ?_ | refine Qc ?_ | refine And.intro (by first | assumption | omega) ?_)
    simp only [fitsB, c1, decide_false]; rfl

end Go.Proofs.YtilhjiopbbbgmaaDoor

/- The program's own Heads as a contract; the small descriptions that wake the laws. -/
namespace Go.Proofs.YtilhjiopbbbgmaaDoor
open Nat renaming reduceSub → R1, reduceMul → R2, reduceLeDiff → R3, reducePow → R4, reduceBEq → R5, reduceAdd → R6, reduceEqDiff → R7
open Int renaming reduceToNat → R9
open Go Go.RowKit Am
set_option linter.unusedVariables false
set_option linter.unusedSimpArgs false
set_option maxHeartbeats 4000000
attribute [local irreducible] AWp AOps

theorem heads15_ret (d : List Nd) (hd : WFd d) (k : Nat) (s : List It) (hdp : deep d k s) (hs : gd d s) (hj : okJ s) (hl : s.length + k ≤ 100000) (hn : cnt d k s ≤ 1000000) (hlv : (leaves d k s).length ≤ 1000000) :
    Ret Tryd.prog glD 15 [.agg (dC d), .c (stC s)] (.c (brC (headsS d k s))) := by
  refine ⟨callF Tryd.func15 (by kernel_rfl) rfl, fun w G vs hG hgl hrep => ?_⟩
  obtain ⟨vd, v, hvs, hvd, hv⟩ : ∃ vd v, vs = #[.agg #[vd], v] ∧ RepL w G (dC d) [vd] ∧ RepC w G (stC s) v := by
    obtain ⟨l⟩ := vs
    match l, hrep with
    | [a, b], ⟨⟨ys, e, h1⟩, h2, _⟩ =>
      obtain ⟨ys⟩ := ys
      match ys, h1 with
      | [y], h1 => exact ⟨y, b, by rw [e], h1, h2⟩
      | [], h1 => exact h1.elim
      | _ :: _ :: _, h1 => exact h1.2.elim
  subst hvs
  refine (heads15_c d hd k s w G vd v hdp hs hj hl hn hlv hG hgl hvd hv).mono ?_
  rintro e w' ⟨v, rfl, hb, G', h1, h2, h3, hr⟩
  exact ⟨v, rfl, hb, fun h => h.elim, G', h1, h2, h3, hr⟩

abbrev nd0 (k a b lo hi : Int) : Nd := ⟨k, a, b, lo, hi, 0, 0, 0, 0, ⟨#[]⟩⟩

theorem wrap_ret (gl : Gl) (kind lo hi : Int) (a : List Nd) (hl : a.length ≤ 1000) (h : ∀ n ∈ a, n.k < 4) (h0 : 0 < a.length) :
    Ret Tryd.prog gl 29 [iv kind, iv lo, iv hi, .agg (dC a)] (.agg (dC (a ++ [nd0 kind ((a.length : Int) - 1) 0 lo hi]))) := by
  have hm := moved_ret gl a 0 (by omega) h h0
  have hw : IntKind.i64.wrap ((a.length : Int) - 1) = (a.length : Int) - 1 := wrap_i64 (by omega) (by omega)
  have el := ndsC_length a
  refine retc 23 Tryd.func29 (by kernel_rfl) rfl (by kernel_rfl) rfl Tryd.underlying24 (by show _ = some 1; kernel_rfl) (by simp) fun Z hN hX hR => ?_
  simp only [dC]
  repeat (first | ((first | refine Q1 ?_ | refine Q2 ?_); intro Z hN hX hR) | refine Q3 (by kernel_rfl) fun K hK => ?_ | ((first | refine Q4 fun R hJ => ?_ | with_reducible change ExpAll _ _ _); simp only [kS, R1, R2, R3, R4, R5, R6, R7, reduceCtorEq, R9, hw, el]) | (refine hJ _ ?_; clear hJ R) | refine Q5 ?_ | (refine hK _ ?_; clear hK K) | ((first | refine hN _ ?_ | refine hX _ _ ?_ | refine hR _ ?_); clear hN hX hR Z) | refine Q6 rfl ?_ | refine Q7 (by decide) ?_ | (refine Q8 ?_ ?_; focus (simp only [kS, R1, R2, R3, R4, R5, R6, R7, reduceCtorEq, R9, hw, el]; done)) | (refine Q9 ?_ ?_; focus (simp only [kS, R1, R2, R3, R4, R5, R6, R7, reduceCtorEq, R9, hw, el]; done)) | refine Qa ?_ | refine Qb ?_ | refine Qc ?_ | refine And.intro (by first | assumption | omega) ?_)
  refine ⟨_, hm, rfl, ?_⟩
  simp only [kS, R1, R2, R3, R4, R5, R6, R7, reduceCtorEq, R9, hw, el]
  repeat (first | ((first | refine Q1 ?_ | refine Q2 ?_); intro Z hN hX hR) | refine Q3 (by kernel_rfl) fun K hK => ?_ | ((first | refine Q4 fun R hJ => ?_ | with_reducible change ExpAll _ _ _); simp only [kS, R1, R2, R3, R4, R5, R6, R7, reduceCtorEq, R9, hw, el, tk1, tk2, tk3, tk4, tk5, tk6, tk7, tk8, and_false, false_and]) | (refine hJ _ ?_; clear hJ R) | refine Q5 ?_ | (refine hK _ ?_; clear hK K) | ((first | refine hN _ ?_ | refine hX _ _ ?_ | refine hR _ ?_); clear hN hX hR Z) | refine Q6 rfl ?_ | refine Q7 (by decide) ?_ | (refine Q8 ?_ ?_; focus (simp only [kS, R1, R2, R3, R4, R5, R6, R7, reduceCtorEq, R9, hw, el, tk1, tk2, tk3, tk4, tk5, tk6, tk7, tk8, and_false, false_and]; done)) | (refine Q9 ?_ ?_; focus (simp only [kS, R1, R2, R3, R4, R5, R6, R7, reduceCtorEq, R9, hw, el, tk1, tk2, tk3, tk4, tk5, tk6, tk7, tk8, and_false, false_and]; done)) | refine Qa ?_ | refine Qb ?_ | refine Qc ?_ | refine And.intro (by first | assumption | omega) ?_)
  have hd : dC (a ++ [nd0 kind ((a.length : Int) - 1) 0 lo hi]) = [.sl (a.length + 1) (ndsC a ++ (nd0 kind ((a.length : Int) - 1) 0 lo hi).c)] := by
    simp [dC, ndsC]
  all_goals exact ⟨1, by (simp only [kS, R1, R2, R3, R4, R5, R6, R7, reduceCtorEq, R9]) <;> first | omega | rfl, by rw [hd]; simp only [kS, R1, R2, R3, R4, R5, R6, R7, reduceCtorEq, R9, tk1, tk2, tk3, tk4, tk5, tk6, tk7, tk8, and_false, false_and]; rfl⟩

theorem pair_ret (gl : Gl) (kind : Int) (a b : List Nd) (hl : a.length ≤ 1000) (hl2 : b.length ≤ 1000) (h : ∀ n ∈ a, n.k < 4) (h2 : ∀ n ∈ b, n.k < 4) (h0 : 0 < a.length) (h02 : 0 < b.length) :
    Ret Tryd.prog gl 30 [iv kind, .agg (dC a), .agg (dC b)] (.agg (dC (a ++ b ++ [nd0 kind ((a.length : Int) - 1) ((a.length : Int) + b.length - 1) 0 0]))) := by
  have hm := moved_ret gl a 0 (by omega) h h0
  have hm2 := moved_ret gl b a.length (by omega) h2 h02
  have hw : IntKind.i64.wrap ((a.length : Int) - 1) = (a.length : Int) - 1 := wrap_i64 (by omega) (by omega)
  have hw2 : IntKind.i64.wrap ((a.length : Int) + b.length) = (a.length : Int) + b.length := wrap_i64 (by omega) (by omega)
  have hw3 : IntKind.i64.wrap ((a.length : Int) + b.length - 1) = (a.length : Int) + b.length - 1 := wrap_i64 (by omega) (by omega)
  have el := ndsC_length a
  have el2 := ndsC_length b
  have hd : dC (a ++ b ++ [nd0 kind ((a.length : Int) - 1) ((a.length : Int) + b.length - 1) 0 0]) = [.sl (a.length + b.length + 1) (ndsC a ++ ndsC b ++ (nd0 kind ((a.length : Int) - 1) ((a.length : Int) + b.length - 1) 0 0).c)] := by
    simp [dC, ndsC, Nat.add_assoc]
  refine retc 36 Tryd.func30 (by kernel_rfl) rfl (by kernel_rfl) rfl Tryd.underlying24 (by show _ = some 1; kernel_rfl) (by simp) fun Z hN hX hR => ?_
  simp only [dC]
  repeat (first | ((first | refine Q1 ?_ | refine Q2 ?_); intro Z hN hX hR) | refine Q3 (by kernel_rfl) fun K hK => ?_ | ((first | refine Q4 fun R hJ => ?_ | with_reducible change ExpAll _ _ _); simp only [kS, R1, R2, R3, R4, R5, R6, R7, reduceCtorEq, R9, hw, el]) | (refine hJ _ ?_; clear hJ R) | refine Q5 ?_ | (refine hK _ ?_; clear hK K) | ((first | refine hN _ ?_ | refine hX _ _ ?_ | refine hR _ ?_); clear hN hX hR Z) | refine Q6 rfl ?_ | refine Q7 (by decide) ?_ | (refine Q8 ?_ ?_; focus (simp only [kS, R1, R2, R3, R4, R5, R6, R7, reduceCtorEq, R9, hw, el]; done)) | (refine Q9 ?_ ?_; focus (simp only [kS, R1, R2, R3, R4, R5, R6, R7, reduceCtorEq, R9, hw, el]; done)) | refine Qa ?_ | refine Qb ?_ | refine Qc ?_ | refine And.intro (by first | assumption | omega) ?_)
  refine ⟨_, hm, rfl, ?_⟩
  simp only [kS, R1, R2, R3, R4, R5, R6, R7, reduceCtorEq, R9, hw, el]
  repeat (first | ((first | refine Q1 ?_ | refine Q2 ?_); intro Z hN hX hR) | refine Q3 (by kernel_rfl) fun K hK => ?_ | ((first | refine Q4 fun R hJ => ?_ | with_reducible change ExpAll _ _ _); simp only [kS, R1, R2, R3, R4, R5, R6, R7, reduceCtorEq, R9, hw, el, el2, tk1, tk2, tk3, tk4, tk5, tk6, tk7, tk8, and_false, false_and]) | (refine hJ _ ?_; clear hJ R) | refine Q5 ?_ | (refine hK _ ?_; clear hK K) | ((first | refine hN _ ?_ | refine hX _ _ ?_ | refine hR _ ?_); clear hN hX hR Z) | refine Q6 rfl ?_ | refine Q7 (by decide) ?_ | (refine Q8 ?_ ?_; focus (simp only [kS, R1, R2, R3, R4, R5, R6, R7, reduceCtorEq, R9, hw, el, el2, tk1, tk2, tk3, tk4, tk5, tk6, tk7, tk8, and_false, false_and]; done)) | (refine Q9 ?_ ?_; focus (simp only [kS, R1, R2, R3, R4, R5, R6, R7, reduceCtorEq, R9, hw, el, el2, tk1, tk2, tk3, tk4, tk5, tk6, tk7, tk8, and_false, false_and]; done)) | refine Qa ?_ | refine Qb ?_ | refine Qc ?_ | refine And.intro (by first | assumption | omega) ?_)
  refine ⟨_, hm2, rfl, ?_⟩
  simp only [kS, R1, R2, R3, R4, R5, R6, R7, reduceCtorEq, R9, hw, el, el2, tk1, tk2, tk3, tk4, tk5, tk6, tk7, tk8, and_false, false_and]
  repeat (first | ((first | refine Q1 ?_ | refine Q2 ?_); intro Z hN hX hR) | refine Q3 (by kernel_rfl) fun K hK => ?_ | ((first | refine Q4 fun R hJ => ?_ | with_reducible change ExpAll _ _ _); simp only [kS, R1, R2, R3, R4, R5, R6, R7, reduceCtorEq, R9, hw, hw2, hw3, el, el2, tk1, tk2, tk3, tk4, tk5, tk6, tk7, tk8, and_false, false_and]) | (refine hJ _ ?_; clear hJ R) | refine Q5 ?_ | (refine hK _ ?_; clear hK K) | ((first | refine hN _ ?_ | refine hX _ _ ?_ | refine hR _ ?_); clear hN hX hR Z) | refine Q6 rfl ?_ | refine Q7 (by decide) ?_ | (refine Q8 ?_ ?_; focus (simp only [kS, R1, R2, R3, R4, R5, R6, R7, reduceCtorEq, R9, hw, hw2, hw3, el, el2, tk1, tk2, tk3, tk4, tk5, tk6, tk7, tk8, and_false, false_and]; done)) | (refine Q9 ?_ ?_; focus (simp only [kS, R1, R2, R3, R4, R5, R6, R7, reduceCtorEq, R9, hw, hw2, hw3, el, el2, tk1, tk2, tk3, tk4, tk5, tk6, tk7, tk8, and_false, false_and]; done)) | refine Qa ?_ | refine Qb ?_ | refine Qc ?_ | refine And.intro (by first | assumption | omega) ?_)
  all_goals exact ⟨1, by (simp only [kS, R1, R2, R3, R4, R5, R6, R7, reduceCtorEq, R9]) <;> first | omega | rfl, by rw [hd]; simp only [kS, R1, R2, R3, R4, R5, R6, R7, reduceCtorEq, R9, tk1, tk2, tk3, tk4, tk5, tk6, tk7, tk8, and_false, false_and]; rfl⟩

end Go.Proofs.YtilhjiopbbbgmaaDoor

/- Is a description of few nodes? May a text be a node's? -/
namespace Go.Proofs.YtilhjiopbbbgmaaDoor
open Nat renaming reduceSub → R1, reduceMul → R2, reduceLeDiff → R3, reducePow → R4, reduceBEq → R5, reduceAdd → R6, reduceEqDiff → R7
open Int renaming reduceToNat → R9
open Go Go.RowKit Am
set_option linter.unusedVariables false
set_option linter.unusedSimpArgs false
set_option maxHeartbeats 4000000
attribute [local irreducible] AWp AOps

def tsum : List Nd → Nat
  | [] => 0
  | n :: l => n.s.size + tsum l

theorem tsum_mem : ∀ {l : List Nd} {n : Nd}, n ∈ l → n.s.size ≤ tsum l
  | x :: l, n, h => by
    rcases List.mem_cons.1 h with rfl | h
    · simp [tsum]
    · have := tsum_mem h; simp [tsum]; omega

theorem tsum_append : ∀ (a b : List Nd), tsum (a ++ b) = tsum a + tsum b
  | [], b => by simp [tsum]
  | x :: a, b => by simp [tsum, tsum_append a b, Nat.add_assoc]

def fewB (d : List Nd) : Bool := decide ((d.length : Int) ≤ 100) && decide (((tsum (d.take 200) : Nat) : Int) ≤ 2000)

theorem fewB_true {d : List Nd} (h : fewB d = true) : d.length ≤ 100 ∧ ∀ n ∈ d, n.s.size ≤ 2000 := by
  simp only [fewB, Bool.and_eq_true, decide_eq_true_eq] at h
  have : d.length ≤ 100 := by omega
  refine ⟨this, fun n hn => ?_⟩
  rw [List.take_of_length_le (by omega)] at h
  have := tsum_mem hn
  omega

theorem few_ret (gl : Gl) (d : List Nd) (hl : d.length ≤ 140737488355328) (hs : ∀ n ∈ d, n.s.size ≤ 140737488355328) : Ret Tryd.prog gl 9 [.agg (dC d)] (bv (fewB d)) := by
  refine retq (rs := [2]) 33 Tryd.func9 (by kernel_rfl) rfl (by kernel_rfl) rfl (by simp) (by simp) fun Z hN hX hR => ?_
  repeat (first | ((first | refine Q1 ?_ | refine Q2 ?_); intro Z hN hX hR) | refine Q3 (by kernel_rfl) fun K hK => ?_ | ((first | refine Q4 fun R hJ => ?_ | with_reducible change ExpAll _ _ _); simp only [kS, R1, R2, R3, R4, R5, R6, R7, reduceCtorEq, R9]) | (refine hJ _ ?_; clear hJ R) | refine Q5 ?_ | (refine hK _ ?_; clear hK K) | ((first | refine hN _ ?_ | refine hX _ _ ?_ | refine hR _ ?_); clear hN hX hR Z) | refine Q6 rfl ?_ | refine Q7 (by decide) ?_ | (refine Q8 ?_ ?_; focus (simp only [kS, R1, R2, R3, R4, R5, R6, R7, reduceCtorEq, R9]; done)) | (refine Q9 ?_ ?_; focus (simp only [kS, R1, R2, R3, R4, R5, R6, R7, reduceCtorEq, R9]; done)) | refine Qa ?_ | refine Qb ?_ | refine Qc ?_ | refine And.intro (by first | assumption | omega) ?_)
  refine awq_loop (fun c f => ∃ (i : Nat), i ≤ d.length ∧ i ≤ 200 ∧ c = 200 - i ∧ f.t 4 = iv (i : Int) ∧ f.t 3 = iv ((tsum (d.take i) : Nat) : Int) ∧ tsum (d.take i) ≤ i * 140737488355328 ∧ f.t 1 = .ref 1 1 0 ∧ f.ob 1 1 = .box (dC d) ∧ 1 < f.k) 200 ?_ ?_
  · exact ⟨0, by omega, by omega, rfl, by simp only [kS, R1, R2, R3, R4, R5, R6, R7, reduceCtorEq, R9]; rfl, by simp only [kS, R1, R2, R3, R4, R5, R6, R7, reduceCtorEq, R9]; rfl, by simp [tsum], by simp only [kS, R1, R2, R3, R4, R5, R6, R7, reduceCtorEq, R9], by simp only [kS, R1, R2, R3, R4, R5, R6, R7, reduceCtorEq, R9], by (simp only [kS, R1, R2, R3, R4, R5, R6, R7, reduceCtorEq, R9]) <;> first | omega | rfl⟩
  rintro Z c f hN hX hR ⟨i, hi, h200, rfl, h4, h3, hb0, h1, hb, hk⟩
  simp only [dC] at hb
  by_cases hlt : i < d.length
  · by_cases h2 : i < 200
    · have e := ndsC_drop d i hlt
      have el := ndsC_length d
      have h2' : (i : Int) < 200 := by omega
      have hsz := hs _ (List.getElem_mem hlt)
      have ht : tsum (d.take (i + 1)) = tsum (d.take i) + d[i].s.size := by
        rw [List.take_succ_eq_append_getElem hlt, tsum_append]; simp [tsum]
      have hw : IntKind.i64.wrap ((tsum (d.take i) : Nat) + (d[i].s.size : Int)) = (tsum (d.take i) : Nat) + (d[i].s.size : Int) := wrap_i64 (by omega) (by omega)
      repeat (first | ((first | refine Q1 ?_ | refine Q2 ?_); intro Z hN hX hR) | refine Q3 (by kernel_rfl) fun K hK => ?_ | ((first | refine Q4 fun R hJ => ?_ | with_reducible change ExpAll _ _ _); simp only [kS, R1, R2, R3, R4, R5, R6, R7, reduceCtorEq, R9, h4, h3, h1, hb, hlt, h2', e, el, hw, decide_true]) | (refine hJ _ ?_; clear hJ R) | refine Q5 ?_ | (refine hK _ ?_; clear hK K) | ((first | refine hN _ ?_ | refine hX _ _ ?_ | refine hR _ ?_); clear hN hX hR Z) | refine Q6 rfl ?_ | refine Q7 (by decide) ?_ | (refine Q8 ?_ ?_; focus (simp only [kS, R1, R2, R3, R4, R5, R6, R7, reduceCtorEq, R9, h4, h3, h1, hb, hlt, h2', e, el, hw, decide_true]; done)) | (refine Q9 ?_ ?_; focus (simp only [kS, R1, R2, R3, R4, R5, R6, R7, reduceCtorEq, R9, h4, h3, h1, hb, hlt, h2', e, el, hw, decide_true]; done)) | refine Qa ?_ | refine Qb ?_ | refine Qc ?_ | refine And.intro (by first | assumption | omega) ?_)
      refine ⟨200 - (i + 1), by omega, i + 1, by omega, by omega, rfl, ?_, ?_, by omega, by simp only [kS, R1, R2, R3, R4, R5, R6, R7, reduceCtorEq, R9, h1], by simp only [kS, R1, R2, R3, R4, R5, R6, R7, reduceCtorEq, R9, hb]; rfl, by (simp only [kS, R1, R2, R3, R4, R5, R6, R7, reduceCtorEq, R9]) <;> first | omega | rfl⟩
      · simp only [kS, R1, R2, R3, R4, R5, R6, R7, reduceCtorEq, R9]
        rw [wrap_i64 (by omega) (by omega)]; rfl
      · simp only [kS, R1, R2, R3, R4, R5, R6, R7, reduceCtorEq, R9]
        rw [ht]; rfl
    · have h2' : ¬ (i : Int) < 200 := by omega
      have e200 : i = 200 := by omega
      have ht : tsum (d.take i) = tsum (d.take 200) := by rw [e200]
      cases q : decide ((d.length : Int) ≤ 100)
      · repeat (first | ((first | refine Q1 ?_ | refine Q2 ?_); intro Z hN hX hR) | refine Q3 (by kernel_rfl) fun K hK => ?_ | ((first | refine Q4 fun R hJ => ?_ | with_reducible change ExpAll _ _ _); simp only [kS, R1, R2, R3, R4, R5, R6, R7, reduceCtorEq, R9, h4, h3, h1, hb, hlt, h2', decide_true, decide_false, q]) | (refine hJ _ ?_; clear hJ R) | refine Q5 ?_ | (refine hK _ ?_; clear hK K) | ((first | refine hN _ ?_ | refine hX _ _ ?_ | refine hR _ ?_); clear hN hX hR Z) | refine Q6 rfl ?_ | refine Q7 (by decide) ?_ | (refine Q8 ?_ ?_; focus (simp only [kS, R1, R2, R3, R4, R5, R6, R7, reduceCtorEq, R9, h4, h3, h1, hb, hlt, h2', decide_true, decide_false, q]; done)) | (refine Q9 ?_ ?_; focus (simp only [kS, R1, R2, R3, R4, R5, R6, R7, reduceCtorEq, R9, h4, h3, h1, hb, hlt, h2', decide_true, decide_false, q]; done)) | refine Qa ?_ | refine Qb ?_ | refine Qc ?_ | refine And.intro (by first | assumption | omega) ?_)
        simp only [fewB, q, Bool.false_and]
      · repeat (first | ((first | refine Q1 ?_ | refine Q2 ?_); intro Z hN hX hR) | refine Q3 (by kernel_rfl) fun K hK => ?_ | ((first | refine Q4 fun R hJ => ?_ | with_reducible change ExpAll _ _ _); simp only [kS, R1, R2, R3, R4, R5, R6, R7, reduceCtorEq, R9, h4, h3, h1, hb, hlt, h2', decide_true, decide_false, q]) | (refine hJ _ ?_; clear hJ R) | refine Q5 ?_ | (refine hK _ ?_; clear hK K) | ((first | refine hN _ ?_ | refine hX _ _ ?_ | refine hR _ ?_); clear hN hX hR Z) | refine Q6 rfl ?_ | refine Q7 (by decide) ?_ | (refine Q8 ?_ ?_; focus (simp only [kS, R1, R2, R3, R4, R5, R6, R7, reduceCtorEq, R9, h4, h3, h1, hb, hlt, h2', decide_true, decide_false, q]; done)) | (refine Q9 ?_ ?_; focus (simp only [kS, R1, R2, R3, R4, R5, R6, R7, reduceCtorEq, R9, h4, h3, h1, hb, hlt, h2', decide_true, decide_false, q]; done)) | refine Qa ?_ | refine Qb ?_ | refine Qc ?_ | refine And.intro (by first | assumption | omega) ?_)
        simp only [fewB, q, Bool.true_and, ← ht]
  · have ht : tsum (d.take i) = tsum (d.take 200) := by rw [List.take_of_length_le (by omega), List.take_of_length_le (by omega)]
    cases q : decide ((d.length : Int) ≤ 100)
    · repeat (first | ((first | refine Q1 ?_ | refine Q2 ?_); intro Z hN hX hR) | refine Q3 (by kernel_rfl) fun K hK => ?_ | ((first | refine Q4 fun R hJ => ?_ | with_reducible change ExpAll _ _ _); simp only [kS, R1, R2, R3, R4, R5, R6, R7, reduceCtorEq, R9, h4, h3, h1, hb, hlt, decide_true, decide_false, q]) | (refine hJ _ ?_; clear hJ R) | refine Q5 ?_ | (refine hK _ ?_; clear hK K) | ((first | refine hN _ ?_ | refine hX _ _ ?_ | refine hR _ ?_); clear hN hX hR Z) | refine Q6 rfl ?_ | refine Q7 (by decide) ?_ | (refine Q8 ?_ ?_; focus (simp only [kS, R1, R2, R3, R4, R5, R6, R7, reduceCtorEq, R9, h4, h3, h1, hb, hlt, decide_true, decide_false, q]; done)) | (refine Q9 ?_ ?_; focus (simp only [kS, R1, R2, R3, R4, R5, R6, R7, reduceCtorEq, R9, h4, h3, h1, hb, hlt, decide_true, decide_false, q]; done)) | refine Qa ?_ | refine Qb ?_ | refine Qc ?_ | refine And.intro (by first | assumption | omega) ?_)
      simp only [fewB, q, Bool.false_and]
    · repeat (first | ((first | refine Q1 ?_ | refine Q2 ?_); intro Z hN hX hR) | refine Q3 (by kernel_rfl) fun K hK => ?_ | ((first | refine Q4 fun R hJ => ?_ | with_reducible change ExpAll _ _ _); simp only [kS, R1, R2, R3, R4, R5, R6, R7, reduceCtorEq, R9, h4, h3, h1, hb, hlt, decide_true, decide_false, q]) | (refine hJ _ ?_; clear hJ R) | refine Q5 ?_ | (refine hK _ ?_; clear hK K) | ((first | refine hN _ ?_ | refine hX _ _ ?_ | refine hR _ ?_); clear hN hX hR Z) | refine Q6 rfl ?_ | refine Q7 (by decide) ?_ | (refine Q8 ?_ ?_; focus (simp only [kS, R1, R2, R3, R4, R5, R6, R7, reduceCtorEq, R9, h4, h3, h1, hb, hlt, decide_true, decide_false, q]; done)) | (refine Q9 ?_ ?_; focus (simp only [kS, R1, R2, R3, R4, R5, R6, R7, reduceCtorEq, R9, h4, h3, h1, hb, hlt, decide_true, decide_false, q]; done)) | refine Qa ?_ | refine Qb ?_ | refine Qc ?_ | refine And.intro (by first | assumption | omega) ?_)
      simp only [fewB, q, Bool.true_and, ← ht]

end Go.Proofs.YtilhjiopbbbgmaaDoor

/- What a state that fits is good for: its heads, what it opens to. -/
namespace Go.Proofs.YtilhjiopbbbgmaaDoor
open Go Go.RowKit Am
set_option linter.unusedVariables false
set_option linter.unusedSimpArgs false
set_option maxHeartbeats 4000000
attribute [local irreducible] AWp AOps

theorem okSt_okJ {d : List Nd} {s : List It} (h : okSt d s = true) : okJ s := by
  intro x hx
  have hx' := List.all_eq_true.1 h x hx
  simp only [okIt] at hx'
  split at hx'
  · rename_i h5
    simp only [Bool.and_eq_true, beq_iff_eq, decide_eq_true_eq] at hx' h5
    omega
  · split at hx'
    · cases hx'
    · split at hx'
      · rename_i h5
        simp only [Bool.and_eq_true, beq_iff_eq] at hx' h5
        omega
      · split at hx'
        · rename_i h5
          simp only [Bool.and_eq_true, beq_iff_eq, decide_eq_true_eq] at hx' h5
          omega
        · split at hx'
          · rename_i h5
            simp only [Bool.and_eq_true, beq_iff_eq, decide_eq_true_eq] at hx' h5
            omega
          · split at hx'
            · rename_i h5
              simp only [Bool.and_eq_true, beq_iff_eq, decide_eq_true_eq] at hx' h5
              omega
            · cases hx'

/-- What a state that fits is good for. -/
structure Fit14 (d : List Nd) (s : List It) : Prop where
  wf : WFd d
  gd : gd d s
  okJ : okJ s
  len : s.length ≤ 8
  deep : deep d 1500 s
  cnt : cnt d 1500 s ≤ 1500
  lv : (leaves d 1500 s).length ≤ 1500

theorem fit14 {d : List Nd} {s : List It} (hd : WFd d) (hf : ∀ n ∈ d, n.s.size ≤ 1000000) (h : fitsB d s = true) : Fit14 d s := by
  simp only [fitsB, Bool.and_eq_true, decide_eq_true_eq] at h
  obtain ⟨h1, h2, h3, h4⟩ := h
  have hs := steps_deep d 1500 s 1500 (by omega) (by omega) h4
  have hc := steps_cnt d 1500 s 1500 (by omega) (by omega) h4
  exact ⟨hd, okSt_gd hd hf h3, okSt_okJ h3, by omega, hs.1, by omega, by omega⟩

section
variable {d : List Nd} {s : List It}
theorem Fit14.heads (F : Fit14 d s) : Ret Tryd.prog glD 15 [.agg (dC d), .c (stC s)] (.c (brC (headsS d 1500 s))) :=
  heads15_ret d F.wf 1500 s F.deep F.gd F.okJ (by have := F.len; omega) (by have := F.cnt; omega) (by have := F.lv; omega)
theorem Fit14.headsR (F : Fit14 d s) (gl : Gl) : Ret Tryd.prog gl 16 [.agg (dC d), .c (stC s)] (.c (brC (headsS d 1500 s))) :=
  headsR_ret gl d F.wf 1500 s F.deep F.gd (by have := F.len; omega) (by have := F.lv; omega)
theorem Fit14.ok (F : Fit14 d s) : OkL (headsS d 1500 s) 1500 := by
  have h := addL_ok (leaves d 1500 s) (l := []) (n := 0) ⟨fun x hx => (by cases hx), fun x hx => (by cases hx), Nat.le_refl _⟩ fun t ht => by
    have := (leaves_len F.wf 1500 s F.gd t ht).2
    have := F.len
    omega
  exact ⟨h.short, h.many, by have := h.len; have := F.lv; simp only [headsS]; omega⟩
theorem Fit14.open_ (F : Fit14 d s) (gl : Gl) (hr : rdy d s = false) : Ret Tryd.prog gl 17 [.agg (dC d), .c (stC s)] (.c (ssS (openS d s))) := by
  obtain ⟨x, t, rfl⟩ := rdy_false hr
  exact open17_ret gl d F.wf x t (F.gd x (by simp)) (F.okJ x (by simp)).1 hr (by have := F.len; simp at this; omega)
theorem Fit14.openR (F : Fit14 d s) (gl : Gl) (hr : rdy d s = false) : Ret Tryd.prog gl 18 [.agg (dC d), .c (stC s)] (.c (ssS (openS d s))) :=
  open_ret' gl d s F.gd hr (by have := F.len; omega)
end

end Go.Proofs.YtilhjiopbbbgmaaDoor

/- The laws of heads are awake: the answers that the document fixes are given. -/
namespace Go.Proofs.YtilhjiopbbbgmaaDoor
open Nat renaming reduceSub → R1, reduceMul → R2, reduceLeDiff → R3, reducePow → R4, reduceBEq → R5, reduceAdd → R6, reduceEqDiff → R7
open Int renaming reduceToNat → R9
open Go Go.RowKit Am
set_option linter.unusedVariables false
set_option linter.unusedSimpArgs false
set_option maxHeartbeats 4000000
attribute [local irreducible] AWp AOps

theorem start_ret (gl : Gl) (d : List Nd) (hl : d.length ≤ 1000000) : Ret Tryd.prog gl 31 [.agg (dC d)] (.c (stC [⟨1, (d.length : Int) - 1, 0, 0⟩])) := by
  refine retq (rs := [2]) 9 Tryd.func31 (by kernel_rfl) rfl (by kernel_rfl) rfl (by simp) (by simp) fun Z hN hX hR => ?_
  have hw : IntKind.i64.wrap ((d.length : Int) - 1) = (d.length : Int) - 1 := wrap_i64 (by omega) (by omega)
  repeat (first | ((first | refine Q1 ?_ | refine Q2 ?_); intro Z hN hX hR) | refine Q3 (by kernel_rfl) fun K hK => ?_ | ((first | refine Q4 fun R hJ => ?_ | with_reducible change ExpAll _ _ _); simp only [kS, R1, R2, R3, R4, R5, R6, R7, reduceCtorEq, R9, dC, hw]) | (refine hJ _ ?_; clear hJ R) | refine Q5 ?_ | (refine hK _ ?_; clear hK K) | ((first | refine hN _ ?_ | refine hX _ _ ?_ | refine hR _ ?_); clear hN hX hR Z) | refine Q6 rfl ?_ | refine Q7 (by decide) ?_ | (refine Q8 ?_ ?_; focus (simp only [kS, R1, R2, R3, R4, R5, R6, R7, reduceCtorEq, R9, dC, hw]; done)) | (refine Q9 ?_ ?_; focus (simp only [kS, R1, R2, R3, R4, R5, R6, R7, reduceCtorEq, R9, dC, hw]; done)) | refine Qa ?_ | refine Qb ?_ | refine Qc ?_ | refine And.intro (by first | assumption | omega) ?_)
  all_goals exact .inl rfl

abbrev bD : List Nd := [nd0 2 0 0 0 0]
abbrev eD : List Nd := [nd0 1 0 0 0 0]
abbrev sD : List Nd := [nd0 2 0 0 0 0, nd0 6 0 0 0 0]
abbrev twoD : List Nd := [nd0 1 0 0 0 0, nd0 1 0 0 0 0, nd0 5 0 1 0 0]

theorem okNd_dec (d : List Nd) (n : Nd) : okNd d n ↔ (1 ≤ n.k ∧ n.k ≤ 9 ∧ 0 ≤ n.a ∧ n.a < d.length ∧ 0 ≤ n.b ∧ n.b < d.length ∧ 0 ≤ n.lo ∧ n.lo ≤ n.hi ∧ n.hi ≤ 255 ∧ (n.k = 3 → 0 < n.s.size)) := Iff.rfl

theorem wf_s : WFd sD := by
  refine ⟨by decide, by decide, fun n hn => ?_⟩
  simp only [sD, List.mem_cons, List.not_mem_nil, or_false] at hn
  rcases hn with rfl | rfl <;> simp [okNd]
theorem wf_two : WFd twoD := by
  refine ⟨by decide, by decide, fun n hn => ?_⟩
  simp only [twoD, List.mem_cons, List.not_mem_nil, or_false] at hn
  rcases hn with rfl | rfl | rfl <;> simp [okNd]
theorem wf_b : WFd bD := by
  refine ⟨by decide, by decide, fun n hn => ?_⟩
  simp only [bD, List.mem_cons, List.not_mem_nil, or_false] at hn
  rcases hn with rfl; simp [okNd]

theorem gd_start {d : List Nd} (h : 0 < d.length) : gd d [⟨1, (d.length : Int) - 1, 0, 0⟩] := by
  intro x hx
  simp only [List.mem_singleton] at hx
  subst hx
  exact ⟨⟨by simp only; omega, by simp only; omega⟩, by simp, by simp, by simp⟩
theorem okJ_start (n : Int) : okJ [⟨1, n, 0, 0⟩] := by
  intro x hx
  simp only [List.mem_singleton] at hx
  subst hx
  exact ⟨by simp, by simp⟩

theorem lit0 : ((0 : Nat) : Int) = 0 := rfl
theorem lit1 : ((1 : Nat) : Int) = 1 := rfl
theorem lit2 : ((2 : Nat) : Int) = 2 := rfl

theorem awake14_ret : Ret Tryd.prog glD 8 [] (bv true) := by
  have hwr : Ret Tryd.prog glD 29 [iv 6, iv 0, iv 0, .agg (dC bD)] (.agg (dC sD)) := wrap_ret glD 6 0 0 bD (by decide) (by simp) (by decide)
  have hpr : Ret Tryd.prog glD 30 [iv 5, .agg (dC eD), .agg (dC eD)] (.agg (dC twoD)) := pair_ret glD 5 eD eD (by decide) (by decide) (by simp) (by simp) (by decide) (by decide)
  have hst1 : Ret Tryd.prog glD 31 [.agg (dC sD)] (.c (stC [⟨1, 1, 0, 0⟩])) := start_ret glD sD (by decide)
  have hst2 : Ret Tryd.prog glD 31 [.agg (dC twoD)] (.c (stC [⟨1, 2, 0, 0⟩])) := start_ret glD twoD (by decide)
  have hst3 : Ret Tryd.prog glD 31 [.agg (dC bD)] (.c (stC [⟨1, 0, 0, 0⟩])) := start_ret glD bD (by decide)
  have e1 : headsS sD 2 [⟨1, 1, 0, 0⟩] = [⟨[], 1⟩, ⟨[⟨1, 0, 0, 0⟩, ⟨1, 1, 0, 0⟩], 1⟩] := by decide
  have e2 : headsS twoD 3 [⟨1, 2, 0, 0⟩] = [⟨[], 2⟩] := by decide
  have e3 : openS sD [⟨1, 1, 0, 0⟩] = [[], [⟨1, 0, 0, 0⟩, ⟨1, 1, 0, 0⟩]] := by decide
  have hh1 := heads15_ret sD wf_s 2 [⟨1, 1, 0, 0⟩] (by simp [deep, rdy, e3, nd]) (gd_start (d := sD) (by decide)) (okJ_start 1) (by decide) (by decide) (by decide)
  have hh2 := heads15_ret twoD wf_two 3 [⟨1, 2, 0, 0⟩] (by simp [deep, rdy, openS, nd]) (gd_start (d := twoD) (by decide)) (okJ_start 2) (by decide) (by decide) (by decide)
  rw [e1] at hh1
  rw [e2] at hh2
  have ho := open17_ret glD sD wf_s ⟨1, 1, 0, 0⟩ [] (gd_start (d := sD) (by decide) _ (by simp)) (by simp) (by decide) (by decide)
  rw [e3] at ho
  have hdead := open17_ret glD sD wf_s ⟨5, 0, 1, 0⟩ [] ⟨⟨by simp, by simp⟩, by simp, by simp, by simp⟩ (by simp) (by decide) (by decide)
  have e4 : openS sD [⟨5, 0, 1, 0⟩] = [] := by decide
  rw [e4] at hdead
  have hsame := same13_ret glD [⟨1, 0, 0, 0⟩, ⟨1, 1, 0, 0⟩] [⟨1, 0, 0, 0⟩, ⟨1, 1, 0, 0⟩] (by decide) (by decide)
  have hr1 := ready12_ret glD rfl sD wf_s [] (by simp)
  have hr2 := ready12_ret glD rfl sD wf_s [⟨1, 1, 0, 0⟩] (gd_inR (gd_start (d := sD) (by decide)))
  have hr3 := ready12_ret glD rfl bD wf_b [⟨1, 0, 0, 0⟩] (gd_inR (gd_start (d := bD) (by decide)))
  have hh1 : Ret Tryd.prog glD 15 [.agg (dC sD), .c (.sl 1 [.v (.int .i64 1), .v (.int .i64 1), .v (.int .i64 0), .v (.int .i64 0)])] (.c (.sl 2 [.sl 0 [], .v (.int .i64 1), .sl 2 [.v (.int .i64 1), .v (.int .i64 0), .v (.int .i64 0), .v (.int .i64 0), .v (.int .i64 1), .v (.int .i64 1), .v (.int .i64 0), .v (.int .i64 0)], .v (.int .i64 1)])) := hh1
  have hh2 : Ret Tryd.prog glD 15 [.agg (dC twoD), .c (.sl 1 [.v (.int .i64 1), .v (.int .i64 2), .v (.int .i64 0), .v (.int .i64 0)])] (.c (.sl 1 [.sl 0 [], .v (.int .i64 2)])) := hh2
  have ho : Ret Tryd.prog glD 17 [.agg (dC sD), .c (.sl 1 [.v (.int .i64 1), .v (.int .i64 1), .v (.int .i64 0), .v (.int .i64 0)])] (.c (.sl 2 [.sl 0 [], .sl 2 [.v (.int .i64 1), .v (.int .i64 0), .v (.int .i64 0), .v (.int .i64 0), .v (.int .i64 1), .v (.int .i64 1), .v (.int .i64 0), .v (.int .i64 0)]])) := ho
  have hdead : Ret Tryd.prog glD 17 [.agg (dC sD), .c (.sl 1 [.v (.int .i64 5), .v (.int .i64 0), .v (.int .i64 1), .v (.int .i64 0)])] (.c (.sl 0 [])) := hdead
  have hsame : Ret Tryd.prog glD 19 [.c (.sl 2 [.v (.int .i64 1), .v (.int .i64 0), .v (.int .i64 0), .v (.int .i64 0), .v (.int .i64 1), .v (.int .i64 1), .v (.int .i64 0), .v (.int .i64 0)]), .c (.sl 2 [.v (.int .i64 1), .v (.int .i64 0), .v (.int .i64 0), .v (.int .i64 0), .v (.int .i64 1), .v (.int .i64 1), .v (.int .i64 0), .v (.int .i64 0)])] (bv true) := hsame
  have hr1 : Ret Tryd.prog glD 12 [.agg (dC sD), .c (.sl 0 [])] (bv true) := hr1
  have hr2 : Ret Tryd.prog glD 12 [.agg (dC sD), .c (.sl 1 [.v (.int .i64 1), .v (.int .i64 1), .v (.int .i64 0), .v (.int .i64 0)])] (bv false) := hr2
  have hr3 : Ret Tryd.prog glD 12 [.agg (dC bD), .c (.sl 1 [.v (.int .i64 1), .v (.int .i64 0), .v (.int .i64 0), .v (.int .i64 0)])] (bv true) := hr3
  have hst1 : Ret Tryd.prog glD 31 [.agg (dC sD)] (.c (.sl 1 [.v (.int .i64 1), .v (.int .i64 1), .v (.int .i64 0), .v (.int .i64 0)])) := hst1
  have hst2 : Ret Tryd.prog glD 31 [.agg (dC twoD)] (.c (.sl 1 [.v (.int .i64 1), .v (.int .i64 2), .v (.int .i64 0), .v (.int .i64 0)])) := hst2
  have hst3 : Ret Tryd.prog glD 31 [.agg (dC bD)] (.c (.sl 1 [.v (.int .i64 1), .v (.int .i64 0), .v (.int .i64 0), .v (.int .i64 0)])) := hst3
  clear e1 e2 e3 e4
  refine retq (rs := [0]) 126 Tryd.func8 (by kernel_rfl) rfl (by kernel_rfl) rfl (by simp) (by simp) fun Z hN hX hR => ?_
  repeat (first | ((first | refine Q1 ?_ | refine Q2 ?_); intro Z hN hX hR) | refine Q3 (by kernel_rfl) fun K hK => ?_ | ((first | refine Q4 fun R hJ => ?_ | with_reducible change ExpAll _ _ _); simp only [kS, R1, R2, R3, R4, R5, R6, R7, reduceCtorEq, R9, lit0, lit1, lit2, tk1, tk2, tk3, tk4, tk5, tk6, tk7, tk8, and_false, false_and, dC_length, dC_take, Int.reduceBEq, Int.reduceBNe, bne_self_eq_false, Bool.not_false, Bool.not_true, Bool.and_self, Int.reduceLT, Int.reduceLE, List.drop_succ_cons]) | (refine hJ _ ?_; clear hJ R) | refine Q5 ?_ | (refine hK _ ?_; clear hK K) | ((first | refine hN _ ?_ | refine hX _ _ ?_ | refine hR _ ?_); clear hN hX hR Z) | refine Q6 rfl ?_ | refine Q7 (by decide) ?_ | (refine Q8 ?_ ?_; focus (simp only [kS, R1, R2, R3, R4, R5, R6, R7, reduceCtorEq, R9, lit0, lit1, lit2, tk1, tk2, tk3, tk4, tk5, tk6, tk7, tk8, and_false, false_and, dC_length, dC_take, Int.reduceBEq, Int.reduceBNe, bne_self_eq_false, Bool.not_false, Bool.not_true, Bool.and_self, Int.reduceLT, Int.reduceLE, List.drop_succ_cons]; done)) | (refine Q9 ?_ ?_; focus (simp only [kS, R1, R2, R3, R4, R5, R6, R7, reduceCtorEq, R9, lit0, lit1, lit2, tk1, tk2, tk3, tk4, tk5, tk6, tk7, tk8, and_false, false_and, dC_length, dC_take, Int.reduceBEq, Int.reduceBNe, bne_self_eq_false, Bool.not_false, Bool.not_true, Bool.and_self, Int.reduceLT, Int.reduceLE, List.drop_succ_cons]; done)) | refine Qa ?_ | refine Qb ?_ | refine Qc ?_ | refine And.intro (by first | assumption | omega) ?_)
  refine ⟨_, hwr, rfl, ?_⟩
  try simp only [kS, R1, R2, R3, R4, R5, R6, R7, reduceCtorEq, R9, lit0, lit1, lit2, tk1, tk2, tk3, tk4, tk5, tk6, tk7, tk8, and_false, false_and, dC_length, dC_take, Int.reduceBEq, Int.reduceBNe, bne_self_eq_false, Bool.not_false, Bool.not_true, Bool.and_self, Int.reduceLT, Int.reduceLE, List.drop_succ_cons]
  repeat (first | ((first | refine Q1 ?_ | refine Q2 ?_); intro Z hN hX hR) | refine Q3 (by kernel_rfl) fun K hK => ?_ | ((first | refine Q4 fun R hJ => ?_ | with_reducible change ExpAll _ _ _); simp only [kS, R1, R2, R3, R4, R5, R6, R7, reduceCtorEq, R9, lit0, lit1, lit2, tk1, tk2, tk3, tk4, tk5, tk6, tk7, tk8, and_false, false_and, dC_length, dC_take, Int.reduceBEq, Int.reduceBNe, bne_self_eq_false, Bool.not_false, Bool.not_true, Bool.and_self, Int.reduceLT, Int.reduceLE, List.drop_succ_cons]) | (refine hJ _ ?_; clear hJ R) | refine Q5 ?_ | (refine hK _ ?_; clear hK K) | ((first | refine hN _ ?_ | refine hX _ _ ?_ | refine hR _ ?_); clear hN hX hR Z) | refine Q6 rfl ?_ | refine Q7 (by decide) ?_ | (refine Q8 ?_ ?_; focus (simp only [kS, R1, R2, R3, R4, R5, R6, R7, reduceCtorEq, R9, lit0, lit1, lit2, tk1, tk2, tk3, tk4, tk5, tk6, tk7, tk8, and_false, false_and, dC_length, dC_take, Int.reduceBEq, Int.reduceBNe, bne_self_eq_false, Bool.not_false, Bool.not_true, Bool.and_self, Int.reduceLT, Int.reduceLE, List.drop_succ_cons]; done)) | (refine Q9 ?_ ?_; focus (simp only [kS, R1, R2, R3, R4, R5, R6, R7, reduceCtorEq, R9, lit0, lit1, lit2, tk1, tk2, tk3, tk4, tk5, tk6, tk7, tk8, and_false, false_and, dC_length, dC_take, Int.reduceBEq, Int.reduceBNe, bne_self_eq_false, Bool.not_false, Bool.not_true, Bool.and_self, Int.reduceLT, Int.reduceLE, List.drop_succ_cons]; done)) | refine Qa ?_ | refine Qb ?_ | refine Qc ?_ | refine And.intro (by first | assumption | omega) ?_)
  refine ⟨_, hpr, rfl, ?_⟩
  try simp only [kS, R1, R2, R3, R4, R5, R6, R7, reduceCtorEq, R9, lit0, lit1, lit2, tk1, tk2, tk3, tk4, tk5, tk6, tk7, tk8, and_false, false_and, dC_length, dC_take, Int.reduceBEq, Int.reduceBNe, bne_self_eq_false, Bool.not_false, Bool.not_true, Bool.and_self, Int.reduceLT, Int.reduceLE, List.drop_succ_cons]
  repeat (first | ((first | refine Q1 ?_ | refine Q2 ?_); intro Z hN hX hR) | refine Q3 (by kernel_rfl) fun K hK => ?_ | ((first | refine Q4 fun R hJ => ?_ | with_reducible change ExpAll _ _ _); simp only [kS, R1, R2, R3, R4, R5, R6, R7, reduceCtorEq, R9, lit0, lit1, lit2, tk1, tk2, tk3, tk4, tk5, tk6, tk7, tk8, and_false, false_and, dC_length, dC_take, Int.reduceBEq, Int.reduceBNe, bne_self_eq_false, Bool.not_false, Bool.not_true, Bool.and_self, Int.reduceLT, Int.reduceLE, List.drop_succ_cons]) | (refine hJ _ ?_; clear hJ R) | refine Q5 ?_ | (refine hK _ ?_; clear hK K) | ((first | refine hN _ ?_ | refine hX _ _ ?_ | refine hR _ ?_); clear hN hX hR Z) | refine Q6 rfl ?_ | refine Q7 (by decide) ?_ | (refine Q8 ?_ ?_; focus (simp only [kS, R1, R2, R3, R4, R5, R6, R7, reduceCtorEq, R9, lit0, lit1, lit2, tk1, tk2, tk3, tk4, tk5, tk6, tk7, tk8, and_false, false_and, dC_length, dC_take, Int.reduceBEq, Int.reduceBNe, bne_self_eq_false, Bool.not_false, Bool.not_true, Bool.and_self, Int.reduceLT, Int.reduceLE, List.drop_succ_cons]; done)) | (refine Q9 ?_ ?_; focus (simp only [kS, R1, R2, R3, R4, R5, R6, R7, reduceCtorEq, R9, lit0, lit1, lit2, tk1, tk2, tk3, tk4, tk5, tk6, tk7, tk8, and_false, false_and, dC_length, dC_take, Int.reduceBEq, Int.reduceBNe, bne_self_eq_false, Bool.not_false, Bool.not_true, Bool.and_self, Int.reduceLT, Int.reduceLE, List.drop_succ_cons]; done)) | refine Qa ?_ | refine Qb ?_ | refine Qc ?_ | refine And.intro (by first | assumption | omega) ?_)
  refine ⟨_, hst1, rfl, ?_⟩
  try simp only [kS, R1, R2, R3, R4, R5, R6, R7, reduceCtorEq, R9, lit0, lit1, lit2, tk1, tk2, tk3, tk4, tk5, tk6, tk7, tk8, and_false, false_and, dC_length, dC_take, Int.reduceBEq, Int.reduceBNe, bne_self_eq_false, Bool.not_false, Bool.not_true, Bool.and_self, Int.reduceLT, Int.reduceLE, List.drop_succ_cons]
  repeat (first | ((first | refine Q1 ?_ | refine Q2 ?_); intro Z hN hX hR) | refine Q3 (by kernel_rfl) fun K hK => ?_ | ((first | refine Q4 fun R hJ => ?_ | with_reducible change ExpAll _ _ _); simp only [kS, R1, R2, R3, R4, R5, R6, R7, reduceCtorEq, R9, lit0, lit1, lit2, tk1, tk2, tk3, tk4, tk5, tk6, tk7, tk8, and_false, false_and, dC_length, dC_take, Int.reduceBEq, Int.reduceBNe, bne_self_eq_false, Bool.not_false, Bool.not_true, Bool.and_self, Int.reduceLT, Int.reduceLE, List.drop_succ_cons]) | (refine hJ _ ?_; clear hJ R) | refine Q5 ?_ | (refine hK _ ?_; clear hK K) | ((first | refine hN _ ?_ | refine hX _ _ ?_ | refine hR _ ?_); clear hN hX hR Z) | refine Q6 rfl ?_ | refine Q7 (by decide) ?_ | (refine Q8 ?_ ?_; focus (simp only [kS, R1, R2, R3, R4, R5, R6, R7, reduceCtorEq, R9, lit0, lit1, lit2, tk1, tk2, tk3, tk4, tk5, tk6, tk7, tk8, and_false, false_and, dC_length, dC_take, Int.reduceBEq, Int.reduceBNe, bne_self_eq_false, Bool.not_false, Bool.not_true, Bool.and_self, Int.reduceLT, Int.reduceLE, List.drop_succ_cons]; done)) | (refine Q9 ?_ ?_; focus (simp only [kS, R1, R2, R3, R4, R5, R6, R7, reduceCtorEq, R9, lit0, lit1, lit2, tk1, tk2, tk3, tk4, tk5, tk6, tk7, tk8, and_false, false_and, dC_length, dC_take, Int.reduceBEq, Int.reduceBNe, bne_self_eq_false, Bool.not_false, Bool.not_true, Bool.and_self, Int.reduceLT, Int.reduceLE, List.drop_succ_cons]; done)) | refine Qa ?_ | refine Qb ?_ | refine Qc ?_ | refine And.intro (by first | assumption | omega) ?_)
  refine ⟨_, hh1, rfl, ?_⟩
  try simp only [kS, R1, R2, R3, R4, R5, R6, R7, reduceCtorEq, R9, lit0, lit1, lit2, tk1, tk2, tk3, tk4, tk5, tk6, tk7, tk8, and_false, false_and, dC_length, dC_take, Int.reduceBEq, Int.reduceBNe, bne_self_eq_false, Bool.not_false, Bool.not_true, Bool.and_self, Int.reduceLT, Int.reduceLE, List.drop_succ_cons]
  repeat (first | ((first | refine Q1 ?_ | refine Q2 ?_); intro Z hN hX hR) | refine Q3 (by kernel_rfl) fun K hK => ?_ | ((first | refine Q4 fun R hJ => ?_ | with_reducible change ExpAll _ _ _); simp only [kS, R1, R2, R3, R4, R5, R6, R7, reduceCtorEq, R9, lit0, lit1, lit2, tk1, tk2, tk3, tk4, tk5, tk6, tk7, tk8, and_false, false_and, dC_length, dC_take, Int.reduceBEq, Int.reduceBNe, bne_self_eq_false, Bool.not_false, Bool.not_true, Bool.and_self, Int.reduceLT, Int.reduceLE, List.drop_succ_cons]) | (refine hJ _ ?_; clear hJ R) | refine Q5 ?_ | (refine hK _ ?_; clear hK K) | ((first | refine hN _ ?_ | refine hX _ _ ?_ | refine hR _ ?_); clear hN hX hR Z) | refine Q6 rfl ?_ | refine Q7 (by decide) ?_ | (refine Q8 ?_ ?_; focus (simp only [kS, R1, R2, R3, R4, R5, R6, R7, reduceCtorEq, R9, lit0, lit1, lit2, tk1, tk2, tk3, tk4, tk5, tk6, tk7, tk8, and_false, false_and, dC_length, dC_take, Int.reduceBEq, Int.reduceBNe, bne_self_eq_false, Bool.not_false, Bool.not_true, Bool.and_self, Int.reduceLT, Int.reduceLE, List.drop_succ_cons]; done)) | (refine Q9 ?_ ?_; focus (simp only [kS, R1, R2, R3, R4, R5, R6, R7, reduceCtorEq, R9, lit0, lit1, lit2, tk1, tk2, tk3, tk4, tk5, tk6, tk7, tk8, and_false, false_and, dC_length, dC_take, Int.reduceBEq, Int.reduceBNe, bne_self_eq_false, Bool.not_false, Bool.not_true, Bool.and_self, Int.reduceLT, Int.reduceLE, List.drop_succ_cons]; done)) | refine Qa ?_ | refine Qb ?_ | refine Qc ?_ | refine And.intro (by first | assumption | omega) ?_)
  refine ⟨_, hst2, rfl, ?_⟩
  try simp only [kS, R1, R2, R3, R4, R5, R6, R7, reduceCtorEq, R9, lit0, lit1, lit2, tk1, tk2, tk3, tk4, tk5, tk6, tk7, tk8, and_false, false_and, dC_length, dC_take, Int.reduceBEq, Int.reduceBNe, bne_self_eq_false, Bool.not_false, Bool.not_true, Bool.and_self, Int.reduceLT, Int.reduceLE, List.drop_succ_cons]
  repeat (first | ((first | refine Q1 ?_ | refine Q2 ?_); intro Z hN hX hR) | refine Q3 (by kernel_rfl) fun K hK => ?_ | ((first | refine Q4 fun R hJ => ?_ | with_reducible change ExpAll _ _ _); simp only [kS, R1, R2, R3, R4, R5, R6, R7, reduceCtorEq, R9, lit0, lit1, lit2, tk1, tk2, tk3, tk4, tk5, tk6, tk7, tk8, and_false, false_and, dC_length, dC_take, Int.reduceBEq, Int.reduceBNe, bne_self_eq_false, Bool.not_false, Bool.not_true, Bool.and_self, Int.reduceLT, Int.reduceLE, List.drop_succ_cons]) | (refine hJ _ ?_; clear hJ R) | refine Q5 ?_ | (refine hK _ ?_; clear hK K) | ((first | refine hN _ ?_ | refine hX _ _ ?_ | refine hR _ ?_); clear hN hX hR Z) | refine Q6 rfl ?_ | refine Q7 (by decide) ?_ | (refine Q8 ?_ ?_; focus (simp only [kS, R1, R2, R3, R4, R5, R6, R7, reduceCtorEq, R9, lit0, lit1, lit2, tk1, tk2, tk3, tk4, tk5, tk6, tk7, tk8, and_false, false_and, dC_length, dC_take, Int.reduceBEq, Int.reduceBNe, bne_self_eq_false, Bool.not_false, Bool.not_true, Bool.and_self, Int.reduceLT, Int.reduceLE, List.drop_succ_cons]; done)) | (refine Q9 ?_ ?_; focus (simp only [kS, R1, R2, R3, R4, R5, R6, R7, reduceCtorEq, R9, lit0, lit1, lit2, tk1, tk2, tk3, tk4, tk5, tk6, tk7, tk8, and_false, false_and, dC_length, dC_take, Int.reduceBEq, Int.reduceBNe, bne_self_eq_false, Bool.not_false, Bool.not_true, Bool.and_self, Int.reduceLT, Int.reduceLE, List.drop_succ_cons]; done)) | refine Qa ?_ | refine Qb ?_ | refine Qc ?_ | refine And.intro (by first | assumption | omega) ?_)
  refine ⟨_, hh2, rfl, ?_⟩
  try simp only [kS, R1, R2, R3, R4, R5, R6, R7, reduceCtorEq, R9, lit0, lit1, lit2, tk1, tk2, tk3, tk4, tk5, tk6, tk7, tk8, and_false, false_and, dC_length, dC_take, Int.reduceBEq, Int.reduceBNe, bne_self_eq_false, Bool.not_false, Bool.not_true, Bool.and_self, Int.reduceLT, Int.reduceLE, List.drop_succ_cons]
  repeat (first | ((first | refine Q1 ?_ | refine Q2 ?_); intro Z hN hX hR) | refine Q3 (by kernel_rfl) fun K hK => ?_ | ((first | refine Q4 fun R hJ => ?_ | with_reducible change ExpAll _ _ _); simp only [kS, R1, R2, R3, R4, R5, R6, R7, reduceCtorEq, R9, lit0, lit1, lit2, tk1, tk2, tk3, tk4, tk5, tk6, tk7, tk8, and_false, false_and, dC_length, dC_take, Int.reduceBEq, Int.reduceBNe, bne_self_eq_false, Bool.not_false, Bool.not_true, Bool.and_self, Int.reduceLT, Int.reduceLE, List.drop_succ_cons]) | (refine hJ _ ?_; clear hJ R) | refine Q5 ?_ | (refine hK _ ?_; clear hK K) | ((first | refine hN _ ?_ | refine hX _ _ ?_ | refine hR _ ?_); clear hN hX hR Z) | refine Q6 rfl ?_ | refine Q7 (by decide) ?_ | (refine Q8 ?_ ?_; focus (simp only [kS, R1, R2, R3, R4, R5, R6, R7, reduceCtorEq, R9, lit0, lit1, lit2, tk1, tk2, tk3, tk4, tk5, tk6, tk7, tk8, and_false, false_and, dC_length, dC_take, Int.reduceBEq, Int.reduceBNe, bne_self_eq_false, Bool.not_false, Bool.not_true, Bool.and_self, Int.reduceLT, Int.reduceLE, List.drop_succ_cons]; done)) | (refine Q9 ?_ ?_; focus (simp only [kS, R1, R2, R3, R4, R5, R6, R7, reduceCtorEq, R9, lit0, lit1, lit2, tk1, tk2, tk3, tk4, tk5, tk6, tk7, tk8, and_false, false_and, dC_length, dC_take, Int.reduceBEq, Int.reduceBNe, bne_self_eq_false, Bool.not_false, Bool.not_true, Bool.and_self, Int.reduceLT, Int.reduceLE, List.drop_succ_cons]; done)) | refine Qa ?_ | refine Qb ?_ | refine Qc ?_ | refine And.intro (by first | assumption | omega) ?_)
  refine ⟨_, hst1, rfl, ?_⟩
  try simp only [kS, R1, R2, R3, R4, R5, R6, R7, reduceCtorEq, R9, lit0, lit1, lit2, tk1, tk2, tk3, tk4, tk5, tk6, tk7, tk8, and_false, false_and, dC_length, dC_take, Int.reduceBEq, Int.reduceBNe, bne_self_eq_false, Bool.not_false, Bool.not_true, Bool.and_self, Int.reduceLT, Int.reduceLE, List.drop_succ_cons]
  repeat (first | ((first | refine Q1 ?_ | refine Q2 ?_); intro Z hN hX hR) | refine Q3 (by kernel_rfl) fun K hK => ?_ | ((first | refine Q4 fun R hJ => ?_ | with_reducible change ExpAll _ _ _); simp only [kS, R1, R2, R3, R4, R5, R6, R7, reduceCtorEq, R9, lit0, lit1, lit2, tk1, tk2, tk3, tk4, tk5, tk6, tk7, tk8, and_false, false_and, dC_length, dC_take, Int.reduceBEq, Int.reduceBNe, bne_self_eq_false, Bool.not_false, Bool.not_true, Bool.and_self, Int.reduceLT, Int.reduceLE, List.drop_succ_cons]) | (refine hJ _ ?_; clear hJ R) | refine Q5 ?_ | (refine hK _ ?_; clear hK K) | ((first | refine hN _ ?_ | refine hX _ _ ?_ | refine hR _ ?_); clear hN hX hR Z) | refine Q6 rfl ?_ | refine Q7 (by decide) ?_ | (refine Q8 ?_ ?_; focus (simp only [kS, R1, R2, R3, R4, R5, R6, R7, reduceCtorEq, R9, lit0, lit1, lit2, tk1, tk2, tk3, tk4, tk5, tk6, tk7, tk8, and_false, false_and, dC_length, dC_take, Int.reduceBEq, Int.reduceBNe, bne_self_eq_false, Bool.not_false, Bool.not_true, Bool.and_self, Int.reduceLT, Int.reduceLE, List.drop_succ_cons]; done)) | (refine Q9 ?_ ?_; focus (simp only [kS, R1, R2, R3, R4, R5, R6, R7, reduceCtorEq, R9, lit0, lit1, lit2, tk1, tk2, tk3, tk4, tk5, tk6, tk7, tk8, and_false, false_and, dC_length, dC_take, Int.reduceBEq, Int.reduceBNe, bne_self_eq_false, Bool.not_false, Bool.not_true, Bool.and_self, Int.reduceLT, Int.reduceLE, List.drop_succ_cons]; done)) | refine Qa ?_ | refine Qb ?_ | refine Qc ?_ | refine And.intro (by first | assumption | omega) ?_)
  refine ⟨_, ho, rfl, ?_⟩
  try simp only [kS, R1, R2, R3, R4, R5, R6, R7, reduceCtorEq, R9, lit0, lit1, lit2, tk1, tk2, tk3, tk4, tk5, tk6, tk7, tk8, and_false, false_and, dC_length, dC_take, Int.reduceBEq, Int.reduceBNe, bne_self_eq_false, Bool.not_false, Bool.not_true, Bool.and_self, Int.reduceLT, Int.reduceLE, List.drop_succ_cons]
  repeat (first | ((first | refine Q1 ?_ | refine Q2 ?_); intro Z hN hX hR) | refine Q3 (by kernel_rfl) fun K hK => ?_ | ((first | refine Q4 fun R hJ => ?_ | with_reducible change ExpAll _ _ _); simp only [kS, R1, R2, R3, R4, R5, R6, R7, reduceCtorEq, R9, lit0, lit1, lit2, tk1, tk2, tk3, tk4, tk5, tk6, tk7, tk8, and_false, false_and, dC_length, dC_take, Int.reduceBEq, Int.reduceBNe, bne_self_eq_false, Bool.not_false, Bool.not_true, Bool.and_self, Int.reduceLT, Int.reduceLE, List.drop_succ_cons]) | (refine hJ _ ?_; clear hJ R) | refine Q5 ?_ | (refine hK _ ?_; clear hK K) | ((first | refine hN _ ?_ | refine hX _ _ ?_ | refine hR _ ?_); clear hN hX hR Z) | refine Q6 rfl ?_ | refine Q7 (by decide) ?_ | (refine Q8 ?_ ?_; focus (simp only [kS, R1, R2, R3, R4, R5, R6, R7, reduceCtorEq, R9, lit0, lit1, lit2, tk1, tk2, tk3, tk4, tk5, tk6, tk7, tk8, and_false, false_and, dC_length, dC_take, Int.reduceBEq, Int.reduceBNe, bne_self_eq_false, Bool.not_false, Bool.not_true, Bool.and_self, Int.reduceLT, Int.reduceLE, List.drop_succ_cons]; done)) | (refine Q9 ?_ ?_; focus (simp only [kS, R1, R2, R3, R4, R5, R6, R7, reduceCtorEq, R9, lit0, lit1, lit2, tk1, tk2, tk3, tk4, tk5, tk6, tk7, tk8, and_false, false_and, dC_length, dC_take, Int.reduceBEq, Int.reduceBNe, bne_self_eq_false, Bool.not_false, Bool.not_true, Bool.and_self, Int.reduceLT, Int.reduceLE, List.drop_succ_cons]; done)) | refine Qa ?_ | refine Qb ?_ | refine Qc ?_ | refine And.intro (by first | assumption | omega) ?_)
  refine ⟨_, hdead, rfl, ?_⟩
  try simp only [kS, R1, R2, R3, R4, R5, R6, R7, reduceCtorEq, R9, lit0, lit1, lit2, tk1, tk2, tk3, tk4, tk5, tk6, tk7, tk8, and_false, false_and, dC_length, dC_take, Int.reduceBEq, Int.reduceBNe, bne_self_eq_false, Bool.not_false, Bool.not_true, Bool.and_self, Int.reduceLT, Int.reduceLE, List.drop_succ_cons]
  repeat (first | ((first | refine Q1 ?_ | refine Q2 ?_); intro Z hN hX hR) | refine Q3 (by kernel_rfl) fun K hK => ?_ | ((first | refine Q4 fun R hJ => ?_ | with_reducible change ExpAll _ _ _); simp only [kS, R1, R2, R3, R4, R5, R6, R7, reduceCtorEq, R9, lit0, lit1, lit2, tk1, tk2, tk3, tk4, tk5, tk6, tk7, tk8, and_false, false_and, dC_length, dC_take, Int.reduceBEq, Int.reduceBNe, bne_self_eq_false, Bool.not_false, Bool.not_true, Bool.and_self, Int.reduceLT, Int.reduceLE, List.drop_succ_cons]) | (refine hJ _ ?_; clear hJ R) | refine Q5 ?_ | (refine hK _ ?_; clear hK K) | ((first | refine hN _ ?_ | refine hX _ _ ?_ | refine hR _ ?_); clear hN hX hR Z) | refine Q6 rfl ?_ | refine Q7 (by decide) ?_ | (refine Q8 ?_ ?_; focus (simp only [kS, R1, R2, R3, R4, R5, R6, R7, reduceCtorEq, R9, lit0, lit1, lit2, tk1, tk2, tk3, tk4, tk5, tk6, tk7, tk8, and_false, false_and, dC_length, dC_take, Int.reduceBEq, Int.reduceBNe, bne_self_eq_false, Bool.not_false, Bool.not_true, Bool.and_self, Int.reduceLT, Int.reduceLE, List.drop_succ_cons]; done)) | (refine Q9 ?_ ?_; focus (simp only [kS, R1, R2, R3, R4, R5, R6, R7, reduceCtorEq, R9, lit0, lit1, lit2, tk1, tk2, tk3, tk4, tk5, tk6, tk7, tk8, and_false, false_and, dC_length, dC_take, Int.reduceBEq, Int.reduceBNe, bne_self_eq_false, Bool.not_false, Bool.not_true, Bool.and_self, Int.reduceLT, Int.reduceLE, List.drop_succ_cons]; done)) | refine Qa ?_ | refine Qb ?_ | refine Qc ?_ | refine And.intro (by first | assumption | omega) ?_)
  refine ⟨_, hsame, rfl, ?_⟩
  try simp only [kS, R1, R2, R3, R4, R5, R6, R7, reduceCtorEq, R9, lit0, lit1, lit2, tk1, tk2, tk3, tk4, tk5, tk6, tk7, tk8, and_false, false_and, dC_length, dC_take, Int.reduceBEq, Int.reduceBNe, bne_self_eq_false, Bool.not_false, Bool.not_true, Bool.and_self, Int.reduceLT, Int.reduceLE, List.drop_succ_cons]
  repeat (first | ((first | refine Q1 ?_ | refine Q2 ?_); intro Z hN hX hR) | refine Q3 (by kernel_rfl) fun K hK => ?_ | ((first | refine Q4 fun R hJ => ?_ | with_reducible change ExpAll _ _ _); simp only [kS, R1, R2, R3, R4, R5, R6, R7, reduceCtorEq, R9, lit0, lit1, lit2, tk1, tk2, tk3, tk4, tk5, tk6, tk7, tk8, and_false, false_and, dC_length, dC_take, Int.reduceBEq, Int.reduceBNe, bne_self_eq_false, Bool.not_false, Bool.not_true, Bool.and_self, Int.reduceLT, Int.reduceLE, List.drop_succ_cons]) | (refine hJ _ ?_; clear hJ R) | refine Q5 ?_ | (refine hK _ ?_; clear hK K) | ((first | refine hN _ ?_ | refine hX _ _ ?_ | refine hR _ ?_); clear hN hX hR Z) | refine Q6 rfl ?_ | refine Q7 (by decide) ?_ | (refine Q8 ?_ ?_; focus (simp only [kS, R1, R2, R3, R4, R5, R6, R7, reduceCtorEq, R9, lit0, lit1, lit2, tk1, tk2, tk3, tk4, tk5, tk6, tk7, tk8, and_false, false_and, dC_length, dC_take, Int.reduceBEq, Int.reduceBNe, bne_self_eq_false, Bool.not_false, Bool.not_true, Bool.and_self, Int.reduceLT, Int.reduceLE, List.drop_succ_cons]; done)) | (refine Q9 ?_ ?_; focus (simp only [kS, R1, R2, R3, R4, R5, R6, R7, reduceCtorEq, R9, lit0, lit1, lit2, tk1, tk2, tk3, tk4, tk5, tk6, tk7, tk8, and_false, false_and, dC_length, dC_take, Int.reduceBEq, Int.reduceBNe, bne_self_eq_false, Bool.not_false, Bool.not_true, Bool.and_self, Int.reduceLT, Int.reduceLE, List.drop_succ_cons]; done)) | refine Qa ?_ | refine Qb ?_ | refine Qc ?_ | refine And.intro (by first | assumption | omega) ?_)
  refine ⟨_, hr1, rfl, ?_⟩
  try simp only [kS, R1, R2, R3, R4, R5, R6, R7, reduceCtorEq, R9, lit0, lit1, lit2, tk1, tk2, tk3, tk4, tk5, tk6, tk7, tk8, and_false, false_and, dC_length, dC_take, Int.reduceBEq, Int.reduceBNe, bne_self_eq_false, Bool.not_false, Bool.not_true, Bool.and_self, Int.reduceLT, Int.reduceLE, List.drop_succ_cons]
  repeat (first | ((first | refine Q1 ?_ | refine Q2 ?_); intro Z hN hX hR) | refine Q3 (by kernel_rfl) fun K hK => ?_ | ((first | refine Q4 fun R hJ => ?_ | with_reducible change ExpAll _ _ _); simp only [kS, R1, R2, R3, R4, R5, R6, R7, reduceCtorEq, R9, lit0, lit1, lit2, tk1, tk2, tk3, tk4, tk5, tk6, tk7, tk8, and_false, false_and, dC_length, dC_take, Int.reduceBEq, Int.reduceBNe, bne_self_eq_false, Bool.not_false, Bool.not_true, Bool.and_self, Int.reduceLT, Int.reduceLE, List.drop_succ_cons]) | (refine hJ _ ?_; clear hJ R) | refine Q5 ?_ | (refine hK _ ?_; clear hK K) | ((first | refine hN _ ?_ | refine hX _ _ ?_ | refine hR _ ?_); clear hN hX hR Z) | refine Q6 rfl ?_ | refine Q7 (by decide) ?_ | (refine Q8 ?_ ?_; focus (simp only [kS, R1, R2, R3, R4, R5, R6, R7, reduceCtorEq, R9, lit0, lit1, lit2, tk1, tk2, tk3, tk4, tk5, tk6, tk7, tk8, and_false, false_and, dC_length, dC_take, Int.reduceBEq, Int.reduceBNe, bne_self_eq_false, Bool.not_false, Bool.not_true, Bool.and_self, Int.reduceLT, Int.reduceLE, List.drop_succ_cons]; done)) | (refine Q9 ?_ ?_; focus (simp only [kS, R1, R2, R3, R4, R5, R6, R7, reduceCtorEq, R9, lit0, lit1, lit2, tk1, tk2, tk3, tk4, tk5, tk6, tk7, tk8, and_false, false_and, dC_length, dC_take, Int.reduceBEq, Int.reduceBNe, bne_self_eq_false, Bool.not_false, Bool.not_true, Bool.and_self, Int.reduceLT, Int.reduceLE, List.drop_succ_cons]; done)) | refine Qa ?_ | refine Qb ?_ | refine Qc ?_ | refine And.intro (by first | assumption | omega) ?_)
  refine ⟨_, hst1, rfl, ?_⟩
  try simp only [kS, R1, R2, R3, R4, R5, R6, R7, reduceCtorEq, R9, lit0, lit1, lit2, tk1, tk2, tk3, tk4, tk5, tk6, tk7, tk8, and_false, false_and, dC_length, dC_take, Int.reduceBEq, Int.reduceBNe, bne_self_eq_false, Bool.not_false, Bool.not_true, Bool.and_self, Int.reduceLT, Int.reduceLE, List.drop_succ_cons]
  repeat (first | ((first | refine Q1 ?_ | refine Q2 ?_); intro Z hN hX hR) | refine Q3 (by kernel_rfl) fun K hK => ?_ | ((first | refine Q4 fun R hJ => ?_ | with_reducible change ExpAll _ _ _); simp only [kS, R1, R2, R3, R4, R5, R6, R7, reduceCtorEq, R9, lit0, lit1, lit2, tk1, tk2, tk3, tk4, tk5, tk6, tk7, tk8, and_false, false_and, dC_length, dC_take, Int.reduceBEq, Int.reduceBNe, bne_self_eq_false, Bool.not_false, Bool.not_true, Bool.and_self, Int.reduceLT, Int.reduceLE, List.drop_succ_cons]) | (refine hJ _ ?_; clear hJ R) | refine Q5 ?_ | (refine hK _ ?_; clear hK K) | ((first | refine hN _ ?_ | refine hX _ _ ?_ | refine hR _ ?_); clear hN hX hR Z) | refine Q6 rfl ?_ | refine Q7 (by decide) ?_ | (refine Q8 ?_ ?_; focus (simp only [kS, R1, R2, R3, R4, R5, R6, R7, reduceCtorEq, R9, lit0, lit1, lit2, tk1, tk2, tk3, tk4, tk5, tk6, tk7, tk8, and_false, false_and, dC_length, dC_take, Int.reduceBEq, Int.reduceBNe, bne_self_eq_false, Bool.not_false, Bool.not_true, Bool.and_self, Int.reduceLT, Int.reduceLE, List.drop_succ_cons]; done)) | (refine Q9 ?_ ?_; focus (simp only [kS, R1, R2, R3, R4, R5, R6, R7, reduceCtorEq, R9, lit0, lit1, lit2, tk1, tk2, tk3, tk4, tk5, tk6, tk7, tk8, and_false, false_and, dC_length, dC_take, Int.reduceBEq, Int.reduceBNe, bne_self_eq_false, Bool.not_false, Bool.not_true, Bool.and_self, Int.reduceLT, Int.reduceLE, List.drop_succ_cons]; done)) | refine Qa ?_ | refine Qb ?_ | refine Qc ?_ | refine And.intro (by first | assumption | omega) ?_)
  refine ⟨_, hr2, rfl, ?_⟩
  try simp only [kS, R1, R2, R3, R4, R5, R6, R7, reduceCtorEq, R9, lit0, lit1, lit2, tk1, tk2, tk3, tk4, tk5, tk6, tk7, tk8, and_false, false_and, dC_length, dC_take, Int.reduceBEq, Int.reduceBNe, bne_self_eq_false, Bool.not_false, Bool.not_true, Bool.and_self, Int.reduceLT, Int.reduceLE, List.drop_succ_cons]
  repeat (first | ((first | refine Q1 ?_ | refine Q2 ?_); intro Z hN hX hR) | refine Q3 (by kernel_rfl) fun K hK => ?_ | ((first | refine Q4 fun R hJ => ?_ | with_reducible change ExpAll _ _ _); simp only [kS, R1, R2, R3, R4, R5, R6, R7, reduceCtorEq, R9, lit0, lit1, lit2, tk1, tk2, tk3, tk4, tk5, tk6, tk7, tk8, and_false, false_and, dC_length, dC_take, Int.reduceBEq, Int.reduceBNe, bne_self_eq_false, Bool.not_false, Bool.not_true, Bool.and_self, Int.reduceLT, Int.reduceLE, List.drop_succ_cons]) | (refine hJ _ ?_; clear hJ R) | refine Q5 ?_ | (refine hK _ ?_; clear hK K) | ((first | refine hN _ ?_ | refine hX _ _ ?_ | refine hR _ ?_); clear hN hX hR Z) | refine Q6 rfl ?_ | refine Q7 (by decide) ?_ | (refine Q8 ?_ ?_; focus (simp only [kS, R1, R2, R3, R4, R5, R6, R7, reduceCtorEq, R9, lit0, lit1, lit2, tk1, tk2, tk3, tk4, tk5, tk6, tk7, tk8, and_false, false_and, dC_length, dC_take, Int.reduceBEq, Int.reduceBNe, bne_self_eq_false, Bool.not_false, Bool.not_true, Bool.and_self, Int.reduceLT, Int.reduceLE, List.drop_succ_cons]; done)) | (refine Q9 ?_ ?_; focus (simp only [kS, R1, R2, R3, R4, R5, R6, R7, reduceCtorEq, R9, lit0, lit1, lit2, tk1, tk2, tk3, tk4, tk5, tk6, tk7, tk8, and_false, false_and, dC_length, dC_take, Int.reduceBEq, Int.reduceBNe, bne_self_eq_false, Bool.not_false, Bool.not_true, Bool.and_self, Int.reduceLT, Int.reduceLE, List.drop_succ_cons]; done)) | refine Qa ?_ | refine Qb ?_ | refine Qc ?_ | refine And.intro (by first | assumption | omega) ?_)
  refine ⟨_, hst3, rfl, ?_⟩
  try simp only [kS, R1, R2, R3, R4, R5, R6, R7, reduceCtorEq, R9, lit0, lit1, lit2, tk1, tk2, tk3, tk4, tk5, tk6, tk7, tk8, and_false, false_and, dC_length, dC_take, Int.reduceBEq, Int.reduceBNe, bne_self_eq_false, Bool.not_false, Bool.not_true, Bool.and_self, Int.reduceLT, Int.reduceLE, List.drop_succ_cons]
  repeat (first | ((first | refine Q1 ?_ | refine Q2 ?_); intro Z hN hX hR) | refine Q3 (by kernel_rfl) fun K hK => ?_ | ((first | refine Q4 fun R hJ => ?_ | with_reducible change ExpAll _ _ _); simp only [kS, R1, R2, R3, R4, R5, R6, R7, reduceCtorEq, R9, lit0, lit1, lit2, tk1, tk2, tk3, tk4, tk5, tk6, tk7, tk8, and_false, false_and, dC_length, dC_take, Int.reduceBEq, Int.reduceBNe, bne_self_eq_false, Bool.not_false, Bool.not_true, Bool.and_self, Int.reduceLT, Int.reduceLE, List.drop_succ_cons]) | (refine hJ _ ?_; clear hJ R) | refine Q5 ?_ | (refine hK _ ?_; clear hK K) | ((first | refine hN _ ?_ | refine hX _ _ ?_ | refine hR _ ?_); clear hN hX hR Z) | refine Q6 rfl ?_ | refine Q7 (by decide) ?_ | (refine Q8 ?_ ?_; focus (simp only [kS, R1, R2, R3, R4, R5, R6, R7, reduceCtorEq, R9, lit0, lit1, lit2, tk1, tk2, tk3, tk4, tk5, tk6, tk7, tk8, and_false, false_and, dC_length, dC_take, Int.reduceBEq, Int.reduceBNe, bne_self_eq_false, Bool.not_false, Bool.not_true, Bool.and_self, Int.reduceLT, Int.reduceLE, List.drop_succ_cons]; done)) | (refine Q9 ?_ ?_; focus (simp only [kS, R1, R2, R3, R4, R5, R6, R7, reduceCtorEq, R9, lit0, lit1, lit2, tk1, tk2, tk3, tk4, tk5, tk6, tk7, tk8, and_false, false_and, dC_length, dC_take, Int.reduceBEq, Int.reduceBNe, bne_self_eq_false, Bool.not_false, Bool.not_true, Bool.and_self, Int.reduceLT, Int.reduceLE, List.drop_succ_cons]; done)) | refine Qa ?_ | refine Qb ?_ | refine Qc ?_ | refine And.intro (by first | assumption | omega) ?_)
  refine ⟨_, hr3, rfl, ?_⟩
  try simp only [kS, R1, R2, R3, R4, R5, R6, R7, reduceCtorEq, R9, lit0, lit1, lit2, tk1, tk2, tk3, tk4, tk5, tk6, tk7, tk8, and_false, false_and, dC_length, dC_take, Int.reduceBEq, Int.reduceBNe, bne_self_eq_false, Bool.not_false, Bool.not_true, Bool.and_self, Int.reduceLT, Int.reduceLE, List.drop_succ_cons]
  repeat (first | ((first | refine Q1 ?_ | refine Q2 ?_); intro Z hN hX hR) | refine Q3 (by kernel_rfl) fun K hK => ?_ | ((first | refine Q4 fun R hJ => ?_ | with_reducible change ExpAll _ _ _); simp only [kS, R1, R2, R3, R4, R5, R6, R7, reduceCtorEq, R9, lit0, lit1, lit2, tk1, tk2, tk3, tk4, tk5, tk6, tk7, tk8, and_false, false_and, dC_length, dC_take, Int.reduceBEq, Int.reduceBNe, bne_self_eq_false, Bool.not_false, Bool.not_true, Bool.and_self, Int.reduceLT, Int.reduceLE, List.drop_succ_cons]) | (refine hJ _ ?_; clear hJ R) | refine Q5 ?_ | (refine hK _ ?_; clear hK K) | ((first | refine hN _ ?_ | refine hX _ _ ?_ | refine hR _ ?_); clear hN hX hR Z) | refine Q6 rfl ?_ | refine Q7 (by decide) ?_ | (refine Q8 ?_ ?_; focus (simp only [kS, R1, R2, R3, R4, R5, R6, R7, reduceCtorEq, R9, lit0, lit1, lit2, tk1, tk2, tk3, tk4, tk5, tk6, tk7, tk8, and_false, false_and, dC_length, dC_take, Int.reduceBEq, Int.reduceBNe, bne_self_eq_false, Bool.not_false, Bool.not_true, Bool.and_self, Int.reduceLT, Int.reduceLE, List.drop_succ_cons]; done)) | (refine Q9 ?_ ?_; focus (simp only [kS, R1, R2, R3, R4, R5, R6, R7, reduceCtorEq, R9, lit0, lit1, lit2, tk1, tk2, tk3, tk4, tk5, tk6, tk7, tk8, and_false, false_and, dC_length, dC_take, Int.reduceBEq, Int.reduceBNe, bne_self_eq_false, Bool.not_false, Bool.not_true, Bool.and_self, Int.reduceLT, Int.reduceLE, List.drop_succ_cons]; done)) | refine Qa ?_ | refine Qb ?_ | refine Qc ?_ | refine And.intro (by first | assumption | omega) ?_)
  all_goals rfl

end Go.Proofs.YtilhjiopbbbgmaaDoor

/- HeadsKeeps: its body, walked. -/
namespace Go.Proofs.YtilhjiopbbbgmaaDoor
open Go Go.RowKit Am Go.Shelf
set_option linter.unusedVariables false
set_option linter.unusedSimpArgs false

theorem ret_bool {f : FuncId} {args : List SV} {b : Bool} (h : Ret Tryd.prog glD f args (bv b)) {w : World} {G : Am.Good} {vs : Array Value} (hG : ∀ b o, G b o → b < w.heap.size) (hgl : GlOk glD w G) (hv : RepTL w G args vs.toList) :
    Calls Tryd.prog f vs w fun e w' => e = .returned (.bool b) ∧ Below w.heap.size w w' := by
  refine (h.2 w G vs hG hgl hv).mono ?_
  rintro e w' ⟨v, rfl, hb, _, G', _, _, _, hr⟩
  simp only [RepR, RepC] at hr
  exact ⟨by rw [hr.1], hb⟩

/-- A state's items, appended to a row of one's own. -/
theorem wpList_append_st {w : World} {ops : Array Oper} {rest : List Oper} {o : Oper} {a : Act} {Q : Exit → Act → World → Prop} (hgd : o.guard = none) (s x : Operand)
    (ho : o.op = .call { callee := .builtin .append, args := #[s, x], argTypes := #[26, 26] })
    (base : Nat) (v : Value) (n : Nat) (xs : List Value) (hs : a.eval s = v) (hown : w.ownsRow base 40 4 v n xs)
    {G : Am.Good} {l : List It} {vx : Value} (hx : a.eval x = vx) (hv : RepC w G (stC l) vx) (h63 : n + l.length ≤ 1000000) (hbase : base ≤ w.heap.size)
    (h : ∀ v' w', w'.ownsRow base 40 4 v' (n + l.length) (xs ++ itsW l) → w.grownBy w' v.ownBlock → wpList Tryd.prog ops Q rest (a.put o.dst v') w') : wpList Tryd.prog ops Q (o :: rest) a w := by
  obtain ⟨i0, hi0, hz0, hs0, hb0⟩ := info_parts info40
  simp only [RepC] at hv
  obtain ⟨ad, cap, rfl, _, hv⟩ := hv
  have hw : itsC l = [] → l = [] := fun h => by
    have := itsC_length l
    rw [h] at this
    exact List.eq_nil_of_length_eq_zero (by simp at this; omega)
  cases ad with
  | some ad =>
    have hnews : ∀ j u, (itsW l)[j]? = some u → w.cell? (ad.add j) = some u := by
      rcases hv with h | ⟨b, o, h, hm⟩
      · rw [hw h]; intro j u hj; simp [itsW] at hj
      · cases h
        obtain ⟨ys, hl, hy⟩ := hm.vals
        have := repL_its l ys hl
        subst this
        intro j u hj
        rw [add_plain]; exact hy j u hj
    exact wpList_append_own w hgd s x 26 ho base 40 i0 _ 4 32 Tryd.underlying26 hi0 hz0 hs0 hb0 rfl (by decide) v n xs hs hown ad l.length cap (itsW l) hx (itsW_length l) hnews (fun u hu => (rep_its (w := w) (G := G) l).one u hu) (by simp only [maxLen]; omega) (by omega) hbase fun v' w' h1 h2 _ => h v' w' h1 h2
  | none =>
    have h0 : l = [] := by
      rcases hv with h | ⟨b, o, h, _⟩
      · exact hw h
      · cases h
    subst h0
    refine wpList_plain hgd fun K hK => ?_
    have hr : (Builtin.append_ #[26, 26] o.type #[v, .slice none 0 cap]).run Tryd.prog w = .ok v w := by
      rcases hown.2 with ⟨rfl, rfl⟩ | ⟨g, cap', cur, rfl, _, _, hnc, _⟩
      · simp [Builtin.append_, run_underlying Tryd.underlying26, sizeOf, typeInfo, hi0, Builtin.lenOf, Builtin.firstCells]
      · simp [Builtin.append_, run_underlying Tryd.underlying26, sizeOf, typeInfo, hi0, Builtin.lenOf, Builtin.firstCells, hnc, storeCells]
    unfold Oper.wp execOp
    simp only [ho, resolve, invoke, builtin, Sem.run_bind, Sem.run_pure, Result.andThen_ok, List.map_toArray, List.map_cons, List.map_nil, hs, hx, List.length_nil, hr]
    exact hK _ _ (h v w (by simpa [itsW] using hown) ⟨rfl, rfl, rfl, Nat.le_refl _, fun _ _ _ => rfl⟩)

/-- What stays, as the law walks on. -/
structure Kp (G : Am.Good) (d : List Nd) (s : List It) (vd v vo : Value) (B : Nat) (w : World) : Prop where
  hG : ∀ b o, G b o → b < w.heap.size
  gl : GlOk glD w G
  rd : RepL w G (dC d) [vd]
  rs : RepC w G (stC s) v
  ro : RepC w G (stC s) vo
  box : w.cell? ⟨B, 0, none⟩ = some vd
  lt : B < w.heap.size

section
variable {w w' : World} {G : Am.Good} {d : List Nd} {s : List It} {vd v vo : Value} {B : Nat}
theorem Kp.at (K : Kp G d s vd v vo B w) (hb : Below w.heap.size w w') : Kp G d s vd v vo B w' := by
  have S : Settled w w' G G := ⟨fun _ _ h => h, fun b o h => cell_same (hb.block b (K.hG b o h)) o, fun b h => frz_same (hb.block b (K.hG b 0 (h 0)))⟩
  exact ⟨fun b o h => Nat.lt_of_lt_of_le (K.hG b o h) hb.size, ⟨fun i cs h => RepM.mono S _ _ _ (K.gl.1 i cs h), glD.stable _ _ hb K.gl.2⟩, RepL.mono S _ _ K.rd, RepC.mono S _ _ K.rs, RepC.mono S _ _ K.ro, (cell_same (hb.block B K.lt) 0).trans K.box, Nat.lt_of_lt_of_le K.lt hb.size⟩
theorem Kp.ds (K : Kp G d s vd v vo B w) : RepTL w G [.agg (dC d), .c (stC s)] (#[Value.agg #[vd], v] : Array Value).toList := ⟨⟨#[vd], rfl, K.rd⟩, K.rs, trivial⟩
theorem Kp.d1 (K : Kp G d s vd v vo B w) : RepTL w G [.agg (dC d)] (#[Value.agg #[vd]] : Array Value).toList := ⟨⟨#[vd], rfl, K.rd⟩, trivial⟩
theorem Kp.so (K : Kp G d s vd v vo B w) : RepTL w G [.c (stC s), .c (stC s)] (#[vo, v] : Array Value).toList := ⟨K.ro, K.rs, trivial⟩

theorem below_own2 {B : Nat} {w0 w w' : World} {g : Nat} (h : Below B w0 w) (hw : B ≤ w0.heap.size) (hg : w.grownBy w' (some g)) (hge : B ≤ g) : Below B w0 w' :=
  ⟨hg.os.trans h.os, hg.tape.trans h.tape, hg.output.trans h.output, Nat.le_trans h.size hg.size, fun k hk => (hg.block k (by have := h.size; omega) (fun e => by cases e; omega)).trans (h.block k hk)⟩

theorem own_slice {base n : Nat} {x : Value} {xs : List Value} (h : w.ownsRow base 40 4 x n xs) (hn : 0 < n) : ∃ g cap, x = .slice (some ⟨g, 0, none⟩) n cap ∧ n ≤ cap ∧ base ≤ g ∧ g < w.heap.size := by
  rcases h.2 with ⟨_, h⟩ | ⟨g, cap, cur, rfl, hb, hh, hc, _⟩
  · omega
  · exact ⟨g, cap, rfl, hc, hb, (Array.getElem?_eq_some_iff.1 hh).1⟩

/-- A row of one's own, as the state in hand. -/
theorem Kp.own (K : Kp G d s vd v vo B w) {base g cap n : Nat} {xs : List Value} (h : w.ownsRow base 40 4 (.slice (some ⟨g, 0, none⟩) n cap) n (itsW s ++ xs)) (hn : s.length ≤ n) (hc : n ≤ cap) (hg : g < w.heap.size) :
    Kp (fun b o => G b o ∨ (b = g ∧ o < s.length * 4)) d s vd v (.slice (some ⟨g, 0, none⟩) s.length cap) B w := by
  have S : Settled w w G (fun b o => G b o ∨ (b = g ∧ o < s.length * 4)) := ⟨fun _ _ h => .inl h, fun _ _ _ => rfl, fun _ _ => rfl⟩
  refine ⟨fun b o h => h.elim (K.hG b o) (fun h => by rw [h.1]; exact hg), ⟨fun i cs h => RepM.mono S _ _ _ (K.gl.1 i cs h), K.gl.2⟩, RepL.mono S _ _ K.rd, RepC.mono S _ _ K.rs, ?_, K.box, K.lt⟩
  simp only [RepC]
  refine ⟨_, cap, rfl, by omega, .inr ⟨g, 0, rfl, RepM.of_vals (rep_its s) (fun j u hj => ?_) (fun j hj => ?_)⟩⟩
  · have hj' := (List.getElem?_eq_some_iff.1 hj).1
    rw [itsW_length] at hj'
    rw [Nat.zero_add, h.cellAt j (by omega), List.getElem?_append_left (by rw [itsW_length]; omega)]
    exact hj
  · rw [itsC_length] at hj
    rw [Nat.zero_add]
    exact .inr ⟨rfl, hj⟩

theorem Kp.cut (K : Kp G d s vd v vo B w) : (∀ b o, Gc w G b o → b < w.heap.size) ∧ GlOk glD w (Gc w G) ∧ RepL w (Gc w G) (dC d) [vd] ∧ RepC w (Gc w G) (stC s) vo := by
  refine ⟨fun b o h => K.hG b o h.1, ⟨fun i cs h => RepM_cut _ _ _ ?_ (K.gl.1 i cs h), K.gl.2⟩, ⟨RepC_cut _ _ (by simp only [NF]; exact NFs_nds d) K.rd.1, trivial⟩, RepC_cut _ _ (by simp only [NF]; exact NFs_its s) K.ro⟩
  simp only [glD] at h
  split at h
  · cases h; simp [readiesC, NFs, NF]
  · cases h

theorem new_of {w w' : World} {G G' : Am.Good} (h2 : ∀ b o, G' b o → Gc w G b o ∨ w.heap.size ≤ b) : ∀ b, (∀ o, G' b o) → w.heap.size ≤ b := fun b h => by
  by_cases hb : w.heap.size ≤ b
  · exact hb
  · exact absurd (fun o => (h2 b o (h o)).resolve_right hb) (Gc_not_whole w G b)

theorem heads_new (F : Fit14 d s) (K : Kp G d s vd v vo B w) : Calls Tryd.prog 15 #[.agg #[vd], vo] w fun e w' => ∃ a cap bh oh es, e = .returned (.slice a es.length cap) ∧ Below w.heap.size w w' ∧ (0 < es.length → a = some ⟨bh, oh, none⟩) ∧ es.length ≤ 1000000 ∧ Wr w.heap.size bh oh 2 es w' := by
  obtain ⟨c1, c2, c3, c4⟩ := K.cut
  refine (heads15_fr d F.wf 1500 s w (Gc w G) vd vo F.deep F.gd F.okJ (by have := F.len; omega) (by have := F.cnt; omega) (by have := F.lv; omega) c1 c2 c3 c4).mono ?_
  rintro e w' ⟨x, rfl, hb, G', h1, h2, h3, hr⟩
  obtain ⟨a, cap, bh, oh, es, rfl, e1, e2, e3⟩ := Wr_heads (new_of (w' := w') h2) (fun b hb => by have := F.ok.short b hb; omega) hr
  exact ⟨a, cap, bh, oh, es, rfl, hb, e1, by rw [e2]; have := F.ok.len; omega, e3⟩

theorem opens_new (F : Fit14 d s) (hr : rdy d s = false) (K : Kp G d s vd v vo B w) : Calls Tryd.prog 17 #[.agg #[vd], vo] w fun e w' => ∃ a cap bh oh es, e = .returned (.slice a es.length cap) ∧ Below w.heap.size w w' ∧ (0 < es.length → a = some ⟨bh, oh, none⟩) ∧ es.length ≤ 1000000 ∧ Wr w.heap.size bh oh 1 es w' := by
  obtain ⟨c1, c2, c3, c4⟩ := K.cut
  obtain ⟨x, t, rfl⟩ := rdy_false hr
  refine ((open17_fr glD d F.wf x t (F.gd x (by simp)) (F.okJ x (by simp)).1 hr (by have := F.len; simp at this; omega)).2 w (Gc w G) #[.agg #[vd], vo] c1 c2 ⟨⟨#[vd], rfl, c3⟩, c4, trivial⟩).mono ?_
  rintro e w' ⟨y, rfl, hb, _, G', h1, h2, h3, hrr⟩
  obtain ⟨a, cap, bh, oh, es, rfl, e1, e2, e3⟩ := Wr_opens (new_of (w' := w') h2) (fun u hu => by have := (openS_gd F.wf F.gd u hu).2; have := F.len; omega) hrr
  exact ⟨a, cap, bh, oh, es, rfl, hb, e1, by rw [e2]; have := openS_len d (x :: t); omega, e3⟩
end
end Go.Proofs.YtilhjiopbbbgmaaDoor

/- HeadsKeeps: its body answers true, whatever it is given. -/
namespace Go.Proofs.YtilhjiopbbbgmaaDoor
open Go Go.RowKit Am Go.Shelf
set_option linter.unusedVariables false
set_option linter.unusedSimpArgs false

section
variable {w : World} {G : Am.Good} {d : List Nd} {s : List It} {vd v vo : Value} {B : Nat} {b : Bool}
theorem Kp.c8 (K : Kp G d s vd v vo B w) : Calls Tryd.prog 8 #[] w fun e w' => e = .returned (.bool true) ∧ Below w.heap.size w w' := ret_bool awake14_ret K.hG K.gl (vs := #[]) trivial
theorem Kp.c1 (K : Kp G d s vd v vo B w) {f : FuncId} (h : Ret Tryd.prog glD f [.agg (dC d)] (bv b)) : Calls Tryd.prog f #[.agg #[vd]] w fun e w' => e = .returned (.bool b) ∧ Below w.heap.size w w' := ret_bool h K.hG K.gl K.d1
theorem Kp.c2 (K : Kp G d s vd v vo B w) {f : FuncId} (h : Ret Tryd.prog glD f [.agg (dC d), .c (stC s)] (bv b)) : Calls Tryd.prog f #[.agg #[vd], v] w fun e w' => e = .returned (.bool b) ∧ Below w.heap.size w w' := ret_bool h K.hG K.gl K.ds

theorem lit_cells (w : World) (ys : List Value) (e : TypeId) : ∀ j u, ys[j]? = some u → (w.alloc (.cells ys.toArray e)).cell? ((⟨w.heap.size, 0, none⟩ : Addr).add j) = some u := by
  intro j u h
  rw [add_plain]
  simp only [World.cell?, alloc_new]
  simpa using h
theorem below_row {B : Nat} {w0 w w' : World} {row : Option Nat} (h : Below B w0 w) (hw : B ≤ w0.heap.size) (hg : w.grownBy w' row) (hge : ∀ b, row = some b → B ≤ b) : Below B w0 w' :=
  ⟨hg.os.trans h.os, hg.tape.trans h.tape, hg.output.trans h.output, Nat.le_trans h.size hg.size, fun k hk => (hg.block k (by have := h.size; omega) (fun e => by have := hge k e.symm; omega)).trans (h.block k hk)⟩
theorem row77 {base g cap : Nat} {x : Value} {xs : List Value} (h : w.ownsRow base 40 4 (.slice (some ⟨g, 0, none⟩) (s.length + 1) cap) (s.length + 1) (itsW s ++ x :: xs)) : w.cell? ⟨g, s.length * 4, none⟩ = some x := by
  rw [h.cellAt (s.length * 4) (by omega), List.getElem?_append_right (by rw [itsW_length]; omega), itsW_length]
  simp
theorem Wr.base {base base' bh oh st : Nat} {es : List Row} (h : Wr base' bh oh st es w) (hle : base ≤ base') : Wr base bh oh st es w := fun i hi => by
  obtain ⟨h1, h2, h3⟩ := h i hi
  exact ⟨h1, h2, fun k hk => by
    obtain ⟨b, o, e1, e2, e3⟩ := h3 k hk
    exact ⟨b, o, e1, by omega, e3⟩⟩

set_option maxHeartbeats 4000000 in
set_option maxRecDepth 1000000 in
theorem keeps_c (hl : d.length ≤ 140737488355328) (hs : ∀ n ∈ d, n.s.size ≤ 140737488355328) (hsl : s.length ≤ 140737488355328) (hG : ∀ b o, G b o → b < w.heap.size) (hgl : GlOk glD w G) (hvd : RepL w G (dC d) [vd]) (hv : RepC w G (stC s) v) :
    Calls Tryd.prog 5 #[.agg #[vd], v] w fun e w' => e = .returned (.bool true) ∧ Below w.heap.size w w' := by
  obtain ⟨av, cv, rfl⟩ : ∃ a c, v = .slice a s.length c := by simp only [RepC] at hv; obtain ⟨a, c, e, _⟩ := hv; exact ⟨a, c, e⟩
  have hB : Below w.heap.size w (w.alloc (.cells #[vd] 24)) := (Below.refl _ w).alloc (Nat.le_refl _) _
  have K : Kp G d s vd (.slice av s.length cv) (.slice av s.length cv) w.heap.size (w.alloc (.cells #[vd] 24)) := by
    have S : Settled w (w.alloc (.cells #[vd] 24)) G G := ⟨fun _ _ h => h, fun b o h => cell_same (hB.block b (hG b o h)) o, fun b h => frz_same (hB.block b (hG b 0 (h 0)))⟩
    refine ⟨fun b o h => Nat.lt_of_lt_of_le (hG b o h) hB.size, ⟨fun i cs h => RepM.mono S _ _ _ (hgl.1 i cs h), glD.stable _ _ hB hgl.2⟩, RepL.mono S _ _ hvd, RepC.mono S _ _ hv, RepC.mono S _ _ hv, ?_, by simp⟩
    simp only [World.cell?, alloc_new]; rfl
  have q := K.box
  have hfew := few_ret glD d hl hs
  clear hG hgl hvd hv
  cases gf : fewB d
  · rw [gf] at hfew
    go_enter Tryd.func5, Tryd.ntmps5
    go_wp2_with (first
      | (go_at_call 8; refine (K.c8).mono ?_; rintro e wn ⟨rfl, hn⟩; have hB := hB.trans (hn.mono hB.size); have K := K.at hn; have q := K.box)
      | (go_at_call 9; refine (K.c1 hfew).mono ?_; rintro e wn ⟨rfl, hn⟩; have hB := hB.trans (hn.mono hB.size); have K := K.at hn; have q := K.box))
    go_ret
    exact ⟨rfl, hB⟩
  rw [gf] at hfew
  obtain ⟨f1, f2⟩ := fewB_true gf
  have hright := right_ret glD d f1 hs
  cases gr : rightB d
  · rw [gr] at hright
    go_enter Tryd.func5, Tryd.ntmps5
    go_wp2_with (first
      | (go_at_call 8; refine (K.c8).mono ?_; rintro e wn ⟨rfl, hn⟩; have hB := hB.trans (hn.mono hB.size); have K := K.at hn; have q := K.box)
      | (go_at_call 9; refine (K.c1 hfew).mono ?_; rintro e wn ⟨rfl, hn⟩; have hB := hB.trans (hn.mono hB.size); have K := K.at hn; have q := K.box)
      | (go_at_call 10; refine (K.c1 hright).mono ?_; rintro e wn ⟨rfl, hn⟩; have hB := hB.trans (hn.mono hB.size); have K := K.at hn; have q := K.box))
    go_ret
    exact ⟨rfl, hB⟩
  rw [gr] at hright
  obtain ⟨hwf, hwo⟩ := rightB_ok gr f1
  have hf6 : ∀ n ∈ d, n.s.size ≤ 1000000 := fun n hn => by have := f2 n hn; omega
  have hfit := fits_ret glD d s hwf hf6 gr hsl
  cases gt : fitsB d s
  · rw [gt] at hfit
    go_enter Tryd.func5, Tryd.ntmps5
    go_wp2_with (first
      | (go_at_call 8; refine (K.c8).mono ?_; rintro e wn ⟨rfl, hn⟩; have hB := hB.trans (hn.mono hB.size); have K := K.at hn; have q := K.box)
      | (go_at_call 9; refine (K.c1 hfew).mono ?_; rintro e wn ⟨rfl, hn⟩; have hB := hB.trans (hn.mono hB.size); have K := K.at hn; have q := K.box)
      | (go_at_call 10; refine (K.c1 hright).mono ?_; rintro e wn ⟨rfl, hn⟩; have hB := hB.trans (hn.mono hB.size); have K := K.at hn; have q := K.box)
      | (go_at_call 11; refine (K.c2 hfit).mono ?_; rintro e wn ⟨rfl, hn⟩; have hB := hB.trans (hn.mono hB.size); have K := K.at hn; have q := K.box))
    go_ret
    exact ⟨rfl, hB⟩
  rw [gt] at hfit
  have F := fit14 hwf hf6 gt
  have hready := ready_ret glD d s (gd_inR F.gd)
  have hsame : Ret Tryd.prog glD 19 [.c (stC s), .c (stC s)] (bv true) := by
    have h := same13_ret glD s s (by have := F.len; omega) (by have := F.len; omega)
    rwa [scmp_refl] at h
  have hslen := F.len
  obtain ⟨i0, hi0, hz0, hs0, hb0⟩ := info_parts info40
  go_enter Tryd.func5, Tryd.ntmps5
  go_wp2_with (first
    | (go_at_call 8; refine (K.c8).mono ?_; rintro e wn ⟨rfl, hn⟩; have hB := hB.trans (hn.mono hB.size); have K := K.at hn; have q := K.box)
    | (go_at_call 9; refine (K.c1 hfew).mono ?_; rintro e wn ⟨rfl, hn⟩; have hB := hB.trans (hn.mono hB.size); have K := K.at hn; have q := K.box)
    | (go_at_call 10; refine (K.c1 hright).mono ?_; rintro e wn ⟨rfl, hn⟩; have hB := hB.trans (hn.mono hB.size); have K := K.at hn; have q := K.box)
    | (go_at_call 11; refine (K.c2 hfit).mono ?_; rintro e wn ⟨rfl, hn⟩; have hB := hB.trans (hn.mono hB.size); have K := K.at hn; have q := K.box)
    | (at_builtin; refine wpList_append_st rfl _ _ rfl wn.heap.size _ 0 [] rfl (World.ownsRow_lit wn #[] 0 (Nat.le_refl _) (by decide) rfl) rfl (K.at ((Below.refl _ wn).alloc (Nat.le_refl _) _)).rs (by omega) (by simp) ?_; intro vr wr1 hrow1 hg1; have hb1 := below_own2 ((Below.refl _ wn).alloc (Nat.le_refl _) (.cells #[] 40)) (Nat.le_refl _) hg1 (Nat.le_refl _); simp only [Nat.zero_add, List.nil_append] at hrow1; clear hg1)
    | (at_builtin; refine wpList_append_own _ rfl _ _ 26 rfl wn.heap.size 40 i0 _ 4 32 Tryd.underlying26 hi0 hz0 hs0 hb0 rfl (by decide) _ _ _ rfl (hrow1.alloc _) ⟨wr1.heap.size, 0, none⟩ 1 1 [.int .i64 77, .int .i64 0, .int .i64 0, .int .i64 0] rfl rfl (lit_cells wr1 _ 40) (by intro u hu; simp at hu; rcases hu with rfl | rfl <;> rfl) (by simp only [maxLen]; omega) (by omega) (by have := hb1.size; simp; omega) ?_; intro v3 w3 hrow3 hg3 hnil3; have hb3 := below_row (hb1.alloc hb1.size _) (Nat.le_refl _) hg3 (fun b hb => (hrow1.lt b hb).1); obtain ⟨gg, capg, rfl, hcapg, hgb, hgg⟩ := own_slice hrow3 (by omega); have q77 := row77 hrow3; have K := (K.at hb3).own hrow3 (by omega) hcapg hgg; have hB := hB.trans (hb3.mono hB.size); have q := K.box; clear hg3 hnil3 hrow1 hrow3 hb1 hb3)
    | (go_at_call 15; refine (heads_new F K).mono ?_; rintro e wh ⟨ah, ch, bh, oh, es, rfl, hWb, hah, hel, hW⟩))
  try go_frame
  go_loopg [8] es.length (fun g x wx => ∃ i : Nat, i + g = es.length ∧ x = .int .i64 i ∧ Below w3.heap.size w3 wx ∧ Wr w3.heap.size bh oh 2 es wx)
  case atStart => exact ⟨0, by omega, rfl, hWb, hW⟩
  case round =>
    obtain ⟨i, hig, rfl, hbx, hWx⟩ := hrel
    clear hW hWb
    cases gk with
    | zero =>
      have hiz : ¬ ((i : Int) < (es.length : Int)) := by omega
      clear hah
      have Kx := K.at hbx
      have qx := Kx.box
      cases grd : rdy d s
      · rw [grd] at hready
        go_wp2_with (first
          | (go_at_call 13; refine (Kx.c2 hready).mono ?_; rintro e wr2 ⟨rfl, hr2⟩; have Kx := Kx.at hr2; have qx := Kx.box; have hbx := hbx.trans (hr2.mono hbx.size))
          | (go_at_call 17; refine (opens_new F grd Kx).mono ?_; rintro e wo ⟨ah2, ch2, bh2, oh2, es2, rfl, hbo, hah2, hel2, hW2⟩; have hW2 := hW2.base hbx.size; have hW2b := hbx.trans (hbo.mono hbx.size)))
        try go_frame
        go_loopg [11] es2.length (fun g x wx => ∃ i : Nat, i + g = es2.length ∧ x = .int .i64 i ∧ Below w3.heap.size w3 wx ∧ Wr w3.heap.size bh2 oh2 1 es2 wx)
        case atStart => exact ⟨0, by omega, rfl, hW2b, hW2⟩
        case round =>
          obtain ⟨i, hig, rfl, hbx, hWx⟩ := hrel
          clear hW2 hW2b
          cases gk with
          | zero =>
            have hiz : ¬ ((i : Int) < (es2.length : Int)) := by omega
            clear hah2
            have Kx := K.at hbx
            go_wp2_with (go_at_call 19; refine (ret_bool hsame Kx.hG Kx.gl Kx.so).mono ?_; rintro e wz ⟨rfl, hz⟩; have Kx := Kx.at hz; have hbx := hbx.trans (hz.mono hbx.size); have q77z := (cell_same (hbx.block gg hgg) (s.length * 4)).trans q77)
            go_ret
            exact ⟨rfl, hB.trans (hbx.mono hB.size)⟩
          | succ g =>
            have hlt : i < es2.length := by omega
            have hiz : (i : Int) < (es2.length : Int) := by omega
            obtain rfl := hah2 (by omega)
            obtain ⟨cs, hle, _⟩ := hWx i hlt
            rw [Nat.mul_one] at cs
            go_wp2
            try go_frame
            go_loopg [12] es2[i].2.1 (fun g2 y wy => ∃ k : Nat, k + g2 = es2[i].2.1 ∧ y = .int .i64 k ∧ Below w3.heap.size w3 wy ∧ Wr w3.heap.size bh2 oh2 1 es2 wy)
            case atStart => exact ⟨0, by omega, rfl, hbx, hWx⟩
            case round =>
              clear cs hWx hbx
              obtain ⟨k, hkg, rfl, hbx, hWx⟩ := hrel
              obtain ⟨cs, _, hrow⟩ := hWx i hlt
              rw [Nat.mul_one] at cs
              cases gk with
              | zero =>
                have hkz : ¬ ((k : Int) < (es2[i].2.1 : Int)) := by omega
                have hw : wrap64 ((i : Int) + 1) = ((i + 1 : Nat) : Int) := by unfold wrap64; omega
                go_wp2
                go_roundg g
                case measure => omega
                case rel => exact ⟨i + 1, by omega, by first | rfl | simp [hw], hbx, hWx⟩
              | succ g2 =>
                have hkz : (k : Int) < (es2[i].2.1 : Int) := by omega
                have hw : wrap64 ((k : Int) + 1) = ((k + 1 : Nat) : Int) := by unfold wrap64; omega
                obtain ⟨b, o, hsl2, hge, ⟨x0, hx0⟩, hfz⟩ := hrow k (by omega)
                have hfz2 := frz_not hfz (o + k * 4)
                rw [hsl2] at cs
                have hW2 := hWx.set hx0 99
                have hb2 := below_set hbx hge (.int .i64 99) (o := o + k * 4)
                go_wp2
                go_roundg g2
                case measure => omega
                case rel => exact ⟨k + 1, by omega, by first | rfl | simp [hw], hb2, hW2⟩
      · rw [grd] at hready
        go_wp2_with (first
          | (go_at_call 13; refine (Kx.c2 hready).mono ?_; rintro e wr2 ⟨rfl, hr2⟩; have Kx := Kx.at hr2; have qx := Kx.box; have hbx := hbx.trans (hr2.mono hbx.size))
          | (go_at_call 19; refine (ret_bool hsame Kx.hG Kx.gl Kx.so).mono ?_; rintro e wz ⟨rfl, hz⟩; have Kx := Kx.at hz; have hbx := hbx.trans (hz.mono hbx.size); have q77z := (cell_same (hbx.block gg hgg) (s.length * 4)).trans q77))
        go_ret
        exact ⟨rfl, hB.trans (hbx.mono hB.size)⟩
    | succ g =>
      have hlt : i < es.length := by omega
      have hiz : (i : Int) < (es.length : Int) := by omega
      obtain rfl := hah (by omega)
      obtain ⟨cs, hle, _⟩ := hWx i hlt
      go_wp2
      try go_frame
      go_loopg [9] es[i].2.1 (fun g2 y wy => ∃ k : Nat, k + g2 = es[i].2.1 ∧ y = .int .i64 k ∧ Below w3.heap.size w3 wy ∧ Wr w3.heap.size bh oh 2 es wy)
      case atStart => exact ⟨0, by omega, rfl, hbx, hWx⟩
      case round =>
        clear cs hWx hbx
        obtain ⟨k, hkg, rfl, hbx, hWx⟩ := hrel
        obtain ⟨cs, _, hrow⟩ := hWx i hlt
        cases gk with
        | zero =>
          have hkz : ¬ ((k : Int) < (es[i].2.1 : Int)) := by omega
          have hw : wrap64 ((i : Int) + 1) = ((i + 1 : Nat) : Int) := by unfold wrap64; omega
          go_wp2
          go_roundg g
          case measure => omega
          case rel => exact ⟨i + 1, by omega, by first | rfl | simp [hw], hbx, hWx⟩
        | succ g2 =>
          have hkz : (k : Int) < (es[i].2.1 : Int) := by omega
          have hw : wrap64 ((k : Int) + 1) = ((k + 1 : Nat) : Int) := by unfold wrap64; omega
          obtain ⟨b, o, hsl2, hge, ⟨x0, hx0⟩, hfz⟩ := hrow k (by omega)
          have hfz2 := frz_not hfz (o + k * 4)
          rw [hsl2] at cs
          have hW2 := hWx.set hx0 99
          have hb2 := below_set hbx hge (.int .i64 99) (o := o + k * 4)
          go_wp2
          go_roundg g2
          case measure => omega
          case rel => exact ⟨k + 1, by omega, by first | rfl | simp [hw], hb2, hW2⟩
end
end Go.Proofs.YtilhjiopbbbgmaaDoor
