/- Proved: HeadsKeeps of chapter 14, as a tied card: for every description and state the law's body answers true: what is handed in stays, what is answered is new memory. This is part 3 of 6 of that proof (first the abstract machine and its soundness, then the walks, the plain law, the card): no condition beyond the statement's own. -/
import Derived.Test.YtilhjiopbbbgmaaDoorKeeps2
import Derived.Maps.RangeWalk
import Derived.Maps.OwnSet
import Derived.Maps.OwnOps
import Derived.Shelf.SlSortCmp.NoneTotal

/- The program's own Ready; the small functions that make descriptions. -/
namespace Go.Proofs.YtilhjiopbbbgmaaDoor
open Nat renaming reduceSub → R1, reduceMul → R2, reduceLeDiff → R3, reducePow → R4, reduceBEq → R5, reduceAdd → R6, reduceEqDiff → R7
open Int renaming reduceToNat → R9
open Go Go.RowKit Am
set_option linter.unusedVariables false
set_option linter.unusedSimpArgs false
set_option maxHeartbeats 4000000
attribute [local irreducible] AWp AOps

def readiesC : List C := [.v (.bool false), .v (.bool false), .v (.bool true), .v (.bool false), .v (.bool false), .v (.bool false), .v (.bool false), .v (.bool false), .v (.bool true), .v (.bool true)]

theorem ready12_ret (gl : Gl) (hg : gl.cells 0 = some readiesC) (d : List Nd) (hd : WFd d) (s : List It) (h : ∀ x ∈ s, inR d x) : Ret Tryd.prog gl 12 [.agg (dC d), .c (stC s)] (bv (rdy d s)) := by
  refine retq (rs := [4]) 34 Tryd.func12 (by kernel_rfl) rfl (by kernel_rfl) rfl (by simp) (by simp) fun Z hN hX hR => ?_
  cases s with
  | nil =>
    have z0 : (((0 : Nat) : Int) == 0) = true := rfl
    repeat (first | ((first | refine Q1 ?_ | refine Q2 ?_); intro Z hN hX hR) | refine Q3 (by kernel_rfl) fun K hK => ?_ | ((first | refine Q4 fun R hJ => ?_ | with_reducible change ExpAll _ _ _); simp only [kS, R1, R2, R3, R4, R5, R6, R7, reduceCtorEq, R9, z0, List.length_nil]) | (refine hJ _ ?_; clear hJ R) | refine Q5 ?_ | (refine hK _ ?_; clear hK K) | ((first | refine hN _ ?_ | refine hX _ _ ?_ | refine hR _ ?_); clear hN hX hR Z) | refine Q6 rfl ?_ | refine Q7 (by decide) ?_ | (refine Q8 ?_ ?_; focus (simp only [kS, R1, R2, R3, R4, R5, R6, R7, reduceCtorEq, R9, z0, List.length_nil]; done)) | (refine Q9 ?_ ?_; focus (simp only [kS, R1, R2, R3, R4, R5, R6, R7, reduceCtorEq, R9, z0, List.length_nil]; done)) | refine Qa ?_ | refine Qb ?_ | refine Qc ?_ | refine And.intro (by first | assumption | omega) ?_)
    all_goals rfl
  | cons x s =>
    obtain ⟨h1, h2⟩ := h x (by simp)
    obtain ⟨k, n, lo, hi⟩ := x
    obtain ⟨m, rfl⟩ : ∃ m : Nat, n = m := ⟨n.toNat, by simp at h1; omega⟩
    have hm : m < d.length := by simpa using h2
    simp only [dC]
    have e := ndsC_drop d m hm
    have e' := nd_get d m hm
    have hok := hd.2.2 d[m] (List.getElem_mem hm)
    cases h1 : (k == 1)
    · cases h3 : (k == 3)
      · cases h4 : (k == 4)
        · repeat (first | ((first | refine Q1 ?_ | refine Q2 ?_); intro Z hN hX hR) | refine Q3 (by kernel_rfl) fun K hK => ?_ | ((first | refine Q4 fun R hJ => ?_ | with_reducible change ExpAll _ _ _); simp only [kS, R1, R2, R3, R4, R5, R6, R7, reduceCtorEq, R9, itsC_cons, itsC_length, h1, h3, h4]) | (refine hJ _ ?_; clear hJ R) | refine Q5 ?_ | (refine hK _ ?_; clear hK K) | ((first | refine hN _ ?_ | refine hX _ _ ?_ | refine hR _ ?_); clear hN hX hR Z) | refine Q6 rfl ?_ | refine Q7 (by decide) ?_ | (refine Q8 ?_ ?_; focus (simp only [kS, R1, R2, R3, R4, R5, R6, R7, reduceCtorEq, R9, itsC_cons, itsC_length, h1, h3, h4]; done)) | (refine Q9 ?_ ?_; focus (simp only [kS, R1, R2, R3, R4, R5, R6, R7, reduceCtorEq, R9, itsC_cons, itsC_length, h1, h3, h4]; done)) | refine Qa ?_ | refine Qb ?_ | refine Qc ?_ | refine And.intro (by first | assumption | omega) ?_)
          simp only [rdy, h3, h4, h1, Bool.false_and, Bool.false_or]
        · repeat (first | ((first | refine Q1 ?_ | refine Q2 ?_); intro Z hN hX hR) | refine Q3 (by kernel_rfl) fun K hK => ?_ | ((first | refine Q4 fun R hJ => ?_ | with_reducible change ExpAll _ _ _); simp only [kS, R1, R2, R3, R4, R5, R6, R7, reduceCtorEq, R9, itsC_cons, itsC_length, h1, h3, h4]) | (refine hJ _ ?_; clear hJ R) | refine Q5 ?_ | (refine hK _ ?_; clear hK K) | ((first | refine hN _ ?_ | refine hX _ _ ?_ | refine hR _ ?_); clear hN hX hR Z) | refine Q6 rfl ?_ | refine Q7 (by decide) ?_ | (refine Q8 ?_ ?_; focus (simp only [kS, R1, R2, R3, R4, R5, R6, R7, reduceCtorEq, R9, itsC_cons, itsC_length, h1, h3, h4]; done)) | (refine Q9 ?_ ?_; focus (simp only [kS, R1, R2, R3, R4, R5, R6, R7, reduceCtorEq, R9, itsC_cons, itsC_length, h1, h3, h4]; done)) | refine Qa ?_ | refine Qb ?_ | refine Qc ?_ | refine And.intro (by first | assumption | omega) ?_)
          simp only [rdy, h3, h4, h1, Bool.true_or, Bool.or_true]
      · repeat (first | ((first | refine Q1 ?_ | refine Q2 ?_); intro Z hN hX hR) | refine Q3 (by kernel_rfl) fun K hK => ?_ | ((first | refine Q4 fun R hJ => ?_ | with_reducible change ExpAll _ _ _); simp only [kS, R1, R2, R3, R4, R5, R6, R7, reduceCtorEq, R9, itsC_cons, itsC_length, h1, h3]) | (refine hJ _ ?_; clear hJ R) | refine Q5 ?_ | (refine hK _ ?_; clear hK K) | ((first | refine hN _ ?_ | refine hX _ _ ?_ | refine hR _ ?_); clear hN hX hR Z) | refine Q6 rfl ?_ | refine Q7 (by decide) ?_ | (refine Q8 ?_ ?_; focus (simp only [kS, R1, R2, R3, R4, R5, R6, R7, reduceCtorEq, R9, itsC_cons, itsC_length, h1, h3]; done)) | (refine Q9 ?_ ?_; focus (simp only [kS, R1, R2, R3, R4, R5, R6, R7, reduceCtorEq, R9, itsC_cons, itsC_length, h1, h3]; done)) | refine Qa ?_ | refine Qb ?_ | refine Qc ?_ | refine And.intro (by first | assumption | omega) ?_)
        simp only [rdy, h3, h1, Bool.true_or, Bool.or_true]
    · have k1 : k = 1 := by simpa using h1
      subst k1
      have hkk : d[m].k = 1 ∨ d[m].k = 2 ∨ d[m].k = 3 ∨ d[m].k = 4 ∨ d[m].k = 5 ∨ d[m].k = 6 ∨ d[m].k = 7 ∨ d[m].k = 8 ∨ d[m].k = 9 := by
        obtain ⟨h1, h2, _⟩ := hok; omega
      have hr : rdy d (⟨1, m, lo, hi⟩ :: s) = (d[m].k == 2 || (d[m].k == 8 || d[m].k == 9)) := by
        simp only [rdy, e']
        rfl
      rcases hkk with hk | hk | hk | hk | hk | hk | hk | hk | hk
      all_goals
        repeat (first | ((first | refine Q1 ?_ | refine Q2 ?_); intro Z hN hX hR) | refine Q3 (by kernel_rfl) fun K hK => ?_ | ((first | refine Q4 fun R hJ => ?_ | with_reducible change ExpAll _ _ _); simp only [kS, R1, R2, R3, R4, R5, R6, R7, reduceCtorEq, R9, itsC_cons, itsC_length, e, hm, ndsC_length, hk, hg, readiesC, Int.reduceBEq, Int.reduceLT, decide_true, decide_false]) | (refine hJ _ ?_; clear hJ R) | refine Q5 ?_ | (refine hK _ ?_; clear hK K) | ((first | refine hN _ ?_ | refine hX _ _ ?_ | refine hR _ ?_); clear hN hX hR Z) | refine Q6 rfl ?_ | refine Q7 (by decide) ?_ | (refine Q8 ?_ ?_; focus (simp only [kS, R1, R2, R3, R4, R5, R6, R7, reduceCtorEq, R9, itsC_cons, itsC_length, e, hm, ndsC_length, hk, hg, readiesC, Int.reduceBEq, Int.reduceLT, decide_true, decide_false]; done)) | (refine Q9 ?_ ?_; focus (simp only [kS, R1, R2, R3, R4, R5, R6, R7, reduceCtorEq, R9, itsC_cons, itsC_length, e, hm, ndsC_length, hk, hg, readiesC, Int.reduceBEq, Int.reduceLT, decide_true, decide_false]; done)) | refine Qa ?_ | refine Qb ?_ | refine Qc ?_ | refine And.intro (by first | assumption | omega) ?_)
        rw [hr, hk]
        try rfl

theorem node41_ret (gl : Gl) (i : Int) : Ret Tryd.prog gl 41 [iv i] (.agg (It.c ⟨1, i, 0, 0⟩)) := by
  refine retc 5 Tryd.func41 (by kernel_rfl) rfl (by kernel_rfl) rfl Tryd.underlying40 (by kernel_rfl) (by simp) fun Z hN hX hR => ?_
  repeat (first | ((first | refine Q1 ?_ | refine Q2 ?_); intro Z hN hX hR) | refine Q3 (by kernel_rfl) fun K hK => ?_ | ((first | refine Q4 fun R hJ => ?_ | with_reducible change ExpAll _ _ _); simp only [kS, R1, R2, R3, R4, R5, R6, R7, reduceCtorEq, R9, It.c]) | (refine hJ _ ?_; clear hJ R) | refine Q5 ?_ | (refine hK _ ?_; clear hK K) | ((first | refine hN _ ?_ | refine hX _ _ ?_ | refine hR _ ?_); clear hN hX hR Z) | refine Q6 rfl ?_ | refine Q7 (by decide) ?_ | (refine Q8 ?_ ?_; focus (simp only [kS, R1, R2, R3, R4, R5, R6, R7, reduceCtorEq, R9, It.c]; done)) | (refine Q9 ?_ ?_; focus (simp only [kS, R1, R2, R3, R4, R5, R6, R7, reduceCtorEq, R9, It.c]; done)) | refine Qa ?_ | refine Qb ?_ | refine Qc ?_ | refine And.intro (by first | assumption | omega) ?_)
  all_goals exact ⟨_, by (simp only [kS, R1, R2, R3, R4, R5, R6, R7, reduceCtorEq, R9]) <;> first | omega | rfl, by (simp only [kS, R1, R2, R3, R4, R5, R6, R7, reduceCtorEq, R9]) <;> first | omega | rfl⟩

/-- Nodes that name no other node are not moved. -/
theorem moved_ret (gl : Gl) (l : List Nd) (by_ : Int) (hl : l.length ≤ 1000000) (h : ∀ n ∈ l, n.k < 4) (h0 : 0 < l.length) :
    Ret Tryd.prog gl 54 [.c (.sl l.length (ndsC l)), iv by_] (.tok 54 10 l.length (ndsC l)) := by
  refine retq (rs := [4]) 44 Tryd.func54 (by kernel_rfl) rfl (by kernel_rfl) rfl (by simp) (by simp) fun Z hN hX hR => ?_
  repeat (first | ((first | refine Q1 ?_ | refine Q2 ?_); intro Z hN hX hR) | refine Q3 (by kernel_rfl) fun K hK => ?_ | ((first | refine Q4 fun R hJ => ?_ | with_reducible change ExpAll _ _ _); simp only [kS, R1, R2, R3, R4, R5, R6, R7, reduceCtorEq, R9]) | (refine hJ _ ?_; clear hJ R) | refine Q5 ?_ | (refine hK _ ?_; clear hK K) | ((first | refine hN _ ?_ | refine hX _ _ ?_ | refine hR _ ?_); clear hN hX hR Z) | refine Q6 rfl ?_ | refine Q7 (by decide) ?_ | (refine Q8 ?_ ?_; focus (simp only [kS, R1, R2, R3, R4, R5, R6, R7, reduceCtorEq, R9]; done)) | (refine Q9 ?_ ?_; focus (simp only [kS, R1, R2, R3, R4, R5, R6, R7, reduceCtorEq, R9]; done)) | refine Qa ?_ | refine Qb ?_ | refine Qc ?_ | refine And.intro (by first | assumption | omega) ?_)
  refine awq_loop (fun c f => ∃ (i : Nat), i ≤ l.length ∧ c = l.length - i ∧ f.t 6 = iv (i : Int) ∧ f.t 0 = .c (.sl l.length (ndsC l)) ∧ f.t 1 = iv by_ ∧
    ((f.t 5 = .nil ∧ i = 0) ∨ ∃ e t, f.t 5 = .tok e t i (ndsC (l.take i)) ∧ f.ob e t = .live 54 10 ∧ t ≤ f.k ∧ 0 < i)) l.length ?_ ?_
  · exact ⟨0, by omega, rfl, by (simp only [kS, R1, R2, R3, R4, R5, R6, R7, reduceCtorEq, R9]) <;> first | omega | rfl, by (simp only [kS, R1, R2, R3, R4, R5, R6, R7, reduceCtorEq, R9]) <;> first | omega | rfl, by (simp only [kS, R1, R2, R3, R4, R5, R6, R7, reduceCtorEq, R9]) <;> first | omega | rfl, .inl ⟨by (simp only [kS, R1, R2, R3, R4, R5, R6, R7, reduceCtorEq, R9]) <;> first | omega | rfl, rfl⟩⟩
  rintro Z c f hN hX hR ⟨i, hi, rfl, h6, h0', h1, h5⟩
  have el := ndsC_length l
  by_cases hlt : i < l.length
  · have hlt' : (i : Int) < (l.length : Int) := by omega
    have e := ndsC_drop l i hlt
    have hk := h l[i] (List.getElem_mem hlt)
    have hk4 : ¬ (4 : Int) ≤ l[i].k := by omega
    have hk4' : (l[i].k == 4) = false := by rw [beq_eq_false_iff_ne]; omega
    have hk5' : (l[i].k == 5) = false := by rw [beq_eq_false_iff_ne]; omega
    have hsucc : ndsC (l.take (i + 1)) = ndsC (l.take i) ++ l[i].c := by
      rw [List.take_succ_eq_append_getElem hlt, ndsC_append]; simp [ndsC]
    have hlen : (ndsC (l.take i)).length = i * 10 := by rw [ndsC_length]; simp; omega
    rcases h5 with ⟨h5, i0⟩ | ⟨e2, t2, h5, hob, ht, i0⟩
    · subst i0
      repeat (first | ((first | refine Q1 ?_ | refine Q2 ?_); intro Z hN hX hR) | refine Q3 (by kernel_rfl) fun K hK => ?_ | ((first | refine Q4 fun R hJ => ?_ | with_reducible change ExpAll _ _ _); simp only [kS, R1, R2, R3, R4, R5, R6, R7, reduceCtorEq, R9, h6, h0', h1, h5, hlt, hlt', e, el, hk4, hk4', hk5', tk1, tk2, tk3, tk4, tk5, tk6, tk7, tk8, and_false, false_and, decide_true, decide_false, ge_iff_le]) | (refine hJ _ ?_; clear hJ R) | refine Q5 ?_ | (refine hK _ ?_; clear hK K) | ((first | refine hN _ ?_ | refine hX _ _ ?_ | refine hR _ ?_); clear hN hX hR Z) | refine Q6 rfl ?_ | refine Q7 (by decide) ?_ | (refine Q8 ?_ ?_; focus (simp only [kS, R1, R2, R3, R4, R5, R6, R7, reduceCtorEq, R9, h6, h0', h1, h5, hlt, hlt', e, el, hk4, hk4', hk5', tk1, tk2, tk3, tk4, tk5, tk6, tk7, tk8, and_false, false_and, decide_true, decide_false, ge_iff_le]; done)) | (refine Q9 ?_ ?_; focus (simp only [kS, R1, R2, R3, R4, R5, R6, R7, reduceCtorEq, R9, h6, h0', h1, h5, hlt, hlt', e, el, hk4, hk4', hk5', tk1, tk2, tk3, tk4, tk5, tk6, tk7, tk8, and_false, false_and, decide_true, decide_false, ge_iff_le]; done)) | refine Qa ?_ | refine Qb ?_ | refine Qc ?_ | refine And.intro (by first | assumption | omega) ?_)
      refine ⟨l.length - (0 + 1), by omega, 0 + 1, by omega, rfl, ?_, by (simp only [kS, R1, R2, R3, R4, R5, R6, R7, reduceCtorEq, R9, h0']) <;> first | omega | rfl, by (simp only [kS, R1, R2, R3, R4, R5, R6, R7, reduceCtorEq, R9, h1]) <;> first | omega | rfl, .inr ⟨42, f.k + 1 + 1 + 1 + 1 + 1, ?_, by (simp only [kS, R1, R2, R3, R4, R5, R6, R7, reduceCtorEq, R9, tk1, tk2, tk3, tk4, tk5, tk6, tk7, tk8, and_false, false_and]) <;> first | omega | rfl, by (simp only [kS, R1, R2, R3, R4, R5, R6, R7, reduceCtorEq, R9]) <;> first | omega | rfl, by omega⟩⟩
      · simp only [kS, R1, R2, R3, R4, R5, R6, R7, reduceCtorEq, R9]
        rw [wrap_i64 (by omega) (by omega)]; rfl
      · simp only [kS, R1, R2, R3, R4, R5, R6, R7, reduceCtorEq, R9]
        rw [hsucc]; rfl
    · repeat (first | ((first | refine Q1 ?_ | refine Q2 ?_); intro Z hN hX hR) | refine Q3 (by kernel_rfl) fun K hK => ?_ | ((first | refine Q4 fun R hJ => ?_ | with_reducible change ExpAll _ _ _); simp only [kS, R1, R2, R3, R4, R5, R6, R7, reduceCtorEq, R9, h6, h0', h1, h5, hob, ht, hlt, hlt', e, el, hlen, hk4, hk4', hk5', tk1, tk2, tk3, tk4, tk5, tk6, tk7, tk8, and_false, false_and, decide_true, decide_false, ge_iff_le]) | (refine hJ _ ?_; clear hJ R) | refine Q5 ?_ | (refine hK _ ?_; clear hK K) | ((first | refine hN _ ?_ | refine hX _ _ ?_ | refine hR _ ?_); clear hN hX hR Z) | refine Q6 rfl ?_ | refine Q7 (by decide) ?_ | (refine Q8 ?_ ?_; focus (simp only [kS, R1, R2, R3, R4, R5, R6, R7, reduceCtorEq, R9, h6, h0', h1, h5, hob, ht, hlt, hlt', e, el, hlen, hk4, hk4', hk5', tk1, tk2, tk3, tk4, tk5, tk6, tk7, tk8, and_false, false_and, decide_true, decide_false, ge_iff_le]; done)) | (refine Q9 ?_ ?_; focus (simp only [kS, R1, R2, R3, R4, R5, R6, R7, reduceCtorEq, R9, h6, h0', h1, h5, hob, ht, hlt, hlt', e, el, hlen, hk4, hk4', hk5', tk1, tk2, tk3, tk4, tk5, tk6, tk7, tk8, and_false, false_and, decide_true, decide_false, ge_iff_le]; done)) | refine Qa ?_ | refine Qb ?_ | refine Qc ?_ | refine And.intro (by first | assumption | omega) ?_)
      refine ⟨l.length - (i + 1), by omega, i + 1, by omega, rfl, ?_, by (simp only [kS, R1, R2, R3, R4, R5, R6, R7, reduceCtorEq, R9, h0']) <;> first | omega | rfl, by (simp only [kS, R1, R2, R3, R4, R5, R6, R7, reduceCtorEq, R9, h1]) <;> first | omega | rfl, .inr ⟨42, f.k + 1 + 1 + 1 + 1 + 1, ?_, by (simp only [kS, R1, R2, R3, R4, R5, R6, R7, reduceCtorEq, R9, tk1, tk2, tk3, tk4, tk5, tk6, tk7, tk8, and_false, false_and]) <;> first | omega | rfl, by (simp only [kS, R1, R2, R3, R4, R5, R6, R7, reduceCtorEq, R9]) <;> first | omega | rfl, by omega⟩⟩
      · simp only [kS, R1, R2, R3, R4, R5, R6, R7, reduceCtorEq, R9]
        rw [wrap_i64 (by omega) (by omega)]; rfl
      · simp only [kS, R1, R2, R3, R4, R5, R6, R7, reduceCtorEq, R9]
        rw [hsucc]; rfl
  · have hlt' : ¬ (i : Int) < (l.length : Int) := by omega
    have ei : i = l.length := by omega
    rcases h5 with ⟨h5, i0⟩ | ⟨e2, t2, h5, hob, ht, i0⟩
    · omega
    · rw [ei, List.take_length] at h5
      repeat (first | ((first | refine Q1 ?_ | refine Q2 ?_); intro Z hN hX hR) | refine Q3 (by kernel_rfl) fun K hK => ?_ | ((first | refine Q4 fun R hJ => ?_ | with_reducible change ExpAll _ _ _); simp only [kS, R1, R2, R3, R4, R5, R6, R7, reduceCtorEq, R9, h6, h0', h1, h5, hob, hlt', el, decide_false, tk1, tk2, tk3, tk4, tk5, tk6, tk7, tk8, and_false, false_and]) | (refine hJ _ ?_; clear hJ R) | refine Q5 ?_ | (refine hK _ ?_; clear hK K) | ((first | refine hN _ ?_ | refine hX _ _ ?_ | refine hR _ ?_); clear hN hX hR Z) | refine Q6 rfl ?_ | refine Q7 (by decide) ?_ | (refine Q8 ?_ ?_; focus (simp only [kS, R1, R2, R3, R4, R5, R6, R7, reduceCtorEq, R9, h6, h0', h1, h5, hob, hlt', el, decide_false, tk1, tk2, tk3, tk4, tk5, tk6, tk7, tk8, and_false, false_and]; done)) | (refine Q9 ?_ ?_; focus (simp only [kS, R1, R2, R3, R4, R5, R6, R7, reduceCtorEq, R9, h6, h0', h1, h5, hob, hlt', el, decide_false, tk1, tk2, tk3, tk4, tk5, tk6, tk7, tk8, and_false, false_and]; done)) | refine Qa ?_ | refine Qb ?_ | refine Qc ?_ | refine And.intro (by first | assumption | omega) ?_)
      all_goals exact .inr ⟨54, 10, by (simp only [kS, R1, R2, R3, R4, R5, R6, R7, reduceCtorEq, R9, hob, ht, tk1, tk2, tk3, tk4, tk5, tk6, tk7, tk8, and_false, false_and]) <;> first | omega | rfl, by omega, rfl⟩

end Go.Proofs.YtilhjiopbbbgmaaDoor

/- Concat, with, and the program's own Open. -/
namespace Go.Proofs.YtilhjiopbbbgmaaDoor
open Nat renaming reduceSub → R1, reduceMul → R2, reduceLeDiff → R3, reducePow → R4, reduceBEq → R5, reduceAdd → R6, reduceEqDiff → R7
open Int renaming reduceToNat → R9
open Go Go.RowKit Am
set_option linter.unusedVariables false
set_option linter.unusedSimpArgs false
set_option maxHeartbeats 4000000
attribute [local irreducible] AWp AOps

def tot : List (List It) → Nat
  | [] => 0
  | s :: l => s.length + tot l
theorem tot_append : ∀ (a b : List (List It)), tot (a ++ b) = tot a + tot b
  | [], b => by simp [tot]
  | x :: a, b => by simp [tot, tot_append a b, Nat.add_assoc]
theorem tot_flat : ∀ l : List (List It), l.flatten.length = tot l
  | [] => rfl
  | s :: l => by simp [tot, tot_flat l]
theorem tot_take (l : List (List It)) (i : Nat) : tot (l.take i) ≤ tot l := by
  have := tot_append (l.take i) (l.drop i)
  rw [List.take_append_drop] at this
  omega

theorem concat_ret (gl : Gl) (l : List (List It)) (hl : l.length ≤ 1000000) (ht : tot l ≤ 1000000000000) : Ret Tryd.prog gl 53 [.c (ssS l)] (.c (stC l.flatten)) := by
  refine retq (rs := [2]) 36 Tryd.func53 (by kernel_rfl) rfl (by kernel_rfl) rfl (by simp) (by simp) fun Z hN hX hR => ?_
  repeat (first | ((first | refine Q1 ?_ | refine Q2 ?_); intro Z hN hX hR) | refine Q3 (by kernel_rfl) fun K hK => ?_ | ((first | refine Q4 fun R hJ => ?_ | with_reducible change ExpAll _ _ _); simp only [kS, R1, R2, R3, R4, R5, R6, R7, reduceCtorEq, R9]) | (refine hJ _ ?_; clear hJ R) | refine Q5 ?_ | (refine hK _ ?_; clear hK K) | ((first | refine hN _ ?_ | refine hX _ _ ?_ | refine hR _ ?_); clear hN hX hR Z) | refine Q6 rfl ?_ | refine Q7 (by decide) ?_ | (refine Q8 ?_ ?_; focus (simp only [kS, R1, R2, R3, R4, R5, R6, R7, reduceCtorEq, R9]; done)) | (refine Q9 ?_ ?_; focus (simp only [kS, R1, R2, R3, R4, R5, R6, R7, reduceCtorEq, R9]; done)) | refine Qa ?_ | refine Qb ?_ | refine Qc ?_ | refine And.intro (by first | assumption | omega) ?_)
  refine awq_loop (fun c f => ∃ (i : Nat), i ≤ l.length ∧ c = l.length - i ∧ f.t 11 = iv (i : Int) ∧ f.t 10 = iv (l.length : Int) ∧ f.t 9 = .c (ssS l) ∧ f.t 0 = .c (ssS l) ∧ f.t 3 = iv ((tot (l.take i) : Nat) : Int)) l.length ?_ ?_
  · exact ⟨0, by omega, rfl, by (simp only [kS, R1, R2, R3, R4, R5, R6, R7, reduceCtorEq, R9]) <;> first | omega | rfl, by (simp only [kS, R1, R2, R3, R4, R5, R6, R7, reduceCtorEq, R9]) <;> first | omega | rfl, by (simp only [kS, R1, R2, R3, R4, R5, R6, R7, reduceCtorEq, R9]) <;> first | omega | rfl, by (simp only [kS, R1, R2, R3, R4, R5, R6, R7, reduceCtorEq, R9]) <;> first | omega | rfl, by (simp only [kS, R1, R2, R3, R4, R5, R6, R7, reduceCtorEq, R9]) <;> first | omega | rfl⟩
  rintro Z c f hN hX hR ⟨i, hi, rfl, h11, h10, h9, h0, h3⟩
  have el := ssC_length l
  have hb := tot_take l i
  have hb' := tot_take l (i + 1)
  by_cases hlt : i < l.length
  · have hlt' : (i : Int) < (l.length : Int) := by omega
    have e := ssC_drop l i hlt
    have hs : tot (l.take (i + 1)) = tot (l.take i) + l[i].length := by
      rw [List.take_succ_eq_append_getElem hlt, tot_append]; simp [tot]
    have hw : IntKind.i64.wrap ((tot (l.take i) : Int) + (l[i].length : Int)) = ((tot (l.take (i + 1)) : Nat) : Int) := by
      rw [wrap_i64 (by omega) (by omega)]; omega
    have hneg : ¬ ((tot (l.take (i + 1)) : Nat) : Int) < 0 := by omega
    repeat (first | ((first | refine Q1 ?_ | refine Q2 ?_); intro Z hN hX hR) | refine Q3 (by kernel_rfl) fun K hK => ?_ | ((first | refine Q4 fun R hJ => ?_ | with_reducible change ExpAll _ _ _); simp only [kS, R1, R2, R3, R4, R5, R6, R7, reduceCtorEq, R9, h11, h10, h9, h0, h3, hlt, hlt', e, el, hw, hneg, decide_true, decide_false]) | (refine hJ _ ?_; clear hJ R) | refine Q5 ?_ | (refine hK _ ?_; clear hK K) | ((first | refine hN _ ?_ | refine hX _ _ ?_ | refine hR _ ?_); clear hN hX hR Z) | refine Q6 rfl ?_ | refine Q7 (by decide) ?_ | (refine Q8 ?_ ?_; focus (simp only [kS, R1, R2, R3, R4, R5, R6, R7, reduceCtorEq, R9, h11, h10, h9, h0, h3, hlt, hlt', e, el, hw, hneg, decide_true, decide_false]; done)) | (refine Q9 ?_ ?_; focus (simp only [kS, R1, R2, R3, R4, R5, R6, R7, reduceCtorEq, R9, h11, h10, h9, h0, h3, hlt, hlt', e, el, hw, hneg, decide_true, decide_false]; done)) | refine Qa ?_ | refine Qb ?_ | refine Qc ?_ | refine And.intro (by first | assumption | omega) ?_)
    refine ⟨l.length - (i + 1), by omega, i + 1, by omega, rfl, ?_, by simp only [kS, R1, R2, R3, R4, R5, R6, R7, reduceCtorEq, R9, h10], by simp only [kS, R1, R2, R3, R4, R5, R6, R7, reduceCtorEq, R9, h9], by simp only [kS, R1, R2, R3, R4, R5, R6, R7, reduceCtorEq, R9, h0], by (simp only [kS, R1, R2, R3, R4, R5, R6, R7, reduceCtorEq, R9]) <;> first | omega | rfl⟩
    simp only [kS, R1, R2, R3, R4, R5, R6, R7, reduceCtorEq, R9]
    rw [wrap_i64 (by omega) (by omega)]; rfl
  have hlt' : ¬ (i : Int) < (l.length : Int) := by omega
  have ei : i = l.length := by omega
  rw [ei, List.take_length] at h3
  repeat (first | ((first | refine Q1 ?_ | refine Q2 ?_); intro Z hN hX hR) | refine Q3 (by kernel_rfl) fun K hK => ?_ | ((first | refine Q4 fun R hJ => ?_ | with_reducible change ExpAll _ _ _); simp only [kS, R1, R2, R3, R4, R5, R6, R7, reduceCtorEq, R9, h11, h10, h9, h0, h3, hlt', el, decide_false]) | (refine hJ _ ?_; clear hJ R) | refine Q5 ?_ | (refine hK _ ?_; clear hK K) | ((first | refine hN _ ?_ | refine hX _ _ ?_ | refine hR _ ?_); clear hN hX hR Z) | refine Q6 rfl ?_ | refine Q7 (by decide) ?_ | (refine Q8 ?_ ?_; focus (simp only [kS, R1, R2, R3, R4, R5, R6, R7, reduceCtorEq, R9, h11, h10, h9, h0, h3, hlt', el, decide_false]; done)) | (refine Q9 ?_ ?_; focus (simp only [kS, R1, R2, R3, R4, R5, R6, R7, reduceCtorEq, R9, h11, h10, h9, h0, h3, hlt', el, decide_false]; done)) | refine Qa ?_ | refine Qb ?_ | refine Qc ?_ | refine And.intro (by first | assumption | omega) ?_)
  refine ⟨_, grow70_ret gl (tot l) (by omega), rfl, ?_⟩
  simp only [kS, R1, R2, R3, R4, R5, R6, R7, reduceCtorEq, R9, h0, h3]
  repeat (first | ((first | refine Q1 ?_ | refine Q2 ?_); intro Z hN hX hR) | refine Q3 (by kernel_rfl) fun K hK => ?_ | ((first | refine Q4 fun R hJ => ?_ | with_reducible change ExpAll _ _ _); simp only [kS, R1, R2, R3, R4, R5, R6, R7, reduceCtorEq, R9, h0, h3, el]) | (refine hJ _ ?_; clear hJ R) | refine Q5 ?_ | (refine hK _ ?_; clear hK K) | ((first | refine hN _ ?_ | refine hX _ _ ?_ | refine hR _ ?_); clear hN hX hR Z) | refine Q6 rfl ?_ | refine Q7 (by decide) ?_ | (refine Q8 ?_ ?_; focus (simp only [kS, R1, R2, R3, R4, R5, R6, R7, reduceCtorEq, R9, h0, h3, el]; done)) | (refine Q9 ?_ ?_; focus (simp only [kS, R1, R2, R3, R4, R5, R6, R7, reduceCtorEq, R9, h0, h3, el]; done)) | refine Qa ?_ | refine Qb ?_ | refine Qc ?_ | refine And.intro (by first | assumption | omega) ?_)
  clear h11 h10 h9 hlt hlt' ei hi
  refine awq_loop (fun c f => ∃ (i : Nat), i ≤ l.length ∧ c = l.length - i ∧ f.t 27 = iv (i : Int) ∧ f.t 26 = iv (l.length : Int) ∧ f.t 25 = .c (ssS l) ∧ ∃ e t, f.t 6 = .tok e t (tot (l.take i)) (itsC (l.take i).flatten) ∧ f.ob e t = .live 40 4 ∧ t ≤ f.k) l.length ?_ ?_
  · exact ⟨0, by omega, rfl, by (simp only [kS, R1, R2, R3, R4, R5, R6, R7, reduceCtorEq, R9]) <;> first | omega | rfl, by (simp only [kS, R1, R2, R3, R4, R5, R6, R7, reduceCtorEq, R9]) <;> first | omega | rfl, by (simp only [kS, R1, R2, R3, R4, R5, R6, R7, reduceCtorEq, R9, h0]) <;> first | omega | rfl, 24, f.k + 1 + 1, by (simp only [kS, R1, R2, R3, R4, R5, R6, R7, reduceCtorEq, R9]) <;> first | omega | rfl, by (simp only [kS, R1, R2, R3, R4, R5, R6, R7, reduceCtorEq, R9, tk1, tk2, tk3, tk4, tk5, tk6, tk7, tk8, and_false, false_and]) <;> first | omega | rfl, by (simp only [kS, R1, R2, R3, R4, R5, R6, R7, reduceCtorEq, R9]) <;> first | omega | rfl⟩
  clear h0 h3 hb hb'
  rintro Z c f hN hX hR ⟨i, hi, rfl, h27, h26, h25, e, t, h6, hob, ht⟩
  have hb := tot_take l i
  have hb' := tot_take l (i + 1)
  by_cases hlt : i < l.length
  · have hlt' : (i : Int) < (l.length : Int) := by omega
    have ed := ssC_drop l i hlt
    have hs : tot (l.take (i + 1)) = tot (l.take i) + l[i].length := by
      rw [List.take_succ_eq_append_getElem hlt, tot_append]; simp [tot]
    have hf : itsC (l.take (i + 1)).flatten = itsC (l.take i).flatten ++ itsC l[i] := by
      rw [List.take_succ_eq_append_getElem hlt, List.flatten_append, itsC_append]; simp
    have hlen : (itsC (l.take i).flatten).length = tot (l.take i) * 4 := by rw [itsC_length, tot_flat]
    have hlen2 := itsC_length l[i]
    repeat (first | ((first | refine Q1 ?_ | refine Q2 ?_); intro Z hN hX hR) | refine Q3 (by kernel_rfl) fun K hK => ?_ | ((first | refine Q4 fun R hJ => ?_ | with_reducible change ExpAll _ _ _); simp only [kS, R1, R2, R3, R4, R5, R6, R7, reduceCtorEq, R9, h27, h26, h25, h6, hob, ht, hlt, hlt', ed, el, hlen, hlen2, tk1, tk2, tk3, tk4, tk5, tk6, tk7, tk8, and_false, false_and, decide_true]) | (refine hJ _ ?_; clear hJ R) | refine Q5 ?_ | (refine hK _ ?_; clear hK K) | ((first | refine hN _ ?_ | refine hX _ _ ?_ | refine hR _ ?_); clear hN hX hR Z) | refine Q6 rfl ?_ | refine Q7 (by decide) ?_ | (refine Q8 ?_ ?_; focus (simp only [kS, R1, R2, R3, R4, R5, R6, R7, reduceCtorEq, R9, h27, h26, h25, h6, hob, ht, hlt, hlt', ed, el, hlen, hlen2, tk1, tk2, tk3, tk4, tk5, tk6, tk7, tk8, and_false, false_and, decide_true]; done)) | (refine Q9 ?_ ?_; focus (simp only [kS, R1, R2, R3, R4, R5, R6, R7, reduceCtorEq, R9, h27, h26, h25, h6, hob, ht, hlt, hlt', ed, el, hlen, hlen2, tk1, tk2, tk3, tk4, tk5, tk6, tk7, tk8, and_false, false_and, decide_true]; done)) | refine Qa ?_ | refine Qb ?_ | refine Qc ?_ | refine And.intro (by first | assumption | omega) ?_)
    refine ⟨l.length - (i + 1), by omega, i + 1, by omega, rfl, ?_, by simp only [kS, R1, R2, R3, R4, R5, R6, R7, reduceCtorEq, R9, h26], by simp only [kS, R1, R2, R3, R4, R5, R6, R7, reduceCtorEq, R9, h25], 33, f.k + 1 + 1 + 1, ?_, by (simp only [kS, R1, R2, R3, R4, R5, R6, R7, reduceCtorEq, R9, tk1, tk2, tk3, tk4, tk5, tk6, tk7, tk8, and_false, false_and]) <;> first | omega | rfl, by (simp only [kS, R1, R2, R3, R4, R5, R6, R7, reduceCtorEq, R9]) <;> first | omega | rfl⟩
    · simp only [kS, R1, R2, R3, R4, R5, R6, R7, reduceCtorEq, R9]
      rw [wrap_i64 (by omega) (by omega)]; rfl
    · simp only [kS, R1, R2, R3, R4, R5, R6, R7, reduceCtorEq, R9]
      rw [hs, hf]
  · have hlt' : ¬ (i : Int) < (l.length : Int) := by omega
    have ei : i = l.length := by omega
    rw [ei, List.take_length] at h6
    repeat (first | ((first | refine Q1 ?_ | refine Q2 ?_); intro Z hN hX hR) | refine Q3 (by kernel_rfl) fun K hK => ?_ | ((first | refine Q4 fun R hJ => ?_ | with_reducible change ExpAll _ _ _); simp only [kS, R1, R2, R3, R4, R5, R6, R7, reduceCtorEq, R9, h27, h26, h25, h6, hob, hlt', el, decide_false]) | (refine hJ _ ?_; clear hJ R) | refine Q5 ?_ | (refine hK _ ?_; clear hK K) | ((first | refine hN _ ?_ | refine hX _ _ ?_ | refine hR _ ?_); clear hN hX hR Z) | refine Q6 rfl ?_ | refine Q7 (by decide) ?_ | (refine Q8 ?_ ?_; focus (simp only [kS, R1, R2, R3, R4, R5, R6, R7, reduceCtorEq, R9, h27, h26, h25, h6, hob, hlt', el, decide_false]; done)) | (refine Q9 ?_ ?_; focus (simp only [kS, R1, R2, R3, R4, R5, R6, R7, reduceCtorEq, R9, h27, h26, h25, h6, hob, hlt', el, decide_false]; done)) | refine Qa ?_ | refine Qb ?_ | refine Qc ?_ | refine And.intro (by first | assumption | omega) ?_)
    all_goals (refine .inl ?_; show SV.c (C.sl l.flatten.length _) = _; rw [tot_flat])

theorem with_ret (gl : Gl) (rest l : List It) (h1 : rest.length ≤ 1000000) (h2 : l.length ≤ 1000000) : Ret Tryd.prog gl 40 [.c (stC rest), .c (stC l)] (.c (stC (l ++ rest))) := by
  refine retq (rs := [4]) 9 Tryd.func40 (by kernel_rfl) rfl (by kernel_rfl) rfl (by simp) (by simp) fun Z hN hX hR => ?_
  have hc := concat_ret gl [l, rest] (by simp) (by simp [tot]; omega)
  have e : ([l, rest] : List (List It)).flatten = l ++ rest := by simp
  rw [e] at hc
  repeat (first | ((first | refine Q1 ?_ | refine Q2 ?_); intro Z hN hX hR) | refine Q3 (by kernel_rfl) fun K hK => ?_ | ((first | refine Q4 fun R hJ => ?_ | with_reducible change ExpAll _ _ _); simp only [kS, R1, R2, R3, R4, R5, R6, R7, reduceCtorEq, R9]) | (refine hJ _ ?_; clear hJ R) | refine Q5 ?_ | (refine hK _ ?_; clear hK K) | ((first | refine hN _ ?_ | refine hX _ _ ?_ | refine hR _ ?_); clear hN hX hR Z) | refine Q6 rfl ?_ | refine Q7 (by decide) ?_ | (refine Q8 ?_ ?_; focus (simp only [kS, R1, R2, R3, R4, R5, R6, R7, reduceCtorEq, R9]; done)) | (refine Q9 ?_ ?_; focus (simp only [kS, R1, R2, R3, R4, R5, R6, R7, reduceCtorEq, R9]; done)) | refine Qa ?_ | refine Qb ?_ | refine Qc ?_ | refine And.intro (by first | assumption | omega) ?_)
  refine ⟨_, hc, rfl, ?_⟩
  simp only [kS, R1, R2, R3, R4, R5, R6, R7, reduceCtorEq, R9]
  repeat (first | ((first | refine Q1 ?_ | refine Q2 ?_); intro Z hN hX hR) | refine Q3 (by kernel_rfl) fun K hK => ?_ | ((first | refine Q4 fun R hJ => ?_ | with_reducible change ExpAll _ _ _); simp only [kS, R1, R2, R3, R4, R5, R6, R7, reduceCtorEq, R9]) | (refine hJ _ ?_; clear hJ R) | refine Q5 ?_ | (refine hK _ ?_; clear hK K) | ((first | refine hN _ ?_ | refine hX _ _ ?_ | refine hR _ ?_); clear hN hX hR Z) | refine Q6 rfl ?_ | refine Q7 (by decide) ?_ | (refine Q8 ?_ ?_; focus (simp only [kS, R1, R2, R3, R4, R5, R6, R7, reduceCtorEq, R9]; done)) | (refine Q9 ?_ ?_; focus (simp only [kS, R1, R2, R3, R4, R5, R6, R7, reduceCtorEq, R9]; done)) | refine Qa ?_ | refine Qb ?_ | refine Qc ?_ | refine And.intro (by first | assumption | omega) ?_)
  all_goals rfl

end Go.Proofs.YtilhjiopbbbgmaaDoor

/- Concat, with: they answer memory of the call's own. -/
namespace Go.Proofs.YtilhjiopbbbgmaaDoor
open Nat renaming reduceSub → R1, reduceMul → R2, reduceLeDiff → R3, reducePow → R4, reduceBEq → R5, reduceAdd → R6, reduceEqDiff → R7
open Int renaming reduceToNat → R9
open Go Go.RowKit Am
set_option linter.unusedVariables false
set_option linter.unusedSimpArgs false
set_option maxHeartbeats 4000000

theorem ret_weak {gl : Gl} {f : FuncId} {args : List SV} {r r' : SV} (hr : ∀ w G B v, RepR w G B r v → RepR w G B r' v) (h : Ret Tryd.prog gl f args r) : Ret Tryd.prog gl f args r' :=
  ⟨h.1, fun w G vs hG hgl hv => (h.2 w G vs hG hgl hv).mono fun e w' hb => by
    obtain ⟨v, he, hb, hd, G', h1, h2, h3, h4⟩ := hb
    exact ⟨v, he, hb, hd, G', h1, h2, h3, hr _ _ _ _ h4⟩⟩

/-- A row of the call's own, as what is marked so. -/
theorem ret_fr {gl : Gl} {f : FuncId} {args : List SV} {el sz n : Nat} {cs : List C} (h : Ret Tryd.prog gl f args (.tok el sz n cs)) : Ret Tryd.prog gl f args (.c (.fr (.sl n cs))) :=
  ⟨h.1, fun w G vs hG hgl hv => (h.2 w G vs hG hgl hv).mono fun e w' hb => by
    obtain ⟨v, he, hb, hd, G', h1, h2, h3, xs, hown, hl, hno⟩ := hb
    refine ⟨v, he, hb, hd, fun b o => G' b o ∨ v.ownBlock = some b, fun b o h => .inl (h1 b o h), fun b o h => ?_, fun b o h => ?_, ?_⟩
    · rcases h with h | h
      · exact h2 b o h
      · exact .inr (hown.lt b h).1
    · rcases h with h | h
      · exact h3 b o h
      · exact (hown.lt b h).2
    · have S : Settled w' w' G' (fun b o => G' b o ∨ v.ownBlock = some b) := ⟨fun _ _ h => .inl h, fun _ _ _ => rfl, fun _ _ => rfl⟩
      have hc := RepC_own hown (RepL.mono S _ _ hl) fun b hb o ho => .inr hb
      simp only [RepR]
      rw [RepC]
      refine ⟨hc, fun a n' cap e => ?_⟩
      rcases hown.2 with ⟨h, _⟩ | ⟨g, cap', cur, h, _, hh, _⟩
      · rw [e] at h; cases h
      · rw [e] at h
        cases h
        rw [e]
        exact .inr ⟨fun o => .inr rfl, by simp only [frz, hh]⟩⟩

section
attribute [local irreducible] AWp AOps
theorem concat_tok (gl : Gl) (l : List (List It)) (hl : l.length ≤ 1000000) (ht : tot l ≤ 1000000000000) : Ret Tryd.prog gl 53 [.c (ssS l)] (.tok 40 4 l.flatten.length (itsC l.flatten)) := by
  refine retq (rs := [2]) 36 Tryd.func53 (by kernel_rfl) rfl (by kernel_rfl) rfl (by simp) (by simp) fun Z hN hX hR => ?_
  repeat (first | ((first | refine Q1 ?_ | refine Q2 ?_); intro Z hN hX hR) | refine Q3 (by kernel_rfl) fun K hK => ?_ | ((first | refine Q4 fun R hJ => ?_ | with_reducible change ExpAll _ _ _); simp only [kS, R1, R2, R3, R4, R5, R6, R7, reduceCtorEq, R9]) | (refine hJ _ ?_; clear hJ R) | refine Q5 ?_ | (refine hK _ ?_; clear hK K) | ((first | refine hN _ ?_ | refine hX _ _ ?_ | refine hR _ ?_); clear hN hX hR Z) | refine Q6 rfl ?_ | refine Q7 (by decide) ?_ | (refine Q8 ?_ ?_; focus (simp only [kS, R1, R2, R3, R4, R5, R6, R7, reduceCtorEq, R9]; done)) | (refine Q9 ?_ ?_; focus (simp only [kS, R1, R2, R3, R4, R5, R6, R7, reduceCtorEq, R9]; done)) | refine Qa ?_ | refine Qb ?_ | refine Qc ?_ | refine And.intro (by first | assumption | omega) ?_)
  refine awq_loop (fun c f => ∃ (i : Nat), i ≤ l.length ∧ c = l.length - i ∧ f.t 11 = iv (i : Int) ∧ f.t 10 = iv (l.length : Int) ∧ f.t 9 = .c (ssS l) ∧ f.t 0 = .c (ssS l) ∧ f.t 3 = iv ((tot (l.take i) : Nat) : Int)) l.length ?_ ?_
  · exact ⟨0, by omega, rfl, by (simp only [kS, R1, R2, R3, R4, R5, R6, R7, reduceCtorEq, R9]) <;> first | omega | rfl, by (simp only [kS, R1, R2, R3, R4, R5, R6, R7, reduceCtorEq, R9]) <;> first | omega | rfl, by (simp only [kS, R1, R2, R3, R4, R5, R6, R7, reduceCtorEq, R9]) <;> first | omega | rfl, by (simp only [kS, R1, R2, R3, R4, R5, R6, R7, reduceCtorEq, R9]) <;> first | omega | rfl, by (simp only [kS, R1, R2, R3, R4, R5, R6, R7, reduceCtorEq, R9]) <;> first | omega | rfl⟩
  rintro Z c f hN hX hR ⟨i, hi, rfl, h11, h10, h9, h0, h3⟩
  have el := ssC_length l
  have hb := tot_take l i
  have hb' := tot_take l (i + 1)
  by_cases hlt : i < l.length
  · have hlt' : (i : Int) < (l.length : Int) := by omega
    have e := ssC_drop l i hlt
    have hs : tot (l.take (i + 1)) = tot (l.take i) + l[i].length := by
      rw [List.take_succ_eq_append_getElem hlt, tot_append]; simp [tot]
    have hw : IntKind.i64.wrap ((tot (l.take i) : Int) + (l[i].length : Int)) = ((tot (l.take (i + 1)) : Nat) : Int) := by
      rw [wrap_i64 (by omega) (by omega)]; omega
    have hneg : ¬ ((tot (l.take (i + 1)) : Nat) : Int) < 0 := by omega
    repeat (first | ((first | refine Q1 ?_ | refine Q2 ?_); intro Z hN hX hR) | refine Q3 (by kernel_rfl) fun K hK => ?_ | ((first | refine Q4 fun R hJ => ?_ | with_reducible change ExpAll _ _ _); simp only [kS, R1, R2, R3, R4, R5, R6, R7, reduceCtorEq, R9, h11, h10, h9, h0, h3, hlt, hlt', e, el, hw, hneg, decide_true, decide_false]) | (refine hJ _ ?_; clear hJ R) | refine Q5 ?_ | (refine hK _ ?_; clear hK K) | ((first | refine hN _ ?_ | refine hX _ _ ?_ | refine hR _ ?_); clear hN hX hR Z) | refine Q6 rfl ?_ | refine Q7 (by decide) ?_ | (refine Q8 ?_ ?_; focus (simp only [kS, R1, R2, R3, R4, R5, R6, R7, reduceCtorEq, R9, h11, h10, h9, h0, h3, hlt, hlt', e, el, hw, hneg, decide_true, decide_false]; done)) | (refine Q9 ?_ ?_; focus (simp only [kS, R1, R2, R3, R4, R5, R6, R7, reduceCtorEq, R9, h11, h10, h9, h0, h3, hlt, hlt', e, el, hw, hneg, decide_true, decide_false]; done)) | refine Qa ?_ | refine Qb ?_ | refine Qc ?_ | refine And.intro (by first | assumption | omega) ?_)
    refine ⟨l.length - (i + 1), by omega, i + 1, by omega, rfl, ?_, by simp only [kS, R1, R2, R3, R4, R5, R6, R7, reduceCtorEq, R9, h10], by simp only [kS, R1, R2, R3, R4, R5, R6, R7, reduceCtorEq, R9, h9], by simp only [kS, R1, R2, R3, R4, R5, R6, R7, reduceCtorEq, R9, h0], by (simp only [kS, R1, R2, R3, R4, R5, R6, R7, reduceCtorEq, R9]) <;> first | omega | rfl⟩
    simp only [kS, R1, R2, R3, R4, R5, R6, R7, reduceCtorEq, R9]
    rw [wrap_i64 (by omega) (by omega)]; rfl
  have hlt' : ¬ (i : Int) < (l.length : Int) := by omega
  have ei : i = l.length := by omega
  rw [ei, List.take_length] at h3
  repeat (first | ((first | refine Q1 ?_ | refine Q2 ?_); intro Z hN hX hR) | refine Q3 (by kernel_rfl) fun K hK => ?_ | ((first | refine Q4 fun R hJ => ?_ | with_reducible change ExpAll _ _ _); simp only [kS, R1, R2, R3, R4, R5, R6, R7, reduceCtorEq, R9, h11, h10, h9, h0, h3, hlt', el, decide_false]) | (refine hJ _ ?_; clear hJ R) | refine Q5 ?_ | (refine hK _ ?_; clear hK K) | ((first | refine hN _ ?_ | refine hX _ _ ?_ | refine hR _ ?_); clear hN hX hR Z) | refine Q6 rfl ?_ | refine Q7 (by decide) ?_ | (refine Q8 ?_ ?_; focus (simp only [kS, R1, R2, R3, R4, R5, R6, R7, reduceCtorEq, R9, h11, h10, h9, h0, h3, hlt', el, decide_false]; done)) | (refine Q9 ?_ ?_; focus (simp only [kS, R1, R2, R3, R4, R5, R6, R7, reduceCtorEq, R9, h11, h10, h9, h0, h3, hlt', el, decide_false]; done)) | refine Qa ?_ | refine Qb ?_ | refine Qc ?_ | refine And.intro (by first | assumption | omega) ?_)
  refine ⟨_, grow70_ret gl (tot l) (by omega), rfl, ?_⟩
  simp only [kS, R1, R2, R3, R4, R5, R6, R7, reduceCtorEq, R9, h0, h3]
  repeat (first | ((first | refine Q1 ?_ | refine Q2 ?_); intro Z hN hX hR) | refine Q3 (by kernel_rfl) fun K hK => ?_ | ((first | refine Q4 fun R hJ => ?_ | with_reducible change ExpAll _ _ _); simp only [kS, R1, R2, R3, R4, R5, R6, R7, reduceCtorEq, R9, h0, h3, el]) | (refine hJ _ ?_; clear hJ R) | refine Q5 ?_ | (refine hK _ ?_; clear hK K) | ((first | refine hN _ ?_ | refine hX _ _ ?_ | refine hR _ ?_); clear hN hX hR Z) | refine Q6 rfl ?_ | refine Q7 (by decide) ?_ | (refine Q8 ?_ ?_; focus (simp only [kS, R1, R2, R3, R4, R5, R6, R7, reduceCtorEq, R9, h0, h3, el]; done)) | (refine Q9 ?_ ?_; focus (simp only [kS, R1, R2, R3, R4, R5, R6, R7, reduceCtorEq, R9, h0, h3, el]; done)) | refine Qa ?_ | refine Qb ?_ | refine Qc ?_ | refine And.intro (by first | assumption | omega) ?_)
  clear h11 h10 h9 hlt hlt' ei hi
  refine awq_loop (fun c f => ∃ (i : Nat), i ≤ l.length ∧ c = l.length - i ∧ f.t 27 = iv (i : Int) ∧ f.t 26 = iv (l.length : Int) ∧ f.t 25 = .c (ssS l) ∧ ∃ e t, f.t 6 = .tok e t (tot (l.take i)) (itsC (l.take i).flatten) ∧ f.ob e t = .live 40 4 ∧ t ≤ f.k) l.length ?_ ?_
  · exact ⟨0, by omega, rfl, by (simp only [kS, R1, R2, R3, R4, R5, R6, R7, reduceCtorEq, R9]) <;> first | omega | rfl, by (simp only [kS, R1, R2, R3, R4, R5, R6, R7, reduceCtorEq, R9]) <;> first | omega | rfl, by (simp only [kS, R1, R2, R3, R4, R5, R6, R7, reduceCtorEq, R9, h0]) <;> first | omega | rfl, 24, f.k + 1 + 1, by (simp only [kS, R1, R2, R3, R4, R5, R6, R7, reduceCtorEq, R9]) <;> first | omega | rfl, by (simp only [kS, R1, R2, R3, R4, R5, R6, R7, reduceCtorEq, R9, tk1, tk2, tk3, tk4, tk5, tk6, tk7, tk8, and_false, false_and]) <;> first | omega | rfl, by (simp only [kS, R1, R2, R3, R4, R5, R6, R7, reduceCtorEq, R9]) <;> first | omega | rfl⟩
  clear h0 h3 hb hb'
  rintro Z c f hN hX hR ⟨i, hi, rfl, h27, h26, h25, e, t, h6, hob, ht⟩
  have hb := tot_take l i
  have hb' := tot_take l (i + 1)
  by_cases hlt : i < l.length
  · have hlt' : (i : Int) < (l.length : Int) := by omega
    have ed := ssC_drop l i hlt
    have hs : tot (l.take (i + 1)) = tot (l.take i) + l[i].length := by
      rw [List.take_succ_eq_append_getElem hlt, tot_append]; simp [tot]
    have hf : itsC (l.take (i + 1)).flatten = itsC (l.take i).flatten ++ itsC l[i] := by
      rw [List.take_succ_eq_append_getElem hlt, List.flatten_append, itsC_append]; simp
    have hlen : (itsC (l.take i).flatten).length = tot (l.take i) * 4 := by rw [itsC_length, tot_flat]
    have hlen2 := itsC_length l[i]
    repeat (first | ((first | refine Q1 ?_ | refine Q2 ?_); intro Z hN hX hR) | refine Q3 (by kernel_rfl) fun K hK => ?_ | ((first | refine Q4 fun R hJ => ?_ | with_reducible change ExpAll _ _ _); simp only [kS, R1, R2, R3, R4, R5, R6, R7, reduceCtorEq, R9, h27, h26, h25, h6, hob, ht, hlt, hlt', ed, el, hlen, hlen2, tk1, tk2, tk3, tk4, tk5, tk6, tk7, tk8, and_false, false_and, decide_true]) | (refine hJ _ ?_; clear hJ R) | refine Q5 ?_ | (refine hK _ ?_; clear hK K) | ((first | refine hN _ ?_ | refine hX _ _ ?_ | refine hR _ ?_); clear hN hX hR Z) | refine Q6 rfl ?_ | refine Q7 (by decide) ?_ | (refine Q8 ?_ ?_; focus (simp only [kS, R1, R2, R3, R4, R5, R6, R7, reduceCtorEq, R9, h27, h26, h25, h6, hob, ht, hlt, hlt', ed, el, hlen, hlen2, tk1, tk2, tk3, tk4, tk5, tk6, tk7, tk8, and_false, false_and, decide_true]; done)) | (refine Q9 ?_ ?_; focus (simp only [kS, R1, R2, R3, R4, R5, R6, R7, reduceCtorEq, R9, h27, h26, h25, h6, hob, ht, hlt, hlt', ed, el, hlen, hlen2, tk1, tk2, tk3, tk4, tk5, tk6, tk7, tk8, and_false, false_and, decide_true]; done)) | refine Qa ?_ | refine Qb ?_ | refine Qc ?_ | refine And.intro (by first | assumption | omega) ?_)
    refine ⟨l.length - (i + 1), by omega, i + 1, by omega, rfl, ?_, by simp only [kS, R1, R2, R3, R4, R5, R6, R7, reduceCtorEq, R9, h26], by simp only [kS, R1, R2, R3, R4, R5, R6, R7, reduceCtorEq, R9, h25], 33, f.k + 1 + 1 + 1, ?_, by (simp only [kS, R1, R2, R3, R4, R5, R6, R7, reduceCtorEq, R9, tk1, tk2, tk3, tk4, tk5, tk6, tk7, tk8, and_false, false_and]) <;> first | omega | rfl, by (simp only [kS, R1, R2, R3, R4, R5, R6, R7, reduceCtorEq, R9]) <;> first | omega | rfl⟩
    · simp only [kS, R1, R2, R3, R4, R5, R6, R7, reduceCtorEq, R9]
      rw [wrap_i64 (by omega) (by omega)]; rfl
    · simp only [kS, R1, R2, R3, R4, R5, R6, R7, reduceCtorEq, R9]
      rw [hs, hf]
  · have hlt' : ¬ (i : Int) < (l.length : Int) := by omega
    have ei : i = l.length := by omega
    rw [ei, List.take_length] at h6
    repeat (first | ((first | refine Q1 ?_ | refine Q2 ?_); intro Z hN hX hR) | refine Q3 (by kernel_rfl) fun K hK => ?_ | ((first | refine Q4 fun R hJ => ?_ | with_reducible change ExpAll _ _ _); simp only [kS, R1, R2, R3, R4, R5, R6, R7, reduceCtorEq, R9, h27, h26, h25, h6, hob, hlt', el, decide_false]) | (refine hJ _ ?_; clear hJ R) | refine Q5 ?_ | (refine hK _ ?_; clear hK K) | ((first | refine hN _ ?_ | refine hX _ _ ?_ | refine hR _ ?_); clear hN hX hR Z) | refine Q6 rfl ?_ | refine Q7 (by decide) ?_ | (refine Q8 ?_ ?_; focus (simp only [kS, R1, R2, R3, R4, R5, R6, R7, reduceCtorEq, R9, h27, h26, h25, h6, hob, hlt', el, decide_false]; done)) | (refine Q9 ?_ ?_; focus (simp only [kS, R1, R2, R3, R4, R5, R6, R7, reduceCtorEq, R9, h27, h26, h25, h6, hob, hlt', el, decide_false]; done)) | refine Qa ?_ | refine Qb ?_ | refine Qc ?_ | refine And.intro (by first | assumption | omega) ?_)
    all_goals exact .inr ⟨40, 4, rfl, by rw [itsC_length, tot_flat], by rw [tot_flat]⟩

theorem with_tok (gl : Gl) (rest l : List It) (h1 : rest.length ≤ 1000000) (h2 : l.length ≤ 1000000) : Ret Tryd.prog gl 40 [.c (stC rest), .c (stC l)] (.tok 40 4 (l ++ rest).length (itsC (l ++ rest))) := by
  refine retq (rs := [4]) 9 Tryd.func40 (by kernel_rfl) rfl (by kernel_rfl) rfl (by simp) (by simp) fun Z hN hX hR => ?_
  have hc := concat_tok gl [l, rest] (by simp) (by simp [tot]; omega)
  have e : ([l, rest] : List (List It)).flatten = l ++ rest := by simp
  rw [e] at hc
  repeat (first | ((first | refine Q1 ?_ | refine Q2 ?_); intro Z hN hX hR) | refine Q3 (by kernel_rfl) fun K hK => ?_ | ((first | refine Q4 fun R hJ => ?_ | with_reducible change ExpAll _ _ _); simp only [kS, R1, R2, R3, R4, R5, R6, R7, reduceCtorEq, R9]) | (refine hJ _ ?_; clear hJ R) | refine Q5 ?_ | (refine hK _ ?_; clear hK K) | ((first | refine hN _ ?_ | refine hX _ _ ?_ | refine hR _ ?_); clear hN hX hR Z) | refine Q6 rfl ?_ | refine Q7 (by decide) ?_ | (refine Q8 ?_ ?_; focus (simp only [kS, R1, R2, R3, R4, R5, R6, R7, reduceCtorEq, R9]; done)) | (refine Q9 ?_ ?_; focus (simp only [kS, R1, R2, R3, R4, R5, R6, R7, reduceCtorEq, R9]; done)) | refine Qa ?_ | refine Qb ?_ | refine Qc ?_ | refine And.intro (by first | assumption | omega) ?_)
  refine ⟨_, hc, rfl, ?_⟩
  simp only [kS, R1, R2, R3, R4, R5, R6, R7, reduceCtorEq, R9]
  repeat (first | ((first | refine Q1 ?_ | refine Q2 ?_); intro Z hN hX hR) | refine Q3 (by kernel_rfl) fun K hK => ?_ | ((first | refine Q4 fun R hJ => ?_ | with_reducible change ExpAll _ _ _); simp only [kS, R1, R2, R3, R4, R5, R6, R7, reduceCtorEq, R9]) | (refine hJ _ ?_; clear hJ R) | refine Q5 ?_ | (refine hK _ ?_; clear hK K) | ((first | refine hN _ ?_ | refine hX _ _ ?_ | refine hR _ ?_); clear hN hX hR Z) | refine Q6 rfl ?_ | refine Q7 (by decide) ?_ | (refine Q8 ?_ ?_; focus (simp only [kS, R1, R2, R3, R4, R5, R6, R7, reduceCtorEq, R9]; done)) | (refine Q9 ?_ ?_; focus (simp only [kS, R1, R2, R3, R4, R5, R6, R7, reduceCtorEq, R9]; done)) | refine Qa ?_ | refine Qb ?_ | refine Qc ?_ | refine And.intro (by first | assumption | omega) ?_)
  all_goals exact .inr ⟨40, 4, rfl, by rw [itsC_length, List.length_append], rfl⟩

end

theorem with_fr (gl : Gl) (rest l : List It) (h1 : rest.length ≤ 1000000) (h2 : l.length ≤ 1000000) : Ret Tryd.prog gl 40 [.c (stC rest), .c (stC l)] (.c (.fr (stC (l ++ rest)))) := ret_fr (with_tok gl rest l h1 h2)

end Go.Proofs.YtilhjiopbbbgmaaDoor

/- Clone: it answers memory of the call's own. -/
namespace Go.Proofs.YtilhjiopbbbgmaaDoor
open Go Go.RowKit Am Go.Shelf
set_option linter.unusedVariables false
set_option linter.unusedSimpArgs false

def itW (x : It) : List Value := [.int .i64 x.k, .int .i64 x.n, .int .i64 x.lo, .int .i64 x.hi]
def itsW (s : List It) : List Value := s.flatMap itW
theorem itsW_length (s : List It) : (itsW s).length = s.length * 4 := by
  induction s with
  | nil => rfl
  | cons x s ih => simp [itsW, itW] at ih ⊢; omega
theorem itsW_append (a b : List It) : itsW (a ++ b) = itsW a ++ itsW b := by simp [itsW]

theorem repL_its {w : World} {G : Am.Good} : ∀ (s : List It) (ys : List Value), RepL w G (itsC s) ys → ys = itsW s
  | [], [], _ => rfl
  | [], _ :: _, h => h.elim
  | x :: s, [], h => h.elim
  | x :: s, [_], h => h.2.elim
  | x :: s, [_, _], h => h.2.2.elim
  | x :: s, [_, _, _], h => h.2.2.2.elim
  | x :: s, a :: b :: c :: d :: ys, h => by
    obtain ⟨⟨rfl, _⟩, ⟨rfl, _⟩, ⟨rfl, _⟩, ⟨rfl, _⟩, h⟩ := h
    rw [repL_its s ys h]
    rfl
theorem rep_its {w : World} {G : Am.Good} : ∀ s : List It, RepL w G (itsC s) (itsW s)
  | [] => trivial
  | x :: s => ⟨⟨rfl, rfl⟩, ⟨rfl, rfl⟩, ⟨rfl, rfl⟩, ⟨rfl, rfl⟩, rep_its s⟩

theorem itsW_get : ∀ (s : List It) (k : Nat) (h : k < s.length), (itsW s)[k * 4]? = some (.int .i64 s[k].k) ∧ (itsW s)[k * 4 + 1]? = some (.int .i64 s[k].n) ∧ (itsW s)[k * 4 + 2]? = some (.int .i64 s[k].lo) ∧ (itsW s)[k * 4 + 3]? = some (.int .i64 s[k].hi)
  | x :: s, 0, _ => ⟨rfl, rfl, rfl, rfl⟩
  | x :: s, k + 1, h => by
    have ih := itsW_get s k (by simpa using h)
    have e : itsW (x :: s) = itW x ++ itsW s := rfl
    have g : ∀ j, (itsW (x :: s))[(k + 1) * 4 + j]? = (itsW s)[k * 4 + j]? := fun j => by
      rw [e, List.getElem?_append_right (by simp [itW]; omega)]
      simp only [itW, List.length_cons, List.length_nil]
      rw [show (k + 1) * 4 + j - (0 + 1 + 1 + 1 + 1) = k * 4 + j by omega]
    exact ⟨(g 0).trans ih.1, (g 1).trans ih.2.1, (g 2).trans ih.2.2.1, (g 3).trans ih.2.2.2⟩

theorem itsW_set : ∀ (s : List It) (k : Nat) (h : k < s.length) (v : Int), (itsW s).set (k * 4 + 2) (.int .i64 v) = itsW (s.set k { s[k] with lo := v })
  | x :: s, 0, _, v => rfl
  | x :: s, k + 1, h, v => by
    have ih := itsW_set s k (by simpa using h) v
    have e : itsW (x :: s) = itW x ++ itsW s := rfl
    rw [e, show (k + 1) * 4 + 2 = (itW x).length + (k * 4 + 2) by simp [itW]; omega, List.set_append_right _ _ (by omega)]
    rw [Nat.add_sub_cancel_left, ih]
    rfl

/-- Clone: the same items, in a row of the call's own. -/
theorem clone57_own {w : World} {G : Am.Good} {v : Value} (s : List It) (hs : s.length * 32 ≤ 140737488355328) (hv : RepC w G (stC s) v) : Calls Tryd.prog 57 #[v] w fun e w' =>
    ∃ a cap, e = .returned (.slice a s.length cap) ∧ Below w.heap.size w w' ∧ w'.ownsRow w.heap.size 40 4 (.slice a s.length cap) s.length (itsW s) := by
  obtain ⟨i0, hi0, hz0, hs0, hb0⟩ := info_parts info40
  simp only [RepC] at hv
  obtain ⟨a, cap, rfl, hcap, hv⟩ := hv
  cases a with
  | none =>
    refine (AnyE.slices_Clone_nil clone57 s.length cap w).mono ?_
    rintro e w' ⟨rfl, rfl⟩
    have h0 : s = [] := by
      rcases hv with h | ⟨b, o, h, _⟩
      · cases s with
        | nil => rfl
        | cons x s => simp [itsC, It.c] at h
      · cases h
    subst h0
    exact ⟨_, _, rfl, Below.refl _ _, rfl, .inl ⟨rfl, rfl⟩⟩
  | some ad =>
    by_cases h0 : s = []
    · subst h0
      have happ : ∀ (b' : Nat) (w' : World), (Builtin.append_ #[26, 26] 26 #[.slice (some ⟨b', 0, none⟩) 0 0, .slice (some ad) 0 cap]).run Tryd.prog w' = .ok (.slice (some ⟨b', 0, none⟩) 0 0) w' := fun b' w' => by
        have hi := hi0
        simp [Builtin.append_, run_underlying Tryd.underlying26, sizeOf, typeInfo, hi, Builtin.lenOf, run_firstCells_zero, storeCells]
      have q := fun (w : World) (c : Nat) => Lib.run_eql_slice_nil (P := Tryd.prog) w 26 40 (some ad) 0 c 0 0 Tryd.underlying26
      clear hv
      go_enter Tryd.func57, Tryd.ntmps57
      go_wp2
      go_ret
      exact ⟨_, _, rfl, (Below.refl _ w).alloc (Nat.le_refl _) _, rfl, .inr ⟨w.heap.size, 0, #[], rfl, Nat.le_refl _, heap_alloc_new w _, Nat.le_refl _, by omega, rfl, rfl⟩⟩
    · obtain ⟨b, o, rfl, hm⟩ : ∃ b o, ad = ⟨b, o, none⟩ ∧ RepM w G (itsC s) b o := by
        rcases hv with h | ⟨b, o, h, hm⟩
        · cases s with
          | nil => exact absurd rfl h0
          | cons x s => simp [itsC, It.c] at h
        · cases h; exact ⟨b, o, rfl, hm⟩
      obtain ⟨ys, hl, hy⟩ := hm.vals
      have hlen : ys.length = s.length * 4 := by rw [← hl.length, itsC_length]
      refine (AnyE.slices_Clone clone57 i0 _ 4 32 hi0 hz0 hs0 hb0 rfl (by decide) Tryd.sizeOf40 b o s.length cap ys w hlen (by simp only [maxLen]; omega) (by omega) hy hl.one).mono ?_
      rintro e w' ⟨v', rfl, hown, hne, hbel⟩
      rw [repL_its s ys hl] at hown
      have hpos : 0 < s.length := List.length_pos_iff.2 h0
      rcases hown.2 with ⟨_, h⟩ | ⟨g, cap', cur, rfl, _⟩
      · omega
      · exact ⟨_, _, rfl, hbel, hown⟩

theorem RepC.unfr {w : World} {G : Am.Good} {c : C} {v : Value} (h : RepC w G (.fr c) v) : RepC w G c v := by
  rw [RepC] at h; exact h.1

/-- An own row, as what is marked so. -/
theorem own_fr {w' : World} {G : Am.Good} {B n sz : Nat} {el : TypeId} {v : Value} {xs : List Value} {cs : List C} (hG : ∀ b o, G b o → b < w'.heap.size) (hown : w'.ownsRow B el sz v n xs) (hl : ∀ G, RepL w' G cs xs) :
    ∃ G' : Am.Good, (∀ b o, G b o → G' b o) ∧ (∀ b o, G' b o → G b o ∨ B ≤ b) ∧ (∀ b o, G' b o → b < w'.heap.size) ∧ RepC w' G' (.fr (.sl n cs)) v := by
  refine ⟨fun b o => G b o ∨ v.ownBlock = some b, fun _ _ h => .inl h, fun b o h => h.imp id fun h => (hown.lt b h).1, fun b o h => ?_, ?_⟩
  · rcases h with h | h
    · exact hG b o h
    · exact (hown.lt b h).2
  · rw [RepC]
    refine ⟨RepC_own hown (hl _) fun b hb o ho => .inr hb, fun a n' cap e => ?_⟩
    rcases hown.2 with ⟨h, _⟩ | ⟨g, cap', cur, h, _, hh, _⟩
    · rw [e] at h; cases h
    · rw [e] at h
      cases h
      rw [e]
      exact .inr ⟨fun o => .inr rfl, by simp only [frz, hh]⟩

end Go.Proofs.YtilhjiopbbbgmaaDoor

/- The program's own Open: it opens a state as the document's answer does. (Printed by gen_open.py.) -/
namespace Go.Proofs.YtilhjiopbbbgmaaDoor
open Nat renaming reduceSub → R1, reduceMul → R2, reduceLeDiff → R3, reducePow → R4, reduceBEq → R5, reduceAdd → R6, reduceEqDiff → R7
open Int renaming reduceToNat → R9
open Go Go.RowKit Am
set_option linter.unusedVariables false
set_option linter.unusedSimpArgs false
set_option maxHeartbeats 4000000
attribute [local irreducible] AWp AOps

def okK (s : List It) : Prop := ∀ x ∈ s, 1 ≤ x.k ∧ x.k ≤ 5

theorem open17_ret (gl : Gl) (d : List Nd) (hd : WFd d) (x : It) (s : List It) (h : smIt d x) (hk : 1 ≤ x.k ∧ x.k ≤ 5) (hr : rdy d (x :: s) = false) (hs : s.length ≤ 1000000) :
    Ret Tryd.prog gl 17 [.agg (dC d), .c (stC (x :: s))] (.c (ssS (openS d (x :: s)))) := by
  refine retq (rs := [4]) 139 Tryd.func17 (by kernel_rfl) rfl (by kernel_rfl) rfl (by simp) (by simp) fun Z hN hX hR => ?_
  obtain ⟨k, n, lo, hi⟩ := x
  obtain ⟨⟨i1, i2⟩, l1, l2, l3⟩ := h
  simp only at i1 i2 l1 l2 l3 hk
  obtain ⟨m, rfl⟩ : ∃ m : Nat, n = m := ⟨n.toNat, by omega⟩
  have hm : m < d.length := by omega
  have e := ndsC_drop d m hm
  have e' := nd_get d m hm
  have hl := ndsC_length d
  have hi' := itsC_length s
  have et : (itsC s).take (s.length * 4) = itsC s := List.take_of_length_le (by omega)
  have hlt : (m : Int) < d.length := by omega
  have hok := hd.2.2 d[m] (List.getElem_mem hm)
  have h7 : (d[m].k == 1) = false → (d[m].k == 3) = false → (d[m].k == 4) = false → (d[m].k == 5) = false → (d[m].k == 6) = false → (k == 5) = false → (k == 2) = false → (d[m].k == 7) = true := by
    intro a1 a3 a4 a5 a6 a7 a8
    obtain ⟨b1, b2, _⟩ := hok
    simp only [rdy, e'] at hr
    simp only [beq_eq_false_iff_ne, ne_eq, Bool.or_eq_false_iff, Bool.and_eq_false_iff] at a1 a3 a4 a5 a6 a7 a8 hr
    rw [beq_iff_eq]
    obtain ⟨c1, c2, c3⟩ := hr
    rcases c3 with c3 | c3
    · omega
    · obtain ⟨c4, c5, c6⟩ := c3
      omega
  simp only [dC]
  repeat (first | ((first | refine Q1 ?_ | refine Q2 ?_); intro Z hN hX hR) | refine Q3 (by kernel_rfl) fun K hK => ?_ | ((first | refine Q4 fun R hJ => ?_ | with_reducible change ExpAll _ _ _); simp only [kS, R1, R2, R3, R4, R5, R6, R7, reduceCtorEq, R9, e, hl, hm, hlt, itsC_cons, hi']) | (refine hJ _ ?_; clear hJ R) | refine Q5 ?_ | (refine hK _ ?_; clear hK K) | ((first | refine hN _ ?_ | refine hX _ _ ?_ | refine hR _ ?_); clear hN hX hR Z) | refine Q6 rfl ?_ | refine Q7 (by decide) ?_ | (refine Q8 ?_ ?_; focus (simp only [kS, R1, R2, R3, R4, R5, R6, R7, reduceCtorEq, R9, e, hl, hm, hlt, itsC_cons, hi']; done)) | (refine Q9 ?_ ?_; focus (simp only [kS, R1, R2, R3, R4, R5, R6, R7, reduceCtorEq, R9, e, hl, hm, hlt, itsC_cons, hi']; done)) | refine Qa ?_ | refine Qb ?_ | refine Qc ?_ | refine And.intro (by first | assumption | omega) ?_)
  cases k5 : (k == 5)
  · cases k2 : (k == 2)
    · cases g1 : (d[m].k == 1)
      · cases g3 : (d[m].k == 3)
        · cases g4 : (d[m].k == 4)
          · cases g5 : (d[m].k == 5)
            · cases g6 : (d[m].k == 6)
              · have g7 := h7 g1 g3 g4 g5 g6 k5 k2
                repeat (first | ((first | refine Q1 ?_ | refine Q2 ?_); intro Z hN hX hR) | refine Q3 (by kernel_rfl) fun K hK => ?_ | ((first | refine Q4 fun R hJ => ?_ | with_reducible change ExpAll _ _ _); simp only [kS, R1, R2, R3, R4, R5, R6, R7, reduceCtorEq, R9, k5, k2, g1, g3, g4, g5, g6, g7, hi', et, Nat.add_one_sub_one, tk1, tk2, tk3, tk4, tk5, tk6, tk7, tk8, and_false, false_and, It.c]) | (refine hJ _ ?_; clear hJ R) | refine Q5 ?_ | (refine hK _ ?_; clear hK K) | ((first | refine hN _ ?_ | refine hX _ _ ?_ | refine hR _ ?_); clear hN hX hR Z) | refine Q6 rfl ?_ | refine Q7 (by decide) ?_ | (refine Q8 ?_ ?_; focus (simp only [kS, R1, R2, R3, R4, R5, R6, R7, reduceCtorEq, R9, k5, k2, g1, g3, g4, g5, g6, g7, hi', et, Nat.add_one_sub_one, tk1, tk2, tk3, tk4, tk5, tk6, tk7, tk8, and_false, false_and, It.c]; done)) | (refine Q9 ?_ ?_; focus (simp only [kS, R1, R2, R3, R4, R5, R6, R7, reduceCtorEq, R9, k5, k2, g1, g3, g4, g5, g6, g7, hi', et, Nat.add_one_sub_one, tk1, tk2, tk3, tk4, tk5, tk6, tk7, tk8, and_false, false_and, It.c]; done)) | refine Qa ?_ | refine Qb ?_ | refine Qc ?_ | refine And.intro (by first | assumption | omega) ?_)
                refine ⟨_, with_ret gl s [⟨2, m, d[m].lo, d[m].hi⟩] (by omega) (by simp), rfl, ?_⟩
                try simp only [kS, R1, R2, R3, R4, R5, R6, R7, reduceCtorEq, R9, k5, k2, g1, g3, g4, g5, g6, g7, hi', et, Nat.add_one_sub_one, tk1, tk2, tk3, tk4, tk5, tk6, tk7, tk8, and_false, false_and, It.c]
                repeat (first | ((first | refine Q1 ?_ | refine Q2 ?_); intro Z hN hX hR) | refine Q3 (by kernel_rfl) fun K hK => ?_ | ((first | refine Q4 fun R hJ => ?_ | with_reducible change ExpAll _ _ _); simp only [kS, R1, R2, R3, R4, R5, R6, R7, reduceCtorEq, R9, k5, k2, g1, g3, g4, g5, g6, g7, hi', et, Nat.add_one_sub_one, tk1, tk2, tk3, tk4, tk5, tk6, tk7, tk8, and_false, false_and, It.c]) | (refine hJ _ ?_; clear hJ R) | refine Q5 ?_ | (refine hK _ ?_; clear hK K) | ((first | refine hN _ ?_ | refine hX _ _ ?_ | refine hR _ ?_); clear hN hX hR Z) | refine Q6 rfl ?_ | refine Q7 (by decide) ?_ | (refine Q8 ?_ ?_; focus (simp only [kS, R1, R2, R3, R4, R5, R6, R7, reduceCtorEq, R9, k5, k2, g1, g3, g4, g5, g6, g7, hi', et, Nat.add_one_sub_one, tk1, tk2, tk3, tk4, tk5, tk6, tk7, tk8, and_false, false_and, It.c]; done)) | (refine Q9 ?_ ?_; focus (simp only [kS, R1, R2, R3, R4, R5, R6, R7, reduceCtorEq, R9, k5, k2, g1, g3, g4, g5, g6, g7, hi', et, Nat.add_one_sub_one, tk1, tk2, tk3, tk4, tk5, tk6, tk7, tk8, and_false, false_and, It.c]; done)) | refine Qa ?_ | refine Qb ?_ | refine Qc ?_ | refine And.intro (by first | assumption | omega) ?_)
                simp only [openS, e', k5, k2, g1, g3, g4, g5, g6, g7, Bool.false_eq_true, if_false, if_true, List.nil_append, List.cons_append, List.append_nil]
                all_goals first | rfl | exact .inr rfl | exact .inl rfl | exact .inl (by simp only [ssS, ssC, List.map_cons, List.map_nil, List.length_cons, List.length_nil, Nat.add_comm 1, Nat.add_comm 2] <;> rfl)
              · repeat (first | ((first | refine Q1 ?_ | refine Q2 ?_); intro Z hN hX hR) | refine Q3 (by kernel_rfl) fun K hK => ?_ | ((first | refine Q4 fun R hJ => ?_ | with_reducible change ExpAll _ _ _); simp only [kS, R1, R2, R3, R4, R5, R6, R7, reduceCtorEq, R9, k5, k2, g1, g3, g4, g5, g6, hi', et, Nat.add_one_sub_one, tk1, tk2, tk3, tk4, tk5, tk6, tk7, tk8, and_false, false_and, It.c]) | (refine hJ _ ?_; clear hJ R) | refine Q5 ?_ | (refine hK _ ?_; clear hK K) | ((first | refine hN _ ?_ | refine hX _ _ ?_ | refine hR _ ?_); clear hN hX hR Z) | refine Q6 rfl ?_ | refine Q7 (by decide) ?_ | (refine Q8 ?_ ?_; focus (simp only [kS, R1, R2, R3, R4, R5, R6, R7, reduceCtorEq, R9, k5, k2, g1, g3, g4, g5, g6, hi', et, Nat.add_one_sub_one, tk1, tk2, tk3, tk4, tk5, tk6, tk7, tk8, and_false, false_and, It.c]; done)) | (refine Q9 ?_ ?_; focus (simp only [kS, R1, R2, R3, R4, R5, R6, R7, reduceCtorEq, R9, k5, k2, g1, g3, g4, g5, g6, hi', et, Nat.add_one_sub_one, tk1, tk2, tk3, tk4, tk5, tk6, tk7, tk8, and_false, false_and, It.c]; done)) | refine Qa ?_ | refine Qb ?_ | refine Qc ?_ | refine And.intro (by first | assumption | omega) ?_)
                refine ⟨_, with_ret gl s [] (by omega) (by simp), rfl, ?_⟩
                try simp only [kS, R1, R2, R3, R4, R5, R6, R7, reduceCtorEq, R9, k5, k2, g1, g3, g4, g5, g6, hi', et, Nat.add_one_sub_one, tk1, tk2, tk3, tk4, tk5, tk6, tk7, tk8, and_false, false_and, It.c]
                repeat (first | ((first | refine Q1 ?_ | refine Q2 ?_); intro Z hN hX hR) | refine Q3 (by kernel_rfl) fun K hK => ?_ | ((first | refine Q4 fun R hJ => ?_ | with_reducible change ExpAll _ _ _); simp only [kS, R1, R2, R3, R4, R5, R6, R7, reduceCtorEq, R9, k5, k2, g1, g3, g4, g5, g6, hi', et, Nat.add_one_sub_one, tk1, tk2, tk3, tk4, tk5, tk6, tk7, tk8, and_false, false_and, It.c]) | (refine hJ _ ?_; clear hJ R) | refine Q5 ?_ | (refine hK _ ?_; clear hK K) | ((first | refine hN _ ?_ | refine hX _ _ ?_ | refine hR _ ?_); clear hN hX hR Z) | refine Q6 rfl ?_ | refine Q7 (by decide) ?_ | (refine Q8 ?_ ?_; focus (simp only [kS, R1, R2, R3, R4, R5, R6, R7, reduceCtorEq, R9, k5, k2, g1, g3, g4, g5, g6, hi', et, Nat.add_one_sub_one, tk1, tk2, tk3, tk4, tk5, tk6, tk7, tk8, and_false, false_and, It.c]; done)) | (refine Q9 ?_ ?_; focus (simp only [kS, R1, R2, R3, R4, R5, R6, R7, reduceCtorEq, R9, k5, k2, g1, g3, g4, g5, g6, hi', et, Nat.add_one_sub_one, tk1, tk2, tk3, tk4, tk5, tk6, tk7, tk8, and_false, false_and, It.c]; done)) | refine Qa ?_ | refine Qb ?_ | refine Qc ?_ | refine And.intro (by first | assumption | omega) ?_)
                refine ⟨_, node41_ret gl d[m].a, rfl, ?_⟩
                try simp only [kS, R1, R2, R3, R4, R5, R6, R7, reduceCtorEq, R9, k5, k2, g1, g3, g4, g5, g6, hi', et, Nat.add_one_sub_one, tk1, tk2, tk3, tk4, tk5, tk6, tk7, tk8, and_false, false_and, It.c]
                repeat (first | ((first | refine Q1 ?_ | refine Q2 ?_); intro Z hN hX hR) | refine Q3 (by kernel_rfl) fun K hK => ?_ | ((first | refine Q4 fun R hJ => ?_ | with_reducible change ExpAll _ _ _); simp only [kS, R1, R2, R3, R4, R5, R6, R7, reduceCtorEq, R9, k5, k2, g1, g3, g4, g5, g6, hi', et, Nat.add_one_sub_one, tk1, tk2, tk3, tk4, tk5, tk6, tk7, tk8, and_false, false_and, It.c]) | (refine hJ _ ?_; clear hJ R) | refine Q5 ?_ | (refine hK _ ?_; clear hK K) | ((first | refine hN _ ?_ | refine hX _ _ ?_ | refine hR _ ?_); clear hN hX hR Z) | refine Q6 rfl ?_ | refine Q7 (by decide) ?_ | (refine Q8 ?_ ?_; focus (simp only [kS, R1, R2, R3, R4, R5, R6, R7, reduceCtorEq, R9, k5, k2, g1, g3, g4, g5, g6, hi', et, Nat.add_one_sub_one, tk1, tk2, tk3, tk4, tk5, tk6, tk7, tk8, and_false, false_and, It.c]; done)) | (refine Q9 ?_ ?_; focus (simp only [kS, R1, R2, R3, R4, R5, R6, R7, reduceCtorEq, R9, k5, k2, g1, g3, g4, g5, g6, hi', et, Nat.add_one_sub_one, tk1, tk2, tk3, tk4, tk5, tk6, tk7, tk8, and_false, false_and, It.c]; done)) | refine Qa ?_ | refine Qb ?_ | refine Qc ?_ | refine And.intro (by first | assumption | omega) ?_)
                refine ⟨_, with_ret gl s [⟨1, d[m].a, 0, 0⟩, ⟨k, m, lo, hi⟩] (by omega) (by simp), rfl, ?_⟩
                try simp only [kS, R1, R2, R3, R4, R5, R6, R7, reduceCtorEq, R9, k5, k2, g1, g3, g4, g5, g6, hi', et, Nat.add_one_sub_one, tk1, tk2, tk3, tk4, tk5, tk6, tk7, tk8, and_false, false_and, It.c]
                repeat (first | ((first | refine Q1 ?_ | refine Q2 ?_); intro Z hN hX hR) | refine Q3 (by kernel_rfl) fun K hK => ?_ | ((first | refine Q4 fun R hJ => ?_ | with_reducible change ExpAll _ _ _); simp only [kS, R1, R2, R3, R4, R5, R6, R7, reduceCtorEq, R9, k5, k2, g1, g3, g4, g5, g6, hi', et, Nat.add_one_sub_one, tk1, tk2, tk3, tk4, tk5, tk6, tk7, tk8, and_false, false_and, It.c]) | (refine hJ _ ?_; clear hJ R) | refine Q5 ?_ | (refine hK _ ?_; clear hK K) | ((first | refine hN _ ?_ | refine hX _ _ ?_ | refine hR _ ?_); clear hN hX hR Z) | refine Q6 rfl ?_ | refine Q7 (by decide) ?_ | (refine Q8 ?_ ?_; focus (simp only [kS, R1, R2, R3, R4, R5, R6, R7, reduceCtorEq, R9, k5, k2, g1, g3, g4, g5, g6, hi', et, Nat.add_one_sub_one, tk1, tk2, tk3, tk4, tk5, tk6, tk7, tk8, and_false, false_and, It.c]; done)) | (refine Q9 ?_ ?_; focus (simp only [kS, R1, R2, R3, R4, R5, R6, R7, reduceCtorEq, R9, k5, k2, g1, g3, g4, g5, g6, hi', et, Nat.add_one_sub_one, tk1, tk2, tk3, tk4, tk5, tk6, tk7, tk8, and_false, false_and, It.c]; done)) | refine Qa ?_ | refine Qb ?_ | refine Qc ?_ | refine And.intro (by first | assumption | omega) ?_)
                simp only [openS, e', k5, k2, g1, g3, g4, g5, g6, Bool.false_eq_true, if_false, if_true, List.nil_append, List.cons_append, List.append_nil]
                all_goals first | rfl | exact .inr rfl | exact .inl rfl | exact .inl (by simp only [ssS, ssC, List.map_cons, List.map_nil, List.length_cons, List.length_nil, Nat.add_comm 1, Nat.add_comm 2] <;> rfl)
            · repeat (first | ((first | refine Q1 ?_ | refine Q2 ?_); intro Z hN hX hR) | refine Q3 (by kernel_rfl) fun K hK => ?_ | ((first | refine Q4 fun R hJ => ?_ | with_reducible change ExpAll _ _ _); simp only [kS, R1, R2, R3, R4, R5, R6, R7, reduceCtorEq, R9, k5, k2, g1, g3, g4, g5, hi', et, Nat.add_one_sub_one, tk1, tk2, tk3, tk4, tk5, tk6, tk7, tk8, and_false, false_and, It.c]) | (refine hJ _ ?_; clear hJ R) | refine Q5 ?_ | (refine hK _ ?_; clear hK K) | ((first | refine hN _ ?_ | refine hX _ _ ?_ | refine hR _ ?_); clear hN hX hR Z) | refine Q6 rfl ?_ | refine Q7 (by decide) ?_ | (refine Q8 ?_ ?_; focus (simp only [kS, R1, R2, R3, R4, R5, R6, R7, reduceCtorEq, R9, k5, k2, g1, g3, g4, g5, hi', et, Nat.add_one_sub_one, tk1, tk2, tk3, tk4, tk5, tk6, tk7, tk8, and_false, false_and, It.c]; done)) | (refine Q9 ?_ ?_; focus (simp only [kS, R1, R2, R3, R4, R5, R6, R7, reduceCtorEq, R9, k5, k2, g1, g3, g4, g5, hi', et, Nat.add_one_sub_one, tk1, tk2, tk3, tk4, tk5, tk6, tk7, tk8, and_false, false_and, It.c]; done)) | refine Qa ?_ | refine Qb ?_ | refine Qc ?_ | refine And.intro (by first | assumption | omega) ?_)
              refine ⟨_, node41_ret gl d[m].a, rfl, ?_⟩
              try simp only [kS, R1, R2, R3, R4, R5, R6, R7, reduceCtorEq, R9, k5, k2, g1, g3, g4, g5, hi', et, Nat.add_one_sub_one, tk1, tk2, tk3, tk4, tk5, tk6, tk7, tk8, and_false, false_and, It.c]
              repeat (first | ((first | refine Q1 ?_ | refine Q2 ?_); intro Z hN hX hR) | refine Q3 (by kernel_rfl) fun K hK => ?_ | ((first | refine Q4 fun R hJ => ?_ | with_reducible change ExpAll _ _ _); simp only [kS, R1, R2, R3, R4, R5, R6, R7, reduceCtorEq, R9, k5, k2, g1, g3, g4, g5, hi', et, Nat.add_one_sub_one, tk1, tk2, tk3, tk4, tk5, tk6, tk7, tk8, and_false, false_and, It.c]) | (refine hJ _ ?_; clear hJ R) | refine Q5 ?_ | (refine hK _ ?_; clear hK K) | ((first | refine hN _ ?_ | refine hX _ _ ?_ | refine hR _ ?_); clear hN hX hR Z) | refine Q6 rfl ?_ | refine Q7 (by decide) ?_ | (refine Q8 ?_ ?_; focus (simp only [kS, R1, R2, R3, R4, R5, R6, R7, reduceCtorEq, R9, k5, k2, g1, g3, g4, g5, hi', et, Nat.add_one_sub_one, tk1, tk2, tk3, tk4, tk5, tk6, tk7, tk8, and_false, false_and, It.c]; done)) | (refine Q9 ?_ ?_; focus (simp only [kS, R1, R2, R3, R4, R5, R6, R7, reduceCtorEq, R9, k5, k2, g1, g3, g4, g5, hi', et, Nat.add_one_sub_one, tk1, tk2, tk3, tk4, tk5, tk6, tk7, tk8, and_false, false_and, It.c]; done)) | refine Qa ?_ | refine Qb ?_ | refine Qc ?_ | refine And.intro (by first | assumption | omega) ?_)
              refine ⟨_, with_ret gl s [⟨1, d[m].a, 0, 0⟩] (by omega) (by simp), rfl, ?_⟩
              try simp only [kS, R1, R2, R3, R4, R5, R6, R7, reduceCtorEq, R9, k5, k2, g1, g3, g4, g5, hi', et, Nat.add_one_sub_one, tk1, tk2, tk3, tk4, tk5, tk6, tk7, tk8, and_false, false_and, It.c]
              repeat (first | ((first | refine Q1 ?_ | refine Q2 ?_); intro Z hN hX hR) | refine Q3 (by kernel_rfl) fun K hK => ?_ | ((first | refine Q4 fun R hJ => ?_ | with_reducible change ExpAll _ _ _); simp only [kS, R1, R2, R3, R4, R5, R6, R7, reduceCtorEq, R9, k5, k2, g1, g3, g4, g5, hi', et, Nat.add_one_sub_one, tk1, tk2, tk3, tk4, tk5, tk6, tk7, tk8, and_false, false_and, It.c]) | (refine hJ _ ?_; clear hJ R) | refine Q5 ?_ | (refine hK _ ?_; clear hK K) | ((first | refine hN _ ?_ | refine hX _ _ ?_ | refine hR _ ?_); clear hN hX hR Z) | refine Q6 rfl ?_ | refine Q7 (by decide) ?_ | (refine Q8 ?_ ?_; focus (simp only [kS, R1, R2, R3, R4, R5, R6, R7, reduceCtorEq, R9, k5, k2, g1, g3, g4, g5, hi', et, Nat.add_one_sub_one, tk1, tk2, tk3, tk4, tk5, tk6, tk7, tk8, and_false, false_and, It.c]; done)) | (refine Q9 ?_ ?_; focus (simp only [kS, R1, R2, R3, R4, R5, R6, R7, reduceCtorEq, R9, k5, k2, g1, g3, g4, g5, hi', et, Nat.add_one_sub_one, tk1, tk2, tk3, tk4, tk5, tk6, tk7, tk8, and_false, false_and, It.c]; done)) | refine Qa ?_ | refine Qb ?_ | refine Qc ?_ | refine And.intro (by first | assumption | omega) ?_)
              refine ⟨_, node41_ret gl d[m].b, rfl, ?_⟩
              try simp only [kS, R1, R2, R3, R4, R5, R6, R7, reduceCtorEq, R9, k5, k2, g1, g3, g4, g5, hi', et, Nat.add_one_sub_one, tk1, tk2, tk3, tk4, tk5, tk6, tk7, tk8, and_false, false_and, It.c]
              repeat (first | ((first | refine Q1 ?_ | refine Q2 ?_); intro Z hN hX hR) | refine Q3 (by kernel_rfl) fun K hK => ?_ | ((first | refine Q4 fun R hJ => ?_ | with_reducible change ExpAll _ _ _); simp only [kS, R1, R2, R3, R4, R5, R6, R7, reduceCtorEq, R9, k5, k2, g1, g3, g4, g5, hi', et, Nat.add_one_sub_one, tk1, tk2, tk3, tk4, tk5, tk6, tk7, tk8, and_false, false_and, It.c]) | (refine hJ _ ?_; clear hJ R) | refine Q5 ?_ | (refine hK _ ?_; clear hK K) | ((first | refine hN _ ?_ | refine hX _ _ ?_ | refine hR _ ?_); clear hN hX hR Z) | refine Q6 rfl ?_ | refine Q7 (by decide) ?_ | (refine Q8 ?_ ?_; focus (simp only [kS, R1, R2, R3, R4, R5, R6, R7, reduceCtorEq, R9, k5, k2, g1, g3, g4, g5, hi', et, Nat.add_one_sub_one, tk1, tk2, tk3, tk4, tk5, tk6, tk7, tk8, and_false, false_and, It.c]; done)) | (refine Q9 ?_ ?_; focus (simp only [kS, R1, R2, R3, R4, R5, R6, R7, reduceCtorEq, R9, k5, k2, g1, g3, g4, g5, hi', et, Nat.add_one_sub_one, tk1, tk2, tk3, tk4, tk5, tk6, tk7, tk8, and_false, false_and, It.c]; done)) | refine Qa ?_ | refine Qb ?_ | refine Qc ?_ | refine And.intro (by first | assumption | omega) ?_)
              refine ⟨_, with_ret gl s [⟨1, d[m].b, 0, 0⟩] (by omega) (by simp), rfl, ?_⟩
              try simp only [kS, R1, R2, R3, R4, R5, R6, R7, reduceCtorEq, R9, k5, k2, g1, g3, g4, g5, hi', et, Nat.add_one_sub_one, tk1, tk2, tk3, tk4, tk5, tk6, tk7, tk8, and_false, false_and, It.c]
              repeat (first | ((first | refine Q1 ?_ | refine Q2 ?_); intro Z hN hX hR) | refine Q3 (by kernel_rfl) fun K hK => ?_ | ((first | refine Q4 fun R hJ => ?_ | with_reducible change ExpAll _ _ _); simp only [kS, R1, R2, R3, R4, R5, R6, R7, reduceCtorEq, R9, k5, k2, g1, g3, g4, g5, hi', et, Nat.add_one_sub_one, tk1, tk2, tk3, tk4, tk5, tk6, tk7, tk8, and_false, false_and, It.c]) | (refine hJ _ ?_; clear hJ R) | refine Q5 ?_ | (refine hK _ ?_; clear hK K) | ((first | refine hN _ ?_ | refine hX _ _ ?_ | refine hR _ ?_); clear hN hX hR Z) | refine Q6 rfl ?_ | refine Q7 (by decide) ?_ | (refine Q8 ?_ ?_; focus (simp only [kS, R1, R2, R3, R4, R5, R6, R7, reduceCtorEq, R9, k5, k2, g1, g3, g4, g5, hi', et, Nat.add_one_sub_one, tk1, tk2, tk3, tk4, tk5, tk6, tk7, tk8, and_false, false_and, It.c]; done)) | (refine Q9 ?_ ?_; focus (simp only [kS, R1, R2, R3, R4, R5, R6, R7, reduceCtorEq, R9, k5, k2, g1, g3, g4, g5, hi', et, Nat.add_one_sub_one, tk1, tk2, tk3, tk4, tk5, tk6, tk7, tk8, and_false, false_and, It.c]; done)) | refine Qa ?_ | refine Qb ?_ | refine Qc ?_ | refine And.intro (by first | assumption | omega) ?_)
              simp only [openS, e', k5, k2, g1, g3, g4, g5, Bool.false_eq_true, if_false, if_true, List.nil_append, List.cons_append, List.append_nil]
              all_goals first | rfl | exact .inr rfl | exact .inl rfl | exact .inl (by simp only [ssS, ssC, List.map_cons, List.map_nil, List.length_cons, List.length_nil, Nat.add_comm 1, Nat.add_comm 2] <;> rfl)
          · repeat (first | ((first | refine Q1 ?_ | refine Q2 ?_); intro Z hN hX hR) | refine Q3 (by kernel_rfl) fun K hK => ?_ | ((first | refine Q4 fun R hJ => ?_ | with_reducible change ExpAll _ _ _); simp only [kS, R1, R2, R3, R4, R5, R6, R7, reduceCtorEq, R9, k5, k2, g1, g3, g4, hi', et, Nat.add_one_sub_one, tk1, tk2, tk3, tk4, tk5, tk6, tk7, tk8, and_false, false_and, It.c]) | (refine hJ _ ?_; clear hJ R) | refine Q5 ?_ | (refine hK _ ?_; clear hK K) | ((first | refine hN _ ?_ | refine hX _ _ ?_ | refine hR _ ?_); clear hN hX hR Z) | refine Q6 rfl ?_ | refine Q7 (by decide) ?_ | (refine Q8 ?_ ?_; focus (simp only [kS, R1, R2, R3, R4, R5, R6, R7, reduceCtorEq, R9, k5, k2, g1, g3, g4, hi', et, Nat.add_one_sub_one, tk1, tk2, tk3, tk4, tk5, tk6, tk7, tk8, and_false, false_and, It.c]; done)) | (refine Q9 ?_ ?_; focus (simp only [kS, R1, R2, R3, R4, R5, R6, R7, reduceCtorEq, R9, k5, k2, g1, g3, g4, hi', et, Nat.add_one_sub_one, tk1, tk2, tk3, tk4, tk5, tk6, tk7, tk8, and_false, false_and, It.c]; done)) | refine Qa ?_ | refine Qb ?_ | refine Qc ?_ | refine And.intro (by first | assumption | omega) ?_)
            refine ⟨_, node41_ret gl d[m].a, rfl, ?_⟩
            try simp only [kS, R1, R2, R3, R4, R5, R6, R7, reduceCtorEq, R9, k5, k2, g1, g3, g4, hi', et, Nat.add_one_sub_one, tk1, tk2, tk3, tk4, tk5, tk6, tk7, tk8, and_false, false_and, It.c]
            repeat (first | ((first | refine Q1 ?_ | refine Q2 ?_); intro Z hN hX hR) | refine Q3 (by kernel_rfl) fun K hK => ?_ | ((first | refine Q4 fun R hJ => ?_ | with_reducible change ExpAll _ _ _); simp only [kS, R1, R2, R3, R4, R5, R6, R7, reduceCtorEq, R9, k5, k2, g1, g3, g4, hi', et, Nat.add_one_sub_one, tk1, tk2, tk3, tk4, tk5, tk6, tk7, tk8, and_false, false_and, It.c]) | (refine hJ _ ?_; clear hJ R) | refine Q5 ?_ | (refine hK _ ?_; clear hK K) | ((first | refine hN _ ?_ | refine hX _ _ ?_ | refine hR _ ?_); clear hN hX hR Z) | refine Q6 rfl ?_ | refine Q7 (by decide) ?_ | (refine Q8 ?_ ?_; focus (simp only [kS, R1, R2, R3, R4, R5, R6, R7, reduceCtorEq, R9, k5, k2, g1, g3, g4, hi', et, Nat.add_one_sub_one, tk1, tk2, tk3, tk4, tk5, tk6, tk7, tk8, and_false, false_and, It.c]; done)) | (refine Q9 ?_ ?_; focus (simp only [kS, R1, R2, R3, R4, R5, R6, R7, reduceCtorEq, R9, k5, k2, g1, g3, g4, hi', et, Nat.add_one_sub_one, tk1, tk2, tk3, tk4, tk5, tk6, tk7, tk8, and_false, false_and, It.c]; done)) | refine Qa ?_ | refine Qb ?_ | refine Qc ?_ | refine And.intro (by first | assumption | omega) ?_)
            refine ⟨_, node41_ret gl d[m].b, rfl, ?_⟩
            try simp only [kS, R1, R2, R3, R4, R5, R6, R7, reduceCtorEq, R9, k5, k2, g1, g3, g4, hi', et, Nat.add_one_sub_one, tk1, tk2, tk3, tk4, tk5, tk6, tk7, tk8, and_false, false_and, It.c]
            repeat (first | ((first | refine Q1 ?_ | refine Q2 ?_); intro Z hN hX hR) | refine Q3 (by kernel_rfl) fun K hK => ?_ | ((first | refine Q4 fun R hJ => ?_ | with_reducible change ExpAll _ _ _); simp only [kS, R1, R2, R3, R4, R5, R6, R7, reduceCtorEq, R9, k5, k2, g1, g3, g4, hi', et, Nat.add_one_sub_one, tk1, tk2, tk3, tk4, tk5, tk6, tk7, tk8, and_false, false_and, It.c]) | (refine hJ _ ?_; clear hJ R) | refine Q5 ?_ | (refine hK _ ?_; clear hK K) | ((first | refine hN _ ?_ | refine hX _ _ ?_ | refine hR _ ?_); clear hN hX hR Z) | refine Q6 rfl ?_ | refine Q7 (by decide) ?_ | (refine Q8 ?_ ?_; focus (simp only [kS, R1, R2, R3, R4, R5, R6, R7, reduceCtorEq, R9, k5, k2, g1, g3, g4, hi', et, Nat.add_one_sub_one, tk1, tk2, tk3, tk4, tk5, tk6, tk7, tk8, and_false, false_and, It.c]; done)) | (refine Q9 ?_ ?_; focus (simp only [kS, R1, R2, R3, R4, R5, R6, R7, reduceCtorEq, R9, k5, k2, g1, g3, g4, hi', et, Nat.add_one_sub_one, tk1, tk2, tk3, tk4, tk5, tk6, tk7, tk8, and_false, false_and, It.c]; done)) | refine Qa ?_ | refine Qb ?_ | refine Qc ?_ | refine And.intro (by first | assumption | omega) ?_)
            refine ⟨_, with_ret gl s [⟨1, d[m].a, 0, 0⟩, ⟨1, d[m].b, 0, 0⟩] (by omega) (by simp), rfl, ?_⟩
            try simp only [kS, R1, R2, R3, R4, R5, R6, R7, reduceCtorEq, R9, k5, k2, g1, g3, g4, hi', et, Nat.add_one_sub_one, tk1, tk2, tk3, tk4, tk5, tk6, tk7, tk8, and_false, false_and, It.c]
            repeat (first | ((first | refine Q1 ?_ | refine Q2 ?_); intro Z hN hX hR) | refine Q3 (by kernel_rfl) fun K hK => ?_ | ((first | refine Q4 fun R hJ => ?_ | with_reducible change ExpAll _ _ _); simp only [kS, R1, R2, R3, R4, R5, R6, R7, reduceCtorEq, R9, k5, k2, g1, g3, g4, hi', et, Nat.add_one_sub_one, tk1, tk2, tk3, tk4, tk5, tk6, tk7, tk8, and_false, false_and, It.c]) | (refine hJ _ ?_; clear hJ R) | refine Q5 ?_ | (refine hK _ ?_; clear hK K) | ((first | refine hN _ ?_ | refine hX _ _ ?_ | refine hR _ ?_); clear hN hX hR Z) | refine Q6 rfl ?_ | refine Q7 (by decide) ?_ | (refine Q8 ?_ ?_; focus (simp only [kS, R1, R2, R3, R4, R5, R6, R7, reduceCtorEq, R9, k5, k2, g1, g3, g4, hi', et, Nat.add_one_sub_one, tk1, tk2, tk3, tk4, tk5, tk6, tk7, tk8, and_false, false_and, It.c]; done)) | (refine Q9 ?_ ?_; focus (simp only [kS, R1, R2, R3, R4, R5, R6, R7, reduceCtorEq, R9, k5, k2, g1, g3, g4, hi', et, Nat.add_one_sub_one, tk1, tk2, tk3, tk4, tk5, tk6, tk7, tk8, and_false, false_and, It.c]; done)) | refine Qa ?_ | refine Qb ?_ | refine Qc ?_ | refine And.intro (by first | assumption | omega) ?_)
            simp only [openS, e', k5, k2, g1, g3, g4, Bool.false_eq_true, if_false, if_true, List.nil_append, List.cons_append, List.append_nil]
            all_goals first | rfl | exact .inr rfl | exact .inl rfl | exact .inl (by simp only [ssS, ssC, List.map_cons, List.map_nil, List.length_cons, List.length_nil, Nat.add_comm 1, Nat.add_comm 2] <;> rfl)
        · repeat (first | ((first | refine Q1 ?_ | refine Q2 ?_); intro Z hN hX hR) | refine Q3 (by kernel_rfl) fun K hK => ?_ | ((first | refine Q4 fun R hJ => ?_ | with_reducible change ExpAll _ _ _); simp only [kS, R1, R2, R3, R4, R5, R6, R7, reduceCtorEq, R9, k5, k2, g1, g3, hi', et, Nat.add_one_sub_one, tk1, tk2, tk3, tk4, tk5, tk6, tk7, tk8, and_false, false_and, It.c]) | (refine hJ _ ?_; clear hJ R) | refine Q5 ?_ | (refine hK _ ?_; clear hK K) | ((first | refine hN _ ?_ | refine hX _ _ ?_ | refine hR _ ?_); clear hN hX hR Z) | refine Q6 rfl ?_ | refine Q7 (by decide) ?_ | (refine Q8 ?_ ?_; focus (simp only [kS, R1, R2, R3, R4, R5, R6, R7, reduceCtorEq, R9, k5, k2, g1, g3, hi', et, Nat.add_one_sub_one, tk1, tk2, tk3, tk4, tk5, tk6, tk7, tk8, and_false, false_and, It.c]; done)) | (refine Q9 ?_ ?_; focus (simp only [kS, R1, R2, R3, R4, R5, R6, R7, reduceCtorEq, R9, k5, k2, g1, g3, hi', et, Nat.add_one_sub_one, tk1, tk2, tk3, tk4, tk5, tk6, tk7, tk8, and_false, false_and, It.c]; done)) | refine Qa ?_ | refine Qb ?_ | refine Qc ?_ | refine And.intro (by first | assumption | omega) ?_)
          refine ⟨_, with_ret gl s [⟨3, m, 0, 0⟩] (by omega) (by simp), rfl, ?_⟩
          try simp only [kS, R1, R2, R3, R4, R5, R6, R7, reduceCtorEq, R9, k5, k2, g1, g3, hi', et, Nat.add_one_sub_one, tk1, tk2, tk3, tk4, tk5, tk6, tk7, tk8, and_false, false_and, It.c]
          repeat (first | ((first | refine Q1 ?_ | refine Q2 ?_); intro Z hN hX hR) | refine Q3 (by kernel_rfl) fun K hK => ?_ | ((first | refine Q4 fun R hJ => ?_ | with_reducible change ExpAll _ _ _); simp only [kS, R1, R2, R3, R4, R5, R6, R7, reduceCtorEq, R9, k5, k2, g1, g3, hi', et, Nat.add_one_sub_one, tk1, tk2, tk3, tk4, tk5, tk6, tk7, tk8, and_false, false_and, It.c]) | (refine hJ _ ?_; clear hJ R) | refine Q5 ?_ | (refine hK _ ?_; clear hK K) | ((first | refine hN _ ?_ | refine hX _ _ ?_ | refine hR _ ?_); clear hN hX hR Z) | refine Q6 rfl ?_ | refine Q7 (by decide) ?_ | (refine Q8 ?_ ?_; focus (simp only [kS, R1, R2, R3, R4, R5, R6, R7, reduceCtorEq, R9, k5, k2, g1, g3, hi', et, Nat.add_one_sub_one, tk1, tk2, tk3, tk4, tk5, tk6, tk7, tk8, and_false, false_and, It.c]; done)) | (refine Q9 ?_ ?_; focus (simp only [kS, R1, R2, R3, R4, R5, R6, R7, reduceCtorEq, R9, k5, k2, g1, g3, hi', et, Nat.add_one_sub_one, tk1, tk2, tk3, tk4, tk5, tk6, tk7, tk8, and_false, false_and, It.c]; done)) | refine Qa ?_ | refine Qb ?_ | refine Qc ?_ | refine And.intro (by first | assumption | omega) ?_)
          simp only [openS, e', k5, k2, g1, g3, Bool.false_eq_true, if_false, if_true, List.nil_append, List.cons_append, List.append_nil]
          all_goals first | rfl | exact .inr rfl | exact .inl rfl | exact .inl (by simp only [ssS, ssC, List.map_cons, List.map_nil, List.length_cons, List.length_nil, Nat.add_comm 1, Nat.add_comm 2] <;> rfl)
      · repeat (first | ((first | refine Q1 ?_ | refine Q2 ?_); intro Z hN hX hR) | refine Q3 (by kernel_rfl) fun K hK => ?_ | ((first | refine Q4 fun R hJ => ?_ | with_reducible change ExpAll _ _ _); simp only [kS, R1, R2, R3, R4, R5, R6, R7, reduceCtorEq, R9, k5, k2, g1, hi', et, Nat.add_one_sub_one, tk1, tk2, tk3, tk4, tk5, tk6, tk7, tk8, and_false, false_and, It.c]) | (refine hJ _ ?_; clear hJ R) | refine Q5 ?_ | (refine hK _ ?_; clear hK K) | ((first | refine hN _ ?_ | refine hX _ _ ?_ | refine hR _ ?_); clear hN hX hR Z) | refine Q6 rfl ?_ | refine Q7 (by decide) ?_ | (refine Q8 ?_ ?_; focus (simp only [kS, R1, R2, R3, R4, R5, R6, R7, reduceCtorEq, R9, k5, k2, g1, hi', et, Nat.add_one_sub_one, tk1, tk2, tk3, tk4, tk5, tk6, tk7, tk8, and_false, false_and, It.c]; done)) | (refine Q9 ?_ ?_; focus (simp only [kS, R1, R2, R3, R4, R5, R6, R7, reduceCtorEq, R9, k5, k2, g1, hi', et, Nat.add_one_sub_one, tk1, tk2, tk3, tk4, tk5, tk6, tk7, tk8, and_false, false_and, It.c]; done)) | refine Qa ?_ | refine Qb ?_ | refine Qc ?_ | refine And.intro (by first | assumption | omega) ?_)
        refine ⟨_, with_ret gl s [] (by omega) (by simp), rfl, ?_⟩
        try simp only [kS, R1, R2, R3, R4, R5, R6, R7, reduceCtorEq, R9, k5, k2, g1, hi', et, Nat.add_one_sub_one, tk1, tk2, tk3, tk4, tk5, tk6, tk7, tk8, and_false, false_and, It.c]
        repeat (first | ((first | refine Q1 ?_ | refine Q2 ?_); intro Z hN hX hR) | refine Q3 (by kernel_rfl) fun K hK => ?_ | ((first | refine Q4 fun R hJ => ?_ | with_reducible change ExpAll _ _ _); simp only [kS, R1, R2, R3, R4, R5, R6, R7, reduceCtorEq, R9, k5, k2, g1, hi', et, Nat.add_one_sub_one, tk1, tk2, tk3, tk4, tk5, tk6, tk7, tk8, and_false, false_and, It.c]) | (refine hJ _ ?_; clear hJ R) | refine Q5 ?_ | (refine hK _ ?_; clear hK K) | ((first | refine hN _ ?_ | refine hX _ _ ?_ | refine hR _ ?_); clear hN hX hR Z) | refine Q6 rfl ?_ | refine Q7 (by decide) ?_ | (refine Q8 ?_ ?_; focus (simp only [kS, R1, R2, R3, R4, R5, R6, R7, reduceCtorEq, R9, k5, k2, g1, hi', et, Nat.add_one_sub_one, tk1, tk2, tk3, tk4, tk5, tk6, tk7, tk8, and_false, false_and, It.c]; done)) | (refine Q9 ?_ ?_; focus (simp only [kS, R1, R2, R3, R4, R5, R6, R7, reduceCtorEq, R9, k5, k2, g1, hi', et, Nat.add_one_sub_one, tk1, tk2, tk3, tk4, tk5, tk6, tk7, tk8, and_false, false_and, It.c]; done)) | refine Qa ?_ | refine Qb ?_ | refine Qc ?_ | refine And.intro (by first | assumption | omega) ?_)
        simp only [openS, e', k5, k2, g1, Bool.false_eq_true, if_false, if_true, List.nil_append, List.cons_append, List.append_nil]
        all_goals first | rfl | exact .inr rfl | exact .inl rfl | exact .inl (by simp only [ssS, ssC, List.map_cons, List.map_nil, List.length_cons, List.length_nil, Nat.add_comm 1, Nat.add_comm 2] <;> rfl)
    · have hk2 : k = 2 := by simpa using k2
      have hw : IntKind.i64.wrap (lo - 1) = lo - 1 := wrap_i64 (by omega) (by omega)
      have hmx : (if 0 < lo - 1 then lo - 1 else 0) = (if lo - 1 < 0 then 0 else lo - 1) := by split <;> split <;> omega
      cases lo0 : (lo == 0)
      · by_cases hp : 0 < hi
        · have hh : IntKind.i64.wrap (hi - 1) = hi - 1 := wrap_i64 (by omega) (by omega)
          repeat (first | ((first | refine Q1 ?_ | refine Q2 ?_); intro Z hN hX hR) | refine Q3 (by kernel_rfl) fun K hK => ?_ | ((first | refine Q4 fun R hJ => ?_ | with_reducible change ExpAll _ _ _); simp only [kS, R1, R2, R3, R4, R5, R6, R7, reduceCtorEq, R9, k5, k2, lo0, hp, decide_true, decide_false, gt_iff_lt, hw, hh, hmx, hi', et, Nat.add_one_sub_one, tk1, tk2, tk3, tk4, tk5, tk6, tk7, tk8, and_false, false_and, It.c]) | (refine hJ _ ?_; clear hJ R) | refine Q5 ?_ | (refine hK _ ?_; clear hK K) | ((first | refine hN _ ?_ | refine hX _ _ ?_ | refine hR _ ?_); clear hN hX hR Z) | refine Q6 rfl ?_ | refine Q7 (by decide) ?_ | (refine Q8 ?_ ?_; focus (simp only [kS, R1, R2, R3, R4, R5, R6, R7, reduceCtorEq, R9, k5, k2, lo0, hp, decide_true, decide_false, gt_iff_lt, hw, hh, hmx, hi', et, Nat.add_one_sub_one, tk1, tk2, tk3, tk4, tk5, tk6, tk7, tk8, and_false, false_and, It.c]; done)) | (refine Q9 ?_ ?_; focus (simp only [kS, R1, R2, R3, R4, R5, R6, R7, reduceCtorEq, R9, k5, k2, lo0, hp, decide_true, decide_false, gt_iff_lt, hw, hh, hmx, hi', et, Nat.add_one_sub_one, tk1, tk2, tk3, tk4, tk5, tk6, tk7, tk8, and_false, false_and, It.c]; done)) | refine Qa ?_ | refine Qb ?_ | refine Qc ?_ | refine And.intro (by first | assumption | omega) ?_)
          refine ⟨_, node41_ret gl d[m].a, rfl, ?_⟩
          try simp only [kS, R1, R2, R3, R4, R5, R6, R7, reduceCtorEq, R9, k5, k2, lo0, hp, decide_true, decide_false, gt_iff_lt, hw, hh, hmx, hi', et, Nat.add_one_sub_one, tk1, tk2, tk3, tk4, tk5, tk6, tk7, tk8, and_false, false_and, It.c]
          repeat (first | ((first | refine Q1 ?_ | refine Q2 ?_); intro Z hN hX hR) | refine Q3 (by kernel_rfl) fun K hK => ?_ | ((first | refine Q4 fun R hJ => ?_ | with_reducible change ExpAll _ _ _); simp only [kS, R1, R2, R3, R4, R5, R6, R7, reduceCtorEq, R9, k5, k2, lo0, hp, decide_true, decide_false, gt_iff_lt, hw, hh, hmx, hi', et, Nat.add_one_sub_one, tk1, tk2, tk3, tk4, tk5, tk6, tk7, tk8, and_false, false_and, It.c]) | (refine hJ _ ?_; clear hJ R) | refine Q5 ?_ | (refine hK _ ?_; clear hK K) | ((first | refine hN _ ?_ | refine hX _ _ ?_ | refine hR _ ?_); clear hN hX hR Z) | refine Q6 rfl ?_ | refine Q7 (by decide) ?_ | (refine Q8 ?_ ?_; focus (simp only [kS, R1, R2, R3, R4, R5, R6, R7, reduceCtorEq, R9, k5, k2, lo0, hp, decide_true, decide_false, gt_iff_lt, hw, hh, hmx, hi', et, Nat.add_one_sub_one, tk1, tk2, tk3, tk4, tk5, tk6, tk7, tk8, and_false, false_and, It.c]; done)) | (refine Q9 ?_ ?_; focus (simp only [kS, R1, R2, R3, R4, R5, R6, R7, reduceCtorEq, R9, k5, k2, lo0, hp, decide_true, decide_false, gt_iff_lt, hw, hh, hmx, hi', et, Nat.add_one_sub_one, tk1, tk2, tk3, tk4, tk5, tk6, tk7, tk8, and_false, false_and, It.c]; done)) | refine Qa ?_ | refine Qb ?_ | refine Qc ?_ | refine And.intro (by first | assumption | omega) ?_)
          refine ⟨_, with_ret gl s [⟨1, d[m].a, 0, 0⟩, ⟨k, m, if lo - 1 < 0 then 0 else lo - 1, hi - 1⟩] (by omega) (by simp), rfl, ?_⟩
          try simp only [kS, R1, R2, R3, R4, R5, R6, R7, reduceCtorEq, R9, k5, k2, lo0, hp, decide_true, decide_false, gt_iff_lt, hw, hh, hmx, hi', et, Nat.add_one_sub_one, tk1, tk2, tk3, tk4, tk5, tk6, tk7, tk8, and_false, false_and, It.c]
          repeat (first | ((first | refine Q1 ?_ | refine Q2 ?_); intro Z hN hX hR) | refine Q3 (by kernel_rfl) fun K hK => ?_ | ((first | refine Q4 fun R hJ => ?_ | with_reducible change ExpAll _ _ _); simp only [kS, R1, R2, R3, R4, R5, R6, R7, reduceCtorEq, R9, k5, k2, lo0, hp, decide_true, decide_false, gt_iff_lt, hw, hh, hmx, hi', et, Nat.add_one_sub_one, tk1, tk2, tk3, tk4, tk5, tk6, tk7, tk8, and_false, false_and, It.c]) | (refine hJ _ ?_; clear hJ R) | refine Q5 ?_ | (refine hK _ ?_; clear hK K) | ((first | refine hN _ ?_ | refine hX _ _ ?_ | refine hR _ ?_); clear hN hX hR Z) | refine Q6 rfl ?_ | refine Q7 (by decide) ?_ | (refine Q8 ?_ ?_; focus (simp only [kS, R1, R2, R3, R4, R5, R6, R7, reduceCtorEq, R9, k5, k2, lo0, hp, decide_true, decide_false, gt_iff_lt, hw, hh, hmx, hi', et, Nat.add_one_sub_one, tk1, tk2, tk3, tk4, tk5, tk6, tk7, tk8, and_false, false_and, It.c]; done)) | (refine Q9 ?_ ?_; focus (simp only [kS, R1, R2, R3, R4, R5, R6, R7, reduceCtorEq, R9, k5, k2, lo0, hp, decide_true, decide_false, gt_iff_lt, hw, hh, hmx, hi', et, Nat.add_one_sub_one, tk1, tk2, tk3, tk4, tk5, tk6, tk7, tk8, and_false, false_and, It.c]; done)) | refine Qa ?_ | refine Qb ?_ | refine Qc ?_ | refine And.intro (by first | assumption | omega) ?_)
          simp only [openS, e', k5, k2, lo0, hp, decide_true, decide_false, gt_iff_lt, hmx, hk2, Int.reduceBEq, Bool.false_eq_true, if_false, if_true, List.nil_append, List.cons_append, List.append_nil]
          all_goals first | rfl | exact .inr rfl | exact .inl rfl | exact .inl (by simp only [ssS, ssC, List.map_cons, List.map_nil, List.length_cons, List.length_nil, Nat.add_comm 1, Nat.add_comm 2] <;> rfl)
        · repeat (first | ((first | refine Q1 ?_ | refine Q2 ?_); intro Z hN hX hR) | refine Q3 (by kernel_rfl) fun K hK => ?_ | ((first | refine Q4 fun R hJ => ?_ | with_reducible change ExpAll _ _ _); simp only [kS, R1, R2, R3, R4, R5, R6, R7, reduceCtorEq, R9, k5, k2, lo0, hp, decide_true, decide_false, gt_iff_lt, hi', et, Nat.add_one_sub_one, tk1, tk2, tk3, tk4, tk5, tk6, tk7, tk8, and_false, false_and, It.c]) | (refine hJ _ ?_; clear hJ R) | refine Q5 ?_ | (refine hK _ ?_; clear hK K) | ((first | refine hN _ ?_ | refine hX _ _ ?_ | refine hR _ ?_); clear hN hX hR Z) | refine Q6 rfl ?_ | refine Q7 (by decide) ?_ | (refine Q8 ?_ ?_; focus (simp only [kS, R1, R2, R3, R4, R5, R6, R7, reduceCtorEq, R9, k5, k2, lo0, hp, decide_true, decide_false, gt_iff_lt, hi', et, Nat.add_one_sub_one, tk1, tk2, tk3, tk4, tk5, tk6, tk7, tk8, and_false, false_and, It.c]; done)) | (refine Q9 ?_ ?_; focus (simp only [kS, R1, R2, R3, R4, R5, R6, R7, reduceCtorEq, R9, k5, k2, lo0, hp, decide_true, decide_false, gt_iff_lt, hi', et, Nat.add_one_sub_one, tk1, tk2, tk3, tk4, tk5, tk6, tk7, tk8, and_false, false_and, It.c]; done)) | refine Qa ?_ | refine Qb ?_ | refine Qc ?_ | refine And.intro (by first | assumption | omega) ?_)
          simp only [openS, e', k5, k2, lo0, hp, decide_true, decide_false, gt_iff_lt, hk2, Int.reduceBEq, Bool.false_eq_true, if_false, if_true, List.nil_append, List.cons_append, List.append_nil]
          all_goals first | rfl | exact .inr rfl | exact .inl rfl | exact .inl (by simp only [ssS, ssC, List.map_cons, List.map_nil, List.length_cons, List.length_nil, Nat.add_comm 1, Nat.add_comm 2] <;> rfl)
      · by_cases hp : 0 < hi
        · have hh : IntKind.i64.wrap (hi - 1) = hi - 1 := wrap_i64 (by omega) (by omega)
          repeat (first | ((first | refine Q1 ?_ | refine Q2 ?_); intro Z hN hX hR) | refine Q3 (by kernel_rfl) fun K hK => ?_ | ((first | refine Q4 fun R hJ => ?_ | with_reducible change ExpAll _ _ _); simp only [kS, R1, R2, R3, R4, R5, R6, R7, reduceCtorEq, R9, k5, k2, lo0, hp, decide_true, decide_false, gt_iff_lt, hw, hh, hmx, hi', et, Nat.add_one_sub_one, tk1, tk2, tk3, tk4, tk5, tk6, tk7, tk8, and_false, false_and, It.c]) | (refine hJ _ ?_; clear hJ R) | refine Q5 ?_ | (refine hK _ ?_; clear hK K) | ((first | refine hN _ ?_ | refine hX _ _ ?_ | refine hR _ ?_); clear hN hX hR Z) | refine Q6 rfl ?_ | refine Q7 (by decide) ?_ | (refine Q8 ?_ ?_; focus (simp only [kS, R1, R2, R3, R4, R5, R6, R7, reduceCtorEq, R9, k5, k2, lo0, hp, decide_true, decide_false, gt_iff_lt, hw, hh, hmx, hi', et, Nat.add_one_sub_one, tk1, tk2, tk3, tk4, tk5, tk6, tk7, tk8, and_false, false_and, It.c]; done)) | (refine Q9 ?_ ?_; focus (simp only [kS, R1, R2, R3, R4, R5, R6, R7, reduceCtorEq, R9, k5, k2, lo0, hp, decide_true, decide_false, gt_iff_lt, hw, hh, hmx, hi', et, Nat.add_one_sub_one, tk1, tk2, tk3, tk4, tk5, tk6, tk7, tk8, and_false, false_and, It.c]; done)) | refine Qa ?_ | refine Qb ?_ | refine Qc ?_ | refine And.intro (by first | assumption | omega) ?_)
          refine ⟨_, with_ret gl s [] (by omega) (by simp), rfl, ?_⟩
          try simp only [kS, R1, R2, R3, R4, R5, R6, R7, reduceCtorEq, R9, k5, k2, lo0, hp, decide_true, decide_false, gt_iff_lt, hw, hh, hmx, hi', et, Nat.add_one_sub_one, tk1, tk2, tk3, tk4, tk5, tk6, tk7, tk8, and_false, false_and, It.c]
          repeat (first | ((first | refine Q1 ?_ | refine Q2 ?_); intro Z hN hX hR) | refine Q3 (by kernel_rfl) fun K hK => ?_ | ((first | refine Q4 fun R hJ => ?_ | with_reducible change ExpAll _ _ _); simp only [kS, R1, R2, R3, R4, R5, R6, R7, reduceCtorEq, R9, k5, k2, lo0, hp, decide_true, decide_false, gt_iff_lt, hw, hh, hmx, hi', et, Nat.add_one_sub_one, tk1, tk2, tk3, tk4, tk5, tk6, tk7, tk8, and_false, false_and, It.c]) | (refine hJ _ ?_; clear hJ R) | refine Q5 ?_ | (refine hK _ ?_; clear hK K) | ((first | refine hN _ ?_ | refine hX _ _ ?_ | refine hR _ ?_); clear hN hX hR Z) | refine Q6 rfl ?_ | refine Q7 (by decide) ?_ | (refine Q8 ?_ ?_; focus (simp only [kS, R1, R2, R3, R4, R5, R6, R7, reduceCtorEq, R9, k5, k2, lo0, hp, decide_true, decide_false, gt_iff_lt, hw, hh, hmx, hi', et, Nat.add_one_sub_one, tk1, tk2, tk3, tk4, tk5, tk6, tk7, tk8, and_false, false_and, It.c]; done)) | (refine Q9 ?_ ?_; focus (simp only [kS, R1, R2, R3, R4, R5, R6, R7, reduceCtorEq, R9, k5, k2, lo0, hp, decide_true, decide_false, gt_iff_lt, hw, hh, hmx, hi', et, Nat.add_one_sub_one, tk1, tk2, tk3, tk4, tk5, tk6, tk7, tk8, and_false, false_and, It.c]; done)) | refine Qa ?_ | refine Qb ?_ | refine Qc ?_ | refine And.intro (by first | assumption | omega) ?_)
          refine ⟨_, node41_ret gl d[m].a, rfl, ?_⟩
          try simp only [kS, R1, R2, R3, R4, R5, R6, R7, reduceCtorEq, R9, k5, k2, lo0, hp, decide_true, decide_false, gt_iff_lt, hw, hh, hmx, hi', et, Nat.add_one_sub_one, tk1, tk2, tk3, tk4, tk5, tk6, tk7, tk8, and_false, false_and, It.c]
          repeat (first | ((first | refine Q1 ?_ | refine Q2 ?_); intro Z hN hX hR) | refine Q3 (by kernel_rfl) fun K hK => ?_ | ((first | refine Q4 fun R hJ => ?_ | with_reducible change ExpAll _ _ _); simp only [kS, R1, R2, R3, R4, R5, R6, R7, reduceCtorEq, R9, k5, k2, lo0, hp, decide_true, decide_false, gt_iff_lt, hw, hh, hmx, hi', et, Nat.add_one_sub_one, tk1, tk2, tk3, tk4, tk5, tk6, tk7, tk8, and_false, false_and, It.c]) | (refine hJ _ ?_; clear hJ R) | refine Q5 ?_ | (refine hK _ ?_; clear hK K) | ((first | refine hN _ ?_ | refine hX _ _ ?_ | refine hR _ ?_); clear hN hX hR Z) | refine Q6 rfl ?_ | refine Q7 (by decide) ?_ | (refine Q8 ?_ ?_; focus (simp only [kS, R1, R2, R3, R4, R5, R6, R7, reduceCtorEq, R9, k5, k2, lo0, hp, decide_true, decide_false, gt_iff_lt, hw, hh, hmx, hi', et, Nat.add_one_sub_one, tk1, tk2, tk3, tk4, tk5, tk6, tk7, tk8, and_false, false_and, It.c]; done)) | (refine Q9 ?_ ?_; focus (simp only [kS, R1, R2, R3, R4, R5, R6, R7, reduceCtorEq, R9, k5, k2, lo0, hp, decide_true, decide_false, gt_iff_lt, hw, hh, hmx, hi', et, Nat.add_one_sub_one, tk1, tk2, tk3, tk4, tk5, tk6, tk7, tk8, and_false, false_and, It.c]; done)) | refine Qa ?_ | refine Qb ?_ | refine Qc ?_ | refine And.intro (by first | assumption | omega) ?_)
          refine ⟨_, with_ret gl s [⟨1, d[m].a, 0, 0⟩, ⟨k, m, if lo - 1 < 0 then 0 else lo - 1, hi - 1⟩] (by omega) (by simp), rfl, ?_⟩
          try simp only [kS, R1, R2, R3, R4, R5, R6, R7, reduceCtorEq, R9, k5, k2, lo0, hp, decide_true, decide_false, gt_iff_lt, hw, hh, hmx, hi', et, Nat.add_one_sub_one, tk1, tk2, tk3, tk4, tk5, tk6, tk7, tk8, and_false, false_and, It.c]
          repeat (first | ((first | refine Q1 ?_ | refine Q2 ?_); intro Z hN hX hR) | refine Q3 (by kernel_rfl) fun K hK => ?_ | ((first | refine Q4 fun R hJ => ?_ | with_reducible change ExpAll _ _ _); simp only [kS, R1, R2, R3, R4, R5, R6, R7, reduceCtorEq, R9, k5, k2, lo0, hp, decide_true, decide_false, gt_iff_lt, hw, hh, hmx, hi', et, Nat.add_one_sub_one, tk1, tk2, tk3, tk4, tk5, tk6, tk7, tk8, and_false, false_and, It.c]) | (refine hJ _ ?_; clear hJ R) | refine Q5 ?_ | (refine hK _ ?_; clear hK K) | ((first | refine hN _ ?_ | refine hX _ _ ?_ | refine hR _ ?_); clear hN hX hR Z) | refine Q6 rfl ?_ | refine Q7 (by decide) ?_ | (refine Q8 ?_ ?_; focus (simp only [kS, R1, R2, R3, R4, R5, R6, R7, reduceCtorEq, R9, k5, k2, lo0, hp, decide_true, decide_false, gt_iff_lt, hw, hh, hmx, hi', et, Nat.add_one_sub_one, tk1, tk2, tk3, tk4, tk5, tk6, tk7, tk8, and_false, false_and, It.c]; done)) | (refine Q9 ?_ ?_; focus (simp only [kS, R1, R2, R3, R4, R5, R6, R7, reduceCtorEq, R9, k5, k2, lo0, hp, decide_true, decide_false, gt_iff_lt, hw, hh, hmx, hi', et, Nat.add_one_sub_one, tk1, tk2, tk3, tk4, tk5, tk6, tk7, tk8, and_false, false_and, It.c]; done)) | refine Qa ?_ | refine Qb ?_ | refine Qc ?_ | refine And.intro (by first | assumption | omega) ?_)
          simp only [openS, e', k5, k2, lo0, hp, decide_true, decide_false, gt_iff_lt, hmx, hk2, Int.reduceBEq, Bool.false_eq_true, if_false, if_true, List.nil_append, List.cons_append, List.append_nil]
          all_goals first | rfl | exact .inr rfl | exact .inl rfl | exact .inl (by simp only [ssS, ssC, List.map_cons, List.map_nil, List.length_cons, List.length_nil, Nat.add_comm 1, Nat.add_comm 2] <;> rfl)
        · repeat (first | ((first | refine Q1 ?_ | refine Q2 ?_); intro Z hN hX hR) | refine Q3 (by kernel_rfl) fun K hK => ?_ | ((first | refine Q4 fun R hJ => ?_ | with_reducible change ExpAll _ _ _); simp only [kS, R1, R2, R3, R4, R5, R6, R7, reduceCtorEq, R9, k5, k2, lo0, hp, decide_true, decide_false, gt_iff_lt, hi', et, Nat.add_one_sub_one, tk1, tk2, tk3, tk4, tk5, tk6, tk7, tk8, and_false, false_and, It.c]) | (refine hJ _ ?_; clear hJ R) | refine Q5 ?_ | (refine hK _ ?_; clear hK K) | ((first | refine hN _ ?_ | refine hX _ _ ?_ | refine hR _ ?_); clear hN hX hR Z) | refine Q6 rfl ?_ | refine Q7 (by decide) ?_ | (refine Q8 ?_ ?_; focus (simp only [kS, R1, R2, R3, R4, R5, R6, R7, reduceCtorEq, R9, k5, k2, lo0, hp, decide_true, decide_false, gt_iff_lt, hi', et, Nat.add_one_sub_one, tk1, tk2, tk3, tk4, tk5, tk6, tk7, tk8, and_false, false_and, It.c]; done)) | (refine Q9 ?_ ?_; focus (simp only [kS, R1, R2, R3, R4, R5, R6, R7, reduceCtorEq, R9, k5, k2, lo0, hp, decide_true, decide_false, gt_iff_lt, hi', et, Nat.add_one_sub_one, tk1, tk2, tk3, tk4, tk5, tk6, tk7, tk8, and_false, false_and, It.c]; done)) | refine Qa ?_ | refine Qb ?_ | refine Qc ?_ | refine And.intro (by first | assumption | omega) ?_)
          refine ⟨_, with_ret gl s [] (by omega) (by simp), rfl, ?_⟩
          try simp only [kS, R1, R2, R3, R4, R5, R6, R7, reduceCtorEq, R9, k5, k2, lo0, hp, decide_true, decide_false, gt_iff_lt, hi', et, Nat.add_one_sub_one, tk1, tk2, tk3, tk4, tk5, tk6, tk7, tk8, and_false, false_and, It.c]
          repeat (first | ((first | refine Q1 ?_ | refine Q2 ?_); intro Z hN hX hR) | refine Q3 (by kernel_rfl) fun K hK => ?_ | ((first | refine Q4 fun R hJ => ?_ | with_reducible change ExpAll _ _ _); simp only [kS, R1, R2, R3, R4, R5, R6, R7, reduceCtorEq, R9, k5, k2, lo0, hp, decide_true, decide_false, gt_iff_lt, hi', et, Nat.add_one_sub_one, tk1, tk2, tk3, tk4, tk5, tk6, tk7, tk8, and_false, false_and, It.c]) | (refine hJ _ ?_; clear hJ R) | refine Q5 ?_ | (refine hK _ ?_; clear hK K) | ((first | refine hN _ ?_ | refine hX _ _ ?_ | refine hR _ ?_); clear hN hX hR Z) | refine Q6 rfl ?_ | refine Q7 (by decide) ?_ | (refine Q8 ?_ ?_; focus (simp only [kS, R1, R2, R3, R4, R5, R6, R7, reduceCtorEq, R9, k5, k2, lo0, hp, decide_true, decide_false, gt_iff_lt, hi', et, Nat.add_one_sub_one, tk1, tk2, tk3, tk4, tk5, tk6, tk7, tk8, and_false, false_and, It.c]; done)) | (refine Q9 ?_ ?_; focus (simp only [kS, R1, R2, R3, R4, R5, R6, R7, reduceCtorEq, R9, k5, k2, lo0, hp, decide_true, decide_false, gt_iff_lt, hi', et, Nat.add_one_sub_one, tk1, tk2, tk3, tk4, tk5, tk6, tk7, tk8, and_false, false_and, It.c]; done)) | refine Qa ?_ | refine Qb ?_ | refine Qc ?_ | refine And.intro (by first | assumption | omega) ?_)
          simp only [openS, e', k5, k2, lo0, hp, decide_true, decide_false, gt_iff_lt, hk2, Int.reduceBEq, Bool.false_eq_true, if_false, if_true, List.nil_append, List.cons_append, List.append_nil]
          all_goals first | rfl | exact .inr rfl | exact .inl rfl | exact .inl (by simp only [ssS, ssC, List.map_cons, List.map_nil, List.length_cons, List.length_nil, Nat.add_comm 1, Nat.add_comm 2] <;> rfl)
  · cases lo0 : (lo == 0)
    · repeat (first | ((first | refine Q1 ?_ | refine Q2 ?_); intro Z hN hX hR) | refine Q3 (by kernel_rfl) fun K hK => ?_ | ((first | refine Q4 fun R hJ => ?_ | with_reducible change ExpAll _ _ _); simp only [kS, R1, R2, R3, R4, R5, R6, R7, reduceCtorEq, R9, k5, lo0, hi', et, Nat.add_one_sub_one, tk1, tk2, tk3, tk4, tk5, tk6, tk7, tk8, and_false, false_and, It.c]) | (refine hJ _ ?_; clear hJ R) | refine Q5 ?_ | (refine hK _ ?_; clear hK K) | ((first | refine hN _ ?_ | refine hX _ _ ?_ | refine hR _ ?_); clear hN hX hR Z) | refine Q6 rfl ?_ | refine Q7 (by decide) ?_ | (refine Q8 ?_ ?_; focus (simp only [kS, R1, R2, R3, R4, R5, R6, R7, reduceCtorEq, R9, k5, lo0, hi', et, Nat.add_one_sub_one, tk1, tk2, tk3, tk4, tk5, tk6, tk7, tk8, and_false, false_and, It.c]; done)) | (refine Q9 ?_ ?_; focus (simp only [kS, R1, R2, R3, R4, R5, R6, R7, reduceCtorEq, R9, k5, lo0, hi', et, Nat.add_one_sub_one, tk1, tk2, tk3, tk4, tk5, tk6, tk7, tk8, and_false, false_and, It.c]; done)) | refine Qa ?_ | refine Qb ?_ | refine Qc ?_ | refine And.intro (by first | assumption | omega) ?_)
      simp only [openS, e', k5, lo0, Bool.false_eq_true, if_false, if_true, List.nil_append, List.cons_append, List.append_nil]
      all_goals first | rfl | exact .inr rfl | exact .inl rfl | exact .inl (by simp only [ssS, ssC, List.map_cons, List.map_nil, List.length_cons, List.length_nil, Nat.add_comm 1, Nat.add_comm 2] <;> rfl)
    · repeat (first | ((first | refine Q1 ?_ | refine Q2 ?_); intro Z hN hX hR) | refine Q3 (by kernel_rfl) fun K hK => ?_ | ((first | refine Q4 fun R hJ => ?_ | with_reducible change ExpAll _ _ _); simp only [kS, R1, R2, R3, R4, R5, R6, R7, reduceCtorEq, R9, k5, lo0, hi', et, Nat.add_one_sub_one, tk1, tk2, tk3, tk4, tk5, tk6, tk7, tk8, and_false, false_and, It.c]) | (refine hJ _ ?_; clear hJ R) | refine Q5 ?_ | (refine hK _ ?_; clear hK K) | ((first | refine hN _ ?_ | refine hX _ _ ?_ | refine hR _ ?_); clear hN hX hR Z) | refine Q6 rfl ?_ | refine Q7 (by decide) ?_ | (refine Q8 ?_ ?_; focus (simp only [kS, R1, R2, R3, R4, R5, R6, R7, reduceCtorEq, R9, k5, lo0, hi', et, Nat.add_one_sub_one, tk1, tk2, tk3, tk4, tk5, tk6, tk7, tk8, and_false, false_and, It.c]; done)) | (refine Q9 ?_ ?_; focus (simp only [kS, R1, R2, R3, R4, R5, R6, R7, reduceCtorEq, R9, k5, lo0, hi', et, Nat.add_one_sub_one, tk1, tk2, tk3, tk4, tk5, tk6, tk7, tk8, and_false, false_and, It.c]; done)) | refine Qa ?_ | refine Qb ?_ | refine Qc ?_ | refine And.intro (by first | assumption | omega) ?_)
      refine ⟨_, with_ret gl s [] (by omega) (by simp), rfl, ?_⟩
      try simp only [kS, R1, R2, R3, R4, R5, R6, R7, reduceCtorEq, R9, k5, lo0, hi', et, Nat.add_one_sub_one, tk1, tk2, tk3, tk4, tk5, tk6, tk7, tk8, and_false, false_and, It.c]
      repeat (first | ((first | refine Q1 ?_ | refine Q2 ?_); intro Z hN hX hR) | refine Q3 (by kernel_rfl) fun K hK => ?_ | ((first | refine Q4 fun R hJ => ?_ | with_reducible change ExpAll _ _ _); simp only [kS, R1, R2, R3, R4, R5, R6, R7, reduceCtorEq, R9, k5, lo0, hi', et, Nat.add_one_sub_one, tk1, tk2, tk3, tk4, tk5, tk6, tk7, tk8, and_false, false_and, It.c]) | (refine hJ _ ?_; clear hJ R) | refine Q5 ?_ | (refine hK _ ?_; clear hK K) | ((first | refine hN _ ?_ | refine hX _ _ ?_ | refine hR _ ?_); clear hN hX hR Z) | refine Q6 rfl ?_ | refine Q7 (by decide) ?_ | (refine Q8 ?_ ?_; focus (simp only [kS, R1, R2, R3, R4, R5, R6, R7, reduceCtorEq, R9, k5, lo0, hi', et, Nat.add_one_sub_one, tk1, tk2, tk3, tk4, tk5, tk6, tk7, tk8, and_false, false_and, It.c]; done)) | (refine Q9 ?_ ?_; focus (simp only [kS, R1, R2, R3, R4, R5, R6, R7, reduceCtorEq, R9, k5, lo0, hi', et, Nat.add_one_sub_one, tk1, tk2, tk3, tk4, tk5, tk6, tk7, tk8, and_false, false_and, It.c]; done)) | refine Qa ?_ | refine Qb ?_ | refine Qc ?_ | refine And.intro (by first | assumption | omega) ?_)
      simp only [openS, e', k5, lo0, Bool.false_eq_true, if_false, if_true, List.nil_append, List.cons_append, List.append_nil]
      all_goals first | rfl | exact .inr rfl | exact .inl rfl | exact .inl (by simp only [ssS, ssC, List.map_cons, List.map_nil, List.length_cons, List.length_nil, Nat.add_comm 1, Nat.add_comm 2] <;> rfl)

end Go.Proofs.YtilhjiopbbbgmaaDoor

/- The plain law of heads: states put in one by one, with their ways, are the sorted list of the different ones, each with how often it came, up to 2. -/
namespace Go.Proofs.YtilhjiopbbbgmaaDoor
open Go Go.RowKit Am
set_option linter.unusedVariables false
set_option linter.unusedSimpArgs false

theorem cmpL_refl : ∀ a : List Int, cmpL a a = 0
  | [] => rfl
  | x :: a => by simp [cmpL, cmpL_refl a]
theorem cmpL_eq : ∀ (a b : List Int), a.length = b.length → cmpL a b = 0 → a = b
  | [], [], _, _ => rfl
  | [], _ :: _, h, _ => by simp at h
  | _ :: _, [], h, _ => by simp at h
  | x :: a, y :: b, h, hc => by
    simp only [cmpL] at hc
    split at hc
    · omega
    · split at hc
      · omega
      · have := cmpL_eq a b (by simpa using h) hc
        rw [this, show x = y by omega]
theorem cmpL_neg : ∀ (a b : List Int), cmpL b a = - cmpL a b
  | [], [] => rfl
  | [], _ :: _ => rfl
  | _ :: _, [] => rfl
  | x :: a, y :: b => by
    simp only [cmpL]
    by_cases h1 : x < y
    · rw [if_pos h1, if_neg (by omega), if_pos h1]; rfl
    · by_cases h2 : y < x
      · rw [if_pos h2, if_neg h1, if_pos h2]
      · rw [if_neg h2, if_neg h1, if_neg h1, if_neg h2]; exact cmpL_neg a b
theorem cmpL_trans : ∀ (a b c : List Int), a.length = b.length → b.length = c.length → cmpL a b = -1 → cmpL b c = -1 → cmpL a c = -1
  | [], _, _, _, _, h, _ => by simp [cmpL] at h
  | _ :: _, [], _, h, _, _, _ => by simp at h
  | _ :: _, _ :: _, [], _, h, _, _ => by simp at h
  | x :: a, y :: b, z :: c, h1, h2, h3, h4 => by
    simp only [cmpL] at h3 h4 ⊢
    by_cases xy : x < y
    · by_cases yz : y < z
      · rw [if_pos (by omega)]
      · rw [if_neg yz] at h4
        split at h4
        · cases h4
        · rw [if_pos (by omega)]
    · rw [if_neg xy] at h3
      split at h3
      · cases h3
      · by_cases yz : y < z
        · rw [if_pos (by omega)]
        · rw [if_neg yz] at h4
          split at h4
          · cases h4
          · rw [if_neg (by omega), if_neg (by omega)]
            exact cmpL_trans a b c (by simpa using h1) (by simpa using h2) h3 h4

def fl (s : List It) : List Int := s.flatMap fun x => [x.k, x.n, x.lo, x.hi]
theorem fl_len : ∀ s : List It, (fl s).length = 4 * s.length
  | [] => rfl
  | x :: s => by have := fl_len s; simp [fl] at this ⊢; omega
theorem fl_inj : ∀ a b : List It, fl a = fl b → a = b
  | [], [], _ => rfl
  | [], _ :: _, h => by simp [fl] at h
  | _ :: _, [], h => by simp [fl] at h
  | x :: a, y :: b, h => by
    simp only [fl, List.flatMap_cons, List.cons_append, List.nil_append, List.cons.injEq] at h
    obtain ⟨h1, h2, h3, h4, h5⟩ := h
    rw [fl_inj a b h5]
    cases x; cases y
    simp_all
theorem scmp_def (a b : List It) : scmp a b = if (a.length : Int) < b.length then -1 else if (b.length : Int) < a.length then 1 else cmpL (fl a) (fl b) := rfl
theorem scmp_refl (a : List It) : scmp a a = 0 := cmpL_refl _
theorem scmp_eq {a b : List It} : scmp a b = 0 ↔ a = b := by
  refine ⟨fun h => ?_, fun h => by rw [h]; exact scmp_refl b⟩
  rw [scmp_def] at h
  split at h
  · cases h
  · split at h
    · cases h
    · exact fl_inj a b (cmpL_eq _ _ (by rw [fl_len, fl_len]; omega) h)
theorem scmp_neg (a b : List It) : scmp b a = - scmp a b := cmpL_neg _ _
theorem scmp_val (a b : List It) : scmp a b = -1 ∨ scmp a b = 0 ∨ scmp a b = 1 := cmpL_val _ _
theorem scmp_trans {a b c : List It} (h1 : scmp a b = -1) (h2 : scmp b c = -1) : scmp a c = -1 := by
  rw [scmp_def] at h1 h2 ⊢
  split at h1
  · rw [if_pos]
    split at h2
    · omega
    · split at h2
      · cases h2
      · omega
  · split at h1
    · cases h1
    · split at h2
      · rw [if_pos (by omega)]
      · split at h2
        · cases h2
        · rw [if_neg (by omega), if_neg (by omega)]
          exact cmpL_trans _ _ _ (by rw [fl_len, fl_len]; omega) (by rw [fl_len, fl_len]; omega) h1 h2

theorem br_ext {y : Br} {s : List It} {m : Int} (h1 : y.to = s) (h2 : y.many = m) : y = ⟨s, m⟩ := by
  cases y
  cases h1
  cases h2
  rfl

def srt (l : List Br) : Prop := l.Pairwise fun x y => scmp x.to y.to = -1
def mn (n : Nat) : Int := if (n : Int) < 2 then n else 2

theorem mn_add (a b : Nat) : (if mn a + mn b < 2 then mn a + mn b else 2) = mn (a + b) := by
  simp only [mn]
  split <;> split <;> split <;> (try split) <;> omega

theorem addB_true (s : List It) (m : Int) : ∀ l : List Br, (∀ x ∈ l, x.to ≠ s) → addB l s m true = l
  | [], _ => rfl
  | x :: l, h => by
    have hx := h x (by simp)
    simp only [addB]
    rw [if_neg (by rw [scmp_eq]; exact fun e => hx e.symm), if_neg (by simp), addB_true s m l fun y hy => h y (by simp [hy])]

/-- What stands in l, for the multiset L. -/
def Is (l : List Br) (L : List (List It)) : Prop := ∀ y : Br, y ∈ l ↔ y.to ∈ L ∧ y.many = mn (L.count y.to)

theorem srt_mem_iff {s : List It} {m : Int} : ∀ {l : List Br}, srt l → srt (addB l s m false) ∧
    ∀ y, y ∈ addB l s m false ↔ (y ∈ l ∧ y.to ≠ s) ∨ (y.to = s ∧ ((∃ x ∈ l, x.to = s ∧ y.many = if x.many + m < 2 then x.many + m else 2) ∨ ((∀ x ∈ l, x.to ≠ s) ∧ y.many = m)))
  | [], _ => by
    refine ⟨by simp [addB, srt], fun y => ?_⟩
    simp only [addB]
    rw [if_neg (by simp)]
    constructor
    · intro h
      simp only [List.mem_singleton] at h
      subst h
      exact .inr ⟨rfl, .inr ⟨by simp, rfl⟩⟩
    · rintro (⟨h, _⟩ | ⟨h1, ⟨x, h, _⟩ | ⟨_, h2⟩⟩)
      · cases h
      · cases h
      · simp only [List.mem_singleton]
        exact br_ext h1 h2
  | b :: l, h => by
    obtain ⟨hb, hl⟩ := List.pairwise_cons.1 h
    obtain ⟨ih1, ih2⟩ := srt_mem_iff (s := s) (m := m) hl
    simp only [addB]
    by_cases e : scmp s b.to = 0
    · have e' := scmp_eq.1 e
      have hne : ∀ x ∈ l, x.to ≠ s := fun x hx e1 => by
        have := hb x hx
        rw [e1, e', scmp_refl] at this
        cases this
      rw [if_pos e, addB_true s m l hne]
      refine ⟨List.pairwise_cons.2 ⟨fun x hx => by have := hb x hx; rw [← e'] at this; exact this, hl⟩, fun y => ?_⟩
      rw [List.mem_cons]
      constructor
      · rintro (h | h)
        · subst h
          exact .inr ⟨rfl, .inl ⟨b, by simp, e'.symm, rfl⟩⟩
        · exact .inl ⟨by simp [h], hne y h⟩
      · rintro (⟨h, h2⟩ | ⟨h1, ⟨x, h, h3, h4⟩ | ⟨h3, _⟩⟩)
        · rcases List.mem_cons.1 h with h | h
          · subst h; exact absurd e'.symm h2
          · exact .inr h
        · rcases List.mem_cons.1 h with h | h
          · subst h
            exact .inl (br_ext h1 h4)
          · exact absurd h3 (hne x h)
        · exact absurd e'.symm (h3 b (by simp))
    · rw [if_neg e]
      by_cases lt : scmp s b.to < 0
      · have lt' : scmp s b.to = -1 := by have := scmp_val s b.to; omega
        have hsx : ∀ x ∈ l, scmp s x.to = -1 := fun x hx => scmp_trans lt' (hb x hx)
        have hne : ∀ x ∈ l, x.to ≠ s := fun x hx e1 => by
          have := hsx x hx
          rw [e1, scmp_refl] at this
          cases this
        have hnb : b.to ≠ s := fun e1 => e (scmp_eq.2 e1.symm)
        rw [if_pos ⟨lt, trivial⟩, addB_true s m l hne]
        refine ⟨List.pairwise_cons.2 ⟨fun x hx => ?_, h⟩, fun y => ?_⟩
        · rcases List.mem_cons.1 hx with hx | hx
          · subst hx; exact lt'
          · exact hsx x hx
        · rw [List.mem_cons]
          constructor
          · rintro (h | h)
            · subst h
              refine .inr ⟨rfl, .inr ⟨fun x hx => ?_, rfl⟩⟩
              rcases List.mem_cons.1 hx with hx | hx
              · subst hx; exact hnb
              · exact hne x hx
            · refine .inl ⟨h, ?_⟩
              rcases List.mem_cons.1 h with hx | hx
              · subst hx; exact hnb
              · exact hne y hx
          · rintro (⟨h, h2⟩ | ⟨h1, ⟨x, h, h3, h4⟩ | ⟨h3, h4⟩⟩)
            · exact .inr h
            · rcases List.mem_cons.1 h with hx | hx
              · subst hx; exact absurd h3 hnb
              · exact absurd h3 (hne x hx)
            · exact .inl (br_ext h1 h4)
      · rw [if_neg (by rintro ⟨h, _⟩; exact lt h)]
        have gt : scmp b.to s = -1 := by
          have := scmp_val s b.to
          rw [scmp_neg s b.to]; omega
        have hnb : b.to ≠ s := fun e1 => e (scmp_eq.2 e1.symm)
        refine ⟨List.pairwise_cons.2 ⟨fun x hx => ?_, ih1⟩, fun y => ?_⟩
        · rcases (ih2 x).1 hx with ⟨h1, _⟩ | ⟨h1, _⟩
          · exact hb x h1
          · rw [h1]; exact gt
        · rw [List.mem_cons, ih2 y]
          constructor
          · rintro (h | ⟨h, h2⟩ | ⟨h1, ⟨x, h, h3, h4⟩ | ⟨h3, h4⟩⟩)
            · subst h; exact .inl ⟨by simp, hnb⟩
            · exact .inl ⟨by simp [h], h2⟩
            · exact .inr ⟨h1, .inl ⟨x, by simp [h], h3, h4⟩⟩
            · refine .inr ⟨h1, .inr ⟨fun x hx => ?_, h4⟩⟩
              rcases List.mem_cons.1 hx with hx | hx
              · subst hx; exact hnb
              · exact h3 x hx
          · rintro (⟨h, h2⟩ | ⟨h1, ⟨x, h, h3, h4⟩ | ⟨h3, h4⟩⟩)
            · rcases List.mem_cons.1 h with hx | hx
              · exact .inl hx
              · exact .inr (.inl ⟨hx, h2⟩)
            · rcases List.mem_cons.1 h with hx | hx
              · subst hx; exact absurd h3 hnb
              · exact .inr (.inr ⟨h1, .inl ⟨x, hx, h3, h4⟩⟩)
            · exact .inr (.inr ⟨h1, .inr ⟨fun x hx => h3 x (by simp [hx]), h4⟩⟩)

theorem addB_is {l : List Br} {L : List (List It)} {t : List It} {c : Nat} (hs : srt l) (hi : Is l L) (hc : 0 < c) : srt (addB l t (mn c) false) ∧ Is (addB l t (mn c) false) (L ++ List.replicate c t) := by
  obtain ⟨h1, h2⟩ := srt_mem_iff (s := t) (m := mn c) hs
  refine ⟨h1, fun y => ?_⟩
  rw [h2 y, List.mem_append, List.count_append]
  have hrep : t ∈ List.replicate c t := List.mem_replicate.2 ⟨by omega, rfl⟩
  by_cases e : y.to = t
  · rw [e, List.count_replicate_self]
    constructor
    · rintro (⟨h, h3⟩ | ⟨_, ⟨x, hx, h3, h4⟩ | ⟨h3, h4⟩⟩)
      · exact absurd rfl h3
      · refine ⟨.inr hrep, ?_⟩
        obtain ⟨_, h6⟩ := (hi x).1 hx
        rw [h4, h6, h3]
        exact mn_add _ _
      · have h0 : L.count t = 0 := List.count_eq_zero.2 fun hm => h3 ⟨t, mn (L.count t)⟩ ((hi _).2 ⟨hm, rfl⟩) rfl
        exact ⟨.inr hrep, by rw [h4, h0, Nat.zero_add]⟩
    · rintro ⟨_, h4⟩
      refine .inr ⟨rfl, ?_⟩
      by_cases hm : t ∈ L
      · exact .inl ⟨⟨t, mn (L.count t)⟩, (hi _).2 ⟨hm, rfl⟩, rfl, by rw [h4]; exact (mn_add _ _).symm⟩
      · refine .inr ⟨fun x hx e1 => hm (e1 ▸ ((hi x).1 hx).1), ?_⟩
        rw [h4, List.count_eq_zero.2 hm, Nat.zero_add]
  · have h0 : (List.replicate c t).count y.to = 0 := List.count_eq_zero.2 fun hm => e (List.eq_of_mem_replicate hm)
    rw [h0, Nat.add_zero, hi y]
    constructor
    · rintro (⟨⟨h3, h4⟩, _⟩ | ⟨h3, _⟩)
      · exact ⟨.inl h3, h4⟩
      · exact absurd h3 e
    · rintro ⟨h3 | h3, h4⟩
      · exact .inl ⟨⟨h3, h4⟩, e⟩
      · exact absurd (List.eq_of_mem_replicate h3) e

theorem mn_one : mn 1 = 1 := rfl

theorem addL_is : ∀ (ts : List (List It)) {l : List Br} {L : List (List It)}, srt l → Is l L → srt (addL l ts) ∧ Is (addL l ts) (L ++ ts)
  | [], l, L, h1, h2 => by rw [List.append_nil]; exact ⟨h1, h2⟩
  | t :: ts, l, L, h1, h2 => by
    have h := addB_is (t := t) (c := 1) h1 h2 (by omega)
    have := addL_is ts h.1 h.2
    rw [List.append_assoc] at this
    exact this

theorem is_nil : srt [] ∧ Is [] [] := ⟨List.Pairwise.nil, fun y => by simp⟩

theorem headsS_is (d : List Nd) (k : Nat) (s : List It) : srt (headsS d k s) ∧ Is (headsS d k s) (leaves d k s) := by
  have := addL_is (leaves d k s) is_nil.1 is_nil.2
  exact this

theorem eq_of_srt : ∀ {a b : List Br}, srt a → srt b → (∀ y, y ∈ a ↔ y ∈ b) → a = b
  | [], [], _, _, _ => rfl
  | [], y :: b, _, _, h => by have := (h y).2 (by simp); cases this
  | x :: a, [], _, _, h => by have := (h x).1 (by simp); cases this
  | x :: a, y :: b, ha, hb, h => by
    obtain ⟨ha1, ha2⟩ := List.pairwise_cons.1 ha
    obtain ⟨hb1, hb2⟩ := List.pairwise_cons.1 hb
    have irr : ∀ z : Br, ¬ scmp z.to z.to = -1 := fun z hz => by rw [scmp_refl] at hz; cases hz
    have exy : x = y := by
      have h1 := (h x).1 (by simp)
      have h2 := (h y).2 (by simp)
      rcases List.mem_cons.1 h1 with h1 | h1
      · exact h1
      · rcases List.mem_cons.1 h2 with h2 | h2
        · exact h2.symm
        · exact absurd (scmp_trans (hb1 x h1) (ha1 y h2)) (irr y)
    subst exy
    have := eq_of_srt ha2 hb2 fun z => by
      constructor
      · intro hz
        rcases List.mem_cons.1 ((h z).1 (by simp [hz])) with h1 | h1
        · subst h1; exact absurd (ha1 z hz) (irr z)
        · exact h1
      · intro hz
        rcases List.mem_cons.1 ((h z).2 (by simp [hz])) with h1 | h1
        · subst h1; exact absurd (hb1 z hz) (irr z)
        · exact h1
    rw [this]

theorem sameB_refl : ∀ l : List Br, sameB l l = true
  | [] => rfl
  | x :: l => by simp [sameB, sameB_refl l, scmp_refl]

end Go.Proofs.YtilhjiopbbbgmaaDoor

/- The finder's maps: what they hold, and how that is kept. -/
namespace Go.Proofs.YtilhjiopbbbgmaaDoor
open Go Go.RowKit Am Go.Shelf Go.Maps
set_option linter.unusedVariables false
set_option linter.unusedSimpArgs false

abbrev DV := DataW Value
/-- How a branch's value, a map's value are read: as themselves. -/
def Rb : Value → Option (DV × List MemPlace)
  | .agg ⟨[.slice a n c, .int .i64 m]⟩ => some (.held (.agg ⟨[.slice a n c, .int .i64 m]⟩), [])
  | _ => none
def Rm : Value → Option (DV × List MemPlace)
  | .map r => some (.held (.map r), [])
  | _ => none

theorem Rb_inv {v : Value} {y : DV × List MemPlace} (h : Rb v = some y) : ∃ c : Option Addr × Nat × Nat × Int, v = .agg #[.slice c.1 c.2.1 c.2.2.1, .int .i64 c.2.2.2] ∧ y = (.held v, []) := by
  unfold Rb at h
  split at h
  · cases h; exact ⟨(_, _, _, _), rfl, rfl⟩
  · cases h
theorem Rm_inv {v : Value} {y : DV × List MemPlace} (h : Rm v = some y) : ∃ r, v = .map r ∧ y = (.held v, []) := by
  unfold Rm at h
  split at h
  · cases h; exact ⟨_, rfl, rfl⟩
  · cases h

theorem law9 : Keyed Tryd.prog 9 := string_keyed Tryd.underlying9
abbrev kl (t : List It) : Lit := .string (keyS t)
theorem kl_inj {a b : List It} (h : kl a = kl b) : a = b := by
  injection h with h
  exact keyS_inj h

/-- A branch's value. -/
def RepBr (w : World) (G : Am.Good) (b : Br) (v : Value) : Prop := ∃ a c, v = .agg #[.slice a b.to.length c, .int .i64 b.many] ∧ RepC w G (.fr (stC b.to)) (.slice a b.to.length c)

/-- A map of branches that holds the states L, each with how often it comes, up to 2. -/
def Holds (w : World) (G : Am.Good) (D : DV) (L : List (List It)) : Prop :=
  (∀ k, Maps.has D k = true → ∃ t ∈ L, k = kl t) ∧ ∀ t ∈ L, Maps.has D (kl t) = true ∧ ∃ v, (∀ z, D.atKey (kl t) z = .held v) ∧ RepBr w G ⟨t, mn (L.count t)⟩ v

def MapB (w : World) (G : Am.Good) (m : Nat) (L : List (List It)) : Prop := ∃ D, w.ownsMap Tryd.prog 9 Rb m L.length D ∧ Holds w G D L

theorem RepBr.mono {w w' : World} {G G' : Am.Good} (S : Settled w w' G G') {b : Br} {v : Value} (h : RepBr w G b v) : RepBr w' G' b v := by
  obtain ⟨a, c, e, h⟩ := h
  exact ⟨a, c, e, RepC.mono S _ _ h⟩
theorem Holds.mono {w w' : World} {G G' : Am.Good} (S : Settled w w' G G') {D : DV} {L : List (List It)} (h : Holds w G D L) : Holds w' G' D L :=
  ⟨h.1, fun t ht => by
    obtain ⟨h1, v, h2, h3⟩ := h.2 t ht
    exact ⟨h1, v, h2, h3.mono S⟩⟩
theorem MapB.lt {w : World} {G : Am.Good} {m : Nat} {L : List (List It)} (h : MapB w G m L) : m < w.heap.size := by
  obtain ⟨D, h1, _⟩ := h
  exact h1.lt
theorem MapB.kept {w w' : World} {G G' : Am.Good} {m : Nat} {L : List (List It)} {row : Option Nat} (h : MapB w G m L) (S : Settled w w' G G') (hg : w.grownBy w' row) (hne : some m ≠ row) : MapB w' G' m L := by
  obtain ⟨D, h1, h2⟩ := h
  exact ⟨D, h1.kept hg hne, h2.mono S⟩

/-- The map of what was found: each entry a map that holds a state's leaves; no entry's map is among A, none is the map itself. -/
def Seen (w : World) (G : Am.Good) (d : List Nd) (bm n : Nat) (A : Nat → Prop) : Prop :=
  ∃ D, w.ownsMap Tryd.prog 9 Rm bm n D ∧ ∀ k, Maps.has D k = true → ∃ (s : List It) (j m : Nat), k = kl s ∧ (∀ z, D.atKey k z = .held (.map (some m))) ∧ deep d j s ∧ MapB w G m (leaves d j s) ∧ ¬ A m ∧ m ≠ bm

theorem Seen.kept {w w' : World} {G G' : Am.Good} {d : List Nd} {bm n : Nat} {A : Nat → Prop} (h : Seen w G d bm n A) (S : Settled w w' G G') {row : Option Nat} (hg : w.grownBy w' row) (hrow : ∀ b, row = some b → A b) (hne : ¬ A bm) : Seen w' G' d bm n A := by
  obtain ⟨D, h1, h2⟩ := h
  refine ⟨D, h1.kept hg (fun e => hne (hrow bm e.symm)), fun k hk => ?_⟩
  obtain ⟨s, j, m, e, h3, h4, h5, h6, h7⟩ := h2 k hk
  exact ⟨s, j, m, e, h3, h4, h5.kept S hg (fun e => h6 (hrow m e.symm)), h6, h7⟩

theorem Seen.weak {w : World} {G : Am.Good} {d : List Nd} {bm n : Nat} {A A' : Nat → Prop} (h : Seen w G d bm n A) (hA : ∀ a, A' a → A a) : Seen w G d bm n A' := by
  obtain ⟨D, h1, h2⟩ := h
  refine ⟨D, h1, fun k hk => ?_⟩
  obtain ⟨s, j, m, e, h3, h4, h5, h6, h7⟩ := h2 k hk
  exact ⟨s, j, m, e, h3, h4, h5, fun h => h6 (hA m h), h7⟩

/-- Blocks that are new to the world are no entry's. -/
theorem Seen.fresh {w : World} {G : Am.Good} {d : List Nd} {bm n : Nat} {A : Nat → Prop} (h : Seen w G d bm n A) (N : Nat) (hN : w.heap.size ≤ N) : Seen w G d bm n (fun a => A a ∨ a = N) := by
  obtain ⟨D, h1, h2⟩ := h
  refine ⟨D, h1, fun k hk => ?_⟩
  obtain ⟨s, j, m, e, h3, h4, h5, h6, h7⟩ := h2 k hk
  exact ⟨s, j, m, e, h3, h4, h5, fun h => h.elim h6 (fun e => by have := h5.lt; omega), h7⟩

/-- A look into it. -/
theorem Seen.look {w : World} {G : Am.Good} {d : List Nd} {bm n : Nat} {A : Nat → Prop} (h : Seen w G d bm n A) : ∃ D, w.ownsMap Tryd.prog 9 Rm bm n D ∧
    ∀ s, Maps.has D (kl s) = true → ∃ j m, (∀ z, D.atKey (kl s) z = .held (.map (some m))) ∧ deep d j s ∧ MapB w G m (leaves d j s) ∧ ¬ A m ∧ m ≠ bm := by
  obtain ⟨D, h1, h2⟩ := h
  refine ⟨D, h1, fun s hs => ?_⟩
  obtain ⟨s', j, m, e, h3, h4, h5, h6, h7⟩ := h2 _ hs
  obtain rfl := kl_inj e
  exact ⟨j, m, h3, h4, h5, h6, h7⟩

theorem leaves_mono {d : List Nd} : ∀ {k j : Nat} {s : List It}, deep d k s → k ≤ j → deep d j s ∧ leaves d j s = leaves d k s
  | 0, _, _, h, _ => h.elim
  | k + 1, 0, _, _, hj => by omega
  | k + 1, j + 1, s, h, hj => by
    simp only [deep, leaves] at h ⊢
    by_cases hr : rdy d s = true
    · simp only [hr, if_true]; exact ⟨.inl trivial, trivial⟩
    · have h := h.resolve_left hr
      refine ⟨.inr fun t ht => (leaves_mono (h t ht) (by omega)).1, ?_⟩
      rw [if_neg hr, if_neg hr]
      have hcong : ∀ l : List (List It), (∀ t ∈ l, t ∈ openS d s) → l.flatMap (leaves d j) = l.flatMap (leaves d k) := fun l => by
        induction l with
        | nil => intro _; rfl
        | cons t l ih =>
          intro hl
          simp only [List.flatMap_cons]
          rw [(leaves_mono (h t (hl t (by simp))) (by omega)).2, ih fun u hu => hl u (by simp [hu])]
      exact hcong _ fun t ht => ht
theorem leaves_eq {d : List Nd} {k j : Nat} {s : List It} (h1 : deep d k s) (h2 : deep d j s) : leaves d k s = leaves d j s := by
  rcases Nat.le_total k j with h | h
  · exact (leaves_mono h1 h).2.symm
  · exact (leaves_mono h2 h).2

/-- How many states are opened. -/
def cnt (d : List Nd) : Nat → List It → Nat
  | 0, _ => 1
  | k + 1, s => if rdy d s = true then 1 else 1 + ((openS d s).map (cnt d k)).sum

/-- Items as they are met: of a kind, their numbers small. -/
def okJ (s : List It) : Prop := ∀ x ∈ s, (1 ≤ x.k ∧ x.k ≤ 5) ∧ 0 ≤ x.hi

theorem okJ_cons {x : It} {s : List It} : okJ (x :: s) ↔ (((1 ≤ x.k ∧ x.k ≤ 5) ∧ 0 ≤ x.hi) ∧ okJ s) :=
  ⟨fun h => ⟨h x (by simp), fun y hy => h y (by simp [hy])⟩, fun h y hy => (List.mem_cons.1 hy).elim (fun e => e ▸ h.1) (h.2 y)⟩

theorem okJ_open {d : List Nd} {s : List It} (hd : WFd d) (hs : gd d s) (h : okJ s) : ∀ t ∈ openS d s, okJ t := by
  cases s with
  | nil => simp [openS]
  | cons x s =>
    obtain ⟨hx, hr⟩ := okJ_cons.1 h
    have hin := (hs x (by simp)).1
    obtain ⟨_, _, _, _, _, _, hn1, hn2, _⟩ := hd.nd x.n hin.1 hin.2
    intro t ht
    simp only [openS] at ht
    repeat' split at ht
    all_goals simp only [List.mem_append, List.mem_cons, List.not_mem_nil, or_false, false_or, List.nil_append, List.append_nil] at ht
    all_goals try (rcases ht with rfl | rfl)
    all_goals try subst ht
    all_goals try simp only [okJ_cons]
    all_goals repeat' apply And.intro
    all_goals first
      | exact hr
      | omega

theorem gd_itOk {d : List Nd} {s : List It} (hd : WFd d) (hs : gd d s) (h : okJ s) : ∀ x ∈ s, itOk x := fun x hx => by
  obtain ⟨⟨h1, h2⟩, h3⟩ := h x hx
  obtain ⟨⟨h4, h5⟩, h6, h7, h8⟩ := hs x hx
  have := hd.2.1
  exact ⟨⟨by omega, by omega⟩, ⟨by omega, by omega⟩, ⟨by omega, by omega⟩, ⟨by omega, by omega⟩⟩

theorem Settled.of_grown {w w' : World} {G : Am.Good} {row : Option Nat} (hg : w.grownBy w' row) (hG : ∀ b o, G b o → b < w.heap.size) (hn : ∀ b, row = some b → ∀ o, ¬ G b o) : Settled w w' G G :=
  ⟨fun _ _ h => h, fun b o h => cell_same (hg.block b (hG b o h) (fun e => hn b e.symm o h)) o, fun b h => frz_same (hg.block b (hG b 0 (h 0)) (fun e => hn b e.symm 0 (h 0)))⟩

/-- Where the finder stands: its struct, its description, its map; A: blocks of the callers' that may turn. -/
structure Env (w : World) (G : Am.Good) (d : List Nd) (bf bm n : Nat) (A : Nat → Prop) (vd : Value) : Prop where
  hG : ∀ b o, G b o → b < w.heap.size
  rdy : RepM w G readiesC 0 0
  pow : PowTab w
  rd : RepL w G (dC d) [vd]
  fin : w.heap[bf]? = some (.cells #[vd, .map (some bm)] 65 (0, 0))
  seen : Seen w G d bm n A
  bmG : ∀ o, ¬ G bm o
  bmA : ¬ A bm
  Aok : ∀ a, A a → (∀ o, ¬ G a o) ∧ a ≠ bf ∧ a ≠ 2 ∧ a < w.heap.size

section
variable {w w' : World} {G G' : Am.Good} {d : List Nd} {bf bm n : Nat} {A : Nat → Prop} {vd : Value}

theorem tabPow2 (h : PowTab w) (hb : 2 < w.heap.size → w'.heap[2]? = w.heap[2]?) : PowTab w' := by
  have hgn : Tryd.prog.globalNamed "internal/strconv.uint64pow10" = some 2 := by kernel_rfl
  unfold PowTab Lib.TabIs World.var? at h ⊢
  rw [hgn] at h ⊢
  simp only [Option.bind_some] at h ⊢
  have hlt : 2 < w.heap.size := by
    rcases Nat.lt_or_ge 2 w.heap.size with h' | h'
    · exact h'
    · rw [Array.getElem?_eq_none h'] at h; cases h
  rw [hb hlt]
  exact h

/-- The world turns at a block of A, or at none. -/
theorem Env.grow (E : Env w G d bf bm n A vd) {row : Option Nat} (hg : w.grownBy w' row) (hrow : ∀ b, row = some b → A b) : Env w' G d bf bm n A vd := by
  have S : Settled w w' G G := Settled.of_grown hg E.hG fun b e => (E.Aok b (hrow b e)).1
  exact {
    hG := fun b o h => Nat.lt_of_lt_of_le (E.hG b o h) hg.size
    rdy := RepM.mono S _ _ _ E.rdy
    pow := tabPow2 E.pow fun h => hg.block 2 h (fun e => (E.Aok 2 (hrow 2 e.symm)).2.2.1 rfl)
    rd := RepL.mono S _ _ E.rd
    fin := by rw [hg.block bf (Array.getElem?_eq_some_iff.1 E.fin).1 (fun e => (E.Aok bf (hrow bf e.symm)).2.1 rfl)]; exact E.fin
    seen := E.seen.kept S hg hrow E.bmA
    bmG := E.bmG
    bmA := E.bmA
    Aok := fun a h => ⟨(E.Aok a h).1, (E.Aok a h).2.1, (E.Aok a h).2.2.1, Nat.lt_of_lt_of_le (E.Aok a h).2.2.2 hg.size⟩ }

theorem below_grown (hb : Below w.heap.size w w') : w.grownBy w' none := ⟨hb.os, hb.tape, hb.output, hb.size, fun k hk _ => hb.block k hk⟩

/-- More cells are settled: new ones. -/
theorem Env.more (E : Env w G d bf bm n A vd) (h1 : ∀ b o, G b o → G' b o) (h2 : ∀ b o, G' b o → G b o ∨ ((b ≠ bm) ∧ ¬ A b ∧ b < w.heap.size)) : Env w G' d bf bm n A vd := by
  have S : Settled w w G G' := ⟨h1, fun _ _ _ => rfl, fun _ _ => rfl⟩
  obtain ⟨D, s1, s2⟩ := E.seen
  exact {
    hG := fun b o h => (h2 b o h).elim (E.hG b o) (fun h => h.2.2)
    rdy := RepM.mono S _ _ _ E.rdy
    pow := E.pow
    rd := RepL.mono S _ _ E.rd
    fin := E.fin
    seen := ⟨D, s1, fun k hk => by
      obtain ⟨s, j, m, e, h3, h4, ⟨D', h5, h5'⟩, h6, h7⟩ := s2 k hk
      exact ⟨s, j, m, e, h3, h4, ⟨D', h5, h5'.mono S⟩, h6, h7⟩⟩
    bmG := fun o h => (h2 bm o h).elim (E.bmG o) (fun h => h.1 rfl)
    bmA := E.bmA
    Aok := fun a h => ⟨fun o ho => (h2 a o ho).elim ((E.Aok a h).1 o) (fun h' => h'.2.1 h), (E.Aok a h).2⟩ }

theorem Env.bm_lt (E : Env w G d bf bm n A vd) : bm < w.heap.size := by
  obtain ⟨D, s1, _⟩ := E.seen
  exact s1.lt

/-- Behind a call that keeps all that was. -/
theorem Env.call (E : Env w G d bf bm n A vd) (hb : Below w.heap.size w w') (h1 : ∀ b o, G b o → G' b o) (h2 : ∀ b o, G' b o → G b o ∨ w.heap.size ≤ b) (h3 : ∀ b o, G' b o → b < w'.heap.size) : Env w' G' d bf bm n A vd :=
  (E.grow (below_grown hb) (fun _ h => by cases h)).more h1 fun b o h => (h2 b o h).imp id fun h' => ⟨fun e => by have := E.bm_lt; omega, fun hA => by have := (E.Aok b hA).2.2.2; omega, h3 b o h⟩

/-- A is more: a block that is no entry's, and holds no settled cell. -/
theorem Env.also (E : Env w G d bf bm n A vd) (N : Nat) (h1 : ∀ o, ¬ G N o) (h2 : N ≠ bf) (h3 : N ≠ 2) (h4 : N < w.heap.size) (h5 : N ≠ bm) (h6 : Seen w G d bm n (fun a => A a ∨ a = N)) : Env w G d bf bm n (fun a => A a ∨ a = N) vd :=
  { E with
    seen := h6
    bmA := fun h => h.elim E.bmA (fun e => h5 e.symm)
    Aok := fun a h => by
      rcases h with h | rfl
      · exact E.Aok a h
      · exact ⟨h1, h2, h3, h4⟩ }

theorem Env.weak (E : Env w G d bf bm n A vd) {A' : Nat → Prop} (h : ∀ a, A' a → A a) : Env w G d bf bm n A' vd :=
  { E with
    seen := E.seen.weak h
    bmA := fun h' => E.bmA (h _ h')
    Aok := fun a h' => E.Aok a (h a h') }
end

end Go.Proofs.YtilhjiopbbbgmaaDoor

/- The finder, walked: what is ready. -/
namespace Go.Proofs.YtilhjiopbbbgmaaDoor
open Go Go.RowKit Am Go.Shelf Go.Maps Go.WideMaps
set_option linter.unusedVariables false
set_option linter.unusedSimpArgs false

/-- The globals that the finder reads. -/
def glD : Gl := ⟨fun g => if g = 0 then some readiesC else none, PowTab, fun w w' hb h => tabPow2 h fun hlt => hb.block 2 hlt, False⟩

theorem keyOf_kl {s : List It} (h : (keyS s).length ≤ 9223372036854775807) : keyOf Tryd.prog 9 (.string ⟨(keyS s).toArray⟩) = some (kl s) := by
  have := keyOf_string_mk (s := ⟨(keyS s).toArray⟩) Tryd.underlying9 (by simpa [maxLen, ByteArray.size] using h)
  simpa using this

theorem zero66 (w : World) : (zeroValue 66).run Tryd.prog w = .ok (.map none) w := by kernel_rfl
theorem zero37 (w : World) : (zeroValue 37).run Tryd.prog w = .ok (.agg #[.slice none 0 0, .int .i64 0]) w := by kernel_rfl

section
variable {w : World} {G : Am.Good} {d : List Nd} {bf bm n : Nat} {A : Nat → Prop} {vd vs : Value} {s : List It}

theorem Env.gl (E : Env w G d bf bm n A vd) : GlOk glD w G := by
  refine ⟨fun i cs h => ?_, E.pow⟩
  simp only [glD] at h
  split at h
  · rename_i e; subst e; cases h; exact E.rdy
  · cases h
theorem Env.args (E : Env w G d bf bm n A vd) (hv : RepC w G (stC s) vs) : RepTL w G [.agg (dC d), .c (stC s)] (#[Value.agg #[vd], vs] : Array Value).toList := ⟨⟨#[vd], rfl, E.rd⟩, hv, trivial⟩
theorem Env.cell0 (E : Env w G d bf bm n A vd) : w.cell? ⟨bf, 0, none⟩ = some vd := by simp [World.cell?, E.fin]
theorem Env.cell1 (E : Env w G d bf bm n A vd) : w.cell? ⟨bf, 1, none⟩ = some (.map (some bm)) := by simp [World.cell?, E.fin]

theorem c_ready (E : Env w G d bf bm n A vd) (hd : WFd d) (hs : gd d s) (hv : RepC w G (stC s) vs) :
    Calls Tryd.prog 12 #[.agg #[vd], vs] w fun e w' => e = .returned (.bool (rdy d s)) ∧ Below w.heap.size w w' := by
  refine ((ready12_ret glD rfl d hd s (gd_inR hs)).2 w G #[.agg #[vd], vs] E.hG E.gl (E.args hv)).mono ?_
  rintro e w' ⟨v, rfl, hb, _, G', _, _, _, hr⟩
  simp only [RepR, RepC] at hr
  exact ⟨by rw [hr.1], hb⟩

/-- What comes back from a call that settles more. -/
def BackC (w : World) (G : Am.Good) (c : C) (e : Ending) (w' : World) : Prop :=
  ∃ v, e = .returned v ∧ Below w.heap.size w w' ∧ ∃ G' : Am.Good, (∀ b o, G b o → G' b o) ∧ (∀ b o, G' b o → G b o ∨ w.heap.size ≤ b) ∧ (∀ b o, G' b o → b < w'.heap.size) ∧ RepC w' G' c v

theorem c_open (E : Env w G d bf bm n A vd) (hd : WFd d) (hs : gd d s) (hj : okJ s) (hr : rdy d s = false) (hl : s.length ≤ 1000000) (hv : RepC w G (stC s) vs) :
    Calls Tryd.prog 17 #[.agg #[vd], vs] w (BackC w G (ssS (openS d s))) := by
  obtain ⟨x, t, rfl⟩ := rdy_false hr
  refine ((open17_ret glD d hd x t (hs x (by simp)) (hj x (by simp)).1 hr (by simp at hl; omega)).2 w G #[.agg #[vd], vs] E.hG E.gl (E.args hv)).mono ?_
  rintro e w' ⟨v, rfl, hb, _, G', h1, h2, h3, hr⟩
  exact ⟨v, rfl, hb, G', h1, h2, h3, hr⟩

theorem c_clone (E : Env w G d bf bm n A vd) (hl : s.length ≤ 1000000) (hv : RepC w G (stC s) vs) : Calls Tryd.prog 57 #[vs] w (BackC w G (.fr (stC s))) := by
  refine (clone57_own s (by omega) hv).mono ?_
  rintro e w' ⟨a, cap, rfl, hb, hown⟩
  obtain ⟨G', h1, h2, h3, h4⟩ := own_fr (fun b o h => Nat.lt_of_lt_of_le (E.hG b o h) hb.size) hown fun G => rep_its s
  exact ⟨_, rfl, hb, G', h1, h2, h3, h4⟩
end

/-- What the finder hands back, and leaves. -/
def Found (w : World) (G : Am.Good) (d : List Nd) (bf bm n : Nat) (A : Nat → Prop) (vd : Value) (c : Nat) (L : List (List It)) (e : Ending) (w' : World) : Prop :=
  ∃ m G', e = .returned (.map (some m)) ∧ w.grownBy w' (some bm) ∧ (∀ b o, G b o → G' b o) ∧ (∀ b o, G' b o → G b o ∨ w.heap.size ≤ b) ∧ Env w' G' d bf bm (n + c) A vd ∧ MapB w' G' m L ∧ ¬ A m ∧ m ≠ bm

section
variable {w w' : World} {G : Am.Good} {d : List Nd} {bf bm n : Nat} {A : Nat → Prop} {vd vs : Value} {s : List It}

theorem Env.rep (E : Env w G d bf bm n A vd) {row : Option Nat} (hg : w.grownBy w' row) (hrow : ∀ b, row = some b → ∀ o, ¬ G b o) {c : C} {v : Value} (hv : RepC w G c v) : RepC w' G c v :=
  RepC.mono (Settled.of_grown hg E.hG hrow) _ _ hv

theorem Env.ne2 (E : Env w G d bf bm n A vd) : bm ≠ 2 ∧ bm ≠ bf := by
  obtain ⟨D, ⟨es, clock, hb, _⟩, _⟩ := E.seen
  constructor
  · intro e
    subst e
    have h := E.pow
    have hgn : Tryd.prog.globalNamed "internal/strconv.uint64pow10" = some 2 := by kernel_rfl
    unfold PowTab Lib.TabIs World.var? at h
    rw [hgn] at h
    simp only [Option.bind_some, hb] at h
    cases h
  · intro e
    subst e
    rw [E.fin] at hb
    cases hb

/-- The finder's map takes an entry. -/
theorem Env.put (E : Env w G d bf bm n A vd) {D : DV} (hD : w.ownsMap Tryd.prog 9 Rm bm n D)
    (hD2 : ∀ k, Maps.has D k = true → ∃ (s : List It) (j m : Nat), k = kl s ∧ (∀ z, D.atKey k z = .held (.map (some m))) ∧ deep d j s ∧ MapB w G m (leaves d j s) ∧ ¬ A m ∧ m ≠ bm)
    (hg : w.grownBy w' (some bm)) {j m : Nat} (hown : w'.ownsMap Tryd.prog 9 Rm bm (n + 1) (D.put (kl s) (.held (.map (some m))))) (hdeep : deep d j s) (hm : MapB w G m (leaves d j s)) (hA : ¬ A m) (hne : m ≠ bm) :
    Env w' G d bf bm (n + 1) A vd := by
  have S : Settled w w' G G := Settled.of_grown hg E.hG fun b e => by cases e; exact E.bmG
  obtain ⟨n2, nf⟩ := E.ne2
  exact {
    hG := fun b o h => Nat.lt_of_lt_of_le (E.hG b o h) hg.size
    rdy := RepM.mono S _ _ _ E.rdy
    pow := tabPow2 E.pow fun h => hg.block 2 h (fun e => by cases e; exact n2 rfl)
    rd := RepL.mono S _ _ E.rd
    fin := by rw [hg.block bf (Array.getElem?_eq_some_iff.1 E.fin).1 (fun e => by cases e; exact nf rfl)]; exact E.fin
    seen := ⟨_, hown, fun k hk => by
      by_cases e : k = kl s
      · subst e
        exact ⟨s, j, m, rfl, fun z => atKey_put_same hD.isMap (by trivial) _ _, hdeep, hm.kept S hg (fun e => by cases e; exact hne rfl), hA, hne⟩
      · rw [has_put_other e] at hk
        obtain ⟨s', j', m', e', h3, h4, h5, h6, h7⟩ := hD2 k hk
        exact ⟨s', j', m', e', fun z => by rw [atKey_put_other e]; exact h3 z, h4, h5.kept S hg (fun e => by cases e; exact h7 rfl), h6, h7⟩⟩
    bmG := E.bmG
    bmA := E.bmA
    Aok := fun a h => ⟨(E.Aok a h).1, (E.Aok a h).2.1, (E.Aok a h).2.2.1, Nat.lt_of_lt_of_le (E.Aok a h).2.2.2 hg.size⟩ }

theorem Env.lt2 (E : Env w G d bf bm n A vd) : 2 < w.heap.size := by
  have h := E.pow
  have hgn : Tryd.prog.globalNamed "internal/strconv.uint64pow10" = some 2 := by kernel_rfl
  unfold PowTab Lib.TabIs World.var? at h
  rw [hgn] at h
  simp only [Option.bind_some] at h
  rcases Nat.lt_or_ge 2 w.heap.size with h' | h'
  · exact h'
  · rw [Array.getElem?_eq_none h'] at h; cases h

/-- A new block, which may turn later. -/
theorem Env.newMap (E : Env w G d bf bm n A vd) (o : Obj) : Env (w.alloc o) G d bf bm n (fun a => A a ∨ a = w.heap.size) vd := by
  have hbf := (Array.getElem?_eq_some_iff.1 E.fin).1
  have hbm := E.bm_lt
  have h2 := E.lt2
  have hg := World.grownBy_alloc w o none
  have E' := E.grow hg (fun _ h => by cases h)
  exact E'.also w.heap.size (fun o h => Nat.lt_irrefl _ (E.hG _ _ h)) (by omega) (by omega) (by simp) (by omega) ((E.seen.fresh w.heap.size (Nat.le_refl _)).kept (Settled.of_grown hg E.hG fun _ h => by cases h) hg (fun _ h => by cases h) (fun h => h.elim E.bmA (fun e => by omega)))

theorem Env.upN (E : Env w G d bf bm n A vd) {n' : Nat} (h : n ≤ n') : Env w G d bf bm n' A vd := by
  obtain ⟨D, h1, h2⟩ := E.seen
  exact { E with seen := ⟨D, h1.mono h, h2⟩ }

theorem Holds.one {a : Option Addr} {c : Nat} (hc : RepC w G (.fr (stC s)) (.slice a s.length c)) : Holds w G ((DataW.map []).put (kl s) (.held (.agg #[.slice a s.length c, .int .i64 1]))) [s] := by
  refine ⟨fun k hk => ?_, fun t ht => ?_⟩
  · by_cases e : k = kl s
    · exact ⟨s, by simp, e⟩
    · rw [has_put_other e] at hk
      cases hk
  · simp only [List.mem_singleton] at ht
    subst ht
    refine ⟨has_put_same isMap_empty (by trivial) _, _, fun z => atKey_put_same isMap_empty (by trivial) _ _, a, c, ?_, hc⟩
    simp [mn]
end

set_option maxHeartbeats 4000000 in
set_option maxRecDepth 1000000 in
theorem find_ready (d : List Nd) (hd : WFd d) (s : List It) (w : World) (G : Am.Good) (n : Nat) (A : Nat → Prop) (vd vs : Value) (bf bm : Nat) (hr : rdy d s = true) (hs : gd d s) (hj : okJ s) (hl : s.length ≤ 100000)
    (E : Env w G d bf bm n A vd) (hv : RepC w G (stC s) vs) (hn : n ≤ 1000000) : Calls Tryd.prog 35 #[.pointer (some ⟨bf, 0, none⟩), vs] w (Found w G d bf bm n A vd 1 [s]) := by
  have hit := gd_itOk hd hs hj
  have hkl : (keyS s).length ≤ 9223372036854775807 := by have := keyS_le hit (Nat.le_refl _); omega
  have hkey := keyOf_kl hkl
  have hmm := @run_makeMap Tryd.prog
  go_enter Tryd.func35, Tryd.ntmps35
  go_wp2_with (first
    | (go_at_call 48; refine (key48_c s vs w G E.hG (by omega) hit E.pow hv).mono ?_; rintro e w1 ⟨rfl, hb1⟩; have E1 := E.call hb1 (fun _ _ h => h) (fun _ _ h => .inl h) (fun b o h => Nat.lt_of_lt_of_le (E.hG b o h) hb1.size); have q0 := E1.cell0; have q1 := E1.cell1; obtain ⟨D1, hown1, hlook1⟩ := E1.seen.look)
    | (at_lookup; refine wpList_lookup_own_ok _ rfl _ _ 63 rfl 9 66 law9 Tryd.underlying63 Rm (zero66 _) (.held (.map none)) [] rfl bm n D1 rfl hown1 _ _ rfl hkey ?_; intro v ps hvq; have EA := E1.newMap (.map #[] 0); have q0a := EA.cell0; have hvA := E1.rep (World.grownBy_alloc w1 (.map #[] 0) none) (fun _ h => by cases h) (E.rep (below_grown hb1) (fun _ h => by cases h) hv); have hOA := World.ownsMap_made w1 Tryd.prog 9 Rb)
    | (go_at_call 12; refine (c_ready EA hd hs hvA).mono ?_; rintro e w2 ⟨he, hb2⟩; rw [hr] at he; subst he; have E2 := EA.grow (below_grown hb2) (fun _ h => by cases h); have hv2 := EA.rep (below_grown hb2) (fun _ h => by cases h) hvA; have hO2 := hOA.kept (below_grown hb2) (by simp))
    | (go_at_call 57; refine (c_clone E2 (by omega) hv2).mono ?_; rintro e w3 ⟨vc, rfl, hb3, G3, g1, g2, g3, hc⟩; obtain ⟨ac, cc, rfl⟩ : ∃ a c, vc = .slice a s.length c := (by simp only [RepC] at hc; obtain ⟨⟨a, c, e, h⟩, _⟩ := hc; exact ⟨a, c, e⟩); have E3 := E2.call hb3 g1 g2 g3; have hO3 := hO2.kept (below_grown hb3) (by simp))
    | (at_mapUpdate; refine wpList_mapUpdate_own _ rfl _ _ _ 66 rfl 9 37 law9 Tryd.underlying66 Rb w1.heap.size 0 (.map []) rfl hO3 (by unfold maxLen; omega) _ _ (kl s) rfl rfl hkey (.held (.agg #[.slice ac s.length cc, .int .i64 1])) [] rfl ?_; intro w4 hO4 hg4; have E4 := (E3.grow hg4 (fun b e => .inr (by cases e; rfl))).weak (A' := A) (fun _ h => .inl h); have q14 := E4.cell1; obtain ⟨D4, hs4, hD4⟩ := E4.seen)
    | (at_mapUpdate; refine wpList_mapUpdate_own _ rfl _ _ _ 63 rfl 9 66 law9 Tryd.underlying63 Rm bm n D4 rfl hs4 (by unfold maxLen; omega) _ _ (kl s) rfl rfl hkey (.held (.map (some w1.heap.size))) [] rfl ?_; intro w5 hs5 hg5))
  · -- it was found before
    rename_i hhas
    go_ret
    obtain ⟨j, m, h1, h2, h3, h4, h5⟩ := hlook1 s hhas
    obtain ⟨r, rfl, hy⟩ := Rm_inv hvq
    rw [h1] at hy
    have hy' := congrArg Prod.fst hy
    simp only [DataW.held.injEq, Value.map.injEq] at hy'
    subst hy'
    have hdp : deep d 1 s := .inl hr
    have hlv : leaves d j s = [s] := by rw [leaves_eq h2 hdp]; simp only [leaves, hr, if_true]
    rw [hlv] at h3
    exact ⟨m, G, rfl, (below_grown hb1).but _, fun _ _ h => h, fun _ _ h => .inl h, E1.upN (by omega), h3, h4, h5⟩
  · -- it is its one head
    go_ret
    have hsz := hb1.size
    have hOA' : ¬ A w1.heap.size := fun h => by have := (E.Aok _ h).2.2.2; omega
    have hc4 := E3.rep hg4 (fun b e => by cases e; exact (E3.Aok _ (.inr rfl)).1) hc
    have hm : MapB w4 G3 w1.heap.size (leaves d 1 s) := by
      simp only [leaves, hr, if_true]
      exact ⟨_, hO4, Holds.one hc4⟩
    have hne : w1.heap.size ≠ bm := by have := E.bm_lt; omega
    have E5 := E4.put (j := 1) hs4 hD4 hg5 hs5 (show deep d 1 s from Or.inl hr) hm hOA' hne
    have hm5 := hm.kept (Settled.of_grown hg5 E4.hG fun b e => by cases e; exact E4.bmG) hg5 (fun e => by cases e; exact hne rfl)
    simp only [leaves, hr, if_true] at hm5
    have ga : w.grownBy (w1.alloc (.map #[] 0)) none := (below_grown hb1).trans (World.grownBy_alloc _ _ _)
    have gb := (ga.trans (below_grown hb2)).trans (below_grown hb3)
    have gc := (gb.andThen hg4 (fun j e => .inl (by cases e; exact hsz))).but (some bm)
    refine ⟨w1.heap.size, G3, rfl, gc.andThen hg5 (fun j e => .inr e), g1, fun b o h => (g2 b o h).imp id fun h' => ?_, E5, hm5, hOA', hne⟩
    have := hb2.size
    simp at this
    omega

end Go.Proofs.YtilhjiopbbbgmaaDoor

/- What a map of branches holds, when a branch is put in: the plain part. -/
namespace Go.Proofs.YtilhjiopbbbgmaaDoor
open Go Go.RowKit Am Go.Shelf Go.Maps Go.WideMaps
set_option linter.unusedVariables false
set_option linter.unusedSimpArgs false

theorem keyOf9_inv {key : Value} {k : Lit} (h : keyOf Tryd.prog 9 key = some k) : ∃ s : ByteArray, key = .string s ∧ k = .string s.data.toList := by
  simp only [keyOf, Tryd.underlying9, mapKey] at h
  cases key <;> simp at h
  obtain ⟨_, h⟩ := h
  exact ⟨_, rfl, h.symm⟩

section
variable {w : World} {G : Am.Good} {D : DV} {L L' : List (List It)} {t : List It} {v : Value}

theorem mem_count {L : List (List It)} {t : List It} : t ∈ L ↔ 0 < L.count t := List.count_pos_iff.symm

theorem Holds.congr (h : Holds w G D L) (hc : ∀ t, L.count t = L'.count t) : Holds w G D L' := by
  have hm : ∀ t, t ∈ L ↔ t ∈ L' := fun t => by rw [mem_count, mem_count, hc t]
  refine ⟨fun k hk => ?_, fun t ht => ?_⟩
  · obtain ⟨t, ht, e⟩ := h.1 k hk
    exact ⟨t, (hm t).1 ht, e⟩
  · rw [← hc t]
    exact h.2 t ((hm t).2 ht)

theorem count_add (L : List (List It)) (t u : List It) (c : Nat) : (L ++ List.replicate c t).count u = if u = t then L.count u + c else L.count u := by
  rw [List.count_append, List.count_replicate]
  by_cases e : u = t
  · subst e; simp
  · have : (t == u) = false := by rw [beq_eq_false_iff_ne]; exact fun h => e h.symm
    simp [e, this]

theorem Holds.add (h : Holds w G D L) (hD : IsMap D) {c : Nat} (hc : 0 < c) (hv : RepBr w G ⟨t, mn (L.count t + c)⟩ v) : Holds w G (D.put (kl t) (.held v)) (L ++ List.replicate c t) := by
  refine ⟨fun k hk => ?_, fun u hu => ?_⟩
  · by_cases e : k = kl t
    · exact ⟨t, List.mem_append.2 (.inr (List.mem_replicate.2 ⟨by omega, rfl⟩)), e⟩
    · rw [has_put_other e] at hk
      obtain ⟨u, hu, e⟩ := h.1 k hk
      exact ⟨u, List.mem_append.2 (.inl hu), e⟩
  · rw [count_add]
    by_cases e : u = t
    · subst e
      rw [if_pos rfl]
      exact ⟨has_put_same hD (by trivial) _, v, fun z => atKey_put_same hD (by trivial) _ _, hv⟩
    · have e' : kl u ≠ kl t := fun h => e (kl_inj h)
      rw [if_neg e, has_put_other e']
      obtain ⟨h1, v', h2, h3⟩ := h.2 u (by
        rcases List.mem_append.1 hu with h | h
        · exact h
        · exact absurd (List.eq_of_mem_replicate h) e)
      exact ⟨h1, v', fun z => by rw [atKey_put_other e']; exact h2 z, h3⟩

theorem Holds.many (h : Holds w G D L) (t : List It) : ∃ a n c, D.atKey (kl t) (.held (.agg #[.slice none 0 0, .int .i64 0])) = .held (.agg #[.slice a n c, .int .i64 (mn (L.count t))]) := by
  by_cases ht : t ∈ L
  · obtain ⟨_, v, h2, a, c, rfl, _⟩ := h.2 t ht
    exact ⟨a, t.length, c, h2 _⟩
  · have h0 : L.count t = 0 := List.count_eq_zero.2 ht
    have hn : Maps.has D (kl t) = false := by
      cases hh : Maps.has D (kl t) with
      | false => rfl
      | true =>
        obtain ⟨u, hu, e⟩ := h.1 _ hh
        rw [kl_inj e] at ht
        exact absurd hu ht
    rw [atKey_of_not_has hn, h0]
    exact ⟨none, 0, 0, rfl⟩

theorem mn_r (n : Nat) : 0 ≤ mn n ∧ mn n ≤ 2 := by simp only [mn]; split <;> omega
end

/-- A look into a map of branches. -/
theorem wpList_lookup_br (w : World) {ops : Array Oper} {rest : List Oper} {o : Oper} {a : Act} {Q : Exit → Act → World → Prop} (hg : o.guard = none) (m x : Operand) (hop : o.op = Op.lookup 66 m x false) (b n : Nat) (D : DV)
    (hm : a.eval m = .map (some b)) (hown : w.ownsMap Tryd.prog 9 Rb b n D) (key : Value) (k : Lit) (hx : a.eval x = key) (hkey : keyOf Tryd.prog 9 key = some k) {ad : Option Addr} {nn c : Nat} {q : Int}
    (hat : D.atKey k (.held (.agg #[.slice none 0 0, .int .i64 0])) = .held (.agg #[.slice ad nn c, .int .i64 q])) (hK : wpList Tryd.prog ops Q rest (a.put o.dst (.agg #[.slice ad nn c, .int .i64 q])) w) :
    wpList Tryd.prog ops Q (o :: rest) a w := by
  refine wpList_plain hg fun K' hK' => ?_
  obtain ⟨v, ps, hrun, hv⟩ := hown.lookup law9 Tryd.underlying66 (zero37 _) (zd := .held (.agg #[.slice none 0 0, .int .i64 0])) (zp := []) rfl hkey
  obtain ⟨_, _, hy⟩ := Rb_inv hv
  have hy' := congrArg Prod.fst hy
  rw [hat] at hy'
  injection hy' with hy'
  subst hy'
  unfold Oper.wp
  simp [execOp, hop, hm, hx, hrun, Result.andThen]
  exact hK' _ _ hK

end Go.Proofs.YtilhjiopbbbgmaaDoor

/- The finder, walked: what is not ready: its openings' heads, together. -/
namespace Go.Proofs.YtilhjiopbbbgmaaDoor
open Go Go.RowKit Am Go.Shelf Go.Maps Go.WideMaps
set_option linter.unusedVariables false
set_option linter.unusedSimpArgs false

/-- An element of a slice of states. -/
theorem ssC_at {w : World} {G : Am.Good} {os : List (List It)} {ao : Option Addr} {n co : Nat} (h : RepC w G (.sl n (ssC os)) (.slice ao n co)) {i : Nat} (hi : i < os.length) :
    ∃ bo oo v, ao = some ⟨bo, oo, none⟩ ∧ w.cell? ⟨bo, oo + i, none⟩ = some v ∧ RepC w G (stC os[i]) v := by
  simp only [RepC] at h
  obtain ⟨a, cap, e, _, h⟩ := h
  cases e
  rcases h with h | ⟨b, o, e, h⟩
  · have := ssC_length os
    rw [h] at this
    simp at this
    omega
  · subst e
    have hg : (ssC os)[i]? = some (stC os[i]) := by simp [ssC, hi]
    obtain ⟨_, v, hv, hr⟩ := RepM.get h hg
    exact ⟨b, o, v, rfl, hv, hr⟩

/-- Behind i of the openings. -/
def OutRel (w : World) (G : Am.Good) (d : List Nd) (k bf bm n : Nat) (A : Nat → Prop) (vd : Value) (os : List (List It)) (ao : Option Addr) (co O g : Nat) (x : Value) (wx : World) : Prop :=
  ∃ (i : Nat) (Gx : Am.Good) (D : DV), i + g = os.length ∧ x = .int .i64 i ∧ Env wx Gx d bf bm (n + ((os.take i).map (cnt d k)).sum) (fun a => A a ∨ a = O) vd ∧ RepC wx Gx (ssS os) (.slice ao os.length co) ∧
    wx.ownsMap Tryd.prog 9 Rb O ((os.take i).flatMap (leaves d k)).length D ∧ Holds wx Gx D ((os.take i).flatMap (leaves d k)) ∧ w.grownBy wx (some bm) ∧ (∀ b o, G b o → Gx b o) ∧ (∀ b o, Gx b o → G b o ∨ w.heap.size ≤ b)

theorem Env.newBlk {w w' : World} {G : Am.Good} {d : List Nd} {bf bm n : Nat} {A : Nat → Prop} {vd : Value} (E : Env w G d bf bm n A vd) (hg : w.grownBy w' none) (hsz : w.heap.size < w'.heap.size) : Env w' G d bf bm n (fun a => A a ∨ a = w.heap.size) vd := by
  have hbf := (Array.getElem?_eq_some_iff.1 E.fin).1
  have hbm := E.bm_lt
  have h2 := E.lt2
  have E' := E.grow hg (fun _ h => by cases h)
  exact E'.also w.heap.size (fun o h => Nat.lt_irrefl _ (E.hG _ _ h)) (by omega) (by omega) hsz (by omega) ((E.seen.fresh w.heap.size (Nat.le_refl _)).kept (Settled.of_grown hg E.hG fun _ h => by cases h) hg (fun _ h => by cases h) (fun h => h.elim E.bmA (fun e => by omega)))

/-- While one opening's heads are put in. -/
def InRel (w : World) (G : Am.Good) (d : List Nd) (bf bm n : Nat) (A : Nat → Prop) (vd : Value) (O m r : Nat) (L1 L2 : List (List It)) (D2 : DV) (c0 : C) (v0 : Value) (g : Nat) (wy : World) : Prop :=
  ∃ (left : Lit → Bool) (c : Nat) (V : List (List It)) (D : DV) (nO : Nat), c ≤ g ∧ nO + c ≤ L1.length + L2.length ∧ wy.ranges Tryd.prog 9 Rb m r L2.length D2 left c ∧ Env wy G d bf bm n (fun a => (A a ∨ a = O) ∨ a = r) vd ∧
    wy.ownsMap Tryd.prog 9 Rb O nO D ∧ Holds wy G D (L1 ++ V) ∧ Holds wy G D2 L2 ∧ (∀ t, t ∈ L2 → left (kl t) = false → V.count t = L2.count t) ∧ (∀ t, left (kl t) = true → t ∉ V) ∧ (∀ t, t ∈ V → t ∈ L2) ∧ w.grownBy wy (some bm) ∧ RepC wy G c0 v0

theorem sum_take_le (f : List It → Nat) (os : List (List It)) {i : Nat} (h : i < os.length) : ((os.take i).map f).sum + f os[i] ≤ (os.map f).sum ∧ ((os.take (i + 1)).map f).sum = ((os.take i).map f).sum + f os[i] := by
  have h1 : ((os.take (i + 1)).map f).sum = ((os.take i).map f).sum + f os[i] := by
    rw [List.take_succ_eq_append_getElem h, List.map_append, List.sum_append]; simp
  refine ⟨?_, h1⟩
  rw [← h1]
  have h2 : os.map f = (os.take (i + 1)).map f ++ (os.drop (i + 1)).map f := by rw [← List.map_append, List.take_append_drop]
  rw [h2, List.sum_append]
  omega

set_option maxHeartbeats 4000000 in
set_option maxRecDepth 1000000 in
theorem find_open (d : List Nd) (hd : WFd d) (k : Nat) (s : List It) (w : World) (G : Am.Good) (n : Nat) (A : Nat → Prop) (vd vs : Value) (bf bm : Nat) (hr : rdy d s = false) (hdp : ∀ t ∈ openS d s, deep d k t)
    (hs : gd d s) (hj : okJ s) (hl : s.length + (k + 1) ≤ 100000) (E : Env w G d bf bm n A vd) (hv : RepC w G (stC s) vs) (hn : n + cnt d (k + 1) s ≤ 1000000) (hlv : (leaves d (k + 1) s).length ≤ 1000000)
    (ih : ∀ (t : List It) (w : World) (G : Am.Good) (n : Nat) (A : Nat → Prop) (vt : Value), t ∈ openS d s → Env w G d bf bm n A vd → RepC w G (stC t) vt → n + cnt d k t ≤ 1000000 →
      Calls Tryd.prog 35 #[.pointer (some ⟨bf, 0, none⟩), vt] w (Found w G d bf bm n A vd (cnt d k t) (leaves d k t))) :
    Calls Tryd.prog 35 #[.pointer (some ⟨bf, 0, none⟩), vs] w (Found w G d bf bm n A vd (cnt d (k + 1) s) (leaves d (k + 1) s)) := by
  have hit := gd_itOk hd hs hj
  have hkl : (keyS s).length ≤ 9223372036854775807 := by have := keyS_le hit (Nat.le_refl _); omega
  have hkey := keyOf_kl hkl
  have hmm := @run_makeMap Tryd.prog
  have hdeep : deep d (k + 1) s := by simp only [deep]; exact .inr hdp
  have hrr : ¬ rdy d s = true := by rw [hr]; exact fun h => by cases h
  simp only [cnt, leaves, if_neg hrr] at hn hlv ⊢
  obtain ⟨os, hos⟩ : ∃ os, openS d s = os := ⟨_, rfl⟩
  have hosl : os.length ≤ 2 := by rw [← hos]; exact openS_len d s
  rw [hos] at hn hlv ih hdp ⊢
  have HI : Aside (∀ (t : List It) (w : World) (G : Am.Good) (n : Nat) (A : Nat → Prop) (vt : Value), t ∈ os → Env w G d bf bm n A vd → RepC w G (stC t) vt → n + cnt d k t ≤ 1000000 →
      Calls Tryd.prog 35 #[.pointer (some ⟨bf, 0, none⟩), vt] w (Found w G d bf bm n A vd (cnt d k t) (leaves d k t))) := ih
  clear ih
  go_enter Tryd.func35, Tryd.ntmps35
  go_wp2_with (first
    | (go_at_call 48; refine (key48_c s vs w G E.hG (by omega) hit E.pow hv).mono ?_; rintro e w1 ⟨rfl, hb1⟩; have E1 := E.call hb1 (fun _ _ h => h) (fun _ _ h => .inl h) (fun b o h => Nat.lt_of_lt_of_le (E.hG b o h) hb1.size); have q0 := E1.cell0; have q1 := E1.cell1; obtain ⟨D1, hown1, hlook1⟩ := E1.seen.look)
    | (at_lookup; refine wpList_lookup_own_ok _ rfl _ _ 63 rfl 9 66 law9 Tryd.underlying63 Rm (zero66 _) (.held (.map none)) [] rfl bm n D1 rfl hown1 _ _ rfl hkey ?_; intro v ps hvq; have EA := E1.newMap (.map #[] 0); have q0a := EA.cell0; have hvA := E1.rep (World.grownBy_alloc w1 (.map #[] 0) none) (fun _ h => by cases h) (E.rep (below_grown hb1) (fun _ h => by cases h) hv); have hOA := World.ownsMap_made w1 Tryd.prog 9 Rb)
    | (go_at_call 12; refine (c_ready EA hd hs hvA).mono ?_; rintro e w2 ⟨he, hb2⟩; rw [hr] at he; subst he; have E2 := EA.grow (below_grown hb2) (fun _ h => by cases h); have hv2 := EA.rep (below_grown hb2) (fun _ h => by cases h) hvA; have hO2 := hOA.kept (below_grown hb2) (by simp); have q02 := E2.cell0)
    | (go_at_call 17; refine (c_open E2 hd hs hj hr (by omega) hv2).mono ?_; rintro e w3 ⟨vo, rfl, hb3, G3, g1, g2, g3, ho⟩; rw [hos] at ho; obtain ⟨ao, co, rfl⟩ : ∃ a c, vo = .slice a os.length c := (by simp only [RepC] at ho; obtain ⟨a, c, e, h⟩ := ho; exact ⟨a, c, e⟩); have E3 := E2.call hb3 g1 g2 g3; have hO3 := hO2.kept (below_grown hb3) (by simp)))
  · -- it was found before
    rename_i hhas
    go_ret
    obtain ⟨j, m, h1, h2, h3, h4, h5⟩ := hlook1 s hhas
    obtain ⟨r, rfl, hy⟩ := Rm_inv hvq
    rw [h1] at hy
    have hy' := congrArg Prod.fst hy
    simp only [DataW.held.injEq, Value.map.injEq] at hy'
    subst hy'
    have hlv' : leaves d j s = os.flatMap (leaves d k) := by rw [leaves_eq h2 hdeep]; simp only [leaves, if_neg hrr, hos]
    rw [hlv'] at h3
    exact ⟨m, G, rfl, (below_grown hb1).but _, fun _ _ h => h, fun _ _ h => .inl h, E1.upN (by omega), h3, h4, h5⟩
  · have hO : w.heap.size ≤ w1.heap.size := hb1.size
    have hOA' : ¬ A w1.heap.size := fun h => by have := (E.Aok _ h).2.2.2; omega
    have hOne : w1.heap.size ≠ bm := by have := E.bm_lt; omega
    have ga : w.grownBy (w1.alloc (.map #[] 0)) none := (below_grown hb1).trans (World.grownBy_alloc _ _ _)
    have gb := (ga.trans (below_grown hb2)).trans (below_grown hb3)
    have hsz2 : w.heap.size ≤ w2.heap.size := by have := hb2.size; simp at this; omega
    have hst : OutRel w G d k bf bm n A vd os ao co w1.heap.size os.length (.int .i64 0) w3 :=
      ⟨0, G3, .map [], by omega, rfl, by simpa using E3, ho, hO3, ⟨fun k hk => (by cases hk), fun t ht => (by simp at ht)⟩, gb.but _, g1, fun b o h => (g2 b o h).imp id fun h' => by omega⟩
    clear E3 ho hO3 g1 g2 g3 gb ga hb3 hO2 hv2 E2 q02 hb2 hOA hvA q0a hvq hlook1 hown1 q0 hsz2
    generalize w1.heap.size = O at *
    have hlvs : leaves d (k + 1) s = os.flatMap (leaves d k) := by simp only [leaves, if_neg hrr, hos]
    clear q1 E1 hb1 hos
    go_loopg [53] os.length (fun g x wx => OutRel w G d k bf bm n A vd os ao co O g x wx)
    case atStart => exact hst
    case round =>
      clear hst
      obtain ⟨i, Gx, D, hig, rfl, Ex, hox, hDx, hHx, hgx, gx1, gx2⟩ := hrel
      cases gk with
      | zero =>
        have hiz : ¬ ((i : Int) < (os.length : Int)) := by omega
        have htk : os.take i = os := List.take_of_length_le (by omega)
        rw [htk] at Ex hDx hHx
        have Ew := Ex.weak (A' := A) (fun _ h => .inl h)
        have q1x := Ew.cell1
        obtain ⟨D4, hs4, hD4⟩ := Ew.seen
        go_wp2_with (at_mapUpdate; refine wpList_mapUpdate_own _ rfl _ _ _ 63 rfl 9 66 law9 Tryd.underlying63 Rm bm _ D4 rfl hs4 (by unfold maxLen; omega) _ _ (kl s) rfl rfl hkey (.held (.map (some O))) [] rfl ?_; intro w5 hs5 hg5)
        go_ret
        have hm : MapB wr Gx O (leaves d (k + 1) s) := by
          rw [hlvs]
          exact ⟨D, hDx, hHx⟩
        have E5 := Ew.put (j := k + 1) hs4 hD4 hg5 hs5 hdeep hm hOA' hOne
        have hm5 := hm.kept (Settled.of_grown hg5 Ew.hG fun b e => by cases e; exact Ew.bmG) hg5 (fun e => by cases e; exact hOne rfl)
        rw [hlvs] at hm5
        exact ⟨O, Gx, rfl, hgx.andThen hg5 (fun j e => .inr e), gx1, gx2, E5.upN (by omega), hm5, hOA', hOne⟩
      | succ g =>
        have hlt : i < os.length := by omega
        have hiz : (i : Int) < (os.length : Int) := by omega
        obtain ⟨bo, oo, vt, rfl, hcell, hvt⟩ := ssC_at hox hlt
        obtain ⟨sm1, sm2⟩ := sum_take_le (cnt d k) os hlt
        go_wp2_with (first
          | (go_at_call 35; refine (HI.out os[i] wr Gx _ _ vt (List.getElem_mem hlt) Ex hvt (by omega)).mono ?_; rintro e w4 ⟨m, G4, rfl, hg4, k1, k2, E4, hM, hAm, hmb⟩; obtain ⟨D2, hm2, hH2⟩ := hM)
          | (at_range; refine wpList_range_own _ rfl _ 66 rfl 9 37 law9 Tryd.underlying66 Rb m _ D2 rfl hm2 ?_; intro w5 hrg5 hg5 hs5))
        go_frame
        have hmO : m ≠ O := fun e => hAm (.inr e)
        have hmlt := hm2.lt
        have hOlt := hDx.lt
        have hr5 : m ≠ w4.heap.size := by omega
        have hOr : O ≠ w4.heap.size := by have := hg4.size; omega
        have S4 : Settled wr w4 Gx G4 := ⟨k1, (Settled.of_grown hg4 Ex.hG fun b e => by cases e; exact Ex.bmG).cell, (Settled.of_grown hg4 Ex.hG fun b e => by cases e; exact Ex.bmG).frz⟩
        have E5 := E4.newBlk hg5 (by omega)
        have S5 : Settled w4 w5 G4 G4 := Settled.of_grown hg5 E4.hG fun b e => by cases e
        have hst : InRel w G4 d bf bm (n + ((os.take i).map (cnt d k)).sum + cnt d k os[i]) A vd O m w4.heap.size ((os.take i).flatMap (leaves d k)) (leaves d k os[i]) D2 (ssS os) (.slice (some ⟨bo, oo, none⟩) os.length co) (Maps.size D2) w5 := by
          refine ⟨_, _, [], D, _, Nat.le_refl _, Nat.add_le_add_left hm2.size_le _, hrg5, E5, ((hDx.kept hg4 (fun e => by cases e; exact hOne rfl)).kept hg5 (by simp)), ?_, (hH2.mono S5), fun t ht hl => ?_, fun t _ h => (by cases h), fun t h => (by cases h), ?_⟩
          · rw [List.append_nil]; exact (hHx.mono S4).mono S5
          · rw [(hH2.2 t ht).1] at hl; cases hl
          · exact ⟨(hgx.andThen hg4 (fun j e => .inr e)).trans (hg5.but _), RepC.mono S5 _ _ (RepC.mono S4 _ _ hox)⟩
        have gx1' : ∀ b o, G b o → G4 b o := fun b o h => k1 b o (gx1 b o h)
        have gx2' : ∀ b o, G4 b o → G b o ∨ w.heap.size ≤ b := fun b o h => (k2 b o h).elim (gx2 b o) (fun h' => .inr (Nat.le_trans hgx.size h'))
        clear hrg5 hm2 hH2 E4 E5 k1 k2 gx1 gx2 S4 S5 hox hcell hvt
        have hLL : ((os.take i).flatMap (leaves d k)).length + (leaves d k os[i]).length ≤ 1000000 := by
          have := (sum_take_le (fun t => (leaves d k t).length) os hlt).1
          rw [← List.length_flatMap, ← List.length_flatMap] at this
          omega
        generalize hL1 : (os.take i).flatMap (leaves d k) = L1 at *
        generalize hL2 : leaves d k os[i] = L2 at *
        go_loopg [61] (Maps.size D2) (fun g2 _ wy => InRel w G4 d bf bm (n + ((os.take i).map (cnt d k)).sum + cnt d k os[i]) A vd O m w4.heap.size L1 L2 D2 (ssS os) (.slice (some ⟨bo, oo, none⟩) os.length co) g2 wy)
        case atStart => exact hst
        case round =>
          clear hst
          obtain ⟨left, c, V, Dy, nO, hcg, hnO, hrg, Ey, hDy, hHy, hH2, hV1, hV2, hV3, hgy, hoy⟩ := hrel
          go_wp2_with (first
            | (at_next; refine wpList_next_ranges _ rfl _ rfl 9 law9 Rb Value.string (fun c : Option Addr × Nat × Nat × Int => .agg #[.slice c.1 c.2.1 c.2.2.1, .int .i64 c.2.2.2]) (fun key kl hk => by obtain ⟨x, hx, _⟩ := keyOf9_inv hk; exact ⟨x, hx⟩) (fun v y hv => by obtain ⟨c, hc, _⟩ := Rb_inv hv; exact ⟨c, hc⟩) m w4.heap.size _ D2 left c rfl hrg ?_ ?_))
          · intro hc0 hl0
            go_wp2
            go_roundg g
            case measure => omega
            case rel =>
              have hcnt : ∀ t, V.count t = L2.count t := fun t => by
                by_cases ht : t ∈ L2
                · exact hV1 t ht (hl0 _)
                · rw [List.count_eq_zero.2 ht, List.count_eq_zero.2 fun h => ht (hV3 t h)]
              have hfl : (os.take (i + 1)).flatMap (leaves d k) = L1 ++ L2 := by
                rw [List.take_succ_eq_append_getElem hlt, List.flatMap_append, hL1]
                simp [hL2]
              refine ⟨i + 1, G4, Dy, by omega, by first | rfl | (simp; done) | (have : wrap64 ((i : Int) + 1) = ((i + 1 : Nat) : Int) := (by unfold wrap64; omega); simp [this]), ?_, hoy, ?_, ?_, hgy, gx1', gx2'⟩
              · rw [sm2, ← Nat.add_assoc]; exact Ey.weak (fun _ h => .inl h)
              · rw [hfl]; exact hDy.mono (by rw [List.length_append]; omega)
              · rw [hfl]; exact hHy.congr fun t => by rw [List.count_append, List.count_append, hcnt]
          · intro x a2 n2 cc2 q2 k2 yd yp w6 c6 hkey6 hlk hv6 hat6 hrg6 hlt6 hg6 hs6 hen
            obtain ⟨t, ht, rfl⟩ := hH2.1 _ (has_true_of_atKey hat6)
            obtain ⟨_, v0, hv0, ad, cc, rfl, hrc⟩ := hH2.2 t ht
            have hcv : a2 = ad ∧ n2 = t.length ∧ cc2 = cc ∧ q2 = mn (L2.count t) := by
              obtain ⟨_, _, hy⟩ := Rb_inv hv6
              have hy' := congrArg Prod.fst hy
              simp only at hy'
              rw [← hat6 (.held (.map none)), hv0] at hy'
              injection hy' with hy'
              simp only [Value.agg.injEq, Array.mk.injEq, List.cons.injEq, Value.slice.injEq, Value.int.injEq, and_true, true_and] at hy'
              obtain ⟨⟨e1, e2, e3⟩, e4⟩ := hy'
              exact ⟨e1.symm, e2.symm, e3.symm, e4.symm⟩
            obtain ⟨rfl, rfl, rfl, rfl⟩ := hcv
            obtain rfl : x = ⟨(keyS t).toArray⟩ := by
              obtain ⟨x', e1, e2⟩ := keyOf9_inv hkey6
              cases e1
              injection e2 with e2
              rw [e2]
            obtain ⟨aw, nw, cw, hwas⟩ := hHy.many t
            have hO4 : O ≠ w4.heap.size := hOr
            have hD6 := hDy.kept hg6 (fun e => by cases e; exact hOr rfl)
            have r1 := mn_r ((L1 ++ V).count t)
            have r2 := mn_r (L2.count t)
            go_wp2_with (first
              | (at_lookup; refine wpList_lookup_br _ rfl _ _ rfl O nO Dy rfl (hD6.alloc _) _ _ rfl hkey6 hwas ?_)
              | (at_mapUpdate; refine wpList_mapUpdate_own _ rfl _ _ _ 66 rfl 9 37 law9 Tryd.underlying66 Rb O nO Dy rfl ((hD6.alloc _).alloc _) (by unfold maxLen; omega) _ _ (kl t) rfl rfl hkey6 _ [] rfl ?_; intro w7 hO7 hg7))
            go_roundg c6
            case measure => omega
            case rel =>
              have htV : t ∉ V := hV2 t hlk
              have hrG := (Ey.Aok w4.heap.size (.inr rfl)).1
              have hOG := (Ey.Aok O (.inl (.inr rfl))).1
              have E6 := Ey.grow hg6 (fun b e => by cases e; exact .inr rfl)
              have Ea := E6.grow (World.grownBy_alloc w6 (.cells #[.slice a2 t.length cc2, .int .i64 (mn (L2.count t))] 37) none) (fun _ h => by cases h)
              have Eb := Ea.grow (World.grownBy_alloc _ (.cells #[.slice aw nw cw, .int .i64 (mn (L1.count t + V.count t))] 37) none) (fun _ h => by cases h)
              have E7 := Eb.grow hg7 (fun b e => by cases e; exact .inl (.inr rfl))
              have S7 : Settled wr w7 G4 G4 := ⟨fun _ _ h => h, fun b o h =>
                (((Settled.of_grown hg7 Eb.hG fun b e => by cases e; exact hOG).cell b o h).trans ((Settled.of_grown (World.grownBy_alloc _ _ none) Ea.hG fun b e => by cases e).cell b o h)).trans
                  (((Settled.of_grown (World.grownBy_alloc _ _ none) E6.hG fun b e => by cases e).cell b o h).trans ((Settled.of_grown hg6 Ey.hG fun b e => by cases e; exact hrG).cell b o h)), fun b h =>
                (((Settled.of_grown hg7 Eb.hG fun b e => by cases e; exact hOG).frz b h).trans ((Settled.of_grown (World.grownBy_alloc _ _ none) Ea.hG fun b e => by cases e).frz b h)).trans
                  (((Settled.of_grown (World.grownBy_alloc _ _ none) E6.hG fun b e => by cases e).frz b h).trans ((Settled.of_grown hg6 Ey.hG fun b e => by cases e; exact hrG).frz b h))⟩
              have hw4 : w.heap.size ≤ w4.heap.size := Nat.le_trans hgx.size hg4.size
              have hgy7 := ((((hgy.andThen hg6 (fun j e => .inl (by cases e; exact hw4))).trans (World.grownBy_alloc _ _ (some bm))).trans (World.grownBy_alloc _ _ (some bm))).andThen hg7 (fun j e => .inl (by cases e; exact hO)))
              have hq : min (wrap64 (mn (L1.count t + V.count t) + mn (L2.count t))) 2 = mn (L1.count t + V.count t + L2.count t) := by
                have e : wrap64 (mn (L1.count t + V.count t) + mn (L2.count t)) = mn (L1.count t + V.count t) + mn (L2.count t) := by
                  rw [List.count_append] at r1
                  unfold wrap64; omega
                rw [e]
                simp only [mn]
                split <;> split <;> split <;> omega
              have hsk : ∀ u, (kl u).sameKey (kl t) = true ↔ u = t := fun u => by
                rw [WideAt.sameKey_iff (by trivial)]
                exact ⟨kl_inj, fun e => by rw [e]⟩
              refine ⟨_, c6, V ++ List.replicate (L2.count t) t, _, nO + 1, Nat.le_refl _, by omega, ((hrg6.alloc _).alloc _).kept hg7 (fun e => by cases e; exact hmO rfl) (fun e => by cases e; exact hOr rfl), E7, hO7, ?_, hH2.mono S7, fun u hu hl => ?_, fun u hl => ?_, fun u hu => ?_, hgy7, RepC.mono S7 _ _ hoy⟩
              · rw [← List.append_assoc]
                refine (hHy.mono S7).add hDy.isMap (mem_count.1 ht) ⟨a2, cc2, ?_, RepC.mono S7 _ _ hrc⟩
                rw [hq, List.count_append]
              · rw [count_add]
                by_cases e : u = t
                · subst e
                  rw [if_pos rfl, List.count_eq_zero.2 htV, Nat.zero_add]
                · rw [if_neg e]
                  have : (kl u).sameKey (kl t) = false := by
                    cases h : (kl u).sameKey (kl t) with
                    | false => rfl
                    | true => exact absurd ((hsk u).1 h) e
                  simp only [this, Bool.not_false, Bool.and_true] at hl
                  exact hV1 u hu hl
              · simp only [Bool.and_eq_true, Bool.not_eq_true'] at hl
                have hne : u ≠ t := fun e => by
                  have := (hsk u).2 e
                  rw [hl.2] at this
                  cases this
                intro hu
                rcases List.mem_append.1 hu with h | h
                · exact hV2 u hl.1 h
                · exact hne (List.eq_of_mem_replicate h)
              · rcases List.mem_append.1 hu with h | h
                · exact hV3 u h
                · rw [List.eq_of_mem_replicate h]; exact ht

end Go.Proofs.YtilhjiopbbbgmaaDoor

/- The finder's contract: of every state that is opened in few steps. -/
namespace Go.Proofs.YtilhjiopbbbgmaaDoor
open Go Go.RowKit Am Go.Shelf Go.Maps Go.WideMaps
set_option linter.unusedVariables false
set_option linter.unusedSimpArgs false

theorem fold_cnt {d : List Nd} {k : Nat} {m : Int} (hm : m ≤ k + 1) (ih : ∀ s (m' : Int), m' ≤ k → 1 < m' → stepsF d k s m' < m' → (cnt d k s : Int) ≤ stepsF d k s m') :
    ∀ (os : List (List It)) (n : Int), 1 ≤ n → n < m → os.foldl (fun n o => if n < m then n + stepsF d k o (m - n) else n) n < m →
      n + (((os.map (cnt d k)).sum : Nat) : Int) ≤ os.foldl (fun n o => if n < m then n + stepsF d k o (m - n) else n) n
  | [], n, h1, h2, h => by simp
  | o :: os, n, h1, h2, h => by
    simp only [List.foldl_cons, if_pos h2] at h ⊢
    by_cases h3 : n + stepsF d k o (m - n) < m
    · have h4 : 1 < m - n := by have := (stepsF_le d k o (m - n)).1; omega
      have a := ih o (m - n) (by omega) h4 (by omega)
      have b := fold_cnt hm ih os _ (by have := (stepsF_le d k o (m - n)).1; omega) h3 h
      simp only [List.map_cons, List.sum_cons]
      omega
    · rw [fold_stop os _ h3] at h; omega

theorem steps_cnt (d : List Nd) : ∀ (k : Nat) (s : List It) (m : Int), m ≤ k → 1 < m → stepsF d k s m < m → (cnt d k s : Int) ≤ stepsF d k s m
  | 0, s, m, h0, h1, h => by omega
  | k + 1, s, m, h0, h1, h => by
    simp only [stepsF, if_neg (show ¬ m ≤ 1 by omega), cnt] at h ⊢
    split
    · simp
    · rename_i hr
      rw [if_neg hr] at h
      have := fold_cnt (by omega) (fun s m' h0 h1 h => steps_cnt d k s m' h0 h1 h) (openS d s) 1 (by omega) h1 h
      omega

theorem find35 (d : List Nd) (hd : WFd d) (vd : Value) (bf bm : Nat) : ∀ (k : Nat) (s : List It) (w : World) (G : Am.Good) (n : Nat) (A : Nat → Prop) (vs : Value), deep d k s → gd d s → okJ s → s.length + k ≤ 100000 → Env w G d bf bm n A vd →
    RepC w G (stC s) vs → n + cnt d k s ≤ 1000000 → (leaves d k s).length ≤ 1000000 → Calls Tryd.prog 35 #[.pointer (some ⟨bf, 0, none⟩), vs] w (Found w G d bf bm n A vd (cnt d k s) (leaves d k s)) := by
  intro k
  induction k with
  | zero => intro s w G n A vs h; exact h.elim
  | succ k ih =>
    intro s w G n A vs hdp hs hj hl E hv hn hlv
    by_cases hr : rdy d s = true
    · have := find_ready d hd s w G n A vd vs bf bm hr hs hj (by omega) E hv (by omega)
      simp only [cnt, leaves, if_pos hr]
      exact this
    · have hdp' := hdp.resolve_left hr
      have hlv' := hlv
      have hn' := hn
      simp only [leaves, if_neg hr] at hlv'
      simp only [cnt, if_neg hr] at hn'
      refine find_open d hd k s w G n A vd vs bf bm (by simpa using hr) hdp' hs hj hl E hv hn hlv fun t w G n A vt ht E' hvt hnt => ?_
      obtain ⟨g1, g2⟩ := openS_gd hd hs t ht
      refine ih t w G n A vt (hdp' t ht) g1 (okJ_open hd hs hj t ht) (by omega) E' hvt hnt ?_
      obtain ⟨i, hi, rfl⟩ := List.getElem_of_mem ht
      have := (sum_take_le (fun t => (leaves d k t).length) (openS d s) hi).1
      rw [← List.length_flatMap, ← List.length_flatMap] at this
      omega

end Go.Proofs.YtilhjiopbbbgmaaDoor

/- How states are compared: as the document's answer compares them. -/
namespace Go.Proofs.YtilhjiopbbbgmaaDoor
open Nat renaming reduceSub → R1, reduceMul → R2, reduceLeDiff → R3, reducePow → R4, reduceBEq → R5, reduceAdd → R6, reduceEqDiff → R7
open Int renaming reduceToNat → R9
open Go Go.RowKit Am
set_option linter.unusedVariables false
set_option linter.unusedSimpArgs false
set_option maxHeartbeats 4000000
attribute [local irreducible] AWp AOps

theorem isnan_ret (gl : Gl) (x : Int) : Ret Tryd.prog gl 82 [iv x] (bv false) := by
  refine retq (rs := [2]) 6 Tryd.func82 (by kernel_rfl) rfl (by kernel_rfl) rfl (by simp) (by simp) fun Z hN hX hR => ?_
  repeat (first | ((first | refine Q1 ?_ | refine Q2 ?_); intro Z hN hX hR) | refine Q3 (by kernel_rfl) fun K hK => ?_ | ((first | refine Q4 fun R hJ => ?_ | with_reducible change ExpAll _ _ _); simp only [kS, R1, R2, R3, R4, R5, R6, R7, reduceCtorEq, R9, bne_self_eq_false]) | (refine hJ _ ?_; clear hJ R) | refine Q5 ?_ | (refine hK _ ?_; clear hK K) | ((first | refine hN _ ?_ | refine hX _ _ ?_ | refine hR _ ?_); clear hN hX hR Z) | refine Q6 rfl ?_ | refine Q7 (by decide) ?_ | (refine Q8 ?_ ?_; focus (simp only [kS, R1, R2, R3, R4, R5, R6, R7, reduceCtorEq, R9, bne_self_eq_false]; done)) | (refine Q9 ?_ ?_; focus (simp only [kS, R1, R2, R3, R4, R5, R6, R7, reduceCtorEq, R9, bne_self_eq_false]; done)) | refine Qa ?_ | refine Qb ?_ | refine Qc ?_ | refine And.intro (by first | assumption | omega) ?_)
  all_goals rfl

def icmp (x y : Int) : Int := if x < y then -1 else if y < x then 1 else 0

theorem cmp60_ret (gl : Gl) (x y : Int) : Ret Tryd.prog gl 60 [iv x, iv y] (iv (icmp x y)) := by
  refine retq (rs := [4]) 20 Tryd.func60 (by kernel_rfl) rfl (by kernel_rfl) rfl (by simp) (by simp) fun Z hN hX hR => ?_
  have c1 := isnan_ret gl x
  have c2 := isnan_ret gl y
  repeat (first | ((first | refine Q1 ?_ | refine Q2 ?_); intro Z hN hX hR) | refine Q3 (by kernel_rfl) fun K hK => ?_ | ((first | refine Q4 fun R hJ => ?_ | with_reducible change ExpAll _ _ _); simp only [kS, R1, R2, R3, R4, R5, R6, R7, reduceCtorEq, R9]) | (refine hJ _ ?_; clear hJ R) | refine Q5 ?_ | (refine hK _ ?_; clear hK K) | ((first | refine hN _ ?_ | refine hX _ _ ?_ | refine hR _ ?_); clear hN hX hR Z) | refine Q6 rfl ?_ | refine Q7 (by decide) ?_ | (refine Q8 ?_ ?_; focus (simp only [kS, R1, R2, R3, R4, R5, R6, R7, reduceCtorEq, R9]; done)) | (refine Q9 ?_ ?_; focus (simp only [kS, R1, R2, R3, R4, R5, R6, R7, reduceCtorEq, R9]; done)) | refine Qa ?_ | refine Qb ?_ | refine Qc ?_ | refine And.intro (by first | assumption | omega) ?_)
  refine ⟨_, c1, rfl, ?_⟩
  simp only [kS, R1, R2, R3, R4, R5, R6, R7, reduceCtorEq, R9]
  repeat (first | ((first | refine Q1 ?_ | refine Q2 ?_); intro Z hN hX hR) | refine Q3 (by kernel_rfl) fun K hK => ?_ | ((first | refine Q4 fun R hJ => ?_ | with_reducible change ExpAll _ _ _); simp only [kS, R1, R2, R3, R4, R5, R6, R7, reduceCtorEq, R9]) | (refine hJ _ ?_; clear hJ R) | refine Q5 ?_ | (refine hK _ ?_; clear hK K) | ((first | refine hN _ ?_ | refine hX _ _ ?_ | refine hR _ ?_); clear hN hX hR Z) | refine Q6 rfl ?_ | refine Q7 (by decide) ?_ | (refine Q8 ?_ ?_; focus (simp only [kS, R1, R2, R3, R4, R5, R6, R7, reduceCtorEq, R9]; done)) | (refine Q9 ?_ ?_; focus (simp only [kS, R1, R2, R3, R4, R5, R6, R7, reduceCtorEq, R9]; done)) | refine Qa ?_ | refine Qb ?_ | refine Qc ?_ | refine And.intro (by first | assumption | omega) ?_)
  refine ⟨_, c2, rfl, ?_⟩
  simp only [kS, R1, R2, R3, R4, R5, R6, R7, reduceCtorEq, R9]
  by_cases h1 : x < y
  · repeat (first | ((first | refine Q1 ?_ | refine Q2 ?_); intro Z hN hX hR) | refine Q3 (by kernel_rfl) fun K hK => ?_ | ((first | refine Q4 fun R hJ => ?_ | with_reducible change ExpAll _ _ _); simp only [kS, R1, R2, R3, R4, R5, R6, R7, reduceCtorEq, R9, h1, decide_true]) | (refine hJ _ ?_; clear hJ R) | refine Q5 ?_ | (refine hK _ ?_; clear hK K) | ((first | refine hN _ ?_ | refine hX _ _ ?_ | refine hR _ ?_); clear hN hX hR Z) | refine Q6 rfl ?_ | refine Q7 (by decide) ?_ | (refine Q8 ?_ ?_; focus (simp only [kS, R1, R2, R3, R4, R5, R6, R7, reduceCtorEq, R9, h1, decide_true]; done)) | (refine Q9 ?_ ?_; focus (simp only [kS, R1, R2, R3, R4, R5, R6, R7, reduceCtorEq, R9, h1, decide_true]; done)) | refine Qa ?_ | refine Qb ?_ | refine Qc ?_ | refine And.intro (by first | assumption | omega) ?_)
    simp only [icmp, h1, if_true]
  · by_cases h2 : y < x
    · have h2' : x > y := h2
      repeat (first | ((first | refine Q1 ?_ | refine Q2 ?_); intro Z hN hX hR) | refine Q3 (by kernel_rfl) fun K hK => ?_ | ((first | refine Q4 fun R hJ => ?_ | with_reducible change ExpAll _ _ _); simp only [kS, R1, R2, R3, R4, R5, R6, R7, reduceCtorEq, R9, h1, h2, decide_true, decide_false, gt_iff_lt]) | (refine hJ _ ?_; clear hJ R) | refine Q5 ?_ | (refine hK _ ?_; clear hK K) | ((first | refine hN _ ?_ | refine hX _ _ ?_ | refine hR _ ?_); clear hN hX hR Z) | refine Q6 rfl ?_ | refine Q7 (by decide) ?_ | (refine Q8 ?_ ?_; focus (simp only [kS, R1, R2, R3, R4, R5, R6, R7, reduceCtorEq, R9, h1, h2, decide_true, decide_false, gt_iff_lt]; done)) | (refine Q9 ?_ ?_; focus (simp only [kS, R1, R2, R3, R4, R5, R6, R7, reduceCtorEq, R9, h1, h2, decide_true, decide_false, gt_iff_lt]; done)) | refine Qa ?_ | refine Qb ?_ | refine Qc ?_ | refine And.intro (by first | assumption | omega) ?_)
      simp only [icmp, h1, h2, if_true, if_false]
    · repeat (first | ((first | refine Q1 ?_ | refine Q2 ?_); intro Z hN hX hR) | refine Q3 (by kernel_rfl) fun K hK => ?_ | ((first | refine Q4 fun R hJ => ?_ | with_reducible change ExpAll _ _ _); simp only [kS, R1, R2, R3, R4, R5, R6, R7, reduceCtorEq, R9, h1, h2, decide_true, decide_false, gt_iff_lt]) | (refine hJ _ ?_; clear hJ R) | refine Q5 ?_ | (refine hK _ ?_; clear hK K) | ((first | refine hN _ ?_ | refine hX _ _ ?_ | refine hR _ ?_); clear hN hX hR Z) | refine Q6 rfl ?_ | refine Q7 (by decide) ?_ | (refine Q8 ?_ ?_; focus (simp only [kS, R1, R2, R3, R4, R5, R6, R7, reduceCtorEq, R9, h1, h2, decide_true, decide_false, gt_iff_lt]; done)) | (refine Q9 ?_ ?_; focus (simp only [kS, R1, R2, R3, R4, R5, R6, R7, reduceCtorEq, R9, h1, h2, decide_true, decide_false, gt_iff_lt]; done)) | refine Qa ?_ | refine Qb ?_ | refine Qc ?_ | refine And.intro (by first | assumption | omega) ?_)
      simp only [icmp, h1, h2, if_false]

def orF : List Int → Int
  | [] => 0
  | x :: l => if x = 0 then orF l else x

theorem or_ret (gl : Gl) (l : List Int) (hl : l.length ≤ 1000000) : Ret Tryd.prog gl 63 [.c (.sl l.length (intsC l))] (iv (orF l)) := by
  refine retq (rs := [2]) 18 Tryd.func63 (by kernel_rfl) rfl (by kernel_rfl) rfl (by simp) (by simp) fun Z hN hX hR => ?_
  repeat (first | ((first | refine Q1 ?_ | refine Q2 ?_); intro Z hN hX hR) | refine Q3 (by kernel_rfl) fun K hK => ?_ | ((first | refine Q4 fun R hJ => ?_ | with_reducible change ExpAll _ _ _); simp only [kS, R1, R2, R3, R4, R5, R6, R7, reduceCtorEq, R9]) | (refine hJ _ ?_; clear hJ R) | refine Q5 ?_ | (refine hK _ ?_; clear hK K) | ((first | refine hN _ ?_ | refine hX _ _ ?_ | refine hR _ ?_); clear hN hX hR Z) | refine Q6 rfl ?_ | refine Q7 (by decide) ?_ | (refine Q8 ?_ ?_; focus (simp only [kS, R1, R2, R3, R4, R5, R6, R7, reduceCtorEq, R9]; done)) | (refine Q9 ?_ ?_; focus (simp only [kS, R1, R2, R3, R4, R5, R6, R7, reduceCtorEq, R9]; done)) | refine Qa ?_ | refine Qb ?_ | refine Qc ?_ | refine And.intro (by first | assumption | omega) ?_)
  refine awq_loop (fun c f => ∃ (i : Nat), i ≤ l.length ∧ c = l.length - i ∧ f.t 8 = iv (i : Int) ∧ f.t 7 = iv (l.length : Int) ∧ f.t 6 = .c (.sl l.length (intsC l)) ∧ f.t 3 = iv 0 ∧ orF (l.drop i) = orF l) l.length ?_ ?_
  · exact ⟨0, by omega, rfl, by (simp only [kS, R1, R2, R3, R4, R5, R6, R7, reduceCtorEq, R9]) <;> first | omega | rfl, by (simp only [kS, R1, R2, R3, R4, R5, R6, R7, reduceCtorEq, R9]) <;> first | omega | rfl, by (simp only [kS, R1, R2, R3, R4, R5, R6, R7, reduceCtorEq, R9]) <;> first | omega | rfl, by (simp only [kS, R1, R2, R3, R4, R5, R6, R7, reduceCtorEq, R9]) <;> first | omega | rfl, rfl⟩
  rintro Z c f hN hX hR ⟨i, hi, rfl, h8, h7, h6, h3, ho⟩
  have el := intsC_length l
  by_cases hlt : i < l.length
  · have hlt' : (i : Int) < (l.length : Int) := by omega
    have e := intsC_drop l i hlt
    rw [List.drop_eq_getElem_cons hlt] at ho
    by_cases h0 : l[i] = 0
    · have h0' : (l[i] != 0) = false := by rw [h0]; rfl
      simp only [orF, h0, if_true] at ho
      repeat (first | ((first | refine Q1 ?_ | refine Q2 ?_); intro Z hN hX hR) | refine Q3 (by kernel_rfl) fun K hK => ?_ | ((first | refine Q4 fun R hJ => ?_ | with_reducible change ExpAll _ _ _); simp only [kS, R1, R2, R3, R4, R5, R6, R7, reduceCtorEq, R9, h8, h7, h6, h3, hlt, hlt', e, el, h0', decide_true]) | (refine hJ _ ?_; clear hJ R) | refine Q5 ?_ | (refine hK _ ?_; clear hK K) | ((first | refine hN _ ?_ | refine hX _ _ ?_ | refine hR _ ?_); clear hN hX hR Z) | refine Q6 rfl ?_ | refine Q7 (by decide) ?_ | (refine Q8 ?_ ?_; focus (simp only [kS, R1, R2, R3, R4, R5, R6, R7, reduceCtorEq, R9, h8, h7, h6, h3, hlt, hlt', e, el, h0', decide_true]; done)) | (refine Q9 ?_ ?_; focus (simp only [kS, R1, R2, R3, R4, R5, R6, R7, reduceCtorEq, R9, h8, h7, h6, h3, hlt, hlt', e, el, h0', decide_true]; done)) | refine Qa ?_ | refine Qb ?_ | refine Qc ?_ | refine And.intro (by first | assumption | omega) ?_)
      refine ⟨l.length - (i + 1), by omega, i + 1, by omega, rfl, ?_, by simp only [kS, R1, R2, R3, R4, R5, R6, R7, reduceCtorEq, R9, h7], by simp only [kS, R1, R2, R3, R4, R5, R6, R7, reduceCtorEq, R9, h6], by simp only [kS, R1, R2, R3, R4, R5, R6, R7, reduceCtorEq, R9, h3], ho⟩
      simp only [kS, R1, R2, R3, R4, R5, R6, R7, reduceCtorEq, R9]
      rw [wrap_i64 (by omega) (by omega)]; rfl
    · have h0' : (l[i] != 0) = true := by rw [bne_iff_ne]; exact h0
      simp only [orF, h0, if_false] at ho
      repeat (first | ((first | refine Q1 ?_ | refine Q2 ?_); intro Z hN hX hR) | refine Q3 (by kernel_rfl) fun K hK => ?_ | ((first | refine Q4 fun R hJ => ?_ | with_reducible change ExpAll _ _ _); simp only [kS, R1, R2, R3, R4, R5, R6, R7, reduceCtorEq, R9, h8, h7, h6, h3, hlt, hlt', e, el, h0', decide_true]) | (refine hJ _ ?_; clear hJ R) | refine Q5 ?_ | (refine hK _ ?_; clear hK K) | ((first | refine hN _ ?_ | refine hX _ _ ?_ | refine hR _ ?_); clear hN hX hR Z) | refine Q6 rfl ?_ | refine Q7 (by decide) ?_ | (refine Q8 ?_ ?_; focus (simp only [kS, R1, R2, R3, R4, R5, R6, R7, reduceCtorEq, R9, h8, h7, h6, h3, hlt, hlt', e, el, h0', decide_true]; done)) | (refine Q9 ?_ ?_; focus (simp only [kS, R1, R2, R3, R4, R5, R6, R7, reduceCtorEq, R9, h8, h7, h6, h3, hlt, hlt', e, el, h0', decide_true]; done)) | refine Qa ?_ | refine Qb ?_ | refine Qc ?_ | refine And.intro (by first | assumption | omega) ?_)
      rw [ho]
  · have hlt' : ¬ (i : Int) < (l.length : Int) := by omega
    rw [List.drop_eq_nil_of_le (by omega)] at ho
    repeat (first | ((first | refine Q1 ?_ | refine Q2 ?_); intro Z hN hX hR) | refine Q3 (by kernel_rfl) fun K hK => ?_ | ((first | refine Q4 fun R hJ => ?_ | with_reducible change ExpAll _ _ _); simp only [kS, R1, R2, R3, R4, R5, R6, R7, reduceCtorEq, R9, h8, h7, h6, h3, hlt', el, decide_false]) | (refine hJ _ ?_; clear hJ R) | refine Q5 ?_ | (refine hK _ ?_; clear hK K) | ((first | refine hN _ ?_ | refine hX _ _ ?_ | refine hR _ ?_); clear hN hX hR Z) | refine Q6 rfl ?_ | refine Q7 (by decide) ?_ | (refine Q8 ?_ ?_; focus (simp only [kS, R1, R2, R3, R4, R5, R6, R7, reduceCtorEq, R9, h8, h7, h6, h3, hlt', el, decide_false]; done)) | (refine Q9 ?_ ?_; focus (simp only [kS, R1, R2, R3, R4, R5, R6, R7, reduceCtorEq, R9, h8, h7, h6, h3, hlt', el, decide_false]; done)) | refine Qa ?_ | refine Qb ?_ | refine Qc ?_ | refine And.intro (by first | assumption | omega) ?_)
    rw [← ho]; rfl

def itF (x y : It) : Int := orF [icmp x.k y.k, icmp x.n y.n, icmp x.lo y.lo, icmp x.hi y.hi]

theorem cmpIt_ret (gl : Gl) (x y : It) : Ret Tryd.prog gl 62 [.agg x.c, .agg y.c] (iv (itF x y)) := by
  refine retq (rs := [4]) 27 Tryd.func62 (by kernel_rfl) rfl (by kernel_rfl) rfl (by simp) (by simp) fun Z hN hX hR => ?_
  obtain ⟨k, n, lo, hi⟩ := x
  obtain ⟨k', n', lo', hi'⟩ := y
  simp only [It.c]
  repeat (first | ((first | refine Q1 ?_ | refine Q2 ?_); intro Z hN hX hR) | refine Q3 (by kernel_rfl) fun K hK => ?_ | ((first | refine Q4 fun R hJ => ?_ | with_reducible change ExpAll _ _ _); simp only [kS, R1, R2, R3, R4, R5, R6, R7, reduceCtorEq, R9]) | (refine hJ _ ?_; clear hJ R) | refine Q5 ?_ | (refine hK _ ?_; clear hK K) | ((first | refine hN _ ?_ | refine hX _ _ ?_ | refine hR _ ?_); clear hN hX hR Z) | refine Q6 rfl ?_ | refine Q7 (by decide) ?_ | (refine Q8 ?_ ?_; focus (simp only [kS, R1, R2, R3, R4, R5, R6, R7, reduceCtorEq, R9]; done)) | (refine Q9 ?_ ?_; focus (simp only [kS, R1, R2, R3, R4, R5, R6, R7, reduceCtorEq, R9]; done)) | refine Qa ?_ | refine Qb ?_ | refine Qc ?_ | refine And.intro (by first | assumption | omega) ?_)
  refine ⟨_, cmp60_ret gl k k', rfl, ?_⟩
  simp only [kS, R1, R2, R3, R4, R5, R6, R7, reduceCtorEq, R9]
  repeat (first | ((first | refine Q1 ?_ | refine Q2 ?_); intro Z hN hX hR) | refine Q3 (by kernel_rfl) fun K hK => ?_ | ((first | refine Q4 fun R hJ => ?_ | with_reducible change ExpAll _ _ _); simp only [kS, R1, R2, R3, R4, R5, R6, R7, reduceCtorEq, R9]) | (refine hJ _ ?_; clear hJ R) | refine Q5 ?_ | (refine hK _ ?_; clear hK K) | ((first | refine hN _ ?_ | refine hX _ _ ?_ | refine hR _ ?_); clear hN hX hR Z) | refine Q6 rfl ?_ | refine Q7 (by decide) ?_ | (refine Q8 ?_ ?_; focus (simp only [kS, R1, R2, R3, R4, R5, R6, R7, reduceCtorEq, R9]; done)) | (refine Q9 ?_ ?_; focus (simp only [kS, R1, R2, R3, R4, R5, R6, R7, reduceCtorEq, R9]; done)) | refine Qa ?_ | refine Qb ?_ | refine Qc ?_ | refine And.intro (by first | assumption | omega) ?_)
  refine ⟨_, cmp60_ret gl n n', rfl, ?_⟩
  simp only [kS, R1, R2, R3, R4, R5, R6, R7, reduceCtorEq, R9]
  repeat (first | ((first | refine Q1 ?_ | refine Q2 ?_); intro Z hN hX hR) | refine Q3 (by kernel_rfl) fun K hK => ?_ | ((first | refine Q4 fun R hJ => ?_ | with_reducible change ExpAll _ _ _); simp only [kS, R1, R2, R3, R4, R5, R6, R7, reduceCtorEq, R9]) | (refine hJ _ ?_; clear hJ R) | refine Q5 ?_ | (refine hK _ ?_; clear hK K) | ((first | refine hN _ ?_ | refine hX _ _ ?_ | refine hR _ ?_); clear hN hX hR Z) | refine Q6 rfl ?_ | refine Q7 (by decide) ?_ | (refine Q8 ?_ ?_; focus (simp only [kS, R1, R2, R3, R4, R5, R6, R7, reduceCtorEq, R9]; done)) | (refine Q9 ?_ ?_; focus (simp only [kS, R1, R2, R3, R4, R5, R6, R7, reduceCtorEq, R9]; done)) | refine Qa ?_ | refine Qb ?_ | refine Qc ?_ | refine And.intro (by first | assumption | omega) ?_)
  refine ⟨_, cmp60_ret gl lo lo', rfl, ?_⟩
  simp only [kS, R1, R2, R3, R4, R5, R6, R7, reduceCtorEq, R9]
  repeat (first | ((first | refine Q1 ?_ | refine Q2 ?_); intro Z hN hX hR) | refine Q3 (by kernel_rfl) fun K hK => ?_ | ((first | refine Q4 fun R hJ => ?_ | with_reducible change ExpAll _ _ _); simp only [kS, R1, R2, R3, R4, R5, R6, R7, reduceCtorEq, R9]) | (refine hJ _ ?_; clear hJ R) | refine Q5 ?_ | (refine hK _ ?_; clear hK K) | ((first | refine hN _ ?_ | refine hX _ _ ?_ | refine hR _ ?_); clear hN hX hR Z) | refine Q6 rfl ?_ | refine Q7 (by decide) ?_ | (refine Q8 ?_ ?_; focus (simp only [kS, R1, R2, R3, R4, R5, R6, R7, reduceCtorEq, R9]; done)) | (refine Q9 ?_ ?_; focus (simp only [kS, R1, R2, R3, R4, R5, R6, R7, reduceCtorEq, R9]; done)) | refine Qa ?_ | refine Qb ?_ | refine Qc ?_ | refine And.intro (by first | assumption | omega) ?_)
  refine ⟨_, cmp60_ret gl hi hi', rfl, ?_⟩
  simp only [kS, R1, R2, R3, R4, R5, R6, R7, reduceCtorEq, R9]
  repeat (first | ((first | refine Q1 ?_ | refine Q2 ?_); intro Z hN hX hR) | refine Q3 (by kernel_rfl) fun K hK => ?_ | ((first | refine Q4 fun R hJ => ?_ | with_reducible change ExpAll _ _ _); simp only [kS, R1, R2, R3, R4, R5, R6, R7, reduceCtorEq, R9]) | (refine hJ _ ?_; clear hJ R) | refine Q5 ?_ | (refine hK _ ?_; clear hK K) | ((first | refine hN _ ?_ | refine hX _ _ ?_ | refine hR _ ?_); clear hN hX hR Z) | refine Q6 rfl ?_ | refine Q7 (by decide) ?_ | (refine Q8 ?_ ?_; focus (simp only [kS, R1, R2, R3, R4, R5, R6, R7, reduceCtorEq, R9]; done)) | (refine Q9 ?_ ?_; focus (simp only [kS, R1, R2, R3, R4, R5, R6, R7, reduceCtorEq, R9]; done)) | refine Qa ?_ | refine Qb ?_ | refine Qc ?_ | refine And.intro (by first | assumption | omega) ?_)
  refine ⟨_, or_ret gl [icmp k k', icmp n n', icmp lo lo', icmp hi hi'] (by simp), rfl, ?_⟩
  simp only [kS, R1, R2, R3, R4, R5, R6, R7, reduceCtorEq, R9]
  repeat (first | ((first | refine Q1 ?_ | refine Q2 ?_); intro Z hN hX hR) | refine Q3 (by kernel_rfl) fun K hK => ?_ | ((first | refine Q4 fun R hJ => ?_ | with_reducible change ExpAll _ _ _); simp only [kS, R1, R2, R3, R4, R5, R6, R7, reduceCtorEq, R9]) | (refine hJ _ ?_; clear hJ R) | refine Q5 ?_ | (refine hK _ ?_; clear hK K) | ((first | refine hN _ ?_ | refine hX _ _ ?_ | refine hR _ ?_); clear hN hX hR Z) | refine Q6 rfl ?_ | refine Q7 (by decide) ?_ | (refine Q8 ?_ ?_; focus (simp only [kS, R1, R2, R3, R4, R5, R6, R7, reduceCtorEq, R9]; done)) | (refine Q9 ?_ ?_; focus (simp only [kS, R1, R2, R3, R4, R5, R6, R7, reduceCtorEq, R9]; done)) | refine Qa ?_ | refine Qb ?_ | refine Qc ?_ | refine And.intro (by first | assumption | omega) ?_)
  all_goals rfl

def cmpF : List It → List It → Int
  | x :: a, y :: b => if itF x y = 0 then cmpF a b else itF x y
  | _, _ => 0

theorem itF_cmpL (x y : It) (a b : List Int) : cmpL (x.k :: x.n :: x.lo :: x.hi :: a) (y.k :: y.n :: y.lo :: y.hi :: b) = if itF x y = 0 then cmpL a b else itF x y := by
  have ic : ∀ (u v : Int) (c d : List Int), cmpL (u :: c) (v :: d) = if icmp u v = 0 then cmpL c d else icmp u v := fun u v c d => by
    simp only [cmpL, icmp]
    split
    · rfl
    · split
      · rfl
      · rfl
  rw [ic, ic, ic, ic]
  simp only [itF, orF]
  by_cases h1 : icmp x.k y.k = 0
  · by_cases h2 : icmp x.n y.n = 0
    · by_cases h3 : icmp x.lo y.lo = 0
      · by_cases h4 : icmp x.hi y.hi = 0
        · simp only [h1, h2, h3, h4, if_true]
        · simp only [h1, h2, h3, h4, if_true, if_false]
      · simp only [h1, h2, h3, if_true, if_false]
    · simp only [h1, h2, if_true, if_false]
  · simp only [h1, if_false]

theorem cmpF_eq : ∀ (a b : List It), cmpF a b = cmpL (fl a) (fl b)
  | [], b => by cases b <;> rfl
  | x :: a, [] => rfl
  | x :: a, y :: b => by
    have := itF_cmpL x y (fl a) (fl b)
    simp only [cmpF]
    rw [cmpF_eq a b]
    exact this.symm

theorem cmpF_drop (a b : List It) (i : Nat) (h1 : i < a.length) (h2 : i < b.length) : cmpF (a.drop i) (b.drop i) = if itF a[i] b[i] = 0 then cmpF (a.drop (i + 1)) (b.drop (i + 1)) else itF a[i] b[i] := by
  rw [List.drop_eq_getElem_cons h1, List.drop_eq_getElem_cons h2]; rfl

theorem cmp61_ret (gl : Gl) (a b : List It) (ha : a.length ≤ 1000000) (hl : b.length = a.length) :
    Ret Tryd.prog gl 61 [.c (stC a), .c (stC b), .c (.v (.func (.func 62) #[] #[]))] (iv (cmpF a b)) := by
  refine retq (rs := [6]) 39 Tryd.func61 (by kernel_rfl) rfl (by kernel_rfl) rfl (by simp) (by simp) fun Z hN hX hR => ?_
  simp only [stC, hl]
  repeat (first | ((first | refine Q1 ?_ | refine Q2 ?_); intro Z hN hX hR) | refine Q3 (by kernel_rfl) fun K hK => ?_ | ((first | refine Q4 fun R hJ => ?_ | with_reducible change ExpAll _ _ _); simp only [kS, R1, R2, R3, R4, R5, R6, R7, reduceCtorEq, R9]) | (refine hJ _ ?_; clear hJ R) | refine Q5 ?_ | (refine hK _ ?_; clear hK K) | ((first | refine hN _ ?_ | refine hX _ _ ?_ | refine hR _ ?_); clear hN hX hR Z) | refine Q6 rfl ?_ | refine Q7 (by decide) ?_ | (refine Q8 ?_ ?_; focus (simp only [kS, R1, R2, R3, R4, R5, R6, R7, reduceCtorEq, R9]; done)) | (refine Q9 ?_ ?_; focus (simp only [kS, R1, R2, R3, R4, R5, R6, R7, reduceCtorEq, R9]; done)) | refine Qa ?_ | refine Qb ?_ | refine Qc ?_ | refine And.intro (by first | assumption | omega) ?_)
  refine awq_loop (fun c f => ∃ (i : Nat), i ≤ a.length ∧ c = a.length - i ∧ f.t 13 = iv (i : Int) ∧ f.t 12 = iv (a.length : Int) ∧ f.t 11 = .c (.sl a.length (itsC a)) ∧ f.t 0 = .c (.sl a.length (itsC a)) ∧ f.t 1 = .c (.sl a.length (itsC b)) ∧
    f.t 2 = .c (.v (.func (.func 62) #[] #[])) ∧ cmpF (a.drop i) (b.drop i) = cmpF a b) a.length ?_ ?_
  · exact ⟨0, by omega, rfl, by (simp only [kS, R1, R2, R3, R4, R5, R6, R7, reduceCtorEq, R9]) <;> first | omega | rfl, by (simp only [kS, R1, R2, R3, R4, R5, R6, R7, reduceCtorEq, R9]) <;> first | omega | rfl, by (simp only [kS, R1, R2, R3, R4, R5, R6, R7, reduceCtorEq, R9]) <;> first | omega | rfl, by (simp only [kS, R1, R2, R3, R4, R5, R6, R7, reduceCtorEq, R9]) <;> first | omega | rfl, by (simp only [kS, R1, R2, R3, R4, R5, R6, R7, reduceCtorEq, R9]) <;> first | omega | rfl, by (simp only [kS, R1, R2, R3, R4, R5, R6, R7, reduceCtorEq, R9]) <;> first | omega | rfl, rfl⟩
  rintro Z c f hN hX hR ⟨i, hi, rfl, h13, h12, h11, h0, h1, h2, ho⟩
  have el := itsC_length a
  have el2 := itsC_length b
  rw [hl] at el2
  by_cases hlt : i < a.length
  · have hlt' : (i : Int) < (a.length : Int) := by omega
    have hlt2 : i < b.length := by omega
    have hge : ¬ (a.length : Int) ≤ (i : Int) := by omega
    have e := itsC_drop a i hlt
    have e2 := itsC_drop b i hlt2
    rw [cmpF_drop a b i hlt hlt2] at ho
    have hc := cmpIt_ret gl a[i] b[i]
    simp only [It.c] at hc
    by_cases g : itF a[i] b[i] = 0
    · have g' : (itF a[i] b[i] != 0) = false := by rw [g]; rfl
      rw [if_pos g] at ho
      repeat (first | ((first | refine Q1 ?_ | refine Q2 ?_); intro Z hN hX hR) | refine Q3 (by kernel_rfl) fun K hK => ?_ | ((first | refine Q4 fun R hJ => ?_ | with_reducible change ExpAll _ _ _); simp only [kS, R1, R2, R3, R4, R5, R6, R7, reduceCtorEq, R9, tk1, tk2, tk3, tk4, tk5, tk6, tk7, tk8, and_false, false_and, h13, h12, h11, h0, h1, h2, hlt, hlt', hge, e, e2, el, el2, decide_true, decide_false, ge_iff_le]) | (refine hJ _ ?_; clear hJ R) | refine Q5 ?_ | (refine hK _ ?_; clear hK K) | ((first | refine hN _ ?_ | refine hX _ _ ?_ | refine hR _ ?_); clear hN hX hR Z) | refine Q6 rfl ?_ | refine Q7 (by decide) ?_ | (refine Q8 ?_ ?_; focus (simp only [kS, R1, R2, R3, R4, R5, R6, R7, reduceCtorEq, R9, tk1, tk2, tk3, tk4, tk5, tk6, tk7, tk8, and_false, false_and, h13, h12, h11, h0, h1, h2, hlt, hlt', hge, e, e2, el, el2, decide_true, decide_false, ge_iff_le]; done)) | (refine Q9 ?_ ?_; focus (simp only [kS, R1, R2, R3, R4, R5, R6, R7, reduceCtorEq, R9, tk1, tk2, tk3, tk4, tk5, tk6, tk7, tk8, and_false, false_and, h13, h12, h11, h0, h1, h2, hlt, hlt', hge, e, e2, el, el2, decide_true, decide_false, ge_iff_le]; done)) | refine Qa ?_ | refine Qb ?_ | refine Qc ?_ | refine And.intro (by first | assumption | omega) ?_)
      refine ⟨_, hc, rfl, ?_⟩
      simp only [kS, R1, R2, R3, R4, R5, R6, R7, reduceCtorEq, R9, tk1, tk2, tk3, tk4, tk5, tk6, tk7, tk8, and_false, false_and, h13, h12, h11, h0, h1, h2, hlt, hlt', e, e2, el, el2, decide_true, g']
      repeat (first | ((first | refine Q1 ?_ | refine Q2 ?_); intro Z hN hX hR) | refine Q3 (by kernel_rfl) fun K hK => ?_ | ((first | refine Q4 fun R hJ => ?_ | with_reducible change ExpAll _ _ _); simp only [kS, R1, R2, R3, R4, R5, R6, R7, reduceCtorEq, R9, tk1, tk2, tk3, tk4, tk5, tk6, tk7, tk8, and_false, false_and, h13, h12, h11, h0, h1, h2, hlt, hlt', e, e2, el, el2, decide_true, g']) | (refine hJ _ ?_; clear hJ R) | refine Q5 ?_ | (refine hK _ ?_; clear hK K) | ((first | refine hN _ ?_ | refine hX _ _ ?_ | refine hR _ ?_); clear hN hX hR Z) | refine Q6 rfl ?_ | refine Q7 (by decide) ?_ | (refine Q8 ?_ ?_; focus (simp only [kS, R1, R2, R3, R4, R5, R6, R7, reduceCtorEq, R9, tk1, tk2, tk3, tk4, tk5, tk6, tk7, tk8, and_false, false_and, h13, h12, h11, h0, h1, h2, hlt, hlt', e, e2, el, el2, decide_true, g']; done)) | (refine Q9 ?_ ?_; focus (simp only [kS, R1, R2, R3, R4, R5, R6, R7, reduceCtorEq, R9, tk1, tk2, tk3, tk4, tk5, tk6, tk7, tk8, and_false, false_and, h13, h12, h11, h0, h1, h2, hlt, hlt', e, e2, el, el2, decide_true, g']; done)) | refine Qa ?_ | refine Qb ?_ | refine Qc ?_ | refine And.intro (by first | assumption | omega) ?_)
      refine ⟨a.length - (i + 1), by omega, i + 1, by omega, rfl, ?_, by simp only [kS, R1, R2, R3, R4, R5, R6, R7, reduceCtorEq, R9, h12], by simp only [kS, R1, R2, R3, R4, R5, R6, R7, reduceCtorEq, R9, h11], by simp only [kS, R1, R2, R3, R4, R5, R6, R7, reduceCtorEq, R9, h0], by simp only [kS, R1, R2, R3, R4, R5, R6, R7, reduceCtorEq, R9, h1], by simp only [kS, R1, R2, R3, R4, R5, R6, R7, reduceCtorEq, R9, h2], ho⟩
      simp only [kS, R1, R2, R3, R4, R5, R6, R7, reduceCtorEq, R9]
      rw [wrap_i64 (by omega) (by omega)]; rfl
    · have g' : (itF a[i] b[i] != 0) = true := by rw [bne_iff_ne]; exact g
      rw [if_neg g] at ho
      repeat (first | ((first | refine Q1 ?_ | refine Q2 ?_); intro Z hN hX hR) | refine Q3 (by kernel_rfl) fun K hK => ?_ | ((first | refine Q4 fun R hJ => ?_ | with_reducible change ExpAll _ _ _); simp only [kS, R1, R2, R3, R4, R5, R6, R7, reduceCtorEq, R9, tk1, tk2, tk3, tk4, tk5, tk6, tk7, tk8, and_false, false_and, h13, h12, h11, h0, h1, h2, hlt, hlt', hge, e, e2, el, el2, decide_true, decide_false, ge_iff_le]) | (refine hJ _ ?_; clear hJ R) | refine Q5 ?_ | (refine hK _ ?_; clear hK K) | ((first | refine hN _ ?_ | refine hX _ _ ?_ | refine hR _ ?_); clear hN hX hR Z) | refine Q6 rfl ?_ | refine Q7 (by decide) ?_ | (refine Q8 ?_ ?_; focus (simp only [kS, R1, R2, R3, R4, R5, R6, R7, reduceCtorEq, R9, tk1, tk2, tk3, tk4, tk5, tk6, tk7, tk8, and_false, false_and, h13, h12, h11, h0, h1, h2, hlt, hlt', hge, e, e2, el, el2, decide_true, decide_false, ge_iff_le]; done)) | (refine Q9 ?_ ?_; focus (simp only [kS, R1, R2, R3, R4, R5, R6, R7, reduceCtorEq, R9, tk1, tk2, tk3, tk4, tk5, tk6, tk7, tk8, and_false, false_and, h13, h12, h11, h0, h1, h2, hlt, hlt', hge, e, e2, el, el2, decide_true, decide_false, ge_iff_le]; done)) | refine Qa ?_ | refine Qb ?_ | refine Qc ?_ | refine And.intro (by first | assumption | omega) ?_)
      refine ⟨_, hc, rfl, ?_⟩
      simp only [kS, R1, R2, R3, R4, R5, R6, R7, reduceCtorEq, R9, tk1, tk2, tk3, tk4, tk5, tk6, tk7, tk8, and_false, false_and, h13, h12, h11, h0, h1, h2, hlt, hlt', e, e2, el, el2, decide_true, g']
      repeat (first | ((first | refine Q1 ?_ | refine Q2 ?_); intro Z hN hX hR) | refine Q3 (by kernel_rfl) fun K hK => ?_ | ((first | refine Q4 fun R hJ => ?_ | with_reducible change ExpAll _ _ _); simp only [kS, R1, R2, R3, R4, R5, R6, R7, reduceCtorEq, R9, tk1, tk2, tk3, tk4, tk5, tk6, tk7, tk8, and_false, false_and, h13, h12, h11, h0, h1, h2, hlt, hlt', e, e2, el, el2, decide_true, g']) | (refine hJ _ ?_; clear hJ R) | refine Q5 ?_ | (refine hK _ ?_; clear hK K) | ((first | refine hN _ ?_ | refine hX _ _ ?_ | refine hR _ ?_); clear hN hX hR Z) | refine Q6 rfl ?_ | refine Q7 (by decide) ?_ | (refine Q8 ?_ ?_; focus (simp only [kS, R1, R2, R3, R4, R5, R6, R7, reduceCtorEq, R9, tk1, tk2, tk3, tk4, tk5, tk6, tk7, tk8, and_false, false_and, h13, h12, h11, h0, h1, h2, hlt, hlt', e, e2, el, el2, decide_true, g']; done)) | (refine Q9 ?_ ?_; focus (simp only [kS, R1, R2, R3, R4, R5, R6, R7, reduceCtorEq, R9, tk1, tk2, tk3, tk4, tk5, tk6, tk7, tk8, and_false, false_and, h13, h12, h11, h0, h1, h2, hlt, hlt', e, e2, el, el2, decide_true, g']; done)) | refine Qa ?_ | refine Qb ?_ | refine Qc ?_ | refine And.intro (by first | assumption | omega) ?_)
      rw [ho]
  · have hlt' : ¬ (i : Int) < (a.length : Int) := by omega
    have hself : ¬ (a.length : Int) < (a.length : Int) := by omega
    rw [List.drop_eq_nil_of_le (by omega)] at ho
    repeat (first | ((first | refine Q1 ?_ | refine Q2 ?_); intro Z hN hX hR) | refine Q3 (by kernel_rfl) fun K hK => ?_ | ((first | refine Q4 fun R hJ => ?_ | with_reducible change ExpAll _ _ _); simp only [kS, R1, R2, R3, R4, R5, R6, R7, reduceCtorEq, R9, h13, h12, h11, h0, h1, h2, hlt', hself, el, el2, decide_false]) | (refine hJ _ ?_; clear hJ R) | refine Q5 ?_ | (refine hK _ ?_; clear hK K) | ((first | refine hN _ ?_ | refine hX _ _ ?_ | refine hR _ ?_); clear hN hX hR Z) | refine Q6 rfl ?_ | refine Q7 (by decide) ?_ | (refine Q8 ?_ ?_; focus (simp only [kS, R1, R2, R3, R4, R5, R6, R7, reduceCtorEq, R9, h13, h12, h11, h0, h1, h2, hlt', hself, el, el2, decide_false]; done)) | (refine Q9 ?_ ?_; focus (simp only [kS, R1, R2, R3, R4, R5, R6, R7, reduceCtorEq, R9, h13, h12, h11, h0, h1, h2, hlt', hself, el, el2, decide_false]; done)) | refine Qa ?_ | refine Qb ?_ | refine Qc ?_ | refine And.intro (by first | assumption | omega) ?_)
    rw [← ho]; rfl

theorem cmp38_ret (gl : Gl) (a b : List It) (ha : a.length ≤ 1000000) (hb : b.length ≤ 1000000) : Ret Tryd.prog gl 38 [.c (stC a), .c (stC b)] (iv (scmp a b)) := by
  refine retq (rs := [4]) 17 Tryd.func38 (by kernel_rfl) rfl (by kernel_rfl) rfl (by simp) (by simp) fun Z hN hX hR => ?_
  repeat (first | ((first | refine Q1 ?_ | refine Q2 ?_); intro Z hN hX hR) | refine Q3 (by kernel_rfl) fun K hK => ?_ | ((first | refine Q4 fun R hJ => ?_ | with_reducible change ExpAll _ _ _); simp only [kS, R1, R2, R3, R4, R5, R6, R7, reduceCtorEq, R9]) | (refine hJ _ ?_; clear hJ R) | refine Q5 ?_ | (refine hK _ ?_; clear hK K) | ((first | refine hN _ ?_ | refine hX _ _ ?_ | refine hR _ ?_); clear hN hX hR Z) | refine Q6 rfl ?_ | refine Q7 (by decide) ?_ | (refine Q8 ?_ ?_; focus (simp only [kS, R1, R2, R3, R4, R5, R6, R7, reduceCtorEq, R9]; done)) | (refine Q9 ?_ ?_; focus (simp only [kS, R1, R2, R3, R4, R5, R6, R7, reduceCtorEq, R9]; done)) | refine Qa ?_ | refine Qb ?_ | refine Qc ?_ | refine And.intro (by first | assumption | omega) ?_)
  refine ⟨_, cmp60_ret gl a.length b.length, rfl, ?_⟩
  simp only [kS, R1, R2, R3, R4, R5, R6, R7, reduceCtorEq, R9]
  by_cases h1 : (a.length : Int) < b.length
  · have : icmp a.length b.length = -1 := by simp only [icmp, h1, if_true]
    rw [this]
    repeat (first | ((first | refine Q1 ?_ | refine Q2 ?_); intro Z hN hX hR) | refine Q3 (by kernel_rfl) fun K hK => ?_ | ((first | refine Q4 fun R hJ => ?_ | with_reducible change ExpAll _ _ _); simp only [kS, R1, R2, R3, R4, R5, R6, R7, reduceCtorEq, R9, Int.reduceBNe]) | (refine hJ _ ?_; clear hJ R) | refine Q5 ?_ | (refine hK _ ?_; clear hK K) | ((first | refine hN _ ?_ | refine hX _ _ ?_ | refine hR _ ?_); clear hN hX hR Z) | refine Q6 rfl ?_ | refine Q7 (by decide) ?_ | (refine Q8 ?_ ?_; focus (simp only [kS, R1, R2, R3, R4, R5, R6, R7, reduceCtorEq, R9, Int.reduceBNe]; done)) | (refine Q9 ?_ ?_; focus (simp only [kS, R1, R2, R3, R4, R5, R6, R7, reduceCtorEq, R9, Int.reduceBNe]; done)) | refine Qa ?_ | refine Qb ?_ | refine Qc ?_ | refine And.intro (by first | assumption | omega) ?_)
    rw [scmp_def, if_pos h1]
  · by_cases h2 : (b.length : Int) < a.length
    · have : icmp a.length b.length = 1 := by simp only [icmp, h1, h2, if_true, if_false]
      rw [this]
      repeat (first | ((first | refine Q1 ?_ | refine Q2 ?_); intro Z hN hX hR) | refine Q3 (by kernel_rfl) fun K hK => ?_ | ((first | refine Q4 fun R hJ => ?_ | with_reducible change ExpAll _ _ _); simp only [kS, R1, R2, R3, R4, R5, R6, R7, reduceCtorEq, R9, Int.reduceBNe]) | (refine hJ _ ?_; clear hJ R) | refine Q5 ?_ | (refine hK _ ?_; clear hK K) | ((first | refine hN _ ?_ | refine hX _ _ ?_ | refine hR _ ?_); clear hN hX hR Z) | refine Q6 rfl ?_ | refine Q7 (by decide) ?_ | (refine Q8 ?_ ?_; focus (simp only [kS, R1, R2, R3, R4, R5, R6, R7, reduceCtorEq, R9, Int.reduceBNe]; done)) | (refine Q9 ?_ ?_; focus (simp only [kS, R1, R2, R3, R4, R5, R6, R7, reduceCtorEq, R9, Int.reduceBNe]; done)) | refine Qa ?_ | refine Qb ?_ | refine Qc ?_ | refine And.intro (by first | assumption | omega) ?_)
      rw [scmp_def, if_neg h1, if_pos h2]
    · have : icmp a.length b.length = 0 := by simp only [icmp, h1, h2, if_false]
      rw [this]
      have hc := cmp61_ret gl a b ha (by omega)
      rw [cmpF_eq] at hc
      repeat (first | ((first | refine Q1 ?_ | refine Q2 ?_); intro Z hN hX hR) | refine Q3 (by kernel_rfl) fun K hK => ?_ | ((first | refine Q4 fun R hJ => ?_ | with_reducible change ExpAll _ _ _); simp only [kS, R1, R2, R3, R4, R5, R6, R7, reduceCtorEq, R9, Int.reduceBNe, bne_self_eq_false]) | (refine hJ _ ?_; clear hJ R) | refine Q5 ?_ | (refine hK _ ?_; clear hK K) | ((first | refine hN _ ?_ | refine hX _ _ ?_ | refine hR _ ?_); clear hN hX hR Z) | refine Q6 rfl ?_ | refine Q7 (by decide) ?_ | (refine Q8 ?_ ?_; focus (simp only [kS, R1, R2, R3, R4, R5, R6, R7, reduceCtorEq, R9, Int.reduceBNe, bne_self_eq_false]; done)) | (refine Q9 ?_ ?_; focus (simp only [kS, R1, R2, R3, R4, R5, R6, R7, reduceCtorEq, R9, Int.reduceBNe, bne_self_eq_false]; done)) | refine Qa ?_ | refine Qb ?_ | refine Qc ?_ | refine And.intro (by first | assumption | omega) ?_)
      refine ⟨_, hc, rfl, ?_⟩
      simp only [kS, R1, R2, R3, R4, R5, R6, R7, reduceCtorEq, R9]
      repeat (first | ((first | refine Q1 ?_ | refine Q2 ?_); intro Z hN hX hR) | refine Q3 (by kernel_rfl) fun K hK => ?_ | ((first | refine Q4 fun R hJ => ?_ | with_reducible change ExpAll _ _ _); simp only [kS, R1, R2, R3, R4, R5, R6, R7, reduceCtorEq, R9]) | (refine hJ _ ?_; clear hJ R) | refine Q5 ?_ | (refine hK _ ?_; clear hK K) | ((first | refine hN _ ?_ | refine hX _ _ ?_ | refine hR _ ?_); clear hN hX hR Z) | refine Q6 rfl ?_ | refine Q7 (by decide) ?_ | (refine Q8 ?_ ?_; focus (simp only [kS, R1, R2, R3, R4, R5, R6, R7, reduceCtorEq, R9]; done)) | (refine Q9 ?_ ?_; focus (simp only [kS, R1, R2, R3, R4, R5, R6, R7, reduceCtorEq, R9]; done)) | refine Qa ?_ | refine Qb ?_ | refine Qc ?_ | refine And.intro (by first | assumption | omega) ?_)
      rw [scmp_def, if_neg h1, if_neg h2]

theorem cmp37_ret (gl : Gl) (a b : Br) (ha : a.to.length ≤ 1000000) (hb : b.to.length ≤ 1000000) : Ret Tryd.prog gl 37 [.agg a.c, .agg b.c] (iv (scmp a.to b.to)) := by
  refine retq (rs := [4]) 10 Tryd.func37 (by kernel_rfl) rfl (by kernel_rfl) rfl (by simp) (by simp) fun Z hN hX hR => ?_
  simp only [Br.c]
  repeat (first | ((first | refine Q1 ?_ | refine Q2 ?_); intro Z hN hX hR) | refine Q3 (by kernel_rfl) fun K hK => ?_ | ((first | refine Q4 fun R hJ => ?_ | with_reducible change ExpAll _ _ _); simp only [kS, R1, R2, R3, R4, R5, R6, R7, reduceCtorEq, R9]) | (refine hJ _ ?_; clear hJ R) | refine Q5 ?_ | (refine hK _ ?_; clear hK K) | ((first | refine hN _ ?_ | refine hX _ _ ?_ | refine hR _ ?_); clear hN hX hR Z) | refine Q6 rfl ?_ | refine Q7 (by decide) ?_ | (refine Q8 ?_ ?_; focus (simp only [kS, R1, R2, R3, R4, R5, R6, R7, reduceCtorEq, R9]; done)) | (refine Q9 ?_ ?_; focus (simp only [kS, R1, R2, R3, R4, R5, R6, R7, reduceCtorEq, R9]; done)) | refine Qa ?_ | refine Qb ?_ | refine Qc ?_ | refine And.intro (by first | assumption | omega) ?_)
  refine ⟨_, cmp38_ret gl a.to b.to ha hb, rfl, ?_⟩
  simp only [kS, R1, R2, R3, R4, R5, R6, R7, reduceCtorEq, R9]
  repeat (first | ((first | refine Q1 ?_ | refine Q2 ?_); intro Z hN hX hR) | refine Q3 (by kernel_rfl) fun K hK => ?_ | ((first | refine Q4 fun R hJ => ?_ | with_reducible change ExpAll _ _ _); simp only [kS, R1, R2, R3, R4, R5, R6, R7, reduceCtorEq, R9]) | (refine hJ _ ?_; clear hJ R) | refine Q5 ?_ | (refine hK _ ?_; clear hK K) | ((first | refine hN _ ?_ | refine hX _ _ ?_ | refine hR _ ?_); clear hN hX hR Z) | refine Q6 rfl ?_ | refine Q7 (by decide) ?_ | (refine Q8 ?_ ?_; focus (simp only [kS, R1, R2, R3, R4, R5, R6, R7, reduceCtorEq, R9]; done)) | (refine Q9 ?_ ?_; focus (simp only [kS, R1, R2, R3, R4, R5, R6, R7, reduceCtorEq, R9]; done)) | refine Qa ?_ | refine Qb ?_ | refine Qc ?_ | refine And.intro (by first | assumption | omega) ?_)
  all_goals rfl

theorem cmp49_ret (gl : Gl) (a b : Br) (ha : a.to.length ≤ 1000000) (hb : b.to.length ≤ 1000000) : Ret Tryd.prog gl 49 [.agg a.c, .agg b.c] (iv (scmp a.to b.to)) := by
  refine retq (rs := [4]) 10 Tryd.func49 (by kernel_rfl) rfl (by kernel_rfl) rfl (by simp) (by simp) fun Z hN hX hR => ?_
  simp only [Br.c]
  repeat (first | ((first | refine Q1 ?_ | refine Q2 ?_); intro Z hN hX hR) | refine Q3 (by kernel_rfl) fun K hK => ?_ | ((first | refine Q4 fun R hJ => ?_ | with_reducible change ExpAll _ _ _); simp only [kS, R1, R2, R3, R4, R5, R6, R7, reduceCtorEq, R9]) | (refine hJ _ ?_; clear hJ R) | refine Q5 ?_ | (refine hK _ ?_; clear hK K) | ((first | refine hN _ ?_ | refine hX _ _ ?_ | refine hR _ ?_); clear hN hX hR Z) | refine Q6 rfl ?_ | refine Q7 (by decide) ?_ | (refine Q8 ?_ ?_; focus (simp only [kS, R1, R2, R3, R4, R5, R6, R7, reduceCtorEq, R9]; done)) | (refine Q9 ?_ ?_; focus (simp only [kS, R1, R2, R3, R4, R5, R6, R7, reduceCtorEq, R9]; done)) | refine Qa ?_ | refine Qb ?_ | refine Qc ?_ | refine And.intro (by first | assumption | omega) ?_)
  refine ⟨_, cmp38_ret gl a.to b.to ha hb, rfl, ?_⟩
  simp only [kS, R1, R2, R3, R4, R5, R6, R7, reduceCtorEq, R9]
  repeat (first | ((first | refine Q1 ?_ | refine Q2 ?_); intro Z hN hX hR) | refine Q3 (by kernel_rfl) fun K hK => ?_ | ((first | refine Q4 fun R hJ => ?_ | with_reducible change ExpAll _ _ _); simp only [kS, R1, R2, R3, R4, R5, R6, R7, reduceCtorEq, R9]) | (refine hJ _ ?_; clear hJ R) | refine Q5 ?_ | (refine hK _ ?_; clear hK K) | ((first | refine hN _ ?_ | refine hX _ _ ?_ | refine hR _ ?_); clear hN hX hR Z) | refine Q6 rfl ?_ | refine Q7 (by decide) ?_ | (refine Q8 ?_ ?_; focus (simp only [kS, R1, R2, R3, R4, R5, R6, R7, reduceCtorEq, R9]; done)) | (refine Q9 ?_ ?_; focus (simp only [kS, R1, R2, R3, R4, R5, R6, R7, reduceCtorEq, R9]; done)) | refine Qa ?_ | refine Qb ?_ | refine Qc ?_ | refine And.intro (by first | assumption | omega) ?_)
  all_goals rfl

end Go.Proofs.YtilhjiopbbbgmaaDoor

/- Branches sorted by the library's own sort. -/
namespace Go.Proofs.YtilhjiopbbbgmaaDoor
open Go Go.RowKit Am Go.Shelf Go.Sort Go.Proofs
set_option linter.unusedVariables false
set_option linter.unusedSimpArgs false

theorem grow_of_below {W w' : World} (hb : Go.RowKit.Below W.heap.size W w') (hd : W.drawn ≤ w'.drawn) : ∃ q os, w' = grow (W.drewN q) os := by
  refine ⟨w'.drawn - W.drawn, w'.heap.extract W.heap.size w'.heap.size, ?_⟩
  obtain ⟨heap, tape, drawn, os, output⟩ := w'
  obtain ⟨b1, b2, b3, b4, b5⟩ := hb
  simp only at b1 b2 b3 b4 b5 hd
  subst b1 b2 b3
  have e1 : W.drawn + (drawn - W.drawn) = drawn := by omega
  have e2 : W.heap ++ heap.extract W.heap.size heap.size = heap := by
    apply Array.ext_getElem?
    intro i
    by_cases hi : i < W.heap.size
    · rw [Array.getElem?_append_left hi]; exact (b5 i hi).symm
    · rw [Array.getElem?_append_right (by omega), Array.getElem?_extract]
      by_cases h2 : i < heap.size
      · rw [if_pos (by omega), show W.heap.size + (i - W.heap.size) = i by omega]
      · rw [if_neg (by omega), Array.getElem?_eq_none (by omega)]
  show (⟨heap, W.tape, drawn, W.os, W.output⟩ : World) = ⟨W.heap ++ heap.extract W.heap.size heap.size, W.tape, W.drawn + (drawn - W.drawn), W.os, W.output⟩
  rw [e1, e2]

/-- A branch's two cells, in a world. -/
structure SE (w : World) (G : Am.Good) where
  to : List It
  a : Option Addr
  c : Nat
  q : Int
  ok : RepC w G (stC to) (.slice a to.length c)
  short : to.length ≤ 1000000

instance {w : World} {G : Am.Good} : Inhabited (SE w G) := ⟨⟨[], none, 0, 0, by simp only [RepC]; exact ⟨none, 0, rfl, Nat.le_refl _, .inl rfl⟩, by simp⟩⟩

section
variable {w : World} {G : Am.Good}
def SE.enc (x : SE w G) : List Value := [.slice x.a x.to.length x.c, .int .i64 x.q]
def SE.br (x : SE w G) : Br := ⟨x.to, x.q⟩
abbrev cfS (x y : SE w G) : Int := scmp x.to y.to

theorem swo_scmp : SWO (ltOf (cfS (w := w) (G := G))) where
  irrefl x := by simp [ltOf, cfS, scmp_refl]
  trans x y z h1 h2 := by
    simp only [ltOf, cfS, decide_eq_true_eq] at h1 h2 ⊢
    have a := scmp_val x.to y.to
    have b := scmp_val y.to z.to
    rw [scmp_trans (show scmp x.to y.to = -1 by omega) (show scmp y.to z.to = -1 by omega)]
    omega
  ntrans x y z h1 h2 := by
    simp only [ltOf, cfS, decide_eq_false_iff_not] at h1 h2 ⊢
    intro h3
    have a := scmp_val x.to y.to
    have b := scmp_val y.to z.to
    have c := scmp_val x.to z.to
    have c' : scmp x.to z.to = -1 := by omega
    rcases a with a | a | a
    · omega
    · rw [scmp_eq] at a
      rw [a] at c'
      omega
    · have a' : scmp y.to x.to = -1 := by rw [scmp_neg x.to y.to]; omega
      have := scmp_trans a' c'
      omega

theorem sw_heap (g m : Nat) (dk : Array (SE w G)) (os : Array Obj) {b : Nat} (hb : b < w.heap.size) (hne : b ≠ g) : (sortWorldK SE.enc 2 w g 0 m dk os).heap[b]? = w.heap[b]? := by
  unfold sortWorldK putRowK
  rw [heap_grow_old _ _ (by simpa using hb)]
  have : g ≠ b := fun e => hne e.symm
  simp [putRow, mapBlock, Sort.ahead, Array.getElem?_modify, this]

theorem sw_size (g m : Nat) (dk : Array (SE w G)) (os : Array Obj) : w.heap.size ≤ (sortWorldK SE.enc 2 w g 0 m dk os).heap.size := by
  unfold sortWorldK putRowK
  show w.heap.size ≤ ((putRow id (Sort.ahead w m) g 0 (flatK SE.enc 2 dk)).heap ++ os).size
  simp [putRow, mapBlock, Sort.ahead]

theorem sw_grown (g m : Nat) (dk : Array (SE w G)) (os : Array Obj) : w.grownBy (sortWorldK SE.enc 2 w g 0 m dk os) (some g) :=
  ⟨rfl, rfl, rfl, sw_size g m dk os, fun k hk hne => sw_heap g m dk os hk (fun e => hne (by rw [e]))⟩

def glS : Gl := ⟨fun _ => none, fun _ => True, fun _ _ _ _ => trivial, True⟩

theorem cmp_lays (f : FuncId) (hf : ∀ x y : Br, x.to.length ≤ 1000000 → y.to.length ≤ 1000000 → Ret Tryd.prog glS f [.agg x.c, .agg y.c] (iv (scmp x.to y.to))) (hG : ∀ b o, G b o → b < w.heap.size) (g n : Nat) (hgG : ∀ o, ¬ G g o) : CmpLays Tryd.prog f #[] (SE.enc (w := w) (G := G)) 2 cfS g 0 n w := by
  intro m os dk hs x y
  have S : Settled w (sortWorldK SE.enc 2 w g 0 m dk os) G G := Settled.of_grown (sw_grown g m dk os) hG fun b e => by cases e; exact hgG
  have rep : ∀ z : SE w G, RepL (sortWorldK SE.enc 2 w g 0 m dk os) G z.br.c z.enc := fun z => ⟨RepC.mono S _ _ z.ok, by simp only [RepC]; exact ⟨rfl, rfl⟩, trivial⟩
  refine ((hf x.br y.br x.short y.short).2 (sortWorldK SE.enc 2 w g 0 m dk os) G #[.agg x.enc.toArray, .agg y.enc.toArray] (fun b o h => Nat.lt_of_lt_of_le (hG b o h) (sw_size g m dk os)) ⟨fun i cs h => (by cases h), trivial⟩
    ⟨⟨_, rfl, rep x⟩, ⟨_, rfl, rep y⟩, trivial⟩).mono ?_
  rintro e w' ⟨v, rfl, hb, hdr, G', _, _, _, hr⟩
  simp only [RepR, RepC] at hr
  obtain ⟨q, os', h⟩ := grow_of_below hb (hdr trivial)
  exact ⟨by rw [hr.1]; rfl, q, os', h⟩

theorem sort36_f (f : FuncId) (hf : ∀ x y : Br, x.to.length ≤ 1000000 → y.to.length ≤ 1000000 → Ret Tryd.prog glS f [.agg x.c, .agg y.c] (iv (scmp x.to y.to))) (hG : ∀ b o, G b o → b < w.heap.size) (g cap : Nat) (d : Array (SE w G)) (hH : HoldsK SE.enc 2 w g 0 d) (hg : g < w.heap.size) (hgG : ∀ o, ¬ G g o) (hsz : d.size ≤ 1000000) :
    Calls Tryd.prog 36 #[.slice (some ⟨g, 0, none⟩) d.size cap, .func (.func f) #[] #[]] w fun e w' =>
      e = .returned (.tuple #[]) ∧ w.grownBy w' (some g) ∧ ∃ d' : Array (SE w G), d'.toList.Perm d.toList ∧ d'.size = d.size ∧ SortedIn (ltOf cfS) 0 d.size d' ∧ HoldsK SE.enc 2 w' g 0 d' := by
  have eg : ∀ args w, (callFunc f args).run Tryd.prog w = .ok (.enter f args) w := (hf ⟨[], 0⟩ ⟨[], 0⟩ (by simp) (by simp)).1
  refine (AnyQ.slices_SortFunc sort36 2 Tryd.isAgg37 Tryd.sizeOf37 SE.enc (fun _ => rfl) (fun x v hv => by simp [SE.enc] at hv; rcases hv with rfl | rfl <;> rfl) cfS swo_scmp f #[] g 0 cap d w eg (cmp_lays f hf hG g d.size hgG) hH hg (by omega)).mono ?_
  rintro e w' ⟨rfl, d', n, os, ⟨p1, p2, p3⟩, hs, rfl⟩
  refine ⟨rfl, sw_grown g n d' os, d', ?_, p1, hs, holdsK_sortWorldK_c SE.enc 2 w g 0 d d' n os hH hg p1⟩
  have e1 : d'.extract 0 d.size = d' := by rw [← p1]; simp
  have e2 : d.extract 0 d.size = d := by simp
  rw [e1, e2] at p3
  exact p3

theorem sort36_c (hG : ∀ b o, G b o → b < w.heap.size) (g cap : Nat) (d : Array (SE w G)) (hH : HoldsK SE.enc 2 w g 0 d) (hg : g < w.heap.size) (hgG : ∀ o, ¬ G g o) (hsz : d.size ≤ 1000000) :
    Calls Tryd.prog 36 #[.slice (some ⟨g, 0, none⟩) d.size cap, .func (.func 37) #[] #[]] w fun e w' =>
      e = .returned (.tuple #[]) ∧ w.grownBy w' (some g) ∧ ∃ d' : Array (SE w G), d'.toList.Perm d.toList ∧ d'.size = d.size ∧ SortedIn (ltOf cfS) 0 d.size d' ∧ HoldsK SE.enc 2 w' g 0 d' :=
  sort36_f 37 (cmp37_ret glS) hG g cap d hH hg hgG hsz
theorem sort36_on (hG : ∀ b o, G b o → b < w.heap.size) (g cap : Nat) (d : Array (SE w G)) (hH : HoldsK SE.enc 2 w g 0 d) (hg : g < w.heap.size) (hgG : ∀ o, ¬ G g o) (hsz : d.size ≤ 1000000) :
    Calls Tryd.prog 36 #[.slice (some ⟨g, 0, none⟩) d.size cap, .func (.func 49) #[] #[]] w fun e w' =>
      e = .returned (.tuple #[]) ∧ w.grownBy w' (some g) ∧ ∃ d' : Array (SE w G), d'.toList.Perm d.toList ∧ d'.size = d.size ∧ SortedIn (ltOf cfS) 0 d.size d' ∧ HoldsK SE.enc 2 w' g 0 d' :=
  sort36_f 49 (cmp49_ret glS) hG g cap d hH hg hgG hsz
end

end Go.Proofs.YtilhjiopbbbgmaaDoor

/- The program's own Heads: plain parts of its walk. -/
namespace Go.Proofs.YtilhjiopbbbgmaaDoor
open Go Go.RowKit Am Go.Shelf Go.Sort Go.Proofs
set_option linter.unusedVariables false
set_option linter.unusedSimpArgs false

theorem flat2 {α : Type} (f : α → List Value) (hf : ∀ x, (f x).length = 2) : ∀ (l : List α) (j : Nat), (l.flatMap f)[j]? = (l[j / 2]?).bind fun x => (f x)[j % 2]?
  | [], j => by simp
  | x :: l, j => by
    rw [List.flatMap_cons]
    by_cases h : j < 2
    · rw [List.getElem?_append_left (by rw [hf]; exact h), show j / 2 = 0 by omega, show j % 2 = j by omega]
      simp
    · rw [List.getElem?_append_right (by rw [hf]; omega), hf, flat2 f hf l (j - 2), show (j - 2) % 2 = j % 2 by omega, show j / 2 = (j - 2) / 2 + 1 by omega]
      simp

section
variable {w w' : World} {G G' : Am.Good}

theorem flatK_get (d : Array (SE w G)) (j : Nat) (hj : j < d.size * 2) : (d.toList.flatMap SE.enc)[j]? = some (flatK SE.enc 2 d)[j]! := by
  rw [flat2 SE.enc (fun _ => rfl), get_flatK _ _ _ _ hj]
  have h1 : j / 2 < d.size := by omega
  have h2 : j % 2 = 0 ∨ j % 2 = 1 := by omega
  rw [Array.getElem?_toList, Array.getElem?_eq_getElem h1, getElem!_pos d (j / 2) h1]
  rcases h2 with h2 | h2 <;> rw [h2] <;> rfl

theorem holdsK_row {g cap : Nat} {d : Array (SE w G)} {cur : Array Value} {e : TypeId} (hb : w.heap[g]? = some (.cells cur e (0, 0))) (ht : cur.toList.take (d.size * 2) = d.toList.flatMap SE.enc) : HoldsK SE.enc 2 w g 0 d := by
  intro j hj
  rw [size_flatK] at hj
  have h1 := flatK_get d j hj
  rw [← ht, List.getElem?_take_of_lt hj] at h1
  refine ⟨?_, by simp [World.frozen?, hb]⟩
  simp only [World.cell?, hb, id_eq, Nat.zero_add]
  simpa using h1

theorem rep_flat (S : Settled w w' G G') : ∀ l : List (SE w G), RepL w' G' (bsC (l.map SE.br)) (l.flatMap SE.enc)
  | [] => trivial
  | x :: l => ⟨RepC.mono S _ _ x.ok, by simp only [RepC]; exact ⟨rfl, rfl⟩, rep_flat S l⟩

theorem rep_row (S : Settled w w' G G') {g cap : Nat} {d : Array (SE w G)} (hH : HoldsK SE.enc 2 w' g 0 d) (hcap : d.size ≤ cap) (hg : ∀ o, o < d.size * 2 → G' g o) : RepC w' G' (brC (d.toList.map SE.br)) (.slice (some ⟨g, 0, none⟩) d.size cap) := by
  simp only [RepC]
  refine ⟨some ⟨g, 0, none⟩, cap, by simp, by simpa using hcap, .inr ⟨g, 0, rfl, RepM.of_vals (rep_flat S d.toList) (fun j v hj => ?_) (fun j hj => ?_)⟩⟩
  · have hlt : j < d.size * 2 := by
      have := (List.getElem?_eq_some_iff.1 hj).1
      rw [← (rep_flat S d.toList).length, bsC_length] at this
      simpa using this
    rw [flatK_get d j hlt] at hj
    injection hj with hj
    have := (hH j (by rw [size_flatK]; exact hlt)).1
    rw [this, id_eq, hj]
  · rw [bsC_length] at hj
    rw [Nat.zero_add]
    exact hg j (by simpa using hj)

theorem heads_eq {L : List (List It)} {bs : List Br} (hs : srt bs) (hi : Is bs L) : bs = addL [] L := by
  have h := addL_is L is_nil.1 is_nil.2
  exact eq_of_srt hs h.1 fun y => by rw [hi y, h.2 y]; simp

theorem srt_of {d : Array (SE w G)} (hs : SortedIn (ltOf cfS) 0 d.size d) (hn : (d.toList.map SE.to).Nodup) : srt (d.toList.map SE.br) := by
  unfold srt
  rw [List.pairwise_map, List.pairwise_iff_getElem]
  intro i j hi hj hij
  have hi' : i < d.size := by simpa using hi
  have hj' : j < d.size := by simpa using hj
  have h1 := hs i j (Nat.zero_le _) hij hj'
  rw [getElem!_pos d i hi', getElem!_pos d j hj'] at h1
  simp only [ltOf, cfS, decide_eq_false_iff_not] at h1
  have hne : d[i].to ≠ d[j].to := by
    rw [List.nodup_iff_pairwise_ne, List.pairwise_map, List.pairwise_iff_getElem] at hn
    exact hn i j hi hj hij
  have h2 := scmp_val d[j].to d[i].to
  have h3 : scmp d[j].to d[i].to ≠ 0 := fun e => hne (scmp_eq.1 e).symm
  show scmp d.toList[i].to d.toList[j].to = -1
  simp only [Array.getElem_toList]
  rw [scmp_neg d[j].to d[i].to]
  omega
end

end Go.Proofs.YtilhjiopbbbgmaaDoor

/- The program's own Heads, walked. -/
namespace Go.Proofs.YtilhjiopbbbgmaaDoor
open Go Go.RowKit Am Go.Shelf Go.Maps Go.WideMaps Go.Sort
set_option linter.unusedVariables false
set_option linter.unusedSimpArgs false

theorem info37 : (Tryd.prog.info? 37).map (fun i => (i.zero, i.size, i.bytes)) = some (some (.agg #[.slice none 0 0, .int .i64 0]), 2, 32) := by kernel_rfl

abbrev Ent := List It × Option Addr × Nat
def entC (L : List (List It)) (e : Ent) : List Value := [.slice e.2.1 e.1.length e.2.2, .int .i64 (mn (L.count e.1))]

def HRel (w : World) (G4 : Am.Good) (base m r : Nat) (L : List (List It)) (D2 : DV) (g : Nat) (x : Value) (wy : World) : Prop :=
  ∃ (left : Lit → Bool) (c : Nat) (es : List Ent), c ≤ g ∧ es.length + c ≤ L.length ∧ wy.ranges Tryd.prog 9 Rb m r L.length D2 left c ∧ Holds wy G4 D2 L ∧ wy.ownsRow base 37 2 x es.length (es.flatMap (entC L)) ∧
    (∀ e, e ∈ es → e.1 ∈ L ∧ left (kl e.1) = false ∧ RepC wy G4 (.fr (stC e.1)) (.slice e.2.1 e.1.length e.2.2)) ∧ (es.map (·.1)).Nodup ∧ (∀ t, t ∈ L → left (kl t) = false → t ∈ es.map (·.1)) ∧ w.grownBy wy none ∧ base ≤ wy.heap.size

section
variable {w : World} {G : Am.Good}
def mkSE (L : List (List It)) (e : Ent) (h : RepC w G (stC e.1) (.slice e.2.1 e.1.length e.2.2) ∧ e.1.length ≤ 1000000) : SE w G := ⟨e.1, e.2.1, e.2.2, mn (L.count e.1), h.1, h.2⟩
theorem pm_enc (L : List (List It)) : ∀ (es : List Ent) (h : ∀ e ∈ es, RepC w G (stC e.1) (.slice e.2.1 e.1.length e.2.2) ∧ e.1.length ≤ 1000000), (es.pmap (mkSE L) h).flatMap SE.enc = es.flatMap (entC L)
  | [], _ => rfl
  | e :: es, h => by
    simp only [List.pmap, List.flatMap_cons, pm_enc L es fun e he => h e (by simp [he])]
    rfl
theorem pm_to (L : List (List It)) : ∀ (es : List Ent) (h : ∀ e ∈ es, RepC w G (stC e.1) (.slice e.2.1 e.1.length e.2.2) ∧ e.1.length ≤ 1000000), (es.pmap (mkSE L) h).map SE.to = es.map (·.1)
  | [], _ => rfl
  | e :: es, h => by
    simp only [List.pmap, List.map_cons, pm_to L es fun e he => h e (by simp [he])]
    rfl
theorem pm_br (L : List (List It)) : ∀ (es : List Ent) (h : ∀ e ∈ es, RepC w G (stC e.1) (.slice e.2.1 e.1.length e.2.2) ∧ e.1.length ≤ 1000000), (es.pmap (mkSE L) h).map SE.br = es.map fun e => ⟨e.1, mn (L.count e.1)⟩
  | [], _ => rfl
  | e :: es, h => by
    simp only [List.pmap, List.map_cons, pm_br L es fun e he => h e (by simp [he])]
    rfl
end

def bsF (l : List Br) : List C := l.flatMap fun b => [.fr (stC b.to), .v (.int .i64 b.many)]
abbrev brF (l : List Br) : C := .sl l.length (bsF l)
theorem bsF_length (s : List Br) : (bsF s).length = s.length * 2 := by
  induction s with
  | nil => rfl
  | cons x s ih => simp [bsF] at ih ⊢; omega
theorem bsF_weakM {w : World} {G : Am.Good} : ∀ (l : List Br) (b o : Nat), RepM w G (bsF l) b o → RepM w G (bsC l) b o
  | [], _, _, _ => by simp [bsC, RepM]
  | x :: l, b, o, h => by
    have e : bsF (x :: l) = .fr (stC x.to) :: .v (.int .i64 x.many) :: bsF l := rfl
    rw [e] at h
    rw [bsC_cons]
    simp only [RepM] at h ⊢
    obtain ⟨g1, ⟨y, h1, h2⟩, g2, h3, h4⟩ := h
    exact ⟨g1, ⟨y, h1, h2.1⟩, g2, h3, bsF_weakM l b _ h4⟩
theorem brF_weak {w : World} {G : Am.Good} {l : List Br} {v : Value} (h : RepC w G (brF l) v) : RepC w G (brC l) v := by
  simp only [RepC] at h ⊢
  obtain ⟨a, cap, e, hn, h⟩ := h
  refine ⟨a, cap, e, hn, ?_⟩
  rcases h with h | ⟨b, o, ea, h⟩
  · have := bsF_length l
    rw [h] at this
    have h0 : l = [] := List.eq_nil_of_length_eq_zero (by simp at this; omega)
    exact .inl (by rw [h0]; rfl)
  · exact .inr ⟨b, o, ea, bsF_weakM l b o h⟩
theorem rep_flatF {w w' : World} {G G' : Am.Good} (S : Settled w w' G G') : ∀ l : List (SE w G), (∀ x ∈ l, RepC w G (.fr (stC x.to)) (.slice x.a x.to.length x.c)) → RepL w' G' (bsF (l.map SE.br)) (l.flatMap SE.enc)
  | [], _ => trivial
  | x :: l, h => ⟨RepC.mono S _ _ (h x (by simp)), by simp only [RepC]; exact ⟨rfl, rfl⟩, rep_flatF S l fun y hy => h y (by simp [hy])⟩
theorem rep_rowF {w w' : World} {G G' : Am.Good} (S : Settled w w' G G') {g cap : Nat} {d : Array (SE w G)} (hfr : ∀ x ∈ d.toList, RepC w G (.fr (stC x.to)) (.slice x.a x.to.length x.c)) (hH : HoldsK SE.enc 2 w' g 0 d) (hcap : d.size ≤ cap) (hg : ∀ o, o < d.size * 2 → G' g o) : RepC w' G' (brF (d.toList.map SE.br)) (.slice (some ⟨g, 0, none⟩) d.size cap) := by
  simp only [RepC]
  refine ⟨some ⟨g, 0, none⟩, cap, by simp, by simpa using hcap, .inr ⟨g, 0, rfl, RepM.of_vals (rep_flatF S d.toList hfr) (fun j v hj => ?_) (fun j hj => ?_)⟩⟩
  · have hlt : j < d.size * 2 := by
      have := (List.getElem?_eq_some_iff.1 hj).1
      rw [← (rep_flat S d.toList).length, bsC_length] at this
      simpa using this
    rw [flatK_get d j hlt] at hj
    injection hj with hj
    have := (hH j (by rw [size_flatK]; exact hlt)).1
    rw [this, id_eq, hj]
  · rw [bsF_length] at hj
    rw [Nat.zero_add]
    exact hg j (by simpa using hj)

theorem grown_below {w w' : World} (h : w.grownBy w' none) : Below w.heap.size w w' := ⟨h.os, h.tape, h.output, h.size, fun k hk => h.block k hk (by simp)⟩

set_option maxHeartbeats 4000000 in
set_option maxRecDepth 1000000 in
theorem heads15_fr (d : List Nd) (hd : WFd d) (k : Nat) (s : List It) (w : World) (G : Am.Good) (vd vs : Value) (hdp : deep d k s) (hs : gd d s) (hj : okJ s) (hl : s.length + k ≤ 100000) (hn : cnt d k s ≤ 1000000) (hlv : (leaves d k s).length ≤ 1000000)
    (hG : ∀ b o, G b o → b < w.heap.size) (hgl : GlOk glD w G) (hvd : RepL w G (dC d) [vd]) (hv : RepC w G (stC s) vs) : Calls Tryd.prog 15 #[.agg #[vd], vs] w (BackC w G (brF (headsS d k s))) := by
  obtain ⟨i0, hi0, hz0, hs0, hb0⟩ := info_parts info37
  have hmm := @run_makeMap Tryd.prog
  have hsh := leaves_len hd k s hs
  obtain ⟨L, hL⟩ : ∃ L, leaves d k s = L := ⟨_, rfl⟩
  have hLl : L.length ≤ 1000000 := by rw [← hL]; exact hlv
  have hg3 : w.grownBy (((w.alloc (.cells #[vd] 24)).alloc (.map #[] 0)).alloc (.cells #[vd, .map (some (w.heap.size + 1))] 65)) none :=
    ((World.grownBy_alloc w _ none).trans (World.grownBy_alloc _ _ none)).trans (World.grownBy_alloc _ _ none)
  have S3 := Settled.of_grown hg3 hG fun b e => by cases e
  have E3 : Env (((w.alloc (.cells #[vd] 24)).alloc (.map #[] 0)).alloc (.cells #[vd, .map (some (w.heap.size + 1))] 65)) G d (w.heap.size + 2) (w.heap.size + 1) 0 (fun _ => False) vd := {
    hG := fun b o h => Nat.lt_of_lt_of_le (hG b o h) hg3.size
    rdy := RepM.mono S3 _ _ _ (hgl.1 0 readiesC rfl)
    pow := tabPow2 hgl.2 fun h => hg3.block 2 h (by simp)
    rd := RepL.mono S3 _ _ hvd
    fin := by
      have := heap_alloc_new ((w.alloc (.cells #[vd] 24)).alloc (.map #[] 0)) (.cells #[vd, .map (some (w.heap.size + 1))] 65)
      simpa using this
    seen := ⟨.map [], by
      have := (World.ownsMap_made (w.alloc (.cells #[vd] 24)) Tryd.prog 9 Rm).alloc (.cells #[vd, .map (some (w.heap.size + 1))] 65)
      simpa using this, fun k hk => by cases hk⟩
    bmG := fun o h => by have := hG _ _ h; omega
    bmA := fun h => h
    Aok := fun a h => h.elim }
  have hv3 : RepC (((w.alloc (.cells #[vd] 24)).alloc (.map #[] 0)).alloc (.cells #[vd, .map (some (w.heap.size + 1))] 65)) G (stC s) vs := RepC.mono S3 _ _ hv
  have hf := find35 d hd vd (w.heap.size + 2) (w.heap.size + 1) k s _ G 0 (fun _ => False) vs hdp hs hj hl E3 hv3 (by omega) hlv
  rw [hL] at hf
  go_enter Tryd.func15, Tryd.ntmps15
  go_wp2_with (first
    | (go_at_call 35; refine hf.mono ?_; rintro e w4 ⟨m, G4, rfl, hg4, k1, k2, E4, ⟨D2, hm2, hH2⟩, hAm, hmb⟩)
    | (at_range; refine wpList_range_own _ rfl _ 66 rfl 9 37 law9 Tryd.underlying66 Rb m _ D2 rfl hm2 ?_; intro w5 hrg5 hg5 hs5))
  go_frame
  have hg5w : w.grownBy w5 none := (hg3.andThen hg4 (fun j e => .inl (by cases e; omega))).trans hg5
  have hw4 : w.heap.size ≤ w4.heap.size := by have := hg4.size; simp at this; omega
  have hmlt := hm2.lt
  have S5 : Settled w4 w5 G4 G4 := Settled.of_grown hg5 E4.hG fun b e => by cases e
  have hst : HRel w G4 w5.heap.size m w4.heap.size L D2 (Maps.size D2) (.slice none 0 0) w5 :=
    ⟨_, _, [], Nat.le_refl _, by simpa using hm2.size_le, hrg5, hH2.mono S5, ⟨rfl, .inl ⟨rfl, rfl⟩⟩, fun e h => (by cases h), List.nodup_nil, fun t ht hl => (by rw [(hH2.2 t ht).1] at hl; cases hl), hg5w, Nat.le_refl _⟩
  have hG4 : ∀ b o, G4 b o → b < w5.heap.size := fun b o h => by have := E4.hG b o h; omega
  clear hrg5 hm2 hH2 S5 hf hv3 E3
  go_loopg [6] (Maps.size D2) (fun g x wy => HRel w G4 w5.heap.size m w4.heap.size L D2 g x wy)
  case atStart => exact hst
  case round =>
    clear hst
    obtain ⟨left, c, es, hcg, hes, hrg, hH2, hrow, hE, hnd, hall, hgw, hbs⟩ := hrel
    go_wp2_with (first
      | (at_next; refine wpList_next_ranges _ rfl _ rfl 9 law9 Rb Value.string (fun c : Option Addr × Nat × Nat × Int => .agg #[.slice c.1 c.2.1 c.2.2.1, .int .i64 c.2.2.2]) (fun key kl hk => by obtain ⟨x, hx, _⟩ := keyOf9_inv hk; exact ⟨x, hx⟩) (fun v y hv => by obtain ⟨c, hc, _⟩ := Rb_inv hv; exact ⟨c, hc⟩) m w4.heap.size _ D2 left c rfl hrg ?_ ?_))
    · intro hc0 hl0
      have hallL : ∀ t, t ∈ L ↔ t ∈ es.map (·.1) := fun t => by
        refine ⟨fun h => hall t h (hl0 _), fun h => ?_⟩
        obtain ⟨e, he, rfl⟩ := List.mem_map.1 h
        exact (hE e he).1
      have hhead : headsS d k s = addL [] L := by rw [headsS, hL]
      rcases hrow.2 with ⟨rfl, h0⟩ | ⟨gb, cap, cur, rfl, hB, hb, hncap, hcm, hsz, htake⟩
      · have hes0 : es = [] := List.eq_nil_of_length_eq_zero h0
        have hL0 : L = [] := by
          cases L with
          | nil => rfl
          | cons t L =>
            have := (hallL t).1 (by simp)
            rw [hes0] at this
            cases this
        have hc36 := AnyF.slices_SortFunc_none sort36 none 0 (.func (.func 37) #[] #[]) wr
        go_wp2_with (go_at_call 36; refine hc36.mono ?_; rintro e w' ⟨rfl, rfl⟩)
        go_ret
        refine ⟨_, rfl, grown_below hgw, G4, k1, fun b o h => (k2 b o h).imp id fun h' => (by simp at h'; omega), fun b o h => by have := hG4 b o h; omega, ?_⟩
        rw [hhead, hL0]
        simp only [RepC]
        exact ⟨none, 0, rfl, Nat.le_refl _, .inl rfl⟩
      · have hok : ∀ e ∈ es, RepC wr G4 (stC e.1) (.slice e.2.1 e.1.length e.2.2) ∧ e.1.length ≤ 1000000 := fun e he => by
          obtain ⟨h1, _, h3⟩ := hE e he
          have := (hsh e.1 (by rw [hL]; exact h1)).2
          exact ⟨h3.1, by omega⟩
        have hds : (es.pmap (mkSE L) hok).toArray.size = es.length := by simp
        have hwr4 : ∀ b o, G4 b o → b < wr.heap.size := fun b o h => by have := hG4 b o h; omega
        have hgbG : ∀ o, ¬ G4 gb o := fun o h => by have := hG4 gb o h; omega
        have hgl' : gb < wr.heap.size := (Array.getElem?_eq_some_iff.1 hb).1
        have hH : Go.Sort.HoldsK SE.enc 2 wr gb 0 (es.pmap (mkSE L) hok).toArray := holdsK_row (cap := cap) hb (by rw [hds]; simp only [pm_enc]; exact htake)
        have hc36 := sort36_c hwr4 gb cap (es.pmap (mkSE L) hok).toArray hH hgl' hgbG (by rw [hds]; omega)
        rw [hds] at hc36
        clear hH
        go_wp2_with (go_at_call 36; refine hc36.mono ?_; rintro e w7 ⟨rfl, hg7, d', hp7, hd7, hs7, hH7⟩)
        go_ret
        have hp7' : d'.toList.Perm (es.pmap (mkSE L) hok) := by simpa using hp7
        have S7 : Settled wr w7 G4 (fun b o => G4 b o ∨ (b = gb ∧ o < es.length * 2)) := ⟨fun _ _ h => .inl h, (Settled.of_grown hg7 hwr4 fun b e => by cases e; exact hgbG).cell, (Settled.of_grown hg7 hwr4 fun b e => by cases e; exact hgbG).frz⟩
        have hbs : d'.toList.map SE.br = headsS d k s := by
          rw [hhead]
          refine heads_eq (srt_of (by rw [hd7]; exact hs7) ?_) fun y => ?_
          · rw [(hp7'.map SE.to).nodup_iff, pm_to]; exact hnd
          · rw [(hp7'.map SE.br).mem_iff, pm_br, List.mem_map]
            constructor
            · rintro ⟨e, he, rfl⟩
              exact ⟨(hE e he).1, rfl⟩
            · rintro ⟨h1, h2⟩
              obtain ⟨e, he, h3⟩ := List.mem_map.1 ((hallL y.to).1 h1)
              refine ⟨e, he, ?_⟩
              cases y
              simp only at h1 h2 h3
              rw [h3, h2]
        have hd8 : d'.size = es.length := hd7
        have hfr : ∀ x ∈ d'.toList, RepC wr G4 (.fr (stC x.to)) (.slice x.a x.to.length x.c) := fun x hx => by
          have hx := hp7'.mem_iff.1 hx
          rw [List.mem_pmap] at hx
          obtain ⟨e, he, rfl⟩ := hx
          exact (hE e he).2.2
        have hrep := rep_rowF S7 hfr hH7 (cap := cap) (by omega) (fun o h => .inr ⟨rfl, by omega⟩)
        rw [hbs, hd8] at hrep
        refine ⟨_, rfl, grown_below (hgw.andThen hg7 (fun j e => .inl (by cases e; omega))), _, fun b o h => .inl (k1 b o h), fun b o h => ?_, fun b o h => ?_, hrep⟩
        · rcases h with h | ⟨rfl, _⟩
          · exact (k2 b o h).imp id fun h' => (by simp at h'; omega)
          · exact .inr (by omega)
        · rcases h with h | ⟨rfl, _⟩
          · exact Nat.lt_of_lt_of_le (hwr4 b o h) hg7.size
          · exact Nat.lt_of_lt_of_le hgl' hg7.size
    · intro x a2 n2 cc2 q2 k2' yd yp w6 c6 hkey6 hlk hv6 hat6 hrg6 hlt6 hg6 hs6 hen
      obtain ⟨t, ht, rfl⟩ := hH2.1 _ (has_true_of_atKey hat6)
      obtain ⟨_, v0, hv0, ad, cc, rfl, hrc⟩ := hH2.2 t ht
      have hcv : a2 = ad ∧ n2 = t.length ∧ cc2 = cc ∧ q2 = mn (L.count t) := by
        obtain ⟨_, _, hy⟩ := Rb_inv hv6
        have hy' := congrArg Prod.fst hy
        simp only at hy'
        rw [← hat6 (.held (.map none)), hv0] at hy'
        injection hy' with hy'
        simp only [Value.agg.injEq, Array.mk.injEq, List.cons.injEq, Value.slice.injEq, Value.int.injEq, and_true, true_and] at hy'
        obtain ⟨⟨e1, e2, e3⟩, e4⟩ := hy'
        exact ⟨e1.symm, e2.symm, e3.symm, e4.symm⟩
      obtain ⟨rfl, rfl, rfl, rfl⟩ := hcv
      have hrow6 := hrow.kept hg6 (by
        rcases h : Value.ownBlock _ with _ | b
        · exact .inl rfl
        · exact .inr (fun e => by cases e; have := (hrow.lt _ h).1; omega))
      have hsz6 : wr.heap.size ≤ w6.heap.size := hg6.size
      have hbs6 : w5.heap.size ≤ w6.heap.size := Nat.le_trans hbs hsz6
      clear hs6
      go_wp2_with (first
        | (at_builtin; refine wpList_append_own _ rfl _ _ 31 rfl w5.heap.size 37 i0 _ 2 32 Tryd.underlying31 hi0 hz0 hs0 hb0 rfl (by decide) _ _ _ rfl ((hrow6.alloc _).alloc _) ⟨w6.heap.size + 1, 0, none⟩ 1 1 [.slice a2 t.length cc2, .int .i64 (mn (L.count t))] rfl rfl ?_ ?_ ?_ ?_ ?_ ?_; rotate_left 5; intro v7 w7 hrow7 hg7 hnil7))
      · go_roundg c6
        case measure => omega
        case rel =>
          have hrG : ∀ o, ¬ G4 w4.heap.size o := fun o h => Nat.lt_irrefl _ (E4.hG _ _ h)
          have hG6 : ∀ b o, G4 b o → b < wr.heap.size := fun b o h => by have := hG4 b o h; omega
          have hrb := fun b h => (hrow.lt b h).1
          have hblk7 : ∀ b, b < w4.heap.size → w7.heap[b]? = wr.heap[b]? := fun b hb4 =>
            (hg7.block b (by simp; omega) (fun e => by have := hrb _ e.symm; omega)).trans ((alloc_old _ _ (by simp; omega)).trans ((alloc_old _ _ (by omega)).trans (hg6.block b (by omega) (fun e => by cases e; omega))))
          have S7 : Settled wr w7 G4 G4 := ⟨fun _ _ h => h, fun b o h => cell_same (hblk7 b (E4.hG b o h)) o, fun b h => frz_same (hblk7 b (E4.hG b 0 (h 0)))⟩
          have hsk : ∀ u, (kl u).sameKey (kl t) = true ↔ u = t := fun u => by
            rw [WideAt.sameKey_iff (by trivial)]
            exact ⟨kl_inj, fun e => by rw [e]⟩
          have hlf : ∀ u, (left (kl u) && !(kl u).sameKey (kl t)) = false ↔ left (kl u) = false ∨ u = t := fun u => by
            rw [← hsk u]
            cases left (kl u) <;> cases (kl u).sameKey (kl t) <;> simp
          have hnot : t ∉ es.map (·.1) := fun h => by
            obtain ⟨e, he, h2⟩ := List.mem_map.1 h
            have := (hE e he).2.1
            rw [h2, hlk] at this
            cases this
          refine ⟨_, c6, es ++ [(t, a2, cc2)], Nat.le_refl _, by simp; omega, ((hrg6.alloc _).alloc _).kept hg7 (fun e => ?_) (fun e => ?_), hH2.mono S7, by simpa [entC] using hrow7, fun e he => ?_, ?_, fun u hu hl => ?_, ?_, ?_⟩
          · have := hrb _ e.symm; omega
          · have := hrb _ e.symm; omega
          · rcases List.mem_append.1 he with he | he
            · obtain ⟨h1, h2, h3⟩ := hE e he
              exact ⟨h1, by rw [h2]; rfl, RepC.mono S7 _ _ h3⟩
            · simp only [List.mem_singleton] at he
              subst he
              exact ⟨ht, (hlf t).2 (.inr rfl), RepC.mono S7 _ _ hrc⟩
          · rw [List.map_append, List.nodup_append]
            refine ⟨hnd, by simp, ?_⟩
            intro a ha b hb
            simp only [List.map_cons, List.map_nil, List.mem_singleton] at hb
            subst hb
            intro e
            exact hnot (e ▸ ha)
          · rw [List.map_append]
            rcases (hlf u).1 hl with h | h
            · exact List.mem_append.2 (.inl (hall u hu h))
            · exact List.mem_append.2 (.inr (by simp [h]))
          · exact (((hgw.andThen hg6 (fun j e => .inl (by cases e; exact hw4))).trans (World.grownBy_alloc _ _ none)).trans (World.grownBy_alloc _ _ none)).andThen hg7 (fun j e => .inl (by have := hrb j e; omega))
          · have := hg7.size
            simp at this
            omega
      · exact ⟨rfl, rfl⟩
      · simp only [maxLen]; omega
      · omega
      · have := hbs6; omega

theorem heads15_c (d : List Nd) (hd : WFd d) (k : Nat) (s : List It) (w : World) (G : Am.Good) (vd vs : Value) (hdp : deep d k s) (hs : gd d s) (hj : okJ s) (hl : s.length + k ≤ 100000) (hn : cnt d k s ≤ 1000000) (hlv : (leaves d k s).length ≤ 1000000)
    (hG : ∀ b o, G b o → b < w.heap.size) (hgl : GlOk glD w G) (hvd : RepL w G (dC d) [vd]) (hv : RepC w G (stC s) vs) : Calls Tryd.prog 15 #[.agg #[vd], vs] w (BackC w G (brC (headsS d k s))) :=
  (heads15_fr d hd k s w G vd vs hdp hs hj hl hn hlv hG hgl hvd hv).mono fun e w' ⟨v, he, hb, G', h1, h2, h3, h4⟩ => ⟨v, he, hb, G', h1, h2, h3, brF_weak h4⟩

end Go.Proofs.YtilhjiopbbbgmaaDoor
