/- Proved: NextTells of chapter 15, as a tied card: for every description, state and byte the law's body answers true, and what was handed in reads as it did. This is part 4 of 7 of that proof (first the abstract machine and its soundness, then the walks, the plain law, the card): no condition beyond the statement's own. -/
import Derived.Test.YtilhjiopbbbgmaaGreatDoorTells3
import Derived.ProofKit
import Derived.OpenShut
import Derived.Deep.Slices
import Derived.SizedLaws
import Derived.Lib.LaidTab
import Derived.Test.YtilhjiopbbbgmaaGreatDoorRows
import Derived.LaidMore
import Derived.Stop.Joined
import Derived.Below
import Derived.Carry
import Derived.Laws.OwnMore
import Derived.Maps.Keyed
import Derived.Deep.QuietTactic
import Derived.BigQuiet
import Derived.Deep.RegionHeld3
import Derived.Shelf.Abstract
import Derived.Test.YtilhjiopbbbgmaaGreatDoorTie
import Derived.Test.YtilhjiopbbbgmaaGreatDoorCards
import Derived.SevenTiedAt
import Derived.Maps.AppendAt

/- The classes of a byte each, and the document's class of a list. -/
namespace Go.Proofs.YtilhjiopbbbgmaaGreatDoor
open Nat renaming reduceSub → R1, reduceMul → R2, reduceLeDiff → R3, reducePow → R4, reduceBEq → R5, reduceAdd → R6, reduceEqDiff → R7
open Int renaming reduceToNat → R9
open Go Go.RowKit Am
set_option linter.unusedVariables false
set_option linter.unusedSimpArgs false
set_option maxHeartbeats 4000000
attribute [local irreducible] AWp AOps

/-- Classes, one behind another. -/
def clC (l : List (Nat → Nat)) : List C := l.flatMap ws
theorem clC_length (l : List (Nat → Nat)) : (clC l).length = l.length * 4 := by
  induction l with
  | nil => rfl
  | cons x l ih => simp [clC, ws_length] at ih ⊢; omega
theorem clC_append (a b : List (Nat → Nat)) : clC (a ++ b) = clC a ++ clC b := by simp [clC]
abbrev clS (l : List (Nat → Nat)) : C := .sl l.length (clC l)

def one (c : Nat) : Nat → Nat := rowN c c 256
def singles (n : Nat) : List (Nat → Nat) := (List.range n).map one
theorem singles_succ (n : Nat) : singles (n + 1) = singles n ++ [one n] := by simp [singles, List.range_succ]
theorem singles_length (n : Nat) : (singles n).length = n := by simp [singles]

theorem singles_ret (gl : Gl) : Ret Tryz.prog gl 56 [] (.c (clS (singles 256))) := by
  refine retq (rs := [0]) 16 Tryz.func56 (by kernel_rfl) rfl (by kernel_rfl) rfl (by simp) (by simp) fun Z hN hX hR => ?_
  repeat (first | ((first | refine Q1 ?_ | refine Q2 ?_); intro Z hN hX hR) | refine Q3 (by kernel_rfl) fun K hK => ?_ | ((first | refine Q4 fun R hJ => ?_ | with_reducible change ExpAll _ _ _); simp only [kS, R1, R2, R3, R4, R5, R6, R7, reduceCtorEq, R9]) | (refine hJ _ ?_; clear hJ R) | refine Q5 ?_ | (refine hK _ ?_; clear hK K) | ((first | refine hN _ ?_ | refine hX _ _ ?_ | refine hR _ ?_); clear hN hX hR Z) | refine Q6 rfl ?_ | refine Q7 (by decide) ?_ | (refine Q8 ?_ ?_; focus (simp only [kS, R1, R2, R3, R4, R5, R6, R7, reduceCtorEq, R9]; done)) | (refine Q9 ?_ ?_; focus (simp only [kS, R1, R2, R3, R4, R5, R6, R7, reduceCtorEq, R9]; done)) | refine Qa ?_ | refine Qb ?_ | refine Qc ?_ | refine And.intro (by first | assumption | omega) ?_)
  refine awq_loop (fun n s => ∃ i : Nat, i ≤ 256 ∧ n = 256 - i ∧ s.t 3 = iv (i : Int) ∧ ((s.t 1 = .nil ∧ i = 0) ∨ ∃ d t, s.t 1 = .tok d t (singles i).length (clC (singles i)) ∧ s.ob d t = .live 56 4 ∧ t ≤ s.k)) 256 ?_ ?_
  · exact ⟨0, by omega, rfl, by simp only [kS, R1, R2, R3, R4, R5, R6, R7, reduceCtorEq, R9]; rfl, .inl ⟨by simp only [kS, R1, R2, R3, R4, R5, R6, R7, reduceCtorEq, R9], rfl⟩⟩
  rintro Z n s hN hX hR ⟨i, hi, rfl, h3, h1⟩
  by_cases hlt : i < 256
  · have hlt' : (i : Int) < 256 := by omega
    have hcv : IntKind.u8.wrap (i : Int) = (i : Int) := wrap_u8 hlt
    have ho := of46_ret gl i i hlt hlt
    have hcl := clC_length (singles i)
    have hsl := singles_length i
    rw [hsl] at hcl
    rcases h1 with ⟨h1, rfl⟩ | ⟨d, t, h1, hob, ht⟩
    · repeat (first | ((first | refine Q1 ?_ | refine Q2 ?_); intro Z hN hX hR) | refine Q3 (by kernel_rfl) fun K hK => ?_ | ((first | refine Q4 fun R hJ => ?_ | with_reducible change ExpAll _ _ _); simp only [kS, R1, R2, R3, R4, R5, R6, R7, reduceCtorEq, R9, h1, h3, hlt', hcv, decide_true, ws_length, ws_take]) | (refine hJ _ ?_; clear hJ R) | refine Q5 ?_ | (refine hK _ ?_; clear hK K) | ((first | refine hN _ ?_ | refine hX _ _ ?_ | refine hR _ ?_); clear hN hX hR Z) | refine Q6 rfl ?_ | refine Q7 (by decide) ?_ | (refine Q8 ?_ ?_; focus (simp only [kS, R1, R2, R3, R4, R5, R6, R7, reduceCtorEq, R9, h1, h3, hlt', hcv, decide_true, ws_length, ws_take]; done)) | (refine Q9 ?_ ?_; focus (simp only [kS, R1, R2, R3, R4, R5, R6, R7, reduceCtorEq, R9, h1, h3, hlt', hcv, decide_true, ws_length, ws_take]; done)) | refine Qa ?_ | refine Qb ?_ | refine Qc ?_ | refine And.intro (by first | assumption | omega) ?_)
      refine ⟨_, ho, rfl, ?_⟩
      simp only [kS, R1, R2, R3, R4, R5, R6, R7, reduceCtorEq, R9, ws_length, ws_take]
      repeat (first | ((first | refine Q1 ?_ | refine Q2 ?_); intro Z hN hX hR) | refine Q3 (by kernel_rfl) fun K hK => ?_ | ((first | refine Q4 fun R hJ => ?_ | with_reducible change ExpAll _ _ _); simp only [kS, R1, R2, R3, R4, R5, R6, R7, reduceCtorEq, R9, h1, h3, ws_length, ws_take, tk1, tk2, tk3, tk4, tk5, tk6, tk7, tk8, and_false, false_and]) | (refine hJ _ ?_; clear hJ R) | refine Q5 ?_ | (refine hK _ ?_; clear hK K) | ((first | refine hN _ ?_ | refine hX _ _ ?_ | refine hR _ ?_); clear hN hX hR Z) | refine Q6 rfl ?_ | refine Q7 (by decide) ?_ | (refine Q8 ?_ ?_; focus (simp only [kS, R1, R2, R3, R4, R5, R6, R7, reduceCtorEq, R9, h1, h3, ws_length, ws_take, tk1, tk2, tk3, tk4, tk5, tk6, tk7, tk8, and_false, false_and]; done)) | (refine Q9 ?_ ?_; focus (simp only [kS, R1, R2, R3, R4, R5, R6, R7, reduceCtorEq, R9, h1, h3, ws_length, ws_take, tk1, tk2, tk3, tk4, tk5, tk6, tk7, tk8, and_false, false_and]; done)) | refine Qa ?_ | refine Qb ?_ | refine Qc ?_ | refine And.intro (by first | assumption | omega) ?_)
      refine ⟨256 - (0 + 1), by omega, 0 + 1, by omega, rfl, ?_, .inr ⟨_, _, by simp only [kS, R1, R2, R3, R4, R5, R6, R7, reduceCtorEq, R9, singles_succ, clC_append, ws_length, ws_take, tk1, tk2, tk3, tk4, tk5, tk6, tk7, tk8, and_false, false_and]; exact rfl, by simp only [kS, R1, R2, R3, R4, R5, R6, R7, reduceCtorEq, R9], by (simp only [kS, R1, R2, R3, R4, R5, R6, R7, reduceCtorEq, R9]) <;> first | omega | rfl⟩⟩
      simp only [kS, R1, R2, R3, R4, R5, R6, R7, reduceCtorEq, R9]
      rfl
    · repeat (first | ((first | refine Q1 ?_ | refine Q2 ?_); intro Z hN hX hR) | refine Q3 (by kernel_rfl) fun K hK => ?_ | ((first | refine Q4 fun R hJ => ?_ | with_reducible change ExpAll _ _ _); simp only [kS, R1, R2, R3, R4, R5, R6, R7, reduceCtorEq, R9, h1, h3, hob, ht, hcl, hlt', hcv, decide_true, ws_length, ws_take, tk1, tk2, tk3, tk4, tk5, tk6, tk7, tk8, and_false, false_and]) | (refine hJ _ ?_; clear hJ R) | refine Q5 ?_ | (refine hK _ ?_; clear hK K) | ((first | refine hN _ ?_ | refine hX _ _ ?_ | refine hR _ ?_); clear hN hX hR Z) | refine Q6 rfl ?_ | refine Q7 (by decide) ?_ | (refine Q8 ?_ ?_; focus (simp only [kS, R1, R2, R3, R4, R5, R6, R7, reduceCtorEq, R9, h1, h3, hob, ht, hcl, hlt', hcv, decide_true, ws_length, ws_take, tk1, tk2, tk3, tk4, tk5, tk6, tk7, tk8, and_false, false_and]; done)) | (refine Q9 ?_ ?_; focus (simp only [kS, R1, R2, R3, R4, R5, R6, R7, reduceCtorEq, R9, h1, h3, hob, ht, hcl, hlt', hcv, decide_true, ws_length, ws_take, tk1, tk2, tk3, tk4, tk5, tk6, tk7, tk8, and_false, false_and]; done)) | refine Qa ?_ | refine Qb ?_ | refine Qc ?_ | refine And.intro (by first | assumption | omega) ?_)
      refine ⟨_, ho, rfl, ?_⟩
      simp only [kS, R1, R2, R3, R4, R5, R6, R7, reduceCtorEq, R9, h1, hob, ht, hcl, hsl, ws_length, ws_take, tk1, tk2, tk3, tk4, tk5, tk6, tk7, tk8, and_false, false_and]
      repeat (first | ((first | refine Q1 ?_ | refine Q2 ?_); intro Z hN hX hR) | refine Q3 (by kernel_rfl) fun K hK => ?_ | ((first | refine Q4 fun R hJ => ?_ | with_reducible change ExpAll _ _ _); simp only [kS, R1, R2, R3, R4, R5, R6, R7, reduceCtorEq, R9, h1, h3, hob, ht, hcl, hsl, ws_length, ws_take, tk1, tk2, tk3, tk4, tk5, tk6, tk7, tk8, and_false, false_and]) | (refine hJ _ ?_; clear hJ R) | refine Q5 ?_ | (refine hK _ ?_; clear hK K) | ((first | refine hN _ ?_ | refine hX _ _ ?_ | refine hR _ ?_); clear hN hX hR Z) | refine Q6 rfl ?_ | refine Q7 (by decide) ?_ | (refine Q8 ?_ ?_; focus (simp only [kS, R1, R2, R3, R4, R5, R6, R7, reduceCtorEq, R9, h1, h3, hob, ht, hcl, hsl, ws_length, ws_take, tk1, tk2, tk3, tk4, tk5, tk6, tk7, tk8, and_false, false_and]; done)) | (refine Q9 ?_ ?_; focus (simp only [kS, R1, R2, R3, R4, R5, R6, R7, reduceCtorEq, R9, h1, h3, hob, ht, hcl, hsl, ws_length, ws_take, tk1, tk2, tk3, tk4, tk5, tk6, tk7, tk8, and_false, false_and]; done)) | refine Qa ?_ | refine Qb ?_ | refine Qc ?_ | refine And.intro (by first | assumption | omega) ?_)
      refine ⟨256 - (i + 1), by omega, i + 1, by omega, rfl, ?_, .inr ⟨_, _, by simp only [kS, R1, R2, R3, R4, R5, R6, R7, reduceCtorEq, R9, singles_succ, clC_append, hsl, ws_length, ws_take, tk1, tk2, tk3, tk4, tk5, tk6, tk7, tk8, and_false, false_and]; exact rfl, by simp only [kS, R1, R2, R3, R4, R5, R6, R7, reduceCtorEq, R9], by (simp only [kS, R1, R2, R3, R4, R5, R6, R7, reduceCtorEq, R9]) <;> first | omega | rfl⟩⟩
      simp only [kS, R1, R2, R3, R4, R5, R6, R7, reduceCtorEq, R9]
      rw [wrap_i64 (by omega) (by omega)]; rfl
  · have hlt' : ¬ (i : Int) < 256 := by omega
    have hi : i = 256 := by omega
    subst hi
    rcases h1 with ⟨h1, h2⟩ | ⟨d, t, h1, hob, ht⟩
    · cases h2
    · repeat (first | ((first | refine Q1 ?_ | refine Q2 ?_); intro Z hN hX hR) | refine Q3 (by kernel_rfl) fun K hK => ?_ | ((first | refine Q4 fun R hJ => ?_ | with_reducible change ExpAll _ _ _); simp only [kS, R1, R2, R3, R4, R5, R6, R7, reduceCtorEq, R9, h1, h3, hlt', decide_false]) | (refine hJ _ ?_; clear hJ R) | refine Q5 ?_ | (refine hK _ ?_; clear hK K) | ((first | refine hN _ ?_ | refine hX _ _ ?_ | refine hR _ ?_); clear hN hX hR Z) | refine Q6 rfl ?_ | refine Q7 (by decide) ?_ | (refine Q8 ?_ ?_; focus (simp only [kS, R1, R2, R3, R4, R5, R6, R7, reduceCtorEq, R9, h1, h3, hlt', decide_false]; done)) | (refine Q9 ?_ ?_; focus (simp only [kS, R1, R2, R3, R4, R5, R6, R7, reduceCtorEq, R9, h1, h3, hlt', decide_false]; done)) | refine Qa ?_ | refine Qb ?_ | refine Qc ?_ | refine And.intro (by first | assumption | omega) ?_)
      all_goals exact .inl trivial

/-- Bools, one behind another. -/
def blC (l : List Bool) : List C := l.map fun b => C.v (.bool b)
theorem blC_length (l : List Bool) : (blC l).length = l.length := by simp [blC]
theorem blC_drop (l : List Bool) (i : Nat) (h : i < l.length) : (blC l).drop i = .v (.bool l[i]) :: blC (l.drop (i + 1)) := by
  simp only [blC, ← List.map_drop, List.drop_eq_getElem_cons h, List.map_cons]

def pw (i : Nat) : Int := if i < 64 then ((2 ^ i : Nat) : Int) else 0
theorem pw_succ {i : Nat} (h : i < 64) : IntKind.u64.wrap (pw i * 2) = pw (i + 1) := by
  simp only [pw, if_pos h]
  have e : ((2 ^ i : Nat) : Int) * 2 = ((2 ^ (i + 1) : Nat) : Int) := by rw [Nat.pow_succ]; omega
  rw [e]
  by_cases h2 : i + 1 < 64
  · rw [if_pos h2]; exact wrap_u64 (pow64 h2)
  · have : i + 1 = 64 := by omega
    rw [this]; rfl

/-- The words, behind the words before w and the first i bits of word w. -/
def ofN (l : List Bool) (w i : Nat) : Nat → Nat := fun k => if k < w then bits (fun j => l.getD (64 * k + j) false) 64 else if k = w then bits (fun j => l.getD (64 * w + j) false) i else 0
theorem ofN_lt (l : List Bool) (w i : Nat) (hi : i ≤ 64) (k : Nat) : ofN l w i k < 18446744073709551616 := by
  simp only [ofN]
  split
  · have := bits_lt (fun j => l.getD (64 * k + j) false) 64; simpa using this
  · split
    · have h := bits_lt (fun j => l.getD (64 * w + j) false) i
      have h2 : 2 ^ i ≤ 2 ^ 64 := Nat.pow_le_pow_right (by omega) hi
      have : (2 : Nat) ^ 64 = 18446744073709551616 := by decide
      omega
    · omega

theorem of64_ret (gl : Gl) (l : List Bool) (hl : l.length = 256) : Ret Tryz.prog gl 69 [.c (.sl 256 (blC l))] (.agg (ws (ofN l 4 0))) := by
  refine retcA 32 Tryz.func69 (by kernel_rfl) rfl (by kernel_rfl) rfl Tryz.underlying56 (by show _ = some 4; kernel_rfl) (by simp) fun Z hN hX hR => ?_
  have z4 : ∀ k, ofN l 0 0 k = 0 := fun k => by simp only [ofN, bits]; split; omega; split <;> rfl
  repeat (first | ((first | refine Q1 ?_ | refine Q2 ?_); intro Z hN hX hR) | refine Q3 (by kernel_rfl) fun K hK => ?_ | ((first | refine Q4 fun R hJ => ?_ | with_reducible change ExpAll _ _ _); simp only [kS, R1, R2, R3, R4, R5, R6, R7, reduceCtorEq, R9]) | (refine hJ _ ?_; clear hJ R) | refine Q5 ?_ | (refine hK _ ?_; clear hK K) | ((first | refine hN _ ?_ | refine hX _ _ ?_ | refine hR _ ?_); clear hN hX hR Z) | refine Q6 rfl ?_ | refine Q7 (by decide) ?_ | (refine Q8 ?_ ?_; focus (simp only [kS, R1, R2, R3, R4, R5, R6, R7, reduceCtorEq, R9]; done)) | (refine Q9 ?_ ?_; focus (simp only [kS, R1, R2, R3, R4, R5, R6, R7, reduceCtorEq, R9]; done)) | refine Qa ?_ | refine Qb ?_ | refine Qc ?_ | refine And.intro (by first | assumption | omega) ?_)
  refine awq_loop (fun n s => ∃ w : Nat, w ≤ 4 ∧ n = 4 - w ∧ s.t 0 = .c (.sl 256 (blC l)) ∧ s.t 4 = iv (w : Int) ∧ s.t 3 = .ref 3 2 0 ∧ s.ob 3 2 = .box (ws (ofN l w 0)) ∧ s.t 2 = .ref 2 1 0 ∧ s.ob 2 1 = .box [.v (.int .u64 0), .v (.int .u64 0), .v (.int .u64 0), .v (.int .u64 0)] ∧ 2 < s.k) 4 ?_ ?_
  · refine ⟨0, by omega, rfl, by simp only [kS, R1, R2, R3, R4, R5, R6, R7, reduceCtorEq, R9], by simp only [kS, R1, R2, R3, R4, R5, R6, R7, reduceCtorEq, R9]; rfl, by simp only [kS, R1, R2, R3, R4, R5, R6, R7, reduceCtorEq, R9], ?_, by simp only [kS, R1, R2, R3, R4, R5, R6, R7, reduceCtorEq, R9], by (simp only [kS, R1, R2, R3, R4, R5, R6, R7, reduceCtorEq, R9]) <;> first | omega | rfl, by (simp only [kS, R1, R2, R3, R4, R5, R6, R7, reduceCtorEq, R9]) <;> first | omega | rfl⟩
    have e : ws (ofN l 0 0) = [.v (.int .u64 0), .v (.int .u64 0), .v (.int .u64 0), .v (.int .u64 0)] := by
      simp only [ws, z4]; rfl
    rw [e]
    simp only [kS, R1, R2, R3, R4, R5, R6, R7, reduceCtorEq, R9]
  rintro Z n s hN hX hR ⟨w, hw, rfl, h0, h4, h3, hb, h2, hb2, hkk⟩
  by_cases hlt : w < 4
  · have hlt' : (w : Int) < 4 := by omega
    repeat (first | ((first | refine Q1 ?_ | refine Q2 ?_); intro Z hN hX hR) | refine Q3 (by kernel_rfl) fun K hK => ?_ | ((first | refine Q4 fun R hJ => ?_ | with_reducible change ExpAll _ _ _); simp only [kS, R1, R2, R3, R4, R5, R6, R7, reduceCtorEq, R9, h0, h4, h3, hb, h2, hb2, hlt', decide_true]) | (refine hJ _ ?_; clear hJ R) | refine Q5 ?_ | (refine hK _ ?_; clear hK K) | ((first | refine hN _ ?_ | refine hX _ _ ?_ | refine hR _ ?_); clear hN hX hR Z) | refine Q6 rfl ?_ | refine Q7 (by decide) ?_ | (refine Q8 ?_ ?_; focus (simp only [kS, R1, R2, R3, R4, R5, R6, R7, reduceCtorEq, R9, h0, h4, h3, hb, h2, hb2, hlt', decide_true]; done)) | (refine Q9 ?_ ?_; focus (simp only [kS, R1, R2, R3, R4, R5, R6, R7, reduceCtorEq, R9, h0, h4, h3, hb, h2, hb2, hlt', decide_true]; done)) | refine Qa ?_ | refine Qb ?_ | refine Qc ?_ | refine And.intro (by first | assumption | omega) ?_)
    refine awq_loop (fun n s => ∃ i : Nat, i ≤ 64 ∧ n = 64 - i ∧ s.t 0 = .c (.sl 256 (blC l)) ∧ s.t 4 = iv (w : Int) ∧ s.t 6 = iv (i : Int) ∧ s.t 5 = .c (.v (.int .u64 (pw i))) ∧ s.t 3 = .ref 3 2 0 ∧ s.ob 3 2 = .box (ws (ofN l w i)) ∧ s.t 2 = .ref 2 1 0 ∧ s.ob 2 1 = .box [.v (.int .u64 0), .v (.int .u64 0), .v (.int .u64 0), .v (.int .u64 0)] ∧ 2 < s.k) 64 ?_ ?_
    · exact ⟨0, by omega, rfl, by simp only [kS, R1, R2, R3, R4, R5, R6, R7, reduceCtorEq, R9, h0], by simp only [kS, R1, R2, R3, R4, R5, R6, R7, reduceCtorEq, R9, h4], by simp only [kS, R1, R2, R3, R4, R5, R6, R7, reduceCtorEq, R9]; rfl, by simp only [kS, R1, R2, R3, R4, R5, R6, R7, reduceCtorEq, R9]; rfl, by simp only [kS, R1, R2, R3, R4, R5, R6, R7, reduceCtorEq, R9, h3], by simp only [kS, R1, R2, R3, R4, R5, R6, R7, reduceCtorEq, R9, hb], by simp only [kS, R1, R2, R3, R4, R5, R6, R7, reduceCtorEq, R9, h2], by simp only [kS, R1, R2, R3, R4, R5, R6, R7, reduceCtorEq, R9, hb2], by (simp only [kS, R1, R2, R3, R4, R5, R6, R7, reduceCtorEq, R9]) <;> first | omega | rfl⟩
    rintro Z n s hN hX hR ⟨i, hi, rfl, h0, h4, h6, h5, h3, hb, h2, hb2, hkk⟩
    by_cases hlt2 : i < 64
    · have hlt2' : (i : Int) < 64 := by omega
      have hw1 : IntKind.i64.wrap (64 * (w : Int)) = ((64 * w : Nat) : Int) := by rw [wrap_i64 (by omega) (by omega)]; omega
      have hw2 : IntKind.i64.wrap (((64 * w : Nat) : Int) + (i : Int)) = ((64 * w + i : Nat) : Int) := by rw [wrap_i64 (by omega) (by omega)]; omega
      have hw3 : ((64 * w + i : Nat) : Int) < 256 := by omega
      have hin : 64 * w + i < l.length := by omega
      have dl := blC_drop l (64 * w + i) hin
      have hbl := blC_length l
      rw [hl] at hbl
      have d1 := ws_drop (ofN l w i) hlt
      have p1 := ws_put (ofN l w i) hlt
      have hpw : pw i = ((2 ^ i : Nat) : Int) := by simp only [pw, if_pos hlt2]
      have hgw : ofN l w i w = bits (fun j => l.getD (64 * w + j) false) i := by simp [ofN]
      have hlt3 := bits_lt (fun j => l.getD (64 * w + j) false) (i + 1)
      have hle3 : 2 ^ (i + 1) ≤ 2 ^ 64 := Nat.pow_le_pow_right (by omega) (by omega)
      have h64 : (2 : Nat) ^ 64 = 18446744073709551616 := by decide
      have hpn := pw_succ hlt2
      have hget : l.getD (64 * w + i) false = l[64 * w + i] := by simp [List.getD, hin]
      cases hc : l[64 * w + i]
      · have hs : ws (ofN l w (i + 1)) = ws (ofN l w i) := ws_congr fun k _ => by
          simp only [ofN, bits, hget, hc]
          rfl
        rw [hc] at dl
        repeat (first | ((first | refine Q1 ?_ | refine Q2 ?_); intro Z hN hX hR) | refine Q3 (by kernel_rfl) fun K hK => ?_ | ((first | refine Q4 fun R hJ => ?_ | with_reducible change ExpAll _ _ _); simp only [kS, R1, R2, R3, R4, R5, R6, R7, reduceCtorEq, R9, h0, h4, h6, h5, h3, hb, h2, hb2, hlt2', hw1, hw2, hw3, dl, hbl, hpn, decide_true]) | (refine hJ _ ?_; clear hJ R) | refine Q5 ?_ | (refine hK _ ?_; clear hK K) | ((first | refine hN _ ?_ | refine hX _ _ ?_ | refine hR _ ?_); clear hN hX hR Z) | refine Q6 rfl ?_ | refine Q7 (by decide) ?_ | (refine Q8 ?_ ?_; focus (simp only [kS, R1, R2, R3, R4, R5, R6, R7, reduceCtorEq, R9, h0, h4, h6, h5, h3, hb, h2, hb2, hlt2', hw1, hw2, hw3, dl, hbl, hpn, decide_true]; done)) | (refine Q9 ?_ ?_; focus (simp only [kS, R1, R2, R3, R4, R5, R6, R7, reduceCtorEq, R9, h0, h4, h6, h5, h3, hb, h2, hb2, hlt2', hw1, hw2, hw3, dl, hbl, hpn, decide_true]; done)) | refine Qa ?_ | refine Qb ?_ | refine Qc ?_ | refine And.intro (by first | assumption | omega) ?_)
        refine ⟨64 - (i + 1), by omega, i + 1, by omega, rfl, by simp only [kS, R1, R2, R3, R4, R5, R6, R7, reduceCtorEq, R9, h0], by simp only [kS, R1, R2, R3, R4, R5, R6, R7, reduceCtorEq, R9, h4], ?_, by simp only [kS, R1, R2, R3, R4, R5, R6, R7, reduceCtorEq, R9], by simp only [kS, R1, R2, R3, R4, R5, R6, R7, reduceCtorEq, R9, h3], by rw [hs]; simp only [kS, R1, R2, R3, R4, R5, R6, R7, reduceCtorEq, R9, hb], by simp only [kS, R1, R2, R3, R4, R5, R6, R7, reduceCtorEq, R9, h2], by simp only [kS, R1, R2, R3, R4, R5, R6, R7, reduceCtorEq, R9, hb2], by (simp only [kS, R1, R2, R3, R4, R5, R6, R7, reduceCtorEq, R9]) <;> first | omega | rfl⟩
        simp only [kS, R1, R2, R3, R4, R5, R6, R7, reduceCtorEq, R9]
        rw [wrap_i64 (by omega) (by omega)]; rfl
      · have hadd : IntKind.u64.wrap (((ofN l w i w : Nat) : Int) + pw i) = ((bits (fun j => l.getD (64 * w + j) false) (i + 1) : Nat) : Int) := by
          rw [hgw, hpw]
          have e : bits (fun j => l.getD (64 * w + j) false) (i + 1) = bits (fun j => l.getD (64 * w + j) false) i + 2 ^ i := by
            simp only [bits, hget, hc, if_true]
          rw [e] at hlt3 ⊢
          rw [← Int.natCast_add]
          exact wrap_u64 (by omega)
        have hs : ws (ofN l w (i + 1)) = ws (fun k => if k = w then bits (fun j => l.getD (64 * w + j) false) (i + 1) else ofN l w i k) := ws_congr fun k _ => by
          simp only [ofN]
          by_cases e : k = w
          · subst e; simp
          · simp [e]
        rw [hc] at dl
        repeat (first | ((first | refine Q1 ?_ | refine Q2 ?_); intro Z hN hX hR) | refine Q3 (by kernel_rfl) fun K hK => ?_ | ((first | refine Q4 fun R hJ => ?_ | with_reducible change ExpAll _ _ _); simp only [kS, R1, R2, R3, R4, R5, R6, R7, reduceCtorEq, R9, h0, h4, h6, h5, h3, hb, h2, hb2, hlt', hlt2', hw1, hw2, hw3, dl, hbl, hpn, d1, p1, hadd, ws_length, decide_true]) | (refine hJ _ ?_; clear hJ R) | refine Q5 ?_ | (refine hK _ ?_; clear hK K) | ((first | refine hN _ ?_ | refine hX _ _ ?_ | refine hR _ ?_); clear hN hX hR Z) | refine Q6 rfl ?_ | refine Q7 (by decide) ?_ | (refine Q8 ?_ ?_; focus (simp only [kS, R1, R2, R3, R4, R5, R6, R7, reduceCtorEq, R9, h0, h4, h6, h5, h3, hb, h2, hb2, hlt', hlt2', hw1, hw2, hw3, dl, hbl, hpn, d1, p1, hadd, ws_length, decide_true]; done)) | (refine Q9 ?_ ?_; focus (simp only [kS, R1, R2, R3, R4, R5, R6, R7, reduceCtorEq, R9, h0, h4, h6, h5, h3, hb, h2, hb2, hlt', hlt2', hw1, hw2, hw3, dl, hbl, hpn, d1, p1, hadd, ws_length, decide_true]; done)) | refine Qa ?_ | refine Qb ?_ | refine Qc ?_ | refine And.intro (by first | assumption | omega) ?_)
        refine ⟨64 - (i + 1), by omega, i + 1, by omega, rfl, by simp only [kS, R1, R2, R3, R4, R5, R6, R7, reduceCtorEq, R9, h0], by simp only [kS, R1, R2, R3, R4, R5, R6, R7, reduceCtorEq, R9, h4], ?_, by simp only [kS, R1, R2, R3, R4, R5, R6, R7, reduceCtorEq, R9], by simp only [kS, R1, R2, R3, R4, R5, R6, R7, reduceCtorEq, R9, h3], by rw [hs]; simp only [kS, R1, R2, R3, R4, R5, R6, R7, reduceCtorEq, R9, hb, p1], by simp only [kS, R1, R2, R3, R4, R5, R6, R7, reduceCtorEq, R9, h2], by simp only [kS, R1, R2, R3, R4, R5, R6, R7, reduceCtorEq, R9, hb2, tk1, tk2, tk3, tk4, tk5, tk6, tk7, tk8, and_false, false_and], by (simp only [kS, R1, R2, R3, R4, R5, R6, R7, reduceCtorEq, R9]) <;> first | omega | rfl⟩
        simp only [kS, R1, R2, R3, R4, R5, R6, R7, reduceCtorEq, R9]
        rw [wrap_i64 (by omega) (by omega)]; rfl
    · have hlt2' : ¬ (i : Int) < 64 := by omega
      have hi : i = 64 := by omega
      have hs : ws (ofN l (w + 1) 0) = ws (ofN l w 64) := ws_congr fun k _ => by
        simp only [ofN]
        by_cases e : k < w
        · rw [if_pos e, if_pos (by omega)]
        · by_cases e2 : k = w
          · subst e2; simp
          · rw [if_neg e, if_neg e2, if_neg (by omega)]
            simp [bits]
      rw [hi, ← hs] at hb
      repeat (first | ((first | refine Q1 ?_ | refine Q2 ?_); intro Z hN hX hR) | refine Q3 (by kernel_rfl) fun K hK => ?_ | ((first | refine Q4 fun R hJ => ?_ | with_reducible change ExpAll _ _ _); simp only [kS, R1, R2, R3, R4, R5, R6, R7, reduceCtorEq, R9, h0, h4, h6, h5, h3, hb, h2, hb2, hlt2', decide_false]) | (refine hJ _ ?_; clear hJ R) | refine Q5 ?_ | (refine hK _ ?_; clear hK K) | ((first | refine hN _ ?_ | refine hX _ _ ?_ | refine hR _ ?_); clear hN hX hR Z) | refine Q6 rfl ?_ | refine Q7 (by decide) ?_ | (refine Q8 ?_ ?_; focus (simp only [kS, R1, R2, R3, R4, R5, R6, R7, reduceCtorEq, R9, h0, h4, h6, h5, h3, hb, h2, hb2, hlt2', decide_false]; done)) | (refine Q9 ?_ ?_; focus (simp only [kS, R1, R2, R3, R4, R5, R6, R7, reduceCtorEq, R9, h0, h4, h6, h5, h3, hb, h2, hb2, hlt2', decide_false]; done)) | refine Qa ?_ | refine Qb ?_ | refine Qc ?_ | refine And.intro (by first | assumption | omega) ?_)
      refine ⟨4 - (w + 1), by omega, w + 1, by omega, rfl, by simp only [kS, R1, R2, R3, R4, R5, R6, R7, reduceCtorEq, R9, h0], ?_, by simp only [kS, R1, R2, R3, R4, R5, R6, R7, reduceCtorEq, R9, h3], by simp only [kS, R1, R2, R3, R4, R5, R6, R7, reduceCtorEq, R9, hb], by simp only [kS, R1, R2, R3, R4, R5, R6, R7, reduceCtorEq, R9, h2], by simp only [kS, R1, R2, R3, R4, R5, R6, R7, reduceCtorEq, R9, hb2], by (simp only [kS, R1, R2, R3, R4, R5, R6, R7, reduceCtorEq, R9]) <;> first | omega | rfl⟩
      simp only [kS, R1, R2, R3, R4, R5, R6, R7, reduceCtorEq, R9]
      rw [wrap_i64 (by omega) (by omega)]; rfl
  · have hlt' : ¬ (w : Int) < 4 := by omega
    have hw : w = 4 := by omega
    rw [hw] at hb
    repeat (first | ((first | refine Q1 ?_ | refine Q2 ?_); intro Z hN hX hR) | refine Q3 (by kernel_rfl) fun K hK => ?_ | ((first | refine Q4 fun R hJ => ?_ | with_reducible change ExpAll _ _ _); simp only [kS, R1, R2, R3, R4, R5, R6, R7, reduceCtorEq, R9, h0, h4, h3, hb, h2, hb2, hlt', ws_length, ws_take, decide_false]) | (refine hJ _ ?_; clear hJ R) | refine Q5 ?_ | (refine hK _ ?_; clear hK K) | ((first | refine hN _ ?_ | refine hX _ _ ?_ | refine hR _ ?_); clear hN hX hR Z) | refine Q6 rfl ?_ | refine Q7 (by decide) ?_ | (refine Q8 ?_ ?_; focus (simp only [kS, R1, R2, R3, R4, R5, R6, R7, reduceCtorEq, R9, h0, h4, h3, hb, h2, hb2, hlt', ws_length, ws_take, decide_false]; done)) | (refine Q9 ?_ ?_; focus (simp only [kS, R1, R2, R3, R4, R5, R6, R7, reduceCtorEq, R9, h0, h4, h3, hb, h2, hb2, hlt', ws_length, ws_take, decide_false]; done)) | refine Qa ?_ | refine Qb ?_ | refine Qc ?_ | refine And.intro (by first | assumption | omega) ?_)
    all_goals exact ⟨1, by (simp only [kS, R1, R2, R3, R4, R5, R6, R7, reduceCtorEq, R9]) <;> first | omega | rfl, by simp only [kS, R1, R2, R3, R4, R5, R6, R7, reduceCtorEq, R9, ws_length]⟩

end Go.Proofs.YtilhjiopbbbgmaaGreatDoor

/- What items read: the steps of the package next. -/
namespace Go.Proofs.YtilhjiopbbbgmaaGreatDoor
open Nat renaming reduceSub → R1, reduceMul → R2, reduceLeDiff → R3, reducePow → R4, reduceBEq → R5, reduceAdd → R6, reduceEqDiff → R7
open Int renaming reduceToNat → R9
open Go Go.RowKit Am
set_option linter.unusedVariables false
set_option linter.unusedSimpArgs false
set_option maxHeartbeats 4000000
attribute [local irreducible] AWp AOps

/-- A node's class. -/
def Nd.g (n : Nd) : Nat → Nat := fun k => (if k = 0 then n.c0 else if k = 1 then n.c1 else if k = 2 then n.c2 else n.c3).toNat
structure CW (n : Nd) : Prop where
  h0 : 0 ≤ n.c0 ∧ n.c0 < 18446744073709551616
  h1 : 0 ≤ n.c1 ∧ n.c1 < 18446744073709551616
  h2 : 0 ≤ n.c2 ∧ n.c2 < 18446744073709551616
  h3 : 0 ≤ n.c3 ∧ n.c3 < 18446744073709551616
theorem CW.lt {n : Nd} (h : CW n) (k : Nat) : n.g k < 18446744073709551616 := by
  obtain ⟨h0, h1, h2, h3⟩ := h
  simp only [Nd.g]
  split
  · omega
  · split
    · omega
    · split <;> omega
theorem CW.ws {n : Nd} (h : CW n) : ws n.g = [.v (.int .u64 n.c0), .v (.int .u64 n.c1), .v (.int .u64 n.c2), .v (.int .u64 n.c3)] := by
  obtain ⟨h0, h1, h2, h3⟩ := h
  simp only [Go.Proofs.YtilhjiopbbbgmaaGreatDoor.ws, Nd.g]
  simp [Int.toNat_of_nonneg h0.1, Int.toNat_of_nonneg h1.1, Int.toNat_of_nonneg h2.1, Int.toNat_of_nonneg h3.1]

theorem st_frame_ret (gl : Gl) (n : Nd) (a : Int) : Ret Tryz.prog gl 183 [.agg n.c, iv a] (.c (stC [⟨1, n.a, 0, 0⟩, ⟨5, 0, a, 0⟩])) := by
  refine retq (rs := [4]) 11 Tryz.func183 (by kernel_rfl) rfl (by kernel_rfl) rfl (by simp) (by simp) fun Z hN hX hR => ?_
  simp only [Nd.c]
  repeat (first | ((first | refine Q1 ?_ | refine Q2 ?_); intro Z hN hX hR) | refine Q3 (by kernel_rfl) fun K hK => ?_ | ((first | refine Q4 fun R hJ => ?_ | with_reducible change ExpAll _ _ _); simp only [kS, R1, R2, R3, R4, R5, R6, R7, reduceCtorEq, R9, Nd.c]) | (refine hJ _ ?_; clear hJ R) | refine Q5 ?_ | (refine hK _ ?_; clear hK K) | ((first | refine hN _ ?_ | refine hX _ _ ?_ | refine hR _ ?_); clear hN hX hR Z) | refine Q6 rfl ?_ | refine Q7 (by decide) ?_ | (refine Q8 ?_ ?_; focus (simp only [kS, R1, R2, R3, R4, R5, R6, R7, reduceCtorEq, R9, Nd.c]; done)) | (refine Q9 ?_ ?_; focus (simp only [kS, R1, R2, R3, R4, R5, R6, R7, reduceCtorEq, R9, Nd.c]; done)) | refine Qa ?_ | refine Qb ?_ | refine Qc ?_ | refine And.intro (by first | assumption | omega) ?_)
  all_goals exact .inl rfl

/-- A step's cells. -/
def stepC (n : Nd) (x : It) (c : Nat) : List C := n.c ++ x.c ++ [.v (.int .u8 (c : Int))]

def nodeF (n : Nd) (x : It) (c : Nat) : List It × Bool :=
  if (n.k == 8) = true then ([⟨1, n.a, 0, 0⟩, ⟨5, 0, c, 0⟩], true) else if (n.k == 9) = true then ([⟨4, x.n, c, 0⟩], true) else ([], hasN n.g c)

theorem st_node_ret (gl : Gl) (n : Nd) (hn : CW n) (x : It) (c : Nat) (hc : c < 256) : Ret Tryz.prog gl 181 [.agg (stepC n x c)] (.tup [.c (stC (nodeF n x c).1), bv (nodeF n x c).2]) := by
  refine retq (rs := [2, 3]) 31 Tryz.func181 (by kernel_rfl) rfl (by kernel_rfl) rfl (by simp) (by simp) fun Z hN hX hR => ?_
  have hcv : IntKind.i64.wrap (c : Int) = (c : Int) := wrap_i64 (by omega) (by omega)
  have hf := st_frame_ret gl n (c : Int)
  have hh := has126_ret gl n.g hn.lt c hc
  rw [hn.ws] at hh
  simp only [Nd.c] at hf
  cases g8 : (n.k == 8)
  · cases g9 : (n.k == 9)
    · repeat (first | ((first | refine Q1 ?_ | refine Q2 ?_); intro Z hN hX hR) | refine Q3 (by kernel_rfl) fun K hK => ?_ | ((first | refine Q4 fun R hJ => ?_ | with_reducible change ExpAll _ _ _); simp only [kS, R1, R2, R3, R4, R5, R6, R7, reduceCtorEq, R9, stepC, Nd.c, It.c, g8, g9]) | (refine hJ _ ?_; clear hJ R) | refine Q5 ?_ | (refine hK _ ?_; clear hK K) | ((first | refine hN _ ?_ | refine hX _ _ ?_ | refine hR _ ?_); clear hN hX hR Z) | refine Q6 rfl ?_ | refine Q7 (by decide) ?_ | (refine Q8 ?_ ?_; focus (simp only [kS, R1, R2, R3, R4, R5, R6, R7, reduceCtorEq, R9, stepC, Nd.c, It.c, g8, g9]; done)) | (refine Q9 ?_ ?_; focus (simp only [kS, R1, R2, R3, R4, R5, R6, R7, reduceCtorEq, R9, stepC, Nd.c, It.c, g8, g9]; done)) | refine Qa ?_ | refine Qb ?_ | refine Qc ?_ | refine And.intro (by first | assumption | omega) ?_)
      refine ⟨_, hh, rfl, ?_⟩
      simp only [kS, R1, R2, R3, R4, R5, R6, R7, reduceCtorEq, R9]
      repeat (first | ((first | refine Q1 ?_ | refine Q2 ?_); intro Z hN hX hR) | refine Q3 (by kernel_rfl) fun K hK => ?_ | ((first | refine Q4 fun R hJ => ?_ | with_reducible change ExpAll _ _ _); simp only [kS, R1, R2, R3, R4, R5, R6, R7, reduceCtorEq, R9]) | (refine hJ _ ?_; clear hJ R) | refine Q5 ?_ | (refine hK _ ?_; clear hK K) | ((first | refine hN _ ?_ | refine hX _ _ ?_ | refine hR _ ?_); clear hN hX hR Z) | refine Q6 rfl ?_ | refine Q7 (by decide) ?_ | (refine Q8 ?_ ?_; focus (simp only [kS, R1, R2, R3, R4, R5, R6, R7, reduceCtorEq, R9]; done)) | (refine Q9 ?_ ?_; focus (simp only [kS, R1, R2, R3, R4, R5, R6, R7, reduceCtorEq, R9]; done)) | refine Qa ?_ | refine Qb ?_ | refine Qc ?_ | refine And.intro (by first | assumption | omega) ?_)
      simp only [nodeF, g8, g9]
      first | rfl | exact ⟨_, rfl, rfl, rfl, trivial⟩
    · repeat (first | ((first | refine Q1 ?_ | refine Q2 ?_); intro Z hN hX hR) | refine Q3 (by kernel_rfl) fun K hK => ?_ | ((first | refine Q4 fun R hJ => ?_ | with_reducible change ExpAll _ _ _); simp only [kS, R1, R2, R3, R4, R5, R6, R7, reduceCtorEq, R9, stepC, Nd.c, It.c, g8, g9, hcv]) | (refine hJ _ ?_; clear hJ R) | refine Q5 ?_ | (refine hK _ ?_; clear hK K) | ((first | refine hN _ ?_ | refine hX _ _ ?_ | refine hR _ ?_); clear hN hX hR Z) | refine Q6 rfl ?_ | refine Q7 (by decide) ?_ | (refine Q8 ?_ ?_; focus (simp only [kS, R1, R2, R3, R4, R5, R6, R7, reduceCtorEq, R9, stepC, Nd.c, It.c, g8, g9, hcv]; done)) | (refine Q9 ?_ ?_; focus (simp only [kS, R1, R2, R3, R4, R5, R6, R7, reduceCtorEq, R9, stepC, Nd.c, It.c, g8, g9, hcv]; done)) | refine Qa ?_ | refine Qb ?_ | refine Qc ?_ | refine And.intro (by first | assumption | omega) ?_)
      simp only [nodeF, g8, g9]
      first | rfl | exact ⟨_, rfl, rfl, rfl, trivial⟩
  · repeat (first | ((first | refine Q1 ?_ | refine Q2 ?_); intro Z hN hX hR) | refine Q3 (by kernel_rfl) fun K hK => ?_ | ((first | refine Q4 fun R hJ => ?_ | with_reducible change ExpAll _ _ _); simp only [kS, R1, R2, R3, R4, R5, R6, R7, reduceCtorEq, R9, stepC, Nd.c, It.c, g8, hcv]) | (refine hJ _ ?_; clear hJ R) | refine Q5 ?_ | (refine hK _ ?_; clear hK K) | ((first | refine hN _ ?_ | refine hX _ _ ?_ | refine hR _ ?_); clear hN hX hR Z) | refine Q6 rfl ?_ | refine Q7 (by decide) ?_ | (refine Q8 ?_ ?_; focus (simp only [kS, R1, R2, R3, R4, R5, R6, R7, reduceCtorEq, R9, stepC, Nd.c, It.c, g8, hcv]; done)) | (refine Q9 ?_ ?_; focus (simp only [kS, R1, R2, R3, R4, R5, R6, R7, reduceCtorEq, R9, stepC, Nd.c, It.c, g8, hcv]; done)) | refine Qa ?_ | refine Qb ?_ | refine Qc ?_ | refine And.intro (by first | assumption | omega) ?_)
    refine ⟨_, hf, rfl, ?_⟩
    simp only [kS, R1, R2, R3, R4, R5, R6, R7, reduceCtorEq, R9]
    repeat (first | ((first | refine Q1 ?_ | refine Q2 ?_); intro Z hN hX hR) | refine Q3 (by kernel_rfl) fun K hK => ?_ | ((first | refine Q4 fun R hJ => ?_ | with_reducible change ExpAll _ _ _); simp only [kS, R1, R2, R3, R4, R5, R6, R7, reduceCtorEq, R9]) | (refine hJ _ ?_; clear hJ R) | refine Q5 ?_ | (refine hK _ ?_; clear hK K) | ((first | refine hN _ ?_ | refine hX _ _ ?_ | refine hR _ ?_); clear hN hX hR Z) | refine Q6 rfl ?_ | refine Q7 (by decide) ?_ | (refine Q8 ?_ ?_; focus (simp only [kS, R1, R2, R3, R4, R5, R6, R7, reduceCtorEq, R9]; done)) | (refine Q9 ?_ ?_; focus (simp only [kS, R1, R2, R3, R4, R5, R6, R7, reduceCtorEq, R9]; done)) | refine Qa ?_ | refine Qb ?_ | refine Qc ?_ | refine And.intro (by first | assumption | omega) ?_)
    simp only [nodeF, g8]
    first | rfl | exact ⟨_, rfl, rfl, rfl, trivial⟩

theorem st_half_ret (gl : Gl) (n : Nd) (x : It) (hx : 0 ≤ x.lo ∧ x.lo ≤ 1000000) (c : Nat) (hc : c < 256) : Ret Tryz.prog gl 178 [.agg (stepC n x c)] (.tup [.c (stC [⟨1, n.a, 0, 0⟩, ⟨5, 0, 256 * x.lo + c, 0⟩]), bv true]) := by
  refine retq (rs := [2, 3]) 15 Tryz.func178 (by kernel_rfl) rfl (by kernel_rfl) rfl (by simp) (by simp) fun Z hN hX hR => ?_
  have hcv : IntKind.i64.wrap (c : Int) = (c : Int) := wrap_i64 (by omega) (by omega)
  have hm : IntKind.i64.wrap (256 * x.lo) = 256 * x.lo := wrap_i64 (by omega) (by omega)
  have ha : IntKind.i64.wrap (256 * x.lo + c) = 256 * x.lo + c := wrap_i64 (by omega) (by omega)
  have hf := st_frame_ret gl n (256 * x.lo + c)
  simp only [Nd.c] at hf
  repeat (first | ((first | refine Q1 ?_ | refine Q2 ?_); intro Z hN hX hR) | refine Q3 (by kernel_rfl) fun K hK => ?_ | ((first | refine Q4 fun R hJ => ?_ | with_reducible change ExpAll _ _ _); simp only [kS, R1, R2, R3, R4, R5, R6, R7, reduceCtorEq, R9, stepC, Nd.c, It.c, hcv, hm, ha]) | (refine hJ _ ?_; clear hJ R) | refine Q5 ?_ | (refine hK _ ?_; clear hK K) | ((first | refine hN _ ?_ | refine hX _ _ ?_ | refine hR _ ?_); clear hN hX hR Z) | refine Q6 rfl ?_ | refine Q7 (by decide) ?_ | (refine Q8 ?_ ?_; focus (simp only [kS, R1, R2, R3, R4, R5, R6, R7, reduceCtorEq, R9, stepC, Nd.c, It.c, hcv, hm, ha]; done)) | (refine Q9 ?_ ?_; focus (simp only [kS, R1, R2, R3, R4, R5, R6, R7, reduceCtorEq, R9, stepC, Nd.c, It.c, hcv, hm, ha]; done)) | refine Qa ?_ | refine Qb ?_ | refine Qc ?_ | refine And.intro (by first | assumption | omega) ?_)
  refine ⟨_, hf, rfl, ?_⟩
  simp only [kS, R1, R2, R3, R4, R5, R6, R7, reduceCtorEq, R9]
  repeat (first | ((first | refine Q1 ?_ | refine Q2 ?_); intro Z hN hX hR) | refine Q3 (by kernel_rfl) fun K hK => ?_ | ((first | refine Q4 fun R hJ => ?_ | with_reducible change ExpAll _ _ _); simp only [kS, R1, R2, R3, R4, R5, R6, R7, reduceCtorEq, R9]) | (refine hJ _ ?_; clear hJ R) | refine Q5 ?_ | (refine hK _ ?_; clear hK K) | ((first | refine hN _ ?_ | refine hX _ _ ?_ | refine hR _ ?_); clear hN hX hR Z) | refine Q6 rfl ?_ | refine Q7 (by decide) ?_ | (refine Q8 ?_ ?_; focus (simp only [kS, R1, R2, R3, R4, R5, R6, R7, reduceCtorEq, R9]; done)) | (refine Q9 ?_ ?_; focus (simp only [kS, R1, R2, R3, R4, R5, R6, R7, reduceCtorEq, R9]; done)) | refine Qa ?_ | refine Qb ?_ | refine Qc ?_ | refine And.intro (by first | assumption | omega) ?_)
  first | rfl | exact ⟨_, rfl, rfl, rfl, trivial⟩

def textF (n : Nd) (x : It) (c : Nat) : List It × Bool := (if x.lo + 1 = n.s.size then [] else [⟨x.k, x.n, x.lo + 1, x.hi⟩], bAt n.s x.lo == c)

theorem st_text_ret (gl : Gl) (n : Nd) (x : It) (hx : 0 ≤ x.lo ∧ x.lo < n.s.size) (hs : n.s.size ≤ 1000000) (c : Nat) (hc : c < 256) : Ret Tryz.prog gl 182 [.agg (stepC n x c)] (.tup [.c (stC (textF n x c).1), bv (textF n x c).2]) := by
  refine retq (rs := [2, 3]) 40 Tryz.func182 (by kernel_rfl) rfl (by kernel_rfl) rfl (by simp) (by simp) fun Z hN hX hR => ?_
  have ha : IntKind.i64.wrap (x.lo + 1) = x.lo + 1 := wrap_i64 (by omega) (by omega)
  obtain ⟨l1, l2⟩ := hx
  by_cases g : x.lo + 1 = n.s.size
  · have g' : (x.lo + 1 == (n.s.size : Int)) = true := by simpa using g
    repeat (first | ((first | refine Q1 ?_ | refine Q2 ?_); intro Z hN hX hR) | refine Q3 (by kernel_rfl) fun K hK => ?_ | ((first | refine Q4 fun R hJ => ?_ | with_reducible change ExpAll _ _ _); simp only [kS, R1, R2, R3, R4, R5, R6, R7, reduceCtorEq, R9, stepC, Nd.c, It.c, ha, g', l1, l2]) | (refine hJ _ ?_; clear hJ R) | refine Q5 ?_ | (refine hK _ ?_; clear hK K) | ((first | refine hN _ ?_ | refine hX _ _ ?_ | refine hR _ ?_); clear hN hX hR Z) | refine Q6 rfl ?_ | refine Q7 (by decide) ?_ | (refine Q8 ?_ ?_; focus (simp only [kS, R1, R2, R3, R4, R5, R6, R7, reduceCtorEq, R9, stepC, Nd.c, It.c, ha, g', l1, l2]; done)) | (refine Q9 ?_ ?_; focus (simp only [kS, R1, R2, R3, R4, R5, R6, R7, reduceCtorEq, R9, stepC, Nd.c, It.c, ha, g', l1, l2]; done)) | refine Qa ?_ | refine Qb ?_ | refine Qc ?_ | refine And.intro (by first | assumption | omega) ?_)
    simp only [textF, g]
    first | rfl | exact ⟨_, rfl, rfl, rfl, trivial⟩
  · have g' : (x.lo + 1 == (n.s.size : Int)) = false := by simpa using g
    repeat (first | ((first | refine Q1 ?_ | refine Q2 ?_); intro Z hN hX hR) | refine Q3 (by kernel_rfl) fun K hK => ?_ | ((first | refine Q4 fun R hJ => ?_ | with_reducible change ExpAll _ _ _); simp only [kS, R1, R2, R3, R4, R5, R6, R7, reduceCtorEq, R9, stepC, Nd.c, It.c, ha, g', l1, l2]) | (refine hJ _ ?_; clear hJ R) | refine Q5 ?_ | (refine hK _ ?_; clear hK K) | ((first | refine hN _ ?_ | refine hX _ _ ?_ | refine hR _ ?_); clear hN hX hR Z) | refine Q6 rfl ?_ | refine Q7 (by decide) ?_ | (refine Q8 ?_ ?_; focus (simp only [kS, R1, R2, R3, R4, R5, R6, R7, reduceCtorEq, R9, stepC, Nd.c, It.c, ha, g', l1, l2]; done)) | (refine Q9 ?_ ?_; focus (simp only [kS, R1, R2, R3, R4, R5, R6, R7, reduceCtorEq, R9, stepC, Nd.c, It.c, ha, g', l1, l2]; done)) | refine Qa ?_ | refine Qb ?_ | refine Qc ?_ | refine And.intro (by first | assumption | omega) ?_)
    simp only [textF, g]
    first | rfl | exact ⟨_, rfl, rfl, rfl, trivial⟩

end Go.Proofs.YtilhjiopbbbgmaaGreatDoor

/- The arguments: what is read as data lies as the abstract machine has it. -/
namespace Go.Proofs.YtilhjiopbbbgmaaGreatDoor
open Go Go.RowKit Am
set_option linter.unusedVariables false
set_option linter.unusedSimpArgs false

theorem list4 {α : Type} : ∀ (l : List α), l.length = 4 → ∃ a b c d, l = [a, b, c, d]
  | [a, b, c, d], _ => ⟨a, b, c, d, rfl⟩
theorem list7 {α : Type} : ∀ (l : List α), l.length = 7 → ∃ a b c d e f g, l = [a, b, c, d, e, f, g]
  | [a, b, c, d, e, f, g], _ => ⟨a, b, c, d, e, f, g, rfl⟩
theorem list10 {α : Type} : ∀ (l : List α), l.length = 10 → ∃ a b c d e f g h i j, l = [a, b, c, d, e, f, g, h, i, j]
  | [a, b, c, d, e, f, g, h, i, j], _ => ⟨a, b, c, d, e, f, g, h, i, j, rfl⟩

section
variable {H : Type} {enc : TypeId × Value → H} {w : World} {base n : Nat} {sp : Nat → Bool} {held : Bool} {cs : List Value} {y : DataW H × List MemPlace}

theorem one_int {t : TypeId} {k : IntKind} (ht : Tryz.prog.underlying t = some (.int k)) {c : Value} {m : Nat} {z : DataW H × List MemPlace} (h : DataW.trod enc Tryz.prog w base sp held m t [c] = some z) : ∃ x, c = .int k x ∧ (Lit.int k x).wf = true := by
  obtain ⟨x, e, _, hw⟩ := DataW.trod_int ht h
  exact ⟨x, by simpa using e, hw⟩

theorem item_of (h : DataW.trod enc Tryz.prog w base sp held n 64 cs = some y) : ∃ x : It, cs = [.int .i64 x.k, .int .i64 x.n, .int .i64 x.lo, .int .i64 x.hi] := by
  obtain ⟨xs, m, rfl, rfl, hl, hlen, hf⟩ := DataW.trod_struct Tryz.underlying64 h
  have c40 : Tryz.prog.cellsOf 64 = 4 := by kernel_rfl
  have c3 : Tryz.prog.cellsOf 3 = 1 := by kernel_rfl
  rw [c40] at hl
  obtain ⟨a0, a1, a2, a3, rfl⟩ := list4 cs hl
  obtain ⟨x0, x1, x2, x3, rfl⟩ := list4 xs hlen
  have f0 : DataW.trod enc Tryz.prog w base sp held m 3 [a0] = some x0 := by simpa [c3] using hf 0 _ rfl
  have f1 : DataW.trod enc Tryz.prog w base sp held m 3 [a1] = some x1 := by simpa [c3] using hf 1 _ rfl
  have f2 : DataW.trod enc Tryz.prog w base sp held m 3 [a2] = some x2 := by simpa [c3] using hf 2 _ rfl
  have f3 : DataW.trod enc Tryz.prog w base sp held m 3 [a3] = some x3 := by simpa [c3] using hf 3 _ rfl
  obtain ⟨k0, rfl, _⟩ := one_int Tryz.underlying3 f0
  obtain ⟨k1, rfl, _⟩ := one_int Tryz.underlying3 f1
  obtain ⟨k2, rfl, _⟩ := one_int Tryz.underlying3 f2
  obtain ⟨k3, rfl, _⟩ := one_int Tryz.underlying3 f3
  exact ⟨⟨k0, k1, k2, k3⟩, rfl⟩

theorem node_of (h : DataW.trod enc Tryz.prog w base sp held n 59 cs = some y) : ∃ x : Nd, cs = [.int .i64 x.k, .int .i64 x.a, .int .i64 x.b, .int .i64 x.lo, .int .i64 x.hi, .int .u64 x.c0, .int .u64 x.c1, .int .u64 x.c2, .int .u64 x.c3, .string x.s] ∧
    (∃ p0 p1 p2 p3 p4 p5, y.1 = .agg [p0, p1, p2, p3, p4, p5, .lit (.string x.s.data.toList)]) ∧ CW x := by
  obtain ⟨xs, m, rfl, rfl, hl, hlen, hf⟩ := DataW.trod_struct Tryz.underlying59 h
  have c54 : Tryz.prog.cellsOf 59 = 10 := by kernel_rfl
  have c3 : Tryz.prog.cellsOf 3 = 1 := by kernel_rfl
  have c9 : Tryz.prog.cellsOf 9 = 1 := by kernel_rfl
  have c46 : Tryz.prog.cellsOf 56 = 4 := by kernel_rfl
  have c44 : Tryz.prog.cellsOf 54 = 1 := by kernel_rfl
  rw [c54] at hl
  obtain ⟨a0, a1, a2, a3, a4, a5, a6, a7, a8, a9, rfl⟩ := list10 cs hl
  obtain ⟨x0, x1, x2, x3, x4, x5, x6, rfl⟩ := list7 xs hlen
  have f0 : DataW.trod enc Tryz.prog w base sp held m 3 [a0] = some x0 := by simpa [c3, c46, c9] using hf 0 _ rfl
  have f1 : DataW.trod enc Tryz.prog w base sp held m 3 [a1] = some x1 := by simpa [c3, c46, c9] using hf 1 _ rfl
  have f2 : DataW.trod enc Tryz.prog w base sp held m 3 [a2] = some x2 := by simpa [c3, c46, c9] using hf 2 _ rfl
  have f3 : DataW.trod enc Tryz.prog w base sp held m 3 [a3] = some x3 := by simpa [c3, c46, c9] using hf 3 _ rfl
  have f4 : DataW.trod enc Tryz.prog w base sp held m 3 [a4] = some x4 := by simpa [c3, c46, c9] using hf 4 _ rfl
  have f5 : DataW.trod enc Tryz.prog w base sp held m 56 [a5, a6, a7, a8] = some x5 := by simpa [c3, c46, c9] using hf 5 _ rfl
  have f6 : DataW.trod enc Tryz.prog w base sp held m 9 [a9] = some x6 := by simpa [c3, c46, c9] using hf 6 _ rfl
  obtain ⟨k0, rfl, _⟩ := one_int Tryz.underlying3 f0
  obtain ⟨k1, rfl, _⟩ := one_int Tryz.underlying3 f1
  obtain ⟨k2, rfl, _⟩ := one_int Tryz.underlying3 f2
  obtain ⟨k3, rfl, _⟩ := one_int Tryz.underlying3 f3
  obtain ⟨k4, rfl, _⟩ := one_int Tryz.underlying3 f4
  obtain ⟨s, e9, e9', _⟩ := DataW.trod_string Tryz.underlying9 f6
  obtain ⟨ys, m', rfl, _, _, hyl, hy⟩ := DataW.trod_array Tryz.underlying56 f5
  obtain ⟨y0, y1, y2, y3, rfl⟩ := list4 ys hyl
  have g0 : DataW.trod enc Tryz.prog w base sp held m' 54 [a5] = some y0 := by simpa [c44] using hy 0 (by decide)
  have g1 : DataW.trod enc Tryz.prog w base sp held m' 54 [a6] = some y1 := by simpa [c44] using hy 1 (by decide)
  have g2 : DataW.trod enc Tryz.prog w base sp held m' 54 [a7] = some y2 := by simpa [c44] using hy 2 (by decide)
  have g3 : DataW.trod enc Tryz.prog w base sp held m' 54 [a8] = some y3 := by simpa [c44] using hy 3 (by decide)
  obtain ⟨u0, rfl, w0⟩ := one_int Tryz.underlying54 g0
  obtain ⟨u1, rfl, w1⟩ := one_int Tryz.underlying54 g1
  obtain ⟨u2, rfl, w2⟩ := one_int Tryz.underlying54 g2
  obtain ⟨u3, rfl, w3⟩ := one_int Tryz.underlying54 g3
  have e9 : a9 = .string s := by simpa using e9
  subst e9
  have wf64 : ∀ n : Int, (Lit.int .u64 n).wf = true → 0 ≤ n ∧ n < 18446744073709551616 := fun n h => by
    have e1 : IntKind.u64.min = 0 := by decide
    have e2 : IntKind.u64.max = 18446744073709551615 := by decide
    simp [Lit.wf, e1, e2] at h
    omega
  refine ⟨⟨k0, k1, k2, k3, k4, u0, u1, u2, u3, s⟩, rfl, ⟨x0.1, x1.1, x2.1, x3.1, x4.1, x5.1, ?_⟩, wf64 _ w0, wf64 _ w1, wf64 _ w2, wf64 _ w3⟩
  have : x6.1 = .lit (.string s.data.toList) := by rw [e9']
  simp only [List.map_cons, List.map_nil, this]
end

theorem repM_flat {α : Type} {w : World} {G : Am.Good} (f : α → List C) (z : Nat) (hz : ∀ x, (f x).length = z) : ∀ (l : List α) (b o : Nat), (∀ i (h : i < l.length), RepM w G (f l[i]) b (o + i * z)) → RepM w G (l.flatMap f) b o
  | [], b, o, _ => by simp [RepM]
  | x :: l, b, o, h => by
    rw [List.flatMap_cons, RepM.append]
    refine ⟨by have := h 0 (by simp); simp only [List.getElem_cons_zero, Nat.zero_mul, Nat.add_zero] at this; exact this, ?_⟩
    rw [hz]
    refine repM_flat f z hz l b (o + z) fun i hi => ?_
    have := h (i + 1) (by simp; omega)
    simp only [List.getElem_cons_succ] at this
    rwa [show o + (i + 1) * z = o + z + i * z by rw [Nat.add_mul]; omega] at this

theorem addr_add (a : Addr) (i j : Nat) : (a.add i).add j = a.add (i + j) := by
  unfold Addr.add
  by_cases hi : i = 0
  · subst hi; simp
  · by_cases hj : j = 0
    · subst hj; simp [hi]
    · simp [hi, hj, Nat.add_assoc]

theorem plain_of_cell {w : World} {a : Addr} {v : Value} (h : w.cell? a = some v) : ∃ b o, a = ⟨b, o, none⟩ ∧ b < w.heap.size := by
  obtain ⟨b, o, sp⟩ := a
  unfold World.cell? at h
  cases sp with
  | none =>
    refine ⟨b, o, rfl, ?_⟩
    rcases Nat.lt_or_ge b w.heap.size with h' | h'
    · exact h'
    · simp [Array.getElem?_eq_none h'] at h
  | some x => split at h <;> simp at h

/-- The cells of a slice's elements lie as the list has it. -/
theorem rows_rep {α : Type} [Inhabited α] {w : World} (f : α → List C) (vals : α → List Value) (z : Nat) (hz : ∀ x, (f x).length = z) (hz0 : 0 < z) (hrep : ∀ x (G : Am.Good), RepL w G (f x) (vals x)) (a : Addr) (len cap : Nat) (hcap : len ≤ cap)
    (h : ∀ i, i < len → ∃ x, w.cells? 0 (a.add (i * z)) z = some (vals x)) :
    ∃ l : List α, l.length = len ∧ RepC w (fun b _ => b < w.heap.size) (.sl l.length (l.flatMap f)) (.slice (some a) len cap) ∧ ∀ i (hi : i < l.length), w.cells? 0 (a.add (i * z)) z = some (vals l[i]) := by
  have ch : ∀ i, ∃ x, i < len → w.cells? 0 (a.add (i * z)) z = some (vals x) := fun i => by
    by_cases hi : i < len
    · obtain ⟨x, hx⟩ := h i hi; exact ⟨x, fun _ => hx⟩
    · exact ⟨default, fun h => absurd h hi⟩
  obtain ⟨g, hg⟩ := Classical.axiomOfChoice ch
  have hl : ((List.range len).map g).length = len := by simp
  have hget : ∀ i (hi : i < ((List.range len).map g).length), ((List.range len).map g)[i] = g i := fun i hi => by simp
  refine ⟨(List.range len).map g, hl, ?_, fun i hi => by rw [hget]; exact hg i (by omega)⟩
  simp only [RepC]
  refine ⟨some a, cap, by rw [hl], by rw [hl]; exact hcap, ?_⟩
  by_cases h0 : len = 0
  · subst h0; exact .inl rfl
  · have h1 := hg 0 (by omega)
    obtain ⟨_, hln, hc⟩ := World.cells?_some h1
    have h2 := hc 0 hz0
    have hv : ∃ v, (vals (g 0))[0]? = some v := ⟨_, List.getElem?_eq_getElem (by omega)⟩
    obtain ⟨v, hv⟩ := hv
    rw [hv] at h2
    have e0 : (a.add (0 * z)).add 0 = a := by simp [Addr.add]
    rw [e0] at h2
    obtain ⟨b, o, rfl, hb⟩ := plain_of_cell h2
    refine .inr ⟨b, o, rfl, repM_flat f z hz _ b o fun i hi => ?_⟩
    rw [hget]
    obtain ⟨_, hln, hc⟩ := World.cells?_some (hg i (by omega))
    refine RepM.of_vals (hrep (g i) _) (fun j u hj => ?_) (fun j hj => hb)
    have hj' : j < z := by
      have := (List.getElem?_eq_some_iff.1 hj).1
      omega
    have := hc j hj'
    rw [addr_add, add_plain, hj] at this
    rwa [Nat.add_assoc]

section
variable {H : Type} {enc : TypeId × Value → H} {w : World}
def itV (x : It) : List Value := [.int .i64 x.k, .int .i64 x.n, .int .i64 x.lo, .int .i64 x.hi]
def ndV (x : Nd) : List Value := [.int .i64 x.k, .int .i64 x.a, .int .i64 x.b, .int .i64 x.lo, .int .i64 x.hi, .int .u64 x.c0, .int .u64 x.c1, .int .u64 x.c2, .int .u64 x.c3, .string x.s]
abbrev GA (w : World) : Am.Good := fun b _ => b < w.heap.size

theorem state_of {v : Value} {d : DataW H} {p : List MemPlace} (h : DataW.Trod enc Tryz.prog w 0 (fun _ => true) true 26 v d p) (hv : ∃ a l c, v = .slice a l c) :
    ∃ s : List It, RepC w (GA w) (stC s) v ∧ (s = [] ∨ ∃ el sp, d = .slice el sp ∧ el.length = s.length) := by
  obtain ⟨a, l, c, rfl⟩ := hv
  obtain ⟨fuel, hf⟩ := h
  rcases Go.Deep.open_slice Tryz.underlying26 hf with ⟨hcs, _⟩ | ⟨a', len, cap, m, n, D, Pl, hcs, _, hl, _, hm, hx, hel⟩
  · simp [Value.cells] at hcs
    obtain ⟨rfl, rfl, rfl⟩ := hcs
    exact ⟨[], by simp only [RepC]; exact ⟨none, 0, rfl, Nat.le_refl _, .inl rfl⟩, .inl rfl⟩
  · simp [Value.cells] at hcs
    obtain ⟨rfl, rfl, rfl⟩ := hcs
    simp only [if_true] at hm
    subst hm
    have c40 : Tryz.prog.cellsOf 64 = 4 := by kernel_rfl
    rw [c40] at hel
    obtain ⟨s, h1, h2, h3⟩ := rows_rep It.c itV 4 (fun _ => rfl) (by decide) (fun x G => ⟨⟨rfl, rfl⟩, ⟨rfl, rfl⟩, ⟨rfl, rfl⟩, ⟨rfl, rfl⟩, trivial⟩) a' l m hl fun i hi => by
      obtain ⟨cs', e1, e2⟩ := hel i (by omega)
      obtain ⟨x, rfl⟩ := item_of e2
      exact ⟨x, e1⟩
    refine ⟨s, h2, .inr ⟨_, _, (congrArg Prod.fst hx), by simp [h1]⟩⟩
end

end Go.Proofs.YtilhjiopbbbgmaaGreatDoor

/- The description read as data: its nodes lie as the abstract machine has it, and none is longer than a machine's reach; what a row's condition says of the tables. -/
namespace Go.Proofs.YtilhjiopbbbgmaaGreatDoor
open Go Go.ChangeShapes Go.WideShapes Go.ChangeAt Go.RowKit Am
set_option linter.unusedVariables false
set_option linter.unusedSimpArgs false

section
variable {H : Type} {enc : TypeId × Value → H} {w : World}

theorem weightsAll_mem {P : Program} {e : TypeId} : ∀ {l : List (DataW H)} {d : DataW H}, d ∈ l → ∀ n ∈ d.weights P e, n ∈ DataW.weightsAll P e l
  | x :: l, d, h, n, hn => by
    simp only [DataW.weightsAll, List.mem_append]
    rcases List.mem_cons.1 h with rfl | h
    · exact .inl hn
    · exact .inr (weightsAll_mem h n hn)

theorem ndV_inj {x y : Nd} (h : ndV x = ndV y) : x = y := by
  obtain ⟨a1, a2, a3, a4, a5, a6, a7, a8, a9, a10⟩ := x
  obtain ⟨b1, b2, b3, b4, b5, b6, b7, b8, b9, b10⟩ := y
  simp only [ndV, List.cons.injEq, Value.int.injEq, Value.string.injEq, true_and, and_true] at h
  obtain ⟨rfl, rfl, rfl, rfl, rfl, rfl, rfl, rfl, rfl, rfl⟩ := h
  rfl

def Small (n : Nat) : Prop := n ≤ 140737488355328

theorem desc_of {v : Value} {d : DataW H} {p : List MemPlace} (h : DataW.Trod enc Tryz.prog w 0 (fun _ => true) true 24 v d p) (hv : ∃ cs, v = .agg cs ∧ cs.size = Tryz.prog.cellsOf 24)
    (hw : ∀ n ∈ d.weights Tryz.prog 24, n ≤ reachBytes) :
    ∃ (l : List Nd) (vd : Value), v = .agg #[vd] ∧ RepL w (GA w) (dC l) [vd] ∧ l.length ≤ 140737488355328 ∧ (∀ x ∈ l, x.s.size ≤ 140737488355328) ∧ ∀ x ∈ l, CW x := by
  obtain ⟨cs, rfl, hcs⟩ := hv
  obtain ⟨fuel, hf⟩ := h
  obtain ⟨y0, n, e1, _, h0⟩ := trod_struct1 Tryz.underlying24 hf
  have c24 : Tryz.prog.cellsOf 24 = 1 := by kernel_rfl
  have c22 : Tryz.prog.cellsOf 22 = 1 := by kernel_rfl
  rw [c24] at hcs
  obtain ⟨vd, rfl⟩ := Array.size_eq_one_iff.1 hcs
  have h0 : DataW.trod enc Tryz.prog w 0 (fun _ => true) true n 22 [vd] = some y0 := by
    have key : ∀ c, c = 1 → DataW.trod enc Tryz.prog w 0 (fun _ => true) true n 22 (List.take c (List.drop 0 [vd])) = some y0 → DataW.trod enc Tryz.prog w 0 (fun _ => true) true n 22 [vd] = some y0 := by rintro _ rfl h; exact h
    exact key _ c22 h0
  have ed : d = .agg [y0.1] := congrArg Prod.fst e1
  subst ed
  rcases Go.Deep.open_slice Tryz.underlying22 h0 with ⟨e2, _⟩ | ⟨a', len, cap, m, n, D, Pl, e2, _, hl, _, hm, hx, hel⟩
  · simp at e2
    subst e2
    refine ⟨[], _, rfl, ?_, by simp, by simp, by simp⟩
    simp only [dC, RepL, RepC]
    exact ⟨⟨none, 0, rfl, Nat.le_refl _, .inl rfl⟩, trivial⟩
  · simp at e2
    subst e2
    simp only [if_true] at hm
    subst hm
    have c54 : Tryz.prog.cellsOf 59 = 10 := by kernel_rfl
    rw [c54] at hel
    obtain ⟨l, h1, h2, h3⟩ := rows_rep Nd.c ndV 10 (fun _ => rfl) (by decide) (fun x G => ⟨⟨rfl, rfl⟩, ⟨rfl, rfl⟩, ⟨rfl, rfl⟩, ⟨rfl, rfl⟩, ⟨rfl, rfl⟩, ⟨rfl, rfl⟩, ⟨rfl, rfl⟩, ⟨rfl, rfl⟩, ⟨rfl, rfl⟩, ⟨rfl, rfl⟩, trivial⟩) a' len m hl fun i hi => by
      obtain ⟨cs', e1, e2⟩ := hel i (by omega)
      obtain ⟨x, rfl, _⟩ := node_of e2
      exact ⟨x, e1⟩
    have ey : y0.1 = .slice ((List.range len).map D) ((List.range (m - len)).map fun j => D (len + j)) := congrArg Prod.fst hx
    have hw2 : ∀ k ∈ y0.1.weights Tryz.prog 22, k ≤ reachBytes := by
      intro k hk
      refine hw k ?_
      simp only [DataW.weights, Tryz.underlying24, List.map_cons, List.map_nil, DataW.weightsEach, List.append_nil]
      exact hk
    rw [ey] at hw2
    simp only [DataW.weights, Tryz.underlying22, List.mem_cons, List.mem_append] at hw2
    have hb : 1 ≤ Tryz.prog.bytesOf 59 := by
      have : (decide (1 ≤ Tryz.prog.bytesOf 59)) = true := by kernel_rfl
      exact of_decide_eq_true this
    have hlen := hw2 _ (.inl rfl)
    simp only [List.length_map, List.length_range] at hlen
    have hr : reachBytes ≤ 140737488355328 := by decide
    have hlen2 : len ≤ reachBytes := by
      have := Nat.mul_le_mul_left (len + (m - len)) hb
      omega
    refine ⟨l, _, rfl, ?_, by omega, fun x hx => ?_, fun x hx => ?_⟩
    · simp only [dC, RepL]
      exact ⟨h2, trivial⟩
    · obtain ⟨i, hi, rfl⟩ := List.getElem_of_mem hx
      obtain ⟨cs', e1, e2⟩ := hel i (by omega)
      obtain ⟨x, rfl, ⟨p0, p1, p2, p3, p4, p5, e3⟩, _⟩ := node_of e2
      have := (h3 i hi).symm.trans e1
      have e4 := ndV_inj (Option.some.inj this)
      rw [e4]
      have hmem : D i ∈ (List.range len).map D := List.mem_map.2 ⟨i, List.mem_range.2 (by omega), rfl⟩
      have h9 : x.s.data.toList.length ≤ reachBytes := by
        refine hw2 _ (.inr (.inl (weightsAll_mem hmem _ ?_)))
        have : D i = .agg [p0, p1, p2, p3, p4, p5, .lit (.string x.s.data.toList)] := e3
        rw [this]
        simp only [DataW.weights, Tryz.underlying59, List.map_cons, List.map_nil, DataW.weightsEach, List.mem_append]
        simp
      have h10 : x.s.data.toList.length = x.s.size := Array.length_toList
      omega
    · obtain ⟨i, hi, rfl⟩ := List.getElem_of_mem hx
      obtain ⟨cs', e1, e2⟩ := hel i (by omega)
      obtain ⟨x, rfl, _, hc⟩ := node_of e2
      have := (h3 i hi).symm.trans e1
      have e4 := ndV_inj (Option.some.inj this)
      rw [e4]
      exact hc

theorem state_small {s : List It} {d : DataW H} (hw : ∀ n ∈ d.weights Tryz.prog 26, n ≤ reachBytes) (h : s = [] ∨ ∃ el sp, d = .slice el sp ∧ el.length = s.length) : s.length ≤ 140737488355328 := by
  rcases h with rfl | ⟨el, sp, rfl, h⟩
  · simp
  · simp only [DataW.weights, Tryz.underlying26, List.mem_cons] at hw
    have hb : 1 ≤ Tryz.prog.bytesOf 64 := by
      have : (decide (1 ≤ Tryz.prog.bytesOf 64)) = true := by kernel_rfl
      exact of_decide_eq_true this
    have hlen := hw _ (.inl rfl)
    have hr : reachBytes ≤ 140737488355328 := by decide
    have := Nat.mul_le_mul_left (el.length + sp.length) hb
    omega
end

/-- One listed variable reads as the datum beside its name. -/
theorem laidReads {P : Program} {w : World} {l : List (String × DataW Unit)} (h : laidMet P l w) {n : String} {d : DataW Unit} (hm : (n, d) ∈ l) :
    ∃ g t cs fuel p, P.globalNamed n = some g ∧ (P.globals[g]?).map (·.type) = some t ∧ w.var? P n = some cs ∧ DataW.trod (fun _ => ()) P w 0 (fun _ => true) false fuel t cs.toList = some (d, p) := by
  obtain ⟨ps, hv, _⟩ := h
  have go : ∀ {l : List (String × DataW Unit)} {ps : List MemPlace}, DataW.LaidVars P w l ps → (n, d) ∈ l → ∃ g t cs fuel p, P.globalNamed n = some g ∧ (P.globals[g]?).map (·.type) = some t ∧ w.var? P n = some cs ∧ DataW.trod (fun _ => ()) P w 0 (fun _ => true) false fuel t cs.toList = some (d, p) := by
    intro l
    induction l with
    | nil => intro ps _ hm; cases hm
    | cons x r ih =>
      intro ps h hm
      obtain ⟨g, t, cs, fuel, p, q, h1, h2, h3, h4, h5, _⟩ := h
      rcases List.mem_cons.1 hm with e | e
      · cases e
        exact ⟨g, t, cs, fuel, p, h1, h2, h3, h4⟩
      · exact ih h5 e
  exact go hv hm

/-- An array of bools that reads as this list holds it, cell for cell. -/
theorem cells_of_bools {H : Type} {enc : TypeId × Value → H} {P : Program} {w : World} {base : Nat} {sp : Nat → Bool} {held : Bool} {fuel : Nat} {t e : TypeId} {n : Nat} {cs : List Value} {zs : List Bool} {p : List MemPlace}
    (ht : P.underlying t = some (.array n e)) (he : P.underlying e = some .bool) (hce : P.cellsOf e = 1) (hct : P.cellsOf t = n)
    (h : DataW.trod enc P w base sp held fuel t cs = some (.agg (zs.map fun z => .lit (.bool z)), p)) : cs = zs.map fun z => Value.bool z := by
  cases fuel with
  | zero => simp [DataW.trod] at h
  | succ fuel =>
    simp only [DataW.trod, ht, hce, hct, Nat.mul_one] at h
    split at h
    · rename_i hl
      obtain ⟨xs, hm, hx⟩ := Option.map_eq_some_iff.1 h
      have hxs : xs.map (·.1) = zs.map fun z => (DataW.lit (.bool z) : DataW H) := by
        have := congrArg Prod.fst hx
        simpa using this
      have hxl : xs.length = n := by simpa using Lib.mapM_length hm
      have hzl : zs.length = n := by
        have := congrArg List.length hxs
        simp at this
        omega
      apply List.ext_getElem?
      intro i
      by_cases hi : i < n
      · obtain ⟨b, hb, hf⟩ := Lib.mapM_at hm i i (by simp [hi])
        obtain ⟨z, hc, rfl⟩ := DataW.trod_bool he hf
        have h1 : cs[i]? = some (.bool z) := by
          have := congrArg (·[0]?) hc
          simpa [List.getElem?_take, List.getElem?_drop] using this
        have h2 : (xs.map (·.1))[i]? = some (DataW.lit (.bool z) : DataW H) := by simp [hb]
        rw [hxs] at h2
        simp only [List.getElem?_map, Option.map_eq_some_iff, DataW.lit.injEq, Lit.bool.injEq] at h2
        obtain ⟨z', hz', rfl⟩ := h2
        simp [h1, hz']
      · rw [List.getElem?_eq_none (by omega), List.getElem?_eq_none (by simp; omega)]
    · cases h

end Go.Proofs.YtilhjiopbbbgmaaGreatDoor

/- What a row's condition says of the tables, and what a body's answer says of a law of a description and a state. -/
namespace Go.Proofs.YtilhjiopbbbgmaaGreatDoor
open Go Go.ChangeShapes Go.WideShapes Go.ChangeAt Go.WideMaps Go.WideElems Go.RowKit Am
set_option linter.unusedVariables false
set_option linter.unusedSimpArgs false

theorem pow_same {H : Type} : (Rows.laid_internal_strconv_uint64pow10 : DataW H) = Lib.tabData .u64 Lib.pow10Tab := by rfl
def readyL : List Bool := [false, false, true, false, false, false, false, false, true, true]
theorem ready_same {H : Type} : (Rows.laid_scantling_heads_readies : DataW H) = .agg (readyL.map fun z => .lit (.bool z)) := by rfl

theorem repM_bools {w : World} {G : Am.Good} : ∀ (l : List Bool) (o : Nat), (∀ i (h : i < l.length), w.cell? ⟨1, o + i, none⟩ = some (.bool l[i]) ∧ G 1 (o + i)) → RepM w G (l.map fun z => C.v (.bool z)) 1 o
  | [], o, _ => by simp [RepM]
  | z :: l, o, h => by
    simp only [List.map_cons, RepM]
    have h0 := h 0 (by simp)
    simp only [List.getElem_cons_zero, Nat.add_zero] at h0
    refine ⟨h0.2, ⟨_, h0.1, rfl, rfl⟩, repM_bools l (o + 1) fun i hi => ?_⟩
    have := h (i + 1) (by simp; omega)
    simp only [List.getElem_cons_succ] at this
    rwa [show o + (i + 1) = o + 1 + i by omega] at this

theorem glok_of {W : World} {l : List (String × DataW Unit)} (h : laidMet Tryz.prog l W) (hp : ("internal/strconv.uint64pow10", Rows.laid_internal_strconv_uint64pow10) ∈ l) (hr : ("scantling/heads.readies", Rows.laid_scantling_heads_readies) ∈ l) : GlOk glD W (GA W) := by
  constructor
  · intro i cs hi
    simp only [glD] at hi
    split at hi
    · rename_i e
      subst e
      cases hi
      obtain ⟨g, t, cs, fuel, p, hg, ht, hv, hd⟩ := laidReads h hr
      have g0 : Tryz.prog.globalNamed "scantling/heads.readies" = some 1 := by kernel_rfl
      have t0 : (Tryz.prog.globals[1]?).map (·.type) = some 157 := by kernel_rfl
      obtain rfl := Option.some.inj (g0.symm.trans hg)
      obtain rfl := Option.some.inj (t0.symm.trans ht)
      rw [ready_same] at hd
      have hc := cells_of_bools Tryz.underlying157 Tryz.underlying4 (by kernel_rfl) (by kernel_rfl) hd
      have hcell : ∀ i (hi : i < readyL.length), W.cell? ⟨1, i, none⟩ = some (.bool readyL[i]) := fun i hi => by
        rw [World.var?_cell hg hv i]
        have : cs[i]? = cs.toList[i]? := by simp
        rw [this, hc, List.getElem?_map, List.getElem?_eq_getElem hi]
        rfl
      refine repM_bools readyL 0 fun i hi => ?_
      rw [Nat.zero_add]
      refine ⟨hcell i hi, ?_⟩
      obtain ⟨b, o, e, hb⟩ := plain_of_cell (hcell i hi)
      cases e
      exact hb
    · cases hi
  · obtain ⟨g, t, cs, fuel, p, hg, ht, hv, hd⟩ := laidReads h hp
    have g0 : Tryz.prog.globalNamed "internal/strconv.uint64pow10" = some 2 := by kernel_rfl
    obtain rfl := Option.some.inj (g0.symm.trans hg)
    have hty : (Tryz.prog.globals[2]?).map (·.type) = some 187 := by kernel_rfl
    obtain rfl := Option.some.inj (hty.symm.trans ht)
    rw [pow_same] at hd
    have hc := Lib.cells_of_tab Tryz.underlying187 Tryz.underlying54 (by kernel_rfl) (by kernel_rfl) hd
    show W.var? _ _ = _
    rw [hv, ← hc]

set_option maxRecDepth 20000 in
/-- THE FRAME of a law of a description and a state: what the body answers is what the row says. -/
theorem two_post {H : Type} {enc : TypeId × Value → H} {sp : ChangeSpec} {fn : Func} (hsp : ∀ d1 d2 : DataW H, sp.fn H [d1, d2] = { results := [.lit (.bool true)], args := [d1, d2] }) (hpar : fn.params.toList = [24, 26]) (hres : fn.resultTypes.toList = [4]) (hsz : fn.resultTypes.size = 1)
    (hvars : sp.vars = [])
    {W : World} {args : Array Value} {ds gs : List (DataW H)} {before : List MemPlace}
    (hval : ∀ (j : Nat) t v, fn.params[j]? = some t → args[j]? = some v → ∃ r base, Value.okWide Tryz.prog W r base t v)
    (hW : DataW.Whole enc Tryz.prog fn.params.toList sp.vars false W args.toList ds gs before)
    (hsz2 : (DataW.weightsEach Tryz.prog (fn.params.toList ++ sp.plain.varTypes Tryz.prog) (ds ++ gs)).all (· ≤ reachBytes) = true)
    (hgl : GlOk glD W (GA W)) {f : FuncId}
    (hret : ∀ (d : List Nd) (s : List It), d.length ≤ 140737488355328 → (∀ n ∈ d, n.s.size ≤ 140737488355328) → s.length ≤ 140737488355328 → Ret Tryz.prog glD f [.agg (dC d), .c (stC s)] (bv true)) :
    Calls Tryz.prog f args W fun e W' => ∃ v, e = .returned v ∧ sp.post enc Tryz.prog fn false true false false W args v W' := by
  have hW' := hW
  obtain ⟨p, q, hA0, hV, hb, hfz, hnd⟩ := hW
  have hA : DataW.TrodAll enc Tryz.prog W 0 (fun _ => true) true [24, 26] args.toList ds p := by rw [← hpar]; exact hA0
  obtain ⟨v0, v1, d0, d1, p0, p1, rfl, rfl, rfl, h0, h1⟩ := trodAll_two hA
  rw [hvars] at hV
  obtain ⟨rfl, rfl⟩ := trodVars_none hV
  subst hb
  have hp0 : fn.params[0]? = some 24 := by rw [← Array.getElem?_toList, hpar]; rfl
  have hp1 : fn.params[1]? = some 26 := by rw [← Array.getElem?_toList, hpar]; rfl
  obtain ⟨r0, b0, ok0⟩ := hval 0 24 v0 hp0 rfl
  obtain ⟨r1, b1, ok1⟩ := hval 1 26 v1 hp1 rfl
  have hw : ∀ (j : Nat) t d, (fn.params.toList)[j]? = some t → [d0, d1][j]? = some d → ∀ n ∈ d.weights Tryz.prog t, n ≤ reachBytes := fun j t d ht hd n hn => by
    have := List.all_eq_true.1 hsz2 n (DataW.weights_mem_each (j := j) (t := t) (d := d) (by rw [List.getElem?_append_left (by have := (List.getElem?_eq_some_iff.1 ht).1; exact this)]; exact ht) (by rw [List.append_nil]; exact hd) n hn)
    simpa using this
  obtain ⟨d, vd, rfl, hd, hdl, hds, _⟩ := desc_of h0 (okWide_struct Tryz.underlying24 ok0) (hw 0 24 d0 (by rw [hpar]; rfl) rfl)
  obtain ⟨s, hs, hs2⟩ := state_of h1 (okWide_slice Tryz.underlying26 ok1)
  have hsl := state_small (s := s) (hw 1 26 d1 (by rw [hpar]; rfl) rfl) hs2
  refine ((hret d s hdl hds hsl).2 W (GA W) #[.agg #[vd], v1] (fun _ _ h => h) hgl (show RepTL W (GA W) [.agg (dC d), .c (stC s)] [.agg #[vd], v1] from ⟨⟨#[vd], rfl, hd⟩, hs, trivial⟩)).mono ?_
  rintro e W' ⟨v, he, hbel, _, G', _, _, _, hrep⟩
  obtain rfl : v = .bool true := hrep.1
  refine ⟨_, he, [d0, d1], [], p0 ++ p1 ++ [], [], p0 ++ (p1 ++ []), [], hW', ?_, ?_, ?_, ?_, fun h => by cases h⟩
  · rw [List.append_nil, hsp, hres, hsz]
    exact trodAll_mk1 (shut_bool Tryz.underlying4 _)
  · rw [List.append_nil, hsp, hpar]
    have lt0 : ∀ x ∈ p0, x.block < W.heap.size := by
      obtain ⟨n, hn⟩ := h0
      exact DataW.trod_lt _ _ _ _ hn
    have lt1 : ∀ x ∈ p1, x.block < W.heap.size := by
      obtain ⟨n, hn⟩ := h1
      exact DataW.trod_lt _ _ _ _ hn
    have lay : laidOutB Tryz.prog = true := by kernel_rfl
    exact trodAll_cons_mk (Below.trod lay (by kernel_rfl) (of_decide_eq_true (by kernel_rfl)) h0 hbel lt0) (trodAll_cons_mk (Below.trod lay (by kernel_rfl) (of_decide_eq_true (by kernel_rfl)) h1 hbel lt1) trodAll_mk0)
  · rw [hvars, List.append_nil, hsp]
    exact rfl
  · exact hbel.frame _

end Go.Proofs.YtilhjiopbbbgmaaGreatDoor

/- What lowers a state, plain. -/
namespace Go.Proofs.YtilhjiopbbbgmaaGreatDoor
open Go Go.RowKit Am

def lowF (x : It) : It := if x.k = 5 then { x with lo := x.lo - 1 } else x
def lowB (s : List It) : Bool := s.all fun x => !(x.k == 5) || decide (0 < x.lo)
def lowS (s : List It) : List It := if lowB s = true then s.map lowF else []

end Go.Proofs.YtilhjiopbbbgmaaGreatDoor

/- Lower: each end one nearer, in memory of the call's own. -/
namespace Go.Proofs.YtilhjiopbbbgmaaGreatDoor
open Go Go.RowKit Am Go.Shelf
set_option linter.unusedVariables false
set_option linter.unusedSimpArgs false

def itW (x : It) : List Value := [.int .i64 x.k, .int .i64 x.n, .int .i64 x.lo, .int .i64 x.hi]
def itsW (s : List It) : List Value := s.flatMap itW
theorem itsW_length (s : List It) : (itsW s).length = s.length * 4 := by
  induction s with
  | nil => rfl
  | cons x s ih => simp [itsW, itW] at ih ⊢; omega
theorem itsW_append (a b : List It) : itsW (a ++ b) = itsW a ++ itsW b := by simp [itsW]

theorem repL_its {w : World} {G : Am.Good} : ∀ (s : List It) (ys : List Value), RepL w G (itsC s) ys → ys = itsW s
  | [], [], _ => rfl
  | [], _ :: _, h => h.elim
  | x :: s, [], h => h.elim
  | x :: s, [_], h => h.2.elim
  | x :: s, [_, _], h => h.2.2.elim
  | x :: s, [_, _, _], h => h.2.2.2.elim
  | x :: s, a :: b :: c :: d :: ys, h => by
    obtain ⟨⟨rfl, _⟩, ⟨rfl, _⟩, ⟨rfl, _⟩, ⟨rfl, _⟩, h⟩ := h
    rw [repL_its s ys h]
    rfl
theorem rep_its {w : World} {G : Am.Good} : ∀ s : List It, RepL w G (itsC s) (itsW s)
  | [] => trivial
  | x :: s => ⟨⟨rfl, rfl⟩, ⟨rfl, rfl⟩, ⟨rfl, rfl⟩, ⟨rfl, rfl⟩, rep_its s⟩

theorem itsW_get : ∀ (s : List It) (k : Nat) (h : k < s.length), (itsW s)[k * 4]? = some (.int .i64 s[k].k) ∧ (itsW s)[k * 4 + 1]? = some (.int .i64 s[k].n) ∧ (itsW s)[k * 4 + 2]? = some (.int .i64 s[k].lo) ∧ (itsW s)[k * 4 + 3]? = some (.int .i64 s[k].hi)
  | x :: s, 0, _ => ⟨rfl, rfl, rfl, rfl⟩
  | x :: s, k + 1, h => by
    have ih := itsW_get s k (by simpa using h)
    have e : itsW (x :: s) = itW x ++ itsW s := rfl
    have g : ∀ j, (itsW (x :: s))[(k + 1) * 4 + j]? = (itsW s)[k * 4 + j]? := fun j => by
      rw [e, List.getElem?_append_right (by simp [itW]; omega)]
      simp only [itW, List.length_cons, List.length_nil]
      rw [show (k + 1) * 4 + j - (0 + 1 + 1 + 1 + 1) = k * 4 + j by omega]
    exact ⟨(g 0).trans ih.1, (g 1).trans ih.2.1, (g 2).trans ih.2.2.1, (g 3).trans ih.2.2.2⟩

theorem itsW_set : ∀ (s : List It) (k : Nat) (h : k < s.length) (v : Int), (itsW s).set (k * 4 + 2) (.int .i64 v) = itsW (s.set k { s[k] with lo := v })
  | x :: s, 0, _, v => rfl
  | x :: s, k + 1, h, v => by
    have ih := itsW_set s k (by simpa using h) v
    have e : itsW (x :: s) = itW x ++ itsW s := rfl
    rw [e, show (k + 1) * 4 + 2 = (itW x).length + (k * 4 + 2) by simp [itW]; omega, List.set_append_right _ _ (by omega)]
    rw [Nat.add_sub_cancel_left, ih]
    rfl

/-- Clone: the same items, in a row of the call's own. -/
theorem clone57_own {w : World} {G : Am.Good} {v : Value} (s : List It) (hs : s.length * 32 ≤ 140737488355328) (hv : RepC w G (stC s) v) : Calls Tryz.prog 89 #[v] w fun e w' =>
    ∃ a cap, e = .returned (.slice a s.length cap) ∧ Below w.heap.size w w' ∧ w'.ownsRow w.heap.size 64 4 (.slice a s.length cap) s.length (itsW s) := by
  obtain ⟨i0, hi0, hz0, hs0, hb0⟩ := info_parts info40
  simp only [RepC] at hv
  obtain ⟨a, cap, rfl, hcap, hv⟩ := hv
  cases a with
  | none =>
    refine (AnyE.slices_Clone_nil clone57 s.length cap w).mono ?_
    rintro e w' ⟨rfl, rfl⟩
    have h0 : s = [] := by
      rcases hv with h | ⟨b, o, h, _⟩
      · cases s with
        | nil => rfl
        | cons x s => simp [itsC, It.c] at h
      · cases h
    subst h0
    exact ⟨_, _, rfl, Below.refl _ _, rfl, .inl ⟨rfl, rfl⟩⟩
  | some ad =>
    by_cases h0 : s = []
    · subst h0
      have happ : ∀ (b' : Nat) (w' : World), (Builtin.append_ #[26, 26] 26 #[.slice (some ⟨b', 0, none⟩) 0 0, .slice (some ad) 0 cap]).run Tryz.prog w' = .ok (.slice (some ⟨b', 0, none⟩) 0 0) w' := fun b' w' => by
        have hi := hi0
        simp [Builtin.append_, run_underlying Tryz.underlying26, sizeOf, typeInfo, hi, Builtin.lenOf, run_firstCells_zero, storeCells]
      have q := fun (w : World) (c : Nat) => Lib.run_eql_slice_nil (P := Tryz.prog) w 26 64 (some ad) 0 c 0 0 Tryz.underlying26
      clear hv
      go_enter Tryz.func89, Tryz.ntmps89
      go_wp2
      go_ret
      exact ⟨_, _, rfl, (Below.refl _ w).alloc (Nat.le_refl _) _, rfl, .inr ⟨w.heap.size, 0, #[], rfl, Nat.le_refl _, heap_alloc_new w _, Nat.le_refl _, by omega, rfl, rfl⟩⟩
    · obtain ⟨b, o, rfl, hm⟩ : ∃ b o, ad = ⟨b, o, none⟩ ∧ RepM w G (itsC s) b o := by
        rcases hv with h | ⟨b, o, h, hm⟩
        · cases s with
          | nil => exact absurd rfl h0
          | cons x s => simp [itsC, It.c] at h
        · cases h; exact ⟨b, o, rfl, hm⟩
      obtain ⟨ys, hl, hy⟩ := hm.vals
      have hlen : ys.length = s.length * 4 := by rw [← hl.length, itsC_length]
      refine (AnyE.slices_Clone clone57 i0 _ 4 32 hi0 hz0 hs0 hb0 rfl (by decide) Tryz.sizeOf64 b o s.length cap ys w hlen (by simp only [maxLen]; omega) (by omega) hy hl.one).mono ?_
      rintro e w' ⟨v', rfl, hown, hne, hbel⟩
      rw [repL_its s ys hl] at hown
      have hpos : 0 < s.length := List.length_pos_iff.2 h0
      rcases hown.2 with ⟨_, h⟩ | ⟨g, cap', cur, rfl, _⟩
      · omega
      · exact ⟨_, _, rfl, hbel, hown⟩

theorem below_own {B : Nat} {w w1 w2 : World} {g : Nat} (h : Below B w w1) (hw : B ≤ w.heap.size) (hg : w1.grownBy w2 (some g)) (hge : B ≤ g) : Below B w w2 :=
  ⟨hg.os.trans h.os, hg.tape.trans h.tape, hg.output.trans h.output, Nat.le_trans h.size hg.size, fun k hk => (hg.block k (by have := h.size; omega) (fun e => by cases e; omega)).trans (h.block k hk)⟩


theorem low_set (s : List It) (k : Nat) (h : k < s.length) : ((s.take k).map lowF ++ s.drop k).set k (lowF s[k]) = (s.take (k + 1)).map lowF ++ s.drop (k + 1) := by
  rw [List.set_append_right _ _ (by simp; omega)]
  have e : k - ((s.take k).map lowF).length = 0 := by simp; omega
  rw [e, List.drop_eq_getElem_cons h, List.set_cons_zero, List.take_succ_eq_append_getElem h, List.map_append, List.append_assoc]
  rfl
theorem low_get (s : List It) (k : Nat) (h : k < s.length) : ((s.take k).map lowF ++ s.drop k)[k]'(by simp; omega) = s[k] := by
  rw [List.getElem_append_right (by simp; omega)]
  simp only [List.length_map, List.length_take, Nat.min_eq_left (Nat.le_of_lt h), Nat.sub_self]
  simp

set_option maxHeartbeats 4000000 in
set_option maxRecDepth 1000000 in
theorem lower52 (s : List It) (hs : s.length ≤ 1000000) (hok : ∀ x ∈ s, itOk x) {w : World} {G : Am.Good} {v : Value} (hv : RepC w G (stC s) v) : Calls Tryz.prog 57 #[v] w fun e w' =>
    Below w.heap.size w w' ∧ ((lowB s = false ∧ e = .returned (.tuple #[.slice none 0 0, .bool false])) ∨
      (lowB s = true ∧ ∃ a cap, e = .returned (.tuple #[.slice a s.length cap, .bool true]) ∧ w'.ownsRow w.heap.size 64 4 (.slice a s.length cap) s.length (itsW (s.map lowF)))) := by
  have hc57 := clone57_own s (by omega) hv
  go_enter Tryz.func57, Tryz.ntmps57
  go_wp2_with (go_at_call 89; refine hc57.mono ?_; rintro e w1 ⟨a, cap, rfl, hb1, hown1⟩)
  go_loopg [11] s.length (fun g x wx => ∃ k : Nat, k + g = s.length ∧ x = .int .i64 k ∧ wx.ownsRow w.heap.size 64 4 (.slice a s.length cap) s.length (itsW ((s.take k).map lowF ++ s.drop k)) ∧ Below w.heap.size w wx ∧ lowB (s.take k) = true)
  case atStart => exact ⟨0, by omega, rfl, hown1, hb1, rfl⟩
  case round =>
    obtain ⟨k, hkg, rfl, hown, hbel, hlow⟩ := hrel
    clear hc57 hown1
    cases gk with
    | zero =>
      have hkz : ¬ ((k : Int) < (s.length : Int)) := by omega
      have hk : s.take k = s := by rw [List.take_of_length_le (by omega)]
      rw [hk] at hlow hown
      rw [List.drop_eq_nil_of_le (by omega), List.append_nil] at hown
      go_wp2
      go_ret2
      exact ⟨hbel, a, cap, rfl, hown⟩
    | succ g =>
      have hlt : k < s.length := by omega
      have hkz : (k : Int) < (s.length : Int) := by omega
      obtain ⟨g0, rfl⟩ : ∃ g0, a = some ⟨g0, 0, none⟩ := by
        rcases hown.2 with ⟨_, h⟩ | ⟨g0, cap', cur, h, _⟩
        · omega
        · cases h; exact ⟨g0, rfl⟩
      have hl : k < ((s.take k).map lowF ++ s.drop k).length := by simp; omega
      obtain ⟨q0, q1, q2, q3⟩ := itsW_get _ k hl
      rw [low_get s k hlt] at q0 q1 q2 q3
      have c0 := (hown.cellAt (k * 4) (by omega)).trans q0
      have c1 := (hown.cellAt (k * 4 + 1) (by omega)).trans q1
      have c2 := (hown.cellAt (k * 4 + 2) (by omega)).trans q2
      have c3 := (hown.cellAt (k * 4 + 3) (by omega)).trans q3
      have f2 := hown.frozenAt (k * 4 + 2)
      obtain ⟨i1, i2, i3, i4⟩ := hok s[k] (List.getElem_mem hlt)
      have hlk : lowB (s.take (k + 1)) = (lowB (s.take k) && (!(s[k].k == 5) || decide (0 < s[k].lo))) := by
        rw [List.take_succ_eq_append_getElem hlt]
        simp only [lowB, List.all_append, List.all_cons, List.all_nil, Bool.and_true]
      have hset := itsW_set _ k hl (s[k].lo - 1)
      rw [low_get s k hlt] at hset
      have hls := low_set s k hlt
      have hid : ((s.take k).map lowF ++ s.drop k).set k s[k] = (s.take k).map lowF ++ s.drop k := by
        rw [← low_get s k hlt]
        exact List.set_getElem_self _
      have hall : lowB s = true → (!(s[k].k == 5) || decide (0 < s[k].lo)) = true := fun h => List.all_eq_true.1 h _ (List.getElem_mem hlt)
      generalize s[k] = x at *
      obtain ⟨xk, xn, xl, xh⟩ := x
      simp only at c0 c1 c2 c3 i1 i2 i3 i4 hlk hset hall
      have hA := hown.alloc (.cells #[.int .i64 xk, .int .i64 xn, .int .i64 xl, .int .i64 xh] 64)
      have cA := (hA.cellAt (k * 4 + 2) (by omega)).trans q2
      have fA := hA.frozenAt (k * 4 + 2)
      have hB := hA.stored (k * 4 + 2) (.int .i64 (xl - 1))
      have hw : wrap64 ((k : Int) + 1) = ((k + 1 : Nat) : Int) := by unfold wrap64; omega
      clear q0 q1 q2 q3
      by_cases h5 : xk = 5
      · subst h5
        by_cases h0 : 0 < xl
        · have h0' : ¬ xl ≤ 0 := by omega
          have hx : wrap64 (xl - 1) = xl - 1 := by obtain ⟨a1, a2⟩ := i3; unfold wrap64; omega
          rw [hset] at hB
          go_wp2
          go_roundg g
          case measure => omega
          case rel =>
            refine ⟨k + 1, by omega, by first | rfl | simp [hw], ?_, ?_, ?_⟩
            · have e : lowF ⟨5, xn, xl, xh⟩ = ⟨5, xn, xl - 1, xh⟩ := rfl
              rw [e] at hls
              rw [hls] at hB
              exact hB.1
            · exact below_own (hbel.alloc hbel.size _) (Nat.le_refl _) hB.2 (hown.lt g0 rfl).1
            · rw [hlk, hlow]
              simp [h0]
        · have h0' : xl ≤ 0 := by omega
          go_wp2
          go_ret2
          have hf : lowB s = false := by
            cases h : lowB s
            · rfl
            · have := hall h
              simp at this
              omega
          exact ⟨hbel.alloc hbel.size _, .inl ⟨hf, rfl⟩⟩
      · have h5' : xk ≠ 5 := h5
        go_wp2
        go_roundg g
        case measure => omega
        case rel =>
          refine ⟨k + 1, by omega, by first | rfl | simp [hw], ?_, ?_, ?_⟩
          · have e : lowF ⟨xk, xn, xl, xh⟩ = ⟨xk, xn, xl, xh⟩ := if_neg h5
            rw [e] at hls
            rw [← hls, hid]
            exact hA
          · exact hbel.alloc hbel.size _
          · rw [hlk, hlow]
            simp [h5]

/-- As a contract. -/
theorem lower52_ret (gl : Gl) (hdr : ¬ gl.dr) (s : List It) (hs : s.length ≤ 1000000) (hok : ∀ x ∈ s, itOk x) : Ret Tryz.prog gl 57 [.c (stC s)] (.tup [.c (stC (lowS s)), bv (lowB s)]) := by
  refine ⟨callF Tryz.func57 (by kernel_rfl) rfl, fun w G vs hG hgl hrep => ?_⟩
  obtain ⟨v, hvs, hv⟩ : ∃ v, vs = #[v] ∧ RepC w G (stC s) v := by
    obtain ⟨l⟩ := vs
    match l, hrep with
    | [a], h => exact ⟨a, rfl, h.1⟩
  subst hvs
  refine (lower52 s hs hok hv).mono ?_
  rintro e w' ⟨hb, ⟨h1, rfl⟩ | ⟨h1, a, cap, rfl, hown⟩⟩
  · refine ⟨_, rfl, hb, fun h => absurd h hdr, G, fun _ _ h => h, fun _ _ h => .inl h, fun b o h => Nat.lt_of_lt_of_le (hG b o h) hb.size, ?_⟩
    have e : lowS s = [] := by simp [lowS, h1]
    rw [e, h1]
    refine ⟨_, rfl, ?_⟩
    refine ⟨?_, ⟨rfl, rfl⟩, trivial⟩
    simp only [RepT, RepC]
    exact ⟨none, 0, rfl, Nat.le_refl _, .inl rfl⟩
  · have e : lowS s = s.map lowF := by simp [lowS, h1]
    refine ⟨_, rfl, hb, fun h => absurd h hdr, fun b o => G b o ∨ ((Value.slice a s.length cap).ownBlock = some b ∧ o < s.length * 4), fun _ _ h => .inl h, fun b o h => h.imp id (fun h => (hown.lt b h.1).1), fun b o h => ?_, ?_⟩
    · rcases h with h | h
      · exact Nat.lt_of_lt_of_le (hG b o h) hb.size
      · exact (hown.lt b h.1).2
    · rw [e, h1]
      refine ⟨_, rfl, ?_⟩
      refine ⟨?_, ⟨rfl, rfl⟩, trivial⟩
      have := RepC_own (cs := itsC (s.map lowF)) hown (rep_its (w := w') (G := fun b o => G b o ∨ ((Value.slice a s.length cap).ownBlock = some b ∧ o < s.length * 4)) (s.map lowF)) (fun b hb j hj => .inr ⟨hb, hj⟩)
      show RepC _ _ (stC (s.map lowF)) _
      have e2 : stC (s.map lowF) = .sl s.length (itsC (s.map lowF)) := by simp
      rw [e2]
      exact this

end Go.Proofs.YtilhjiopbbbgmaaGreatDoor

/- What one goes on to by a byte, in how many ways one ends, by what bytes are told apart: plain. -/
namespace Go.Proofs.YtilhjiopbbbgmaaGreatDoor
open Go Go.RowKit Am
set_option linter.unusedVariables false
set_option linter.unusedSimpArgs false

/-- Does an item of a kind read? -/
def stepB (k : Int) : Bool := k == 1 || (k == 3 || k == 4)
def stepF (n : Nd) (x : It) (c : Nat) : List It × Bool :=
  if x.k = 1 then nodeF n x c else if x.k = 3 then textF n x c else ([⟨1, n.a, 0, 0⟩, ⟨5, 0, 256 * x.lo + c, 0⟩], true)
def readF (d : List Nd) (c : Nat) : List It → Option (List It)
  | [] => none
  | x :: r => if (lowB r && (stepB x.k && (stepF (nd d x.n) x c).2)) = true then some ((stepF (nd d x.n) x c).1 ++ r.map lowF) else none

def goesL (d : List Nd) (c : Nat) (hs : List Br) : List (List It) := hs.flatMap fun h => match readF d c h.to with | some t => List.replicate h.many.toNat t | none => []
def onS (d : List Nd) (k : Nat) (s : List It) (c : Nat) : List Br := addL [] (goesL d c (headsS d k s))
def onR (d : List Nd) (c : Nat) (hs : List Br) (l : List Br) : List Br := hs.foldl (fun l h => match readF d c h.to with | some t => addB l t h.many false | none => l) l

theorem mn12 {m : Int} (h : 1 ≤ m ∧ m ≤ 2) : m = mn m.toNat := by
  have : m = 1 ∨ m = 2 := by omega
  rcases this with rfl | rfl <;> rfl

theorem onR_is (d : List Nd) (c : Nat) : ∀ (hs : List Br) {l : List Br} {L : List (List It)}, srt l → Is l L → (∀ b ∈ hs, 1 ≤ b.many ∧ b.many ≤ 2) → srt (onR d c hs l) ∧ Is (onR d c hs l) (L ++ goesL d c hs)
  | [], l, L, h1, h2, _ => by simpa [onR, goesL] using ⟨h1, h2⟩
  | b :: hs, l, L, h1, h2, h => by
    have hb := h b (by simp)
    have hr := fun x hx => h x (List.mem_cons_of_mem _ hx)
    cases e : readF d c b.to with
    | none =>
      have := onR_is d c hs h1 h2 hr
      simpa [onR, goesL, e] using this
    | some t =>
      obtain ⟨a1, a2⟩ := addB_is (t := t) (c := b.many.toNat) h1 h2 (by omega)
      rw [← mn12 hb] at a1 a2
      have := onR_is d c hs a1 a2 hr
      simpa [onR, goesL, e] using this

theorem heads_many {d : List Nd} {k : Nat} {s : List It} : ∀ b ∈ headsS d k s, 1 ≤ b.many ∧ b.many ≤ 2 := fun b hb => by
  obtain ⟨_, g⟩ := headsS_is d k s
  obtain ⟨m1, m2⟩ := (g b).1 hb
  have := List.count_pos_iff.2 m1
  rw [m2]
  simp only [mn]
  split <;> omega

theorem onR_eq (d : List Nd) (k : Nat) (s : List It) (c : Nat) : onR d c (headsS d k s) [] = onS d k s c := by
  obtain ⟨a1, a2⟩ := onR_is d c (headsS d k s) is_nil.1 is_nil.2 heads_many
  have h := addL_is (goesL d c (headsS d k s)) is_nil.1 is_nil.2
  refine eq_of_srt a1 h.1 fun y => (a2 y).trans ?_
  have e := h.2 y
  simpa [onS] using e.symm

def endsF : List Br → Int
  | [] => 0
  | b :: l => if b.to = [] then b.many else endsF l

def clsF (d : List Nd) (t : List It) : List (Nat → Nat) :=
  match t with
  | [] => []
  | x :: _ => if (x.k == 3) = true then [one (bAt (nd d x.n).s x.lo).toNat] else if ((nd d x.n).k == 2) = true then [(nd d x.n).g] else singles 256
def classesF (d : List Nd) (hs : List Br) : List (Nat → Nat) := hs.flatMap fun b => clsF d b.to

theorem rowN_bit (f t c : Nat) (hc : c < 256) : hasN (rowN f t 256) c = inr f t c := by
  simp only [hasN, rowN, bits_bit]
  have h1 : c % 64 < 64 := by omega
  have h2 : 64 * (c / 64) + c % 64 = c := by omega
  simp [h1, h2, hc]
theorem one_bit (x c : Nat) (hc : c < 256) : hasN (one x) c = (x == c) := by
  rw [one, rowN_bit x x c hc, inr]
  by_cases h : x = c
  · subst h; simp
  · have : (x == c) = false := by simpa using h
    rw [this]
    by_cases h1 : x ≤ c
    · have : ¬ c ≤ x := by omega
      simp [this]
    · simp [h1]

end Go.Proofs.YtilhjiopbbbgmaaGreatDoor

/- Forms: what opens from a state that has its form, and what it goes on to, has its form; two bytes that the classes don't tell apart are read alike. -/
namespace Go.Proofs.YtilhjiopbbbgmaaGreatDoor
open Go Go.RowKit Am
set_option linter.unusedVariables false
set_option linter.unusedSimpArgs false

def OkI (d : List Nd) (x : It) : Prop := (x.k = 5 ∧ x.n = 0 ∧ x.hi = 0 ∧ 0 ≤ x.lo ∧ x.lo ≤ 65535) ∨ ((0 ≤ x.n ∧ x.n < d.length) ∧ ((x.k = 1 ∧ x.lo = 0 ∧ x.hi = 0) ∨ (x.k = 2 ∧ (nd d x.n).k = 7 ∧ 0 ≤ x.lo ∧ x.lo ≤ x.hi ∧ x.hi ≤ (nd d x.n).hi) ∨
  (x.k = 3 ∧ (nd d x.n).k = 3 ∧ x.hi = 0 ∧ 0 ≤ x.lo ∧ x.lo < (nd d x.n).s.size) ∨ (x.k = 4 ∧ (nd d x.n).k = 9 ∧ x.hi = 0 ∧ 0 ≤ x.lo ∧ x.lo ≤ 255)))

theorem okIt_iff (d : List Nd) (x : It) : okIt d x = true ↔ OkI d x := by
  obtain ⟨k, n, lo, hi⟩ := x
  simp only [okIt, OkI]
  by_cases h5 : k = 5
  · subst h5; simp
  · have e5 : (k == 5) = false := by simpa using h5
    simp only [e5, Bool.false_eq_true, if_false, h5, false_and, false_or]
    by_cases hr : 0 ≤ n ∧ n < d.length
    · have er : (decide (n < 0) || decide ((d.length : Int) ≤ n)) = false := by simp; omega
      simp only [er, Bool.false_eq_true, if_false, hr, and_self, true_and]
      by_cases h1 : k = 1
      · subst h1; simp
      · have e1 : (k == 1) = false := by simpa using h1
        simp only [e1, Bool.false_eq_true, if_false, h1, false_and, false_or]
        by_cases h2 : k = 2
        · subst h2; simp
        · have e2 : (k == 2) = false := by simpa using h2
          simp only [e2, Bool.false_eq_true, if_false, h2, false_and, false_or]
          by_cases h3 : k = 3
          · subst h3; simp
          · have e3 : (k == 3) = false := by simpa using h3
            simp only [e3, Bool.false_eq_true, if_false, h3, false_and, false_or]
            by_cases h4 : k = 4
            · subst h4; simp
            · have e4 : (k == 4) = false := by simpa using h4
              simp [e4, h4]
    · have er : (decide (n < 0) || decide ((d.length : Int) ≤ n)) = true := by simp; omega
      simp only [er, if_true, hr, false_and, Bool.false_eq_true]

def OkS (d : List Nd) (s : List It) : Prop := ∀ x ∈ s, OkI d x
theorem okSt_iff (d : List Nd) (s : List It) : okSt d s = true ↔ OkS d s := by
  simp only [okSt, List.all_eq_true, okIt_iff, OkS]
theorem OkS.cons {d : List Nd} {x : It} {s : List It} (hx : OkI d x) (hs : OkS d s) : OkS d (x :: s) := fun y hy => (List.mem_cons.1 hy).elim (fun e => e ▸ hx) (hs y)

theorem okS_open {d : List Nd} (hd : WFd d) {s : List It} (h : OkS d s) : ∀ t ∈ openS d s, OkS d t := by
  cases s with
  | nil => simp [openS]
  | cons x s =>
    have hx := h x (by simp)
    have hr : OkS d s := fun y hy => h y (by simp [hy])
    intro t ht
    have key : (x.k = 5) ∨ (0 ≤ x.n ∧ x.n < d.length) := hx.elim (fun h => .inl h.1) (fun h => .inr h.1)
    rcases key with h5 | hn
    · have e5 : (x.k == 5) = true := by simpa using h5
      simp only [openS, e5, if_true] at ht
      split at ht
      · simp only [List.mem_singleton] at ht; subst ht; exact hr
      · cases ht
    · obtain ⟨k1, k2, a1, a2, b1, b2, o1, o2, o3, o4⟩ := hd.nd x.n hn.1 hn.2
      have ga : ∀ u, OkS d u → OkS d (⟨1, (nd d x.n).a, 0, 0⟩ :: u) := fun u hu => OkS.cons (.inr ⟨⟨a1, a2⟩, .inl ⟨rfl, rfl, rfl⟩⟩) hu
      have gb : ∀ u, OkS d u → OkS d (⟨1, (nd d x.n).b, 0, 0⟩ :: u) := fun u hu => OkS.cons (.inr ⟨⟨b1, b2⟩, .inl ⟨rfl, rfl, rfl⟩⟩) hu
      have g3 : (nd d x.n).k = 3 → OkS d (⟨3, x.n, 0, 0⟩ :: s) := fun e => OkS.cons (.inr ⟨hn, .inr (.inr (.inl ⟨rfl, e, rfl, by simp, by have := o4 e; simp; omega⟩))⟩) hr
      have g7 : (nd d x.n).k = 7 → OkS d (⟨2, x.n, (nd d x.n).lo, (nd d x.n).hi⟩ :: s) := fun e => OkS.cons (.inr ⟨hn, .inr (.inl ⟨rfl, e, by simp only; omega, by simp only; omega, by simp⟩)⟩) hr
      simp only [openS] at ht
      split at ht
      · split at ht
        · simp only [List.mem_singleton] at ht; subst ht; exact hr
        · cases ht
      · split at ht
        · rename_i h2
          have h2 : x.k = 2 := by simpa using h2
          have hx2 : (nd d x.n).k = 7 ∧ 0 ≤ x.lo ∧ x.lo ≤ x.hi ∧ x.hi ≤ (nd d x.n).hi := by
            rcases hx with h | ⟨_, h | h | h | h⟩
            · omega
            · omega
            · exact h.2
            · omega
            · omega
          rcases List.mem_append.1 ht with ht | ht
          · split at ht
            · simp only [List.mem_singleton] at ht; subst ht; exact hr
            · cases ht
          · split at ht
            · simp only [List.mem_singleton] at ht; subst ht
              refine ga _ (OkS.cons (.inr ⟨hn, .inr (.inl ⟨rfl, hx2.1, ?_, ?_, ?_⟩)⟩) hr)
              · simp only; split <;> omega
              · simp only; split <;> omega
              · simp only; omega
            · cases ht
        · repeat' split at ht
          all_goals simp only [List.mem_cons, List.not_mem_nil, or_false] at ht
          all_goals try (rcases ht with rfl | rfl)
          all_goals try subst ht
          all_goals first
            | exact hr
            | exact ga _ hr
            | exact gb _ hr
            | exact ga _ (gb _ hr)
            | exact ga _ h
            | (rename_i e; exact g3 (by simpa using e))
            | (rename_i e; exact g7 (by simpa using e))

theorem okS_leaves {d : List Nd} (hd : WFd d) : ∀ (k : Nat) {s : List It}, OkS d s → ∀ t ∈ leaves d k s, OkS d t ∧ rdy d t = true
  | 0, s, _, t, ht => by cases ht
  | k + 1, s, h, t, ht => by
    simp only [leaves] at ht
    split at ht
    · rename_i hr
      simp only [List.mem_singleton] at ht
      subst ht
      exact ⟨h, hr⟩
    · obtain ⟨u, hu, ht⟩ := List.mem_flatMap.1 ht
      exact okS_leaves hd k (okS_open hd h u hu) t ht

theorem heads_mem {d : List Nd} {k : Nat} {s : List It} {b : Br} (hb : b ∈ headsS d k s) : b.to ∈ leaves d k s := (((headsS_is d k s).2 b).1 hb).1

theorem okS_low {d : List Nd} {s : List It} (h : OkS d s) (hl : lowB s = true) : OkS d (s.map lowF) := by
  intro y hy
  obtain ⟨x, hx, rfl⟩ := List.mem_map.1 hy
  have h1 := h x hx
  have h2 := List.all_eq_true.1 hl x hx
  simp only [lowF]
  split
  · rename_i h5
    rcases h1 with h1 | h1
    · refine .inl ⟨h5, h1.2.1, h1.2.2.1, ?_, ?_⟩
      · simp [h5] at h2; simp only; omega
      · simp only; omega
    · omega
  · exact h1

theorem bAt_r (s : ByteArray) (i : Int) : 0 ≤ bAt s i ∧ bAt s i < 256 := by
  have := (s.data.toList.getD i.toNat 0).toNat_lt
  simp only [bAt]
  omega

theorem okS_read {d : List Nd} (hd : WFd d) {s t : List It} {c : Nat} (hc : c < 256) (h : OkS d s) (he : readF d c s = some t) : OkS d t := by
  cases s with
  | nil => cases he
  | cons x r =>
    have hx := h x (by simp)
    have hr : OkS d r := fun y hy => h y (by simp [hy])
    simp only [readF] at he
    split at he
    · rename_i hg
      simp only [Bool.and_eq_true] at hg
      obtain ⟨g1, g2, g3⟩ := hg
      cases he
      have hlow := okS_low hr g1
      have app : ∀ a, OkS d a → OkS d (a ++ r.map lowF) := fun a ha y hy => (List.mem_append.1 hy).elim (ha y) (hlow y)
      refine app _ ?_
      simp only [stepB, Bool.or_eq_true, beq_iff_eq] at g2
      have hn : 0 ≤ x.n ∧ x.n < d.length := by
        rcases hx with h | h
        · omega
        · exact h.1
      obtain ⟨k1, k2, a1, a2, b1, b2, o1, o2, o3, o4⟩ := hd.nd x.n hn.1 hn.2
      have fr : ∀ v : Int, 0 ≤ v → v ≤ 65535 → OkS d [⟨1, (nd d x.n).a, 0, 0⟩, ⟨5, 0, v, 0⟩] := fun v h1 h2 =>
        OkS.cons (.inr ⟨⟨a1, a2⟩, .inl ⟨rfl, rfl, rfl⟩⟩) (OkS.cons (.inl ⟨rfl, rfl, rfl, h1, h2⟩) (fun y hy => by cases hy))
      simp only [stepF]
      split
      · simp only [nodeF]
        split
        · exact fr _ (by omega) (by omega)
        · split
          · rename_i h9
            exact OkS.cons (.inr ⟨hn, .inr (.inr (.inr ⟨rfl, by simpa using h9, rfl, by simp, by simp only; omega⟩))⟩) (fun y hy => by cases hy)
          · intro y hy; cases hy
      · split
        · rename_i h1 h3
          simp only [textF]
          split
          · intro y hy; cases hy
          · rename_i hne
            have : (nd d x.n).k = 3 ∧ x.hi = 0 ∧ 0 ≤ x.lo ∧ x.lo < (nd d x.n).s.size := by
              rcases hx with h | ⟨_, h | h | h | h⟩
              · omega
              · omega
              · omega
              · exact h.2
              · omega
            exact OkS.cons (.inr ⟨hn, .inr (.inr (.inl ⟨h3, this.1, this.2.1, by simp only; omega, by simp only; omega⟩))⟩) (fun y hy => by cases hy)
        · rename_i h1 h3
          have : x.lo ≤ 255 ∧ 0 ≤ x.lo := by
            rcases hx with h | ⟨_, h | h | h | h⟩
            · omega
            · omega
            · omega
            · omega
            · exact ⟨h.2.2.2.2, h.2.2.2.1⟩
          exact fr _ (by omega) (by omega)
    · cases he

/-- Two bytes that the classes don't tell apart are read alike. -/
theorem read_alike {d : List Nd} {t : List It} (ht : OkS d t) {a b : Nat} (ha : a < 256) (hb : b < 256) (h : ∀ g ∈ clsF d t, hasN g a = hasN g b) : readF d a t = readF d b t := by
  cases t with
  | nil => rfl
  | cons x r =>
    have hx := ht x (by simp)
    have alike : ((nd d x.n).k ≠ 2 → x.k ≠ 3 → a = b) := fun h2 h3 => by
      have e3 : (x.k == 3) = false := by simpa using h3
      have e2 : ((nd d x.n).k == 2) = false := by simpa using h2
      simp only [clsF, e3, e2, Bool.false_eq_true, if_false] at h
      have := h (one a) (List.mem_map.2 ⟨a, by simpa using ha, rfl⟩)
      rw [one_bit a a ha, one_bit a b hb] at this
      simpa using this.symm
    by_cases h3 : x.k = 3
    · have e3 : (x.k == 3) = true := by simpa using h3
      simp only [clsF, e3, if_true, List.mem_singleton, forall_eq] at h
      rw [one_bit _ a ha, one_bit _ b hb] at h
      obtain ⟨r1, r2⟩ := bAt_r (nd d x.n).s x.lo
      have hq : (bAt (nd d x.n).s x.lo == (a : Int)) = (bAt (nd d x.n).s x.lo == (b : Int)) := by
        have e : ∀ c : Nat, (bAt (nd d x.n).s x.lo == (c : Int)) = ((bAt (nd d x.n).s x.lo).toNat == c) := fun c => by
          rw [Bool.eq_iff_iff, beq_iff_eq, beq_iff_eq]; omega
        rw [e, e, h]
      have h1 : x.k ≠ 1 := by omega
      simp only [readF, stepF, if_neg h1, if_pos h3, textF, hq]
    · by_cases h2 : (nd d x.n).k = 2
      · have e3 : (x.k == 3) = false := by simpa using h3
        have e2 : ((nd d x.n).k == 2) = true := by simpa using h2
        simp only [clsF, e3, e2, Bool.false_eq_true, if_false, if_true, List.mem_singleton, forall_eq] at h
        by_cases h1 : x.k = 1
        · have e8 : ((nd d x.n).k == 8) = false := by rw [h2]; rfl
          have e9 : ((nd d x.n).k == 9) = false := by rw [h2]; rfl
          simp only [readF, stepF, if_pos h1, nodeF, e8, e9, h, Bool.false_eq_true, if_false]
        · have h4 : x.k ≠ 4 := fun h4 => by
            rcases hx with h | ⟨_, h | h | h | h⟩ <;> omega
          have : stepB x.k = false := by simp [stepB, h1, h3, h4]
          simp only [readF, this, Bool.false_and, Bool.and_false, Bool.false_eq_true, if_false]
      · rw [alike h2 h3]

theorem onS_alike {d : List Nd} (hd : WFd d) {k : Nat} {s : List It} (h : OkS d s) {a b : Nat} (ha : a < 256) (hb : b < 256) (hc : ∀ g ∈ classesF d (headsS d k s), hasN g a = hasN g b) : onS d k s a = onS d k s b := by
  have : ∀ hs : List Br, (∀ x ∈ hs, readF d a x.to = readF d b x.to) → goesL d a hs = goesL d b hs := fun hs => by
    induction hs with
    | nil => intro _; rfl
    | cons x hs ih =>
      intro hx
      simp only [goesL, List.flatMap_cons] at ih ⊢
      rw [hx x (by simp), ih fun y hy => hx y (by simp [hy])]
  rw [onS, onS, this _ fun x hx => read_alike (okS_leaves hd k h _ (heads_mem hx)).1 ha hb fun g hg => hc g (List.mem_flatMap.2 ⟨x, hx, hg⟩)]

end Go.Proofs.YtilhjiopbbbgmaaGreatDoor

/- The document's row of bytes: made in a list of the call's own. -/
namespace Go.Proofs.YtilhjiopbbbgmaaGreatDoor
open Go Go.RowKit Am Go.Shelf
set_option linter.unusedVariables false
set_option linter.unusedSimpArgs false

theorem info4 : (Tryz.prog.info? 4).map (fun i => (i.zero, i.size, i.bytes)) = some (some (.bool false), 1, 1) := by kernel_rfl

def blW (l : List Bool) : List Value := l.map Value.bool
def marks (f t k : Nat) : List Bool := (List.range 256).map fun j => inr f t j && decide (j < k)
theorem marks_length (f t k : Nat) : (marks f t k).length = 256 := by rw [marks, List.length_map, List.length_range]
theorem blW_length (l : List Bool) : (blW l).length = l.length := by simp [blW]

theorem marks_zero (f t k : Nat) (h : k ≤ f) : marks f t k = List.replicate 256 false := by
  apply List.ext_getElem (by simp only [marks, List.length_map, List.length_range, List.length_replicate, List.length_set])
  intro i h1 h2
  simp only [marks, List.getElem_map, List.getElem_range, List.getElem_replicate, inr]
  by_cases hi : i < k
  · have : ¬ f ≤ i := by omega
    simp [this]
  · simp [hi]

theorem marks_set (f t k : Nat) (h1 : f ≤ k) (h2 : k ≤ t) : (marks f t k).set k true = marks f t (k + 1) := by
  apply List.ext_getElem (by simp only [marks, List.length_map, List.length_range, List.length_replicate, List.length_set])
  intro i h3 h4
  rw [List.getElem_set]
  simp only [marks, List.getElem_map, List.getElem_range, inr]
  by_cases hi : k = i
  · subst hi
    simp [h1, h2]
  · have e : decide (i < k) = decide (i < k + 1) := by rw [decide_eq_decide]; omega
    rw [if_neg hi, e]

theorem rep_bls {w : World} {G : Am.Good} : ∀ l : List Bool, RepL w G (blC l) (blW l)
  | [] => trivial
  | b :: l => ⟨⟨rfl, rfl⟩, rep_bls l⟩

theorem ofN_row (f t M : Nat) (hM : t < M) : ws (ofN (marks f t M) 4 0) = ws (rowN f t 256) := ws_congr fun k hk => by
  simp only [ofN, if_pos hk, rowN]
  refine bits_congr fun j hj => ?_
  have h : 64 * k + j < 256 := by omega
  have hg : (marks f t M).getD (64 * k + j) false = (inr f t (64 * k + j) && decide (64 * k + j < M)) := by
    rw [List.getD_eq_getElem?_getD, List.getElem?_eq_getElem (by rw [marks_length]; exact h)]
    simp [marks]
  rw [hg]
  have e : decide (64 * k + j < 256) = true := by simpa using h
  rw [e, Bool.and_true]
  simp only [inr]
  by_cases g : 64 * k + j ≤ t
  · have : decide (64 * k + j < M) = true := by simp; omega
    rw [this, Bool.and_true]
  · simp [g]

theorem grown_below' {B : Nat} {w w' : World} (h : w.grownBy w' none) (hB : B ≤ w.heap.size) : Below B w w' := ⟨h.os, h.tape, h.output, h.size, fun k hk => h.block k (by omega) (by simp)⟩

theorem repL_ws {w : World} {G : Am.Good} {g : Nat → Nat} : ∀ {ys : List Value}, RepL w G (ws g) ys → ys = [.int .u64 (g 0 : Int), .int .u64 (g 1 : Int), .int .u64 (g 2 : Int), .int .u64 (g 3 : Int)]
  | [], h => h.elim
  | [_], h => h.2.elim
  | [_, _], h => h.2.2.elim
  | [_, _, _], h => h.2.2.2.elim
  | [a, b, c, d], h => by
    obtain ⟨⟨rfl, _⟩, ⟨rfl, _⟩, ⟨rfl, _⟩, ⟨rfl, _⟩, _⟩ := h
    rfl
  | _ :: _ :: _ :: _ :: _ :: _, h => h.2.2.2.2.elim

def glE : Gl := ⟨fun _ => none, fun _ => True, fun _ _ _ _ => trivial, False⟩

theorem of64_c (l : List Bool) (hl : l.length = 256) (B b : Nat) (w : World) (hown : w.ownsRow B 4 1 (.slice (some ⟨b, 0, none⟩) 256 256) 256 (blW l)) : Calls Tryz.prog 69 #[.slice (some ⟨b, 0, none⟩) 256 256] w fun e w' =>
    Below w.heap.size w w' ∧ e = .returned (.agg #[.int .u64 (ofN l 4 0 0 : Int), .int .u64 (ofN l 4 0 1 : Int), .int .u64 (ofN l 4 0 2 : Int), .int .u64 (ofN l 4 0 3 : Int)]) := by
  have hrep : RepC w (fun x o => x = b ∧ o < 256) (.sl 256 (blC l)) (.slice (some ⟨b, 0, none⟩) 256 256) :=
    RepC_own hown (rep_bls l) (fun x hx o ho => ⟨by simpa [Value.ownBlock] using hx.symm, by omega⟩)
  refine ((of64_ret glE l hl).2 w (fun x o => x = b ∧ o < 256) #[.slice (some ⟨b, 0, none⟩) 256 256] (fun x o h => by have := (hown.lt b rfl).2; omega) ⟨fun i cs h => (by cases h), trivial⟩ ⟨hrep, trivial⟩).mono ?_
  rintro e w' ⟨v, rfl, hb, _, G', _, _, _, hr⟩
  obtain ⟨⟨ys⟩, rfl, hy⟩ := hr
  have := repL_ws hy
  subst this
  exact ⟨hb, rfl⟩

set_option maxHeartbeats 4000000 in
set_option maxRecDepth 1000000 in
theorem row43 (f t : Nat) (hf : f < 256) (ht : t < 256) (w : World) : Calls Tryz.prog 41 #[.int .u8 (f : Int), .int .u8 (t : Int)] w fun e w' =>
    Below w.heap.size w w' ∧ e = .returned (.agg #[.int .u64 (rowN f t 256 0 : Int), .int .u64 (rowN f t 256 1 : Int), .int .u64 (rowN f t 256 2 : Int), .int .u64 (rowN f t 256 3 : Int)]) := by
  obtain ⟨i0, hi0, hz0, hs0, hb0⟩ := info_parts info4
  go_enter Tryz.func41, Tryz.ntmps41
  go_wp2_with (at_make; refine wpList_make_full _ rfl _ _ 93 rfl w.heap.size 4 i0 _ 1 Tryz.underlying93 hi0 hz0 hs0 .i64 .i64 256 256 256 rfl rfl rfl rfl (by rw [hb0]; omega) (by simp [maxLen]) (by simp) ?_; intro w1 hown1 hg1)
  have hrow0 : w1.ownsRow w.heap.size 4 1 (.slice (some ⟨w.heap.size + 1, 0, none⟩) 256 256) 256 (blW (marks f t f)) := by
    have e : blW (marks f t f) = (madeCells (Value.bool false).cells (256 * 1)).toList := by
      rw [marks_zero f t f (Nat.le_refl _), blW, List.map_replicate]
      exact (toList_madeCells_one _ _).symm
    rw [e]
    simpa using hown1
  have hcell0 : w1.heap[w.heap.size]? = some (.cells #[.int .u64 0, .int .u64 0, .int .u64 0, .int .u64 0] 56 (0, 0)) := by
    rw [hg1.block w.heap.size (by simp) (by simp)]
    exact heap_alloc_new w _
  have hb1 : Below w.heap.size w w1 := ((Below.refl _ w).alloc (Nat.le_refl _) _).trans (grown_below' hg1 (by simp))
  obtain ⟨M, hM⟩ : ∃ M, M = max f (t + 1) := ⟨_, rfl⟩
  go_loopg [6] (M - f) (fun g x wx => ∃ k : Nat, f ≤ k ∧ k + g = M ∧ x = .int .i64 k ∧ wx.ownsRow w.heap.size 4 1 (.slice (some ⟨w.heap.size + 1, 0, none⟩) 256 256) 256 (blW (marks f t k)) ∧
    wx.heap[w.heap.size]? = some (.cells #[.int .u64 0, .int .u64 0, .int .u64 0, .int .u64 0] 56 (0, 0)) ∧ Below w.heap.size w wx)
  case atStart => exact ⟨f, Nat.le_refl _, by omega, rfl, hrow0, hcell0, hb1⟩
  case round =>
    obtain ⟨k, hfk, hkg, rfl, hown, hcell, hbel⟩ := hrel
    clear hrow0 hcell0 hb1 hown1
    cases gk with
    | zero =>
      have hkz : ¬ ((k : Int) ≤ (t : Int)) := by omega
      have h64 := of64_c (marks f t k) (marks_length f t k) w.heap.size (w.heap.size + 1) wr hown
      have hws := ofN_row f t k (by omega)
      simp only [ws, List.cons.injEq, C.v.injEq, Value.int.injEq, true_and, and_true] at hws
      obtain ⟨e0, e1, e2, e3⟩ := hws
      rw [e0, e1, e2, e3] at h64
      obtain ⟨r0, hr0⟩ : ∃ r : Int, (rowN f t 256 0 : Int) = r := ⟨_, rfl⟩
      obtain ⟨r1, hr1⟩ : ∃ r : Int, (rowN f t 256 1 : Int) = r := ⟨_, rfl⟩
      obtain ⟨r2, hr2⟩ : ∃ r : Int, (rowN f t 256 2 : Int) = r := ⟨_, rfl⟩
      obtain ⟨r3, hr3⟩ : ∃ r : Int, (rowN f t 256 3 : Int) = r := ⟨_, rfl⟩
      rw [hr0, hr1, hr2, hr3] at h64
      have hi46 : (Tryz.prog.info? 56).map (·.size) = some 4 := by kernel_rfl
      have hlt : w.heap.size < wr.heap.size := (Array.getElem?_eq_some_iff.1 hcell).1
      have hall : (#[.int .u64 r0, .int .u64 r1, .int .u64 r2, .int .u64 r3] : Array Value).all (·.oneCell') = true := by simp [Value.oneCell']
      go_wp2_with (first
        | (go_at_call 69; refine h64.mono ?_; rintro e w3 ⟨hb3, rfl⟩; have h3 := (hb3.block w.heap.size hlt).trans hcell)
        | (refine wpList_store_row rfl 56 (.tmp 4) (.tmp 20) rfl w.heap.size _ rfl rfl 56 _ h3 hi46 rfl hall ?_))
      have h5 : (w3.setRow w.heap.size #[.int .u64 r0, .int .u64 r1, .int .u64 r2, .int .u64 r3]).heap[w.heap.size]? = some (.cells #[.int .u64 r0, .int .u64 r1, .int .u64 r2, .int .u64 r3] 56 (0, 0)) := setRow_heap _ _ _ _ _ _ h3
      (try simp only [Exit.inBlock, Exit.then])
      refine bodyPost_ret (results_cell_row rfl _ _ w.heap.size 56 _ (0, 0) _ rfl h5 Tryz.underlying56 rfl hi46) rfl ?_
      refine ⟨?_, by rw [hr0, hr1, hr2, hr3]⟩
      have hb4 : Below w.heap.size w w3 := hbel.trans (hb3.mono hbel.size)
      exact ⟨hb4.os, hb4.tape, hb4.output, Nat.le_trans hb4.size (by simp [World.setRow]), fun j hj => (setRow_other _ _ _ _ (by omega)).trans (hb4.block j hj)⟩
    | succ g =>
      have hkt : k ≤ t := by omega
      have hkz : (k : Int) ≤ (t : Int) := by omega
      have hk256 : (k : Int) < 256 := by omega
      have hq : (blW (marks f t k))[k]? = some (.bool false) := by
        have h : k < (marks f t k).length := by rw [marks_length]; omega
        rw [blW, List.getElem?_map, List.getElem?_eq_getElem h]
        simp [marks]
      have c0 := (hown.cellAt k (by omega)).trans hq
      have f0 := hown.frozenAt k
      have hB := hown.stored k (.bool true)
      have e : (blW (marks f t k)).set k (.bool true) = blW (marks f t (k + 1)) := by
        rw [← marks_set f t k hfk hkt]
        simp [blW, List.map_set]
      rw [e] at hB
      have hw : wrap64 ((k : Int) + 1) = ((k + 1 : Nat) : Int) := by unfold wrap64; omega
      clear e hq
      go_wp2
      go_roundg g
      case measure => omega
      case rel =>
        refine ⟨k + 1, by omega, by omega, by first | rfl | simp [hw], hB.1, ?_, below_own hbel (Nat.le_refl _) hB.2 (by omega)⟩
        rw [hB.2.block w.heap.size (by have := (Array.getElem?_eq_some_iff.1 hcell).1; exact this) (fun e => by have := Option.some.inj e; omega)]
        exact hcell

theorem row43_ret (gl : Gl) (hdr : ¬ gl.dr) (f t : Nat) (hf : f < 256) (ht : t < 256) : Ret Tryz.prog gl 41 [.c (.v (.int .u8 (f : Int))), .c (.v (.int .u8 (t : Int)))] (.agg (ws (rowN f t 256))) := by
  refine ⟨callF Tryz.func41 (by kernel_rfl) rfl, fun w G vs hG hgl hrep => ?_⟩
  have hvs : vs = #[.int .u8 (f : Int), .int .u8 (t : Int)] := by
    obtain ⟨l⟩ := vs
    match l, hrep with
    | [a, b], h =>
      obtain ⟨⟨rfl, _⟩, ⟨rfl, _⟩, _⟩ := h
      rfl
  subst hvs
  refine (row43 f t hf ht w).mono ?_
  rintro e w' ⟨hb, rfl⟩
  exact ⟨_, rfl, hb, fun h => absurd h hdr, G, fun _ _ h => h, fun _ _ h => .inl h, fun b o h => Nat.lt_of_lt_of_le (hG b o h) hb.size, _, rfl, ⟨rfl, rfl⟩, ⟨rfl, rfl⟩, ⟨rfl, rfl⟩, ⟨rfl, rfl⟩, trivial⟩

end Go.Proofs.YtilhjiopbbbgmaaGreatDoor

/- Read: what a byte leaves of a state. -/
namespace Go.Proofs.YtilhjiopbbbgmaaGreatDoor
open Go Go.RowKit Am Go.Shelf
set_option linter.unusedVariables false
set_option linter.unusedSimpArgs false

theorem Ret.weaken {P : Program} {gl gl' : Gl} {f : FuncId} {args : List SV} {r : SV} (hc : ∀ i cs, gl.cells i = some cs → gl'.cells i = some cs) (hi : ∀ w, gl'.inv w → gl.inv w) (hd : gl'.dr → gl.dr)
    (h : Ret P gl f args r) : Ret P gl' f args r :=
  ⟨h.1, fun w G vs hG hgl hrep => (h.2 w G vs hG ⟨fun i cs e => hgl.1 i cs (hc i cs e), hi w hgl.2⟩ hrep).mono fun e w' ⟨v, h1, h2, h3, h4⟩ => ⟨v, h1, h2, fun x => h3 (hd x), h4⟩⟩

/-- What an item reads by: a function. -/
def stepG (k : Int) : FuncId := if k = 1 then 181 else if k = 3 then 182 else 178
def stepV (k : Int) (z : Value) : Value := if stepB k = true then .func (.func (stepG k)) #[] #[] else z

/-- The table of what items read lies as its text lays it. -/
def StepsOk (w : World) : Prop := ∃ bm es clock z, w.cell? ⟨0, 0, none⟩ = some (.map (some bm)) ∧ w.heap[bm]? = some (.map es clock) ∧
  ∀ w' : World, w'.heap[bm]? = some (.map es clock) → ∀ k : Int, i64 k → (Instr.lookup 80 (.map (some bm)) (.int .i64 k) true).run Tryz.prog w' = .ok (.tuple #[stepV k z, .bool (stepB k)]) w'

theorem StepsOk.stable {w w' : World} (hb : Below w.heap.size w w') (h : StepsOk w) : StepsOk w' := by
  obtain ⟨bm, es, clock, z, h1, h2, h3⟩ := h
  have l2 := (Array.getElem?_eq_some_iff.1 h2).1
  have l1 : 0 < w.heap.size := by
    rcases Nat.lt_or_ge 0 w.heap.size with h' | h'
    · exact h'
    · simp [World.cell?, Array.getElem?_eq_none h'] at h1
  exact ⟨bm, es, clock, z, (hb.cell (p := ⟨0, 0, none⟩) l1).trans h1, (hb.block bm l2).trans h2, h3⟩

/-- What next reads of the world. -/
def glN : Gl := ⟨fun g => if g = 1 then some readiesC else none, fun w => PowTab w ∧ StepsOk w, fun w w' hb h => ⟨tabPow2 h.1 fun hlt => hb.block 2 hlt, h.2.stable hb⟩, False⟩
theorem ofD {f : FuncId} {args : List SV} {r : SV} (h : Ret Tryz.prog glD f args r) : Ret Tryz.prog glN f args r := Ret.weaken (gl := glD) (gl' := glN) (fun _ _ e => e) (fun _ (h : PowTab _ ∧ StepsOk _) => h.1) (fun h => h) h


/-- A node's cells, where a description lies. -/
theorem ndsC_at {w : World} {G : Am.Good} {d : List Nd} {vd : Value} (h : RepL w G (dC d) [vd]) (m : Nat) (hm : m < d.length) : ∃ bo oo cap, vd = .slice (some ⟨bo, oo, none⟩) d.length cap ∧ bo < w.heap.size ∧
    w.cell? ⟨bo, oo + m * 10, none⟩ = some (.int .i64 d[m].k) ∧ w.cell? ⟨bo, oo + m * 10 + 1, none⟩ = some (.int .i64 d[m].a) ∧ w.cell? ⟨bo, oo + m * 10 + 2, none⟩ = some (.int .i64 d[m].b) ∧
    w.cell? ⟨bo, oo + m * 10 + 3, none⟩ = some (.int .i64 d[m].lo) ∧ w.cell? ⟨bo, oo + m * 10 + 4, none⟩ = some (.int .i64 d[m].hi) ∧ w.cell? ⟨bo, oo + m * 10 + 5, none⟩ = some (.int .u64 d[m].c0) ∧
    w.cell? ⟨bo, oo + m * 10 + 6, none⟩ = some (.int .u64 d[m].c1) ∧ w.cell? ⟨bo, oo + m * 10 + 7, none⟩ = some (.int .u64 d[m].c2) ∧ w.cell? ⟨bo, oo + m * 10 + 8, none⟩ = some (.int .u64 d[m].c3) ∧ w.cell? ⟨bo, oo + m * 10 + 9, none⟩ = some (.string d[m].s) := by
  simp only [dC, RepL, RepC] at h
  obtain ⟨⟨a, cap, rfl, _, h⟩, _⟩ := h
  have e := ndsC_drop d m hm
  have hl := ndsC_length d
  rcases h with h | ⟨b, o, rfl, h⟩
  · rw [h] at hl; simp at hl; omega
  · have g : ∀ (j : Nat) (v : Value), ((ndsC d).drop (m * 10))[j]? = some (.v v) → w.cell? ⟨b, o + m * 10 + j, none⟩ = some v := fun j v hj => by
      rw [List.getElem?_drop] at hj
      obtain ⟨_, y, hy, hr⟩ := h.get hj
      simp only [RepC] at hr
      rw [← Nat.add_assoc] at hy
      rw [hy, hr.1]
    rw [e] at g
    have h0 := g 0 _ rfl
    rw [Nat.add_zero] at h0
    obtain ⟨b', o', e', hlt⟩ := plain_of_cell h0
    cases e'
    exact ⟨b, o, cap, rfl, hlt, h0, g 1 _ rfl, g 2 _ rfl, g 3 _ rfl, g 4 _ rfl, g 5 _ rfl, g 6 _ rfl, g 7 _ rfl, g 8 _ rfl, g 9 _ rfl⟩

theorem itsC_at {w : World} {G : Am.Good} {x : It} {r : List It} {b o : Nat} (h : RepM w G (itsC (x :: r)) b o) : b < w.heap.size ∧ w.cell? ⟨b, o, none⟩ = some (.int .i64 x.k) ∧ w.cell? ⟨b, o + 1, none⟩ = some (.int .i64 x.n) ∧ w.cell? ⟨b, o + 2, none⟩ = some (.int .i64 x.lo) ∧
    w.cell? ⟨b, o + 3, none⟩ = some (.int .i64 x.hi) ∧ RepM w G (itsC r) b (o + 4) := by
  rw [itsC_cons] at h
  obtain ⟨_, ⟨y0, c0, r0⟩, _, ⟨y1, c1, r1⟩, _, ⟨y2, c2, r2⟩, _, ⟨y3, c3, r3⟩, h⟩ := h
  simp only [RepC] at r0 r1 r2 r3
  rw [r0.1] at c0
  rw [r1.1] at c1
  rw [r2.1] at c2
  rw [r3.1] at c3
  obtain ⟨b', o', e', hlt⟩ := plain_of_cell c0
  cases e'
  exact ⟨hlt, c0, c1, c2, c3, h⟩

set_option maxHeartbeats 4000000 in
set_option maxRecDepth 1000000 in
theorem read_nil (vd : Value) (a : Option Addr) (cap : Nat) (c : Nat) (w : World) : Calls Tryz.prog 20 #[.agg #[vd], .slice a 0 cap, .int .u8 (c : Int)] w fun e w' => Below w.heap.size w w' ∧ e = .returned (.tuple #[.slice none 0 0, .bool false]) := by
  go_enter Tryz.func20, Tryz.ntmps20
  go_wp2
  go_ret2
  exact ⟨(Below.refl _ w).alloc (Nat.le_refl _) _, rfl⟩


theorem stl_trans {w w1 w2 : World} {G G1 G2 : Am.Good} (S : Settled w w1 G G1) (T : Settled w1 w2 G1 G2) : Settled w w2 G G2 :=
  ⟨fun b o h => T.more b o (S.more b o h), fun b o h => (T.cell b o (S.more b o h)).trans (S.cell b o h)⟩

/-- What stands behind a state's first item, as the slice has it. -/
theorem rest_rep {w : World} {G : Am.Good} {r : List It} {b o cap : Nat} (hr : RepM w G (itsC r) b (o + 4)) (hcap : r.length + 1 ≤ cap) :
    RepC w G (stC r) (.slice (some ⟨b, o + 4, none⟩) r.length (cap - 1)) ∧ (cap = 1 → RepC w G (stC r) (.slice (some ⟨b, o, none⟩) r.length 0)) := by
  constructor
  · simp only [RepC]
    exact ⟨_, _, rfl, by omega, .inr ⟨b, o + 4, rfl, hr⟩⟩
  · intro h1
    have h0 : r = [] := List.eq_nil_of_length_eq_zero (by omega)
    subst h0
    simp only [RepC]
    exact ⟨_, _, rfl, Nat.le_refl _, .inl rfl⟩

set_option maxHeartbeats 4000000 in
set_option maxRecDepth 1000000 in
theorem read_low (d : List Nd) (x : It) (r : List It) (hl : r.length ≤ 1000000) (hok : ∀ y ∈ r, itOk y) (hxo : itOk x) (c : Nat) (hc : c < 256) (vd : Value) (b o cap : Nat) (w : World) (G : Am.Good) (hG : ∀ b o, G b o → b < w.heap.size) (hgl : GlOk glN w G) (hs : RepM w G (itsC (x :: r)) b o) (hcap : r.length + 1 ≤ cap)
    (hno : (lowB r && stepB x.k) = false) : Calls Tryz.prog 20 #[.agg #[vd], .slice (some ⟨b, o, none⟩) (r.length + 1) cap, .int .u8 (c : Int)] w fun e w' => Below w.heap.size w w' ∧ e = .returned (.tuple #[.slice none 0 0, .bool false]) := by
  have ha := World.grownBy_alloc w (.cells #[vd] 24) none
  have S1 : Settled w (w.alloc (.cells #[vd] 24)) G G := Settled.of_grown ha hG fun b e => by cases e
  obtain ⟨hb, _, _, _, _, hr⟩ := itsC_at (RepM.mono S1 _ _ _ hs)
  obtain ⟨hrB, hrA⟩ := rest_rep hr hcap
  have e0 : ((r.length : Int) + 1 == 0) = false := by rw [beq_eq_false_iff_ne]; omega
  have hB1 := (Below.refl w.heap.size w).alloc (Nat.le_refl _) (.cells #[vd] 24)
  have hst := hgl.2.2.stable (Below.refl w.heap.size w |>.alloc (Nat.le_refl _) (.cells #[vd] 24))
  go_enter Tryz.func20, Tryz.ntmps20
  go_wp2_with (go_at_call 57; refine (lower52 r hl hok (G := G) (by first | exact hrB | (apply hrA; assumption))).mono ?_; rintro e w1 ⟨hb1, h1⟩; obtain ⟨bm, es, clock, z, s1, s2, s3⟩ := StepsOk.stable (by simpa using hb1) hst; have hbel := hB1.trans (hb1.mono (by simp)); obtain ⟨_, c0, _, _, _, _⟩ := itsC_at (RepM.mono (stl_trans S1 ⟨fun _ _ h => h, fun b o h => hb1.cell (p := ⟨b, o, none⟩) (by have := hG b o h; simp; omega)⟩) _ _ _ hs); have qL := fun n => s3 (w1.drewN n) s2 x.k hxo.1; obtain ⟨vr, okr, rfl, hokr⟩ : ∃ vr okr, e = .returned (.tuple #[vr, .bool okr]) ∧ (okr && stepB x.k) = false := (by rcases h1 with ⟨h1, h2⟩ | ⟨h1, a, c, h2, _⟩; exact ⟨_, _, h2, by rw [Bool.false_and]⟩; exact ⟨_, _, h2, by rw [← hno, h1]⟩))
  all_goals (go_quiet (fail))
  all_goals (rcases (show okr = false ∨ (okr = true ∧ stepB x.k = false) by cases okr <;> cases h : stepB x.k <;> simp [h] at hokr ⊢) with rfl | ⟨rfl, hk⟩)
  all_goals (first | rw [hk] | skip)
  all_goals go_wp2
  all_goals go_ret2
  all_goals exact ⟨⟨hbel.os, hbel.tape, hbel.output, hbel.size, hbel.block⟩, rfl⟩

/-- What a step answers, in memory of its own. -/
def BackS (w : World) (fr : List It) (ok : Bool) (e : Ending) (w' : World) : Prop :=
  ∃ af cf, e = .returned (.tuple #[.slice af fr.length cf, .bool ok]) ∧ Below w.heap.size w w' ∧ ∃ G' : Am.Good, (∀ b o, G' b o → w.heap.size ≤ b) ∧ (∀ b o, G' b o → b < w'.heap.size) ∧ RepC w' G' (stC fr) (.slice af fr.length cf)

def stepW (n : Nd) (x : It) (c : Nat) : Value := .agg #[.int .i64 n.k, .int .i64 n.a, .int .i64 n.b, .int .i64 n.lo, .int .i64 n.hi, .int .u64 n.c0, .int .u64 n.c1, .int .u64 n.c2, .int .u64 n.c3, .string n.s, .int .i64 x.k, .int .i64 x.n, .int .i64 x.lo, .int .i64 x.hi, .int .u8 (c : Int)]

theorem step_back {f : FuncId} {n : Nd} {x : It} {c : Nat} {fr : List It} {ok : Bool} (h : Ret Tryz.prog glE f [.agg (stepC n x c)] (.tup [.c (stC fr), bv ok])) (w : World) : Calls Tryz.prog f #[stepW n x c] w (BackS w fr ok) := by
  refine (h.2 w (fun _ _ => False) #[stepW n x c] (fun _ _ h => h.elim) ⟨fun i cs h => (by cases h), trivial⟩ ⟨⟨_, rfl, ?_⟩, trivial⟩).mono ?_
  · exact ⟨⟨rfl, rfl⟩, ⟨rfl, rfl⟩, ⟨rfl, rfl⟩, ⟨rfl, rfl⟩, ⟨rfl, rfl⟩, ⟨rfl, rfl⟩, ⟨rfl, rfl⟩, ⟨rfl, rfl⟩, ⟨rfl, rfl⟩, ⟨rfl, rfl⟩, ⟨rfl, rfl⟩, ⟨rfl, rfl⟩, ⟨rfl, rfl⟩, ⟨rfl, rfl⟩, ⟨rfl, rfl⟩, trivial⟩
  · rintro e w' ⟨v, rfl, hb, _, G', g1, g2, g3, hr⟩
    obtain ⟨⟨vs⟩, rfl, hr⟩ := hr
    match vs, hr with
    | [a, b], ⟨h1, h2, _⟩ =>
      simp only [RepT, RepC] at h2
      rw [h2.1]
      obtain ⟨af, cf, rfl⟩ : ∃ af cf, a = .slice af fr.length cf := by
        simp only [RepT, RepC] at h1
        obtain ⟨af, cf, e, _⟩ := h1
        exact ⟨af, cf, e⟩
      exact ⟨af, cf, rfl, hb, G', fun b o h => (g2 b o h).elim False.elim id, g3, h1⟩

theorem cat2_c {w : World} {G : Am.Good} {vf vr : Value} {fr lr : List It} (hG : ∀ b o, G b o → b < w.heap.size) (h1 : RepC w G (stC fr) vf) (h2 : RepC w G (stC lr) vr) (hl : fr.length + lr.length ≤ 2000000) :
    Calls Tryz.prog 58 #[.slice (some ⟨w.heap.size, 0, none⟩) 2 2] (w.alloc (.cells #[vf, vr] 26)) (BackC (w.alloc (.cells #[vf, vr] 26)) (fun b o => G b o ∨ b = w.heap.size) (stC (fr ++ lr))) := by
  have S : Settled w (w.alloc (.cells #[vf, vr] 26)) G (fun b o => G b o ∨ b = w.heap.size) := ⟨fun _ _ h => .inl h, (Settled.of_grown (World.grownBy_alloc w _ none) hG fun b e => by cases e).cell⟩
  have hn := heap_alloc_new w (.cells #[vf, vr] 26)
  have hc : ∀ j, (w.alloc (.cells #[vf, vr] 26)).cell? ⟨w.heap.size, j, none⟩ = (#[vf, vr] : Array Value)[j]? := fun j => by
    unfold World.cell?
    simp only [hn]
    rfl
  have hr : RepC (w.alloc (.cells #[vf, vr] 26)) (fun b o => G b o ∨ b = w.heap.size) (ssS [fr, lr]) (.slice (some ⟨w.heap.size, 0, none⟩) 2 2) := by
    simp only [ssS, ssC, List.map_cons, List.map_nil, RepC]
    refine ⟨some ⟨w.heap.size, 0, none⟩, 2, rfl, Nat.le_refl _, .inr ⟨w.heap.size, 0, rfl, ?_⟩⟩
    simp only [RepM]
    exact ⟨.inr trivial, ⟨vf, hc 0, RepC.mono S _ _ h1⟩, .inr trivial, ⟨vr, hc 1, RepC.mono S _ _ h2⟩, trivial⟩
  have ht : tot [fr, lr] ≤ 1000000000000 := by simp [tot]; omega
  have := (concat_ret glE [fr, lr] (by simp) ht).2 (w.alloc (.cells #[vf, vr] 26)) (fun b o => G b o ∨ b = w.heap.size) #[.slice (some ⟨w.heap.size, 0, none⟩) 2 2] (fun b o h => by
    rcases h with h | rfl
    · have := hG b o h; simp; omega
    · simp) ⟨fun i cs h => (by cases h), trivial⟩ ⟨hr, trivial⟩
  refine this.mono ?_
  rintro e w' ⟨v, rfl, hb, _, G', g1, g2, g3, hr⟩
  refine ⟨v, rfl, hb, G', g1, g2, g3, ?_⟩
  have e2 : [fr, lr].flatten = fr ++ lr := by simp
  rw [e2] at hr
  exact hr

/-- What a state's reading answers. -/
def BackR (w : World) (G : Am.Good) (r : Option (List It)) (e : Ending) (w' : World) : Prop :=
  ∃ v, e = .returned (.tuple #[v, .bool r.isSome]) ∧ Below w.heap.size w w' ∧ ∃ G' : Am.Good, (∀ b o, G b o → G' b o) ∧ (∀ b o, G' b o → G b o ∨ w.heap.size ≤ b) ∧ (∀ b o, G' b o → b < w'.heap.size) ∧ RepC w' G' (stC (r.getD [])) v

theorem backR_none {w w' : World} {G : Am.Good} (hG : ∀ b o, G b o → b < w.heap.size) (hb : Below w.heap.size w w') : BackR w G none (.returned (.tuple #[.slice none 0 0, .bool false])) w' :=
  ⟨_, rfl, hb, G, fun _ _ h => h, fun _ _ h => .inl h, fun b o h => Nat.lt_of_lt_of_le (hG b o h) hb.size, by simp only [Option.getD_none, RepC]; exact ⟨none, 0, rfl, Nat.le_refl _, .inl rfl⟩⟩

/-- Behind a step: what its answer and the rest are. -/
theorem read_keep {w w1 w2 : World} {n : Nat} {G2 : Am.Good} {r fr : List It} {a1 af : Option Addr} {cp1 cf : Nat} (hbel : Below w.heap.size w w1) (hb2 : Below (w1.drewN n).heap.size (w1.drewN n) w2)
    (g1 : ∀ b o, G2 b o → (w1.drewN n).heap.size ≤ b) (g2 : ∀ b o, G2 b o → b < w2.heap.size) (hfr : RepC w2 G2 (stC fr) (.slice af fr.length cf)) (hown1 : w1.ownsRow (w.heap.size + 1) 64 4 (.slice a1 r.length cp1) r.length (itsW (r.map lowF))) :
    Below w.heap.size w w2 ∧ (∀ b o, G2 b o ∨ ((Value.slice a1 r.length cp1).ownBlock = some b ∧ o < r.length * 4) → b < w2.heap.size) ∧ RepC w2 (fun b o => G2 b o ∨ ((Value.slice a1 r.length cp1).ownBlock = some b ∧ o < r.length * 4)) (stC fr) (.slice af fr.length cf) ∧
    RepC w2 (fun b o => G2 b o ∨ ((Value.slice a1 r.length cp1).ownBlock = some b ∧ o < r.length * 4)) (stC (r.map lowF)) (.slice a1 r.length cp1) ∧ (∀ b o, G2 b o ∨ ((Value.slice a1 r.length cp1).ownBlock = some b ∧ o < r.length * 4) → w.heap.size ≤ b) := by
  have hbd : Below w.heap.size w (w1.drewN n) := ⟨hbel.os, hbel.tape, hbel.output, hbel.size, hbel.block⟩
  have hb2' : Below w1.heap.size (w1.drewN n) w2 := hb2
  have hsz : w1.heap.size ≤ w2.heap.size := hb2'.size
  have hown2 : w2.ownsRow (w.heap.size + 1) 64 4 (.slice a1 r.length cp1) r.length (itsW (r.map lowF)) := by
    refine World.ownsRow.kept (w := w1.drewN n) (row := none) hown1 (below_grown hb2) ?_
    rcases h : Value.ownBlock _ with _ | b
    · exact .inl rfl
    · exact .inr (by simp)
  refine ⟨hbd.trans (hb2'.mono hbel.size), fun b o h => ?_, RepC.mono ⟨fun _ _ h => .inl h, fun _ _ _ => rfl⟩ _ _ hfr, ?_, fun b o h => ?_⟩
  · rcases h with h | h
    · exact g2 b o h
    · exact Nat.lt_of_lt_of_le (hown1.lt b h.1).2 hsz
  · have := RepC_own (cs := itsC (r.map lowF)) hown2 (rep_its (w := w2) (G := fun b o => G2 b o ∨ ((Value.slice a1 r.length cp1).ownBlock = some b ∧ o < r.length * 4)) (r.map lowF)) (fun b hb j hj => .inr ⟨hb, hj⟩)
    have e2 : stC (r.map lowF) = .sl r.length (itsC (r.map lowF)) := by simp
    rw [e2]
    exact this
  · rcases h with h | h
    · exact Nat.le_trans hbel.size (g1 b o h)
    · have := (hown1.lt b h.1).1
      omega

theorem read_end {w w2 w3 : World} {G G2 G3 : Am.Good} {vs : Array Value} {t : TypeId} {l : List It} {v : Value} (hG : ∀ b o, G b o → b < w.heap.size) (hbel : Below w.heap.size w w2) (hU : ∀ b o, G2 b o → w.heap.size ≤ b)
    (hb3 : Below (w2.alloc (.cells vs t)).heap.size (w2.alloc (.cells vs t)) w3) (k2 : ∀ b o, G3 b o → (G2 b o ∨ b = w2.heap.size) ∨ (w2.alloc (.cells vs t)).heap.size ≤ b) (k3 : ∀ b o, G3 b o → b < w3.heap.size) (hr : RepC w3 G3 (stC l) v) :
    BackR w G (some l) (.returned (.tuple #[v, .bool true])) w3 := by
  have hB := (hbel.alloc hbel.size (.cells vs t)).trans (hb3.mono (by have := hbel.size; simp; omega))
  refine ⟨v, rfl, hB, fun b o => G b o ∨ G3 b o, fun _ _ h => .inl h, fun b o h => h.imp id fun h => ?_, fun b o h => ?_, RepC.mono ⟨fun _ _ h => .inr h, fun _ _ _ => rfl⟩ _ _ hr⟩
  · have := hbel.size
    rcases k2 b o h with (h | h) | h
    · exact hU b o h
    · omega
    · simp at h; omega
  · rcases h with h | h
    · exact Nat.lt_of_lt_of_le (hG b o h) hB.size
    · exact k3 b o h

set_option maxHeartbeats 4000000 in
set_option maxRecDepth 1000000 in
theorem read_step (f : FuncId) (d : List Nd) (m : Nat) (hm : m < d.length) (k lo hi : Int) (r : List It) (hl : r.length ≤ 1000000) (hok : ∀ y ∈ r, itOk y) (hxo : itOk ⟨k, m, lo, hi⟩) (c : Nat) (hc : c < 256) (vd : Value) (b o cap : Nat) (w : World) (G : Am.Good) (hG : ∀ b o, G b o → b < w.heap.size) (hgl : GlOk glN w G) (hvd : RepL w G (dC d) [vd]) (hs : RepM w G (itsC (⟨k, m, lo, hi⟩ :: r)) b o) (hcap : r.length + 1 ≤ cap)
    (hlo : lowB r = true) (hk : stepB k = true) (hf : stepG k = f) (fr : List It) (ok : Bool) (hcf : ∀ args w, (callFunc f args).run Tryz.prog w = .ok (.enter f args) w) (hfl : fr.length ≤ 2) (hstep : ∀ w', Calls Tryz.prog f #[stepW d[m] ⟨k, m, lo, hi⟩ c] w' (BackS w' fr ok)) :
    Calls Tryz.prog 20 #[.agg #[vd], .slice (some ⟨b, o, none⟩) (r.length + 1) cap, .int .u8 (c : Int)] w (BackR w G (if ok = true then some (fr ++ r.map lowF) else none)) := by
  have ha := World.grownBy_alloc w (.cells #[vd] 24) none
  have S1 : Settled w (w.alloc (.cells #[vd] 24)) G G := Settled.of_grown ha hG fun b e => by cases e
  obtain ⟨hb, _, _, _, _, hr⟩ := itsC_at (RepM.mono S1 _ _ _ hs)
  obtain ⟨hrB, hrA⟩ := rest_rep hr hcap
  have e0 : ((r.length : Int) + 1 == 0) = false := by rw [beq_eq_false_iff_ne]; omega
  have hB1 := (Below.refl w.heap.size w).alloc (Nat.le_refl _) (.cells #[vd] 24)
  have hst := hgl.2.2.stable (Below.refl w.heap.size w |>.alloc (Nat.le_refl _) (.cells #[vd] 24))
  have cB0 : (w.alloc (.cells #[vd] 24)).cell? ⟨w.heap.size, 0, none⟩ = some vd := by
    have := heap_alloc_new w (.cells #[vd] 24)
    unfold World.cell?
    simp only [this]
    rfl
  have hm' : (m : Int) < (d.length : Int) := by omega
  go_enter Tryz.func20, Tryz.ntmps20
  go_wp2_with (go_at_call 57; refine (lower52 r hl hok (G := G) (by first | exact hrB | (apply hrA; assumption))).mono ?_; rintro e w1 ⟨hb1, h1⟩; obtain ⟨bm, es, clock, z, s1, s2, s3⟩ := StepsOk.stable (by simpa using hb1) hst; have hbel := hB1.trans (hb1.mono (by simp)); have S2 := stl_trans S1 (⟨fun _ _ h => h, fun b o h => hb1.cell (p := ⟨b, o, none⟩) (by have := hG b o h; simp; omega)⟩ : Settled _ w1 G G); obtain ⟨lb, c0, c1, c2, c3, _⟩ := itsC_at (RepM.mono S2 _ _ _ hs); have lB : w.heap.size < w1.heap.size := Nat.lt_of_lt_of_le (by simp) hb1.size; obtain ⟨bd, od, cd, rfl, hbd, n0, n1, n2, n3, n4, n5, n6, n7, n8, n9⟩ := ndsC_at (RepL.mono S2 _ _ hvd) m hm; have cB := (hb1.cell (p := ⟨w.heap.size, 0, none⟩) (by simp)).trans cB0; have qL := fun n => s3 (w1.drewN n) s2 k hxo.1; obtain ⟨a1, cp1, rfl, hown1⟩ := (h1.resolve_left (fun h => by rw [hlo] at h; cases h.1)).2)
  all_goals (go_quiet (fail))
  all_goals (simp only [stepV, hk, hf, if_true])
  all_goals go_wp2
  all_goals (go_region_held3 (fun w' => w'.cell? ⟨w.heap.size, 0, none⟩ = some (.slice (some ⟨bd, od, none⟩) d.length cd) ∧ w'.cell? ⟨b, o, none⟩ = some (.int .i64 k) ∧ w'.cell? ⟨b, o + 1, none⟩ = some (.int .i64 m) ∧ w'.cell? ⟨b, o + 2, none⟩ = some (.int .i64 lo) ∧ w'.cell? ⟨b, o + 3, none⟩ = some (.int .i64 hi) ∧
    w'.cell? ⟨bd, od + m * 10, none⟩ = some (.int .i64 d[m].k) ∧ w'.cell? ⟨bd, od + m * 10 + 1, none⟩ = some (.int .i64 d[m].a) ∧ w'.cell? ⟨bd, od + m * 10 + 2, none⟩ = some (.int .i64 d[m].b) ∧ w'.cell? ⟨bd, od + m * 10 + 3, none⟩ = some (.int .i64 d[m].lo) ∧ w'.cell? ⟨bd, od + m * 10 + 4, none⟩ = some (.int .i64 d[m].hi) ∧
    w'.cell? ⟨bd, od + m * 10 + 5, none⟩ = some (.int .u64 d[m].c0) ∧ w'.cell? ⟨bd, od + m * 10 + 6, none⟩ = some (.int .u64 d[m].c1) ∧ w'.cell? ⟨bd, od + m * 10 + 7, none⟩ = some (.int .u64 d[m].c2) ∧ w'.cell? ⟨bd, od + m * 10 + 8, none⟩ = some (.int .u64 d[m].c3) ∧ w'.cell? ⟨bd, od + m * 10 + 9, none⟩ = some (.string d[m].s))
    (first | exact ⟨cB, c0, c1, c2, c3, n0, n1, n2, n3, n4, n5, n6, n7, n8, n9⟩ | exact ⟨(hb2.cell lB).trans cB, (hb2.cell lb).trans c0, (hb2.cell lb).trans c1, (hb2.cell lb).trans c2, (hb2.cell lb).trans c3, (hb2.cell hbd).trans n0, (hb2.cell hbd).trans n1, (hb2.cell hbd).trans n2, (hb2.cell hbd).trans n3, (hb2.cell hbd).trans n4, (hb2.cell hbd).trans n5, (hb2.cell hbd).trans n6, (hb2.cell hbd).trans n7, (hb2.cell hbd).trans n8, (hb2.cell hbd).trans n9⟩) (first | (go_at_fn f; refine (hstep _).mono ?_; rintro e w2 ⟨af, cf, rfl, hb2, G2, g1, g2, hfr⟩; obtain ⟨hbel2, hG2, hRF, hRL, hU⟩ := read_keep hbel hb2 g1 g2 hfr (by simpa using hown1))))
  all_goals (cases ok)
  all_goals go_wp2_with (go_at_call 58; refine (cat2_c hG2 hRF hRL (by simp; omega)).mono ?_; rintro e w3 ⟨v3, rfl, hb3, G3, k1, k2, k3, hr3⟩)
  all_goals go_ret2
  all_goals first
    | exact backR_none hG hbel2
    | exact read_end hG hbel2 hU hb3 k2 k3 hr3

end Go.Proofs.YtilhjiopbbbgmaaGreatDoor

/- What the rows of chapters 15 and 16 share: the tables laid; what items read lies as its text lays it. -/
namespace Go.Proofs.YtilhjiopbbbgmaaGreatDoor
open Go Go.Maps Go.ChangeShapes Go.WideShapes Go.ChangeAt Go.WideMaps Go.WideElems Go.RowKit Am
set_option linter.unusedVariables false
set_option linter.unusedSimpArgs false

theorem ownN : ownKnob Tryz.prog.godebug = none := by kernel_rfl

def plainN : List (String × DataW Unit) := [("math/bits.deBruijn32tab", Rows.laid_math_bits_deBruijn32tab), ("math/bits.deBruijn64tab", Rows.laid_math_bits_deBruijn64tab), ("internal/strconv.uint64pow10", Rows.laid_internal_strconv_uint64pow10), ("scantling/heads.readies", Rows.laid_scantling_heads_readies)]
def laidN : List (String × DataW Unit) := [("math/bits.deBruijn32tab", Rows.laid_math_bits_deBruijn32tab), ("math/bits.deBruijn64tab", Rows.laid_math_bits_deBruijn64tab), ("internal/strconv.uint64pow10", Rows.laid_internal_strconv_uint64pow10), ("scantling/heads.readies", Rows.laid_scantling_heads_readies), ("scantling/next.steps", Rows.laid_scantling_next_steps)]

theorem door_metN (os : Os) (args : Array Value) : laidMetH Tryz.prog laidN ((World.doorLaid Tryz.prog 400 os).forCall (fun _ _ => 0) ⟨#[], args, []⟩).memory :=
  laidMetH_of_parts3 (fuel := 8) (laidMet_of_run' 8 (by kernel_rfl) (by kernel_rfl)) (by kernel_rfl) (by kernel_rfl)

def nmNode : List UInt8 := [40, 115, 99, 97, 110, 116, 108, 105, 110, 103, 47, 110, 101, 120, 116, 46, 115, 116, 101, 112, 41, 46, 110, 111, 100, 101]
def nmText : List UInt8 := [40, 115, 99, 97, 110, 116, 108, 105, 110, 103, 47, 110, 101, 120, 116, 46, 115, 116, 101, 112, 41, 46, 116, 101, 120, 116]
def nmHalf : List UInt8 := [40, 115, 99, 97, 110, 116, 108, 105, 110, 103, 47, 110, 101, 120, 116, 46, 115, 116, 101, 112, 41, 46, 104, 97, 108, 102]
def stepsD : DataW (List UInt8) := .map [(.int .i64 1, .held nmNode), (.int .i64 3, .held nmText), (.int .i64 4, .held nmHalf)]

theorem stepsD_at (k : Int) (z : DataW (List UInt8)) : stepsD.atKey (.int .i64 k) z = if k = 1 then .held nmNode else if k = 3 then .held nmText else if k = 4 then .held nmHalf else z := by
  unfold stepsD DataW.atKey
  simp only [List.find?, Lit.sameKey, true_and]
  by_cases h1 : k = 1
  · subst h1; rfl
  · have e1 : (decide ((1 : Int) = k)) = false := by simp; omega
    by_cases h3 : k = 3
    · subst h3; rfl
    · have e3 : (decide ((3 : Int) = k)) = false := by simp; omega
      by_cases h4 : k = 4
      · subst h4; rfl
      · have e4 : (decide ((4 : Int) = k)) = false := by simp; omega
        simp only [e1, e3, e4, if_neg h1, if_neg h3, if_neg h4]

theorem law3 : Keyed Tryz.prog 3 := int_keyed Tryz.underlying3
theorem elemAt_one {H : Type} {enc : TypeId × Value → H} {P : Program} {W : World} {base : Nat} {sp : Nat → Bool} {held : Bool} {n : Nat} {t : TypeId} {ps rs : Array TypeId} {va : Bool} {v : Value} {y : DataW H × List MemPlace} (ht : P.underlying t = some (.func ps rs va))
    (h : elemAt enc P W base sp held n t v = some y) : DataW.trod enc P W base sp held n t [v] = some y := by
  unfold elemAt at h
  split at h
  · rename_i hf
    cases v <;> simp [Value.formed, ht] at hf <;> exact h
  · cases h
theorem zero83 : ∃ z, ∀ w : World, (zeroValue 78).run Tryz.prog w = .ok z w := ⟨_, fun w => Tryz.zeroValue78 w⟩

set_option maxRecDepth 100000 in
theorem steps_of {W : World} (h : laidMetH Tryz.prog laidN W) : StepsOk W := by
  obtain ⟨g, t, cs, fuel, p, hg, ht, hv, hd⟩ := h.funcs (show ("scantling/next.steps", _) ∈ laidN by simp only [laidN, Rows.laid_scantling_next_steps]; exact .tail _ (.tail _ (.tail _ (.tail _ (.head _)))))
  have g1 : Tryz.prog.globalNamed "scantling/next.steps" = some 0 := by kernel_rfl
  have t1 : (Tryz.prog.globals[0]?).map (·.type) = some 80 := by kernel_rfl
  obtain rfl := Option.some.inj (g1.symm.trans hg)
  obtain rfl := Option.some.inj (t1.symm.trans ht)
  have hd' : DataW.trod (funcToken Tryz.prog) Tryz.prog W 0 (fun _ => true) true fuel 80 cs.toList = some (stepsD, p) := hd
  obtain ⟨z, hz⟩ := zero83
  rcases open_map Tryz.underlying80 hd' with ⟨_, hx⟩ | ⟨bm, es, clock, m, rfl, hcs, hb, _, F, hx⟩
  · simp [stepsD] at hx
  simp only [Prod.mk.injEq] at hx
  refine ⟨bm, es, clock, z, ?_, hb, fun w' hb' k hk => ?_⟩
  · have := World.var?_cell hg hv 0
    rw [Array.eq_one_of_toList hcs] at this
    simpa using this
  · have hwf : (Lit.int .i64 k).wf = true := by
      have e1 : IntKind.i64.min = -9223372036854775808 := by decide
      have e2 : IntKind.i64.max = 9223372036854775807 := by decide
      obtain ⟨a, b⟩ := hk
      simp [Lit.wf, e1, e2]
      omega
    have hkey := keyOf_int_mk Tryz.underlying3 hwf
    have look := Go.Maps.fit_look true law3 Tryz.underlying80 (hz w') hb' F hkey
    rw [← hx.1] at look
    simp only [stepsD_at, if_true] at look
    rcases look with ⟨hrun, _, hat⟩ | ⟨e0, y, _, _, hrun, hR, hat, _⟩
    · have h1 : k ≠ 1 := fun e => by have := hat .nil; rw [if_pos e] at this; cases this
      have h3 : k ≠ 3 := fun e => by have := hat .nil; rw [if_neg h1, if_pos e] at this; cases this
      have h4 : k ≠ 4 := fun e => by have := hat .nil; rw [if_neg h1, if_neg h3, if_pos e] at this; cases this
      rw [hrun]
      have : stepB k = false := by simp [stepB, h1, h3, h4]
      simp [stepV, this]
    · rw [hrun]
      have tr : DataW.trod (funcToken Tryz.prog) Tryz.prog W 0 (fun _ => true) true m 78 [e0.val] = some y := elemAt_one Tryz.underlying78 hR
      have fn : ∀ {b : UInt8} {r : List UInt8} {f0 : FuncId}, ((List.range Tryz.prog.funcs.size).filter fun f => (Tryz.prog.funcs[f]?).any (·.name.toUTF8.data.toList == b :: r)) = [f0] → y.1 = .held (b :: r) → e0.val = .func (.func f0) #[] #[] := fun hone hy =>
        func_of_trod (w := W) (base := 0) (sp := fun _ => true) (fuel := m) (q := y.2) Tryz.underlying78 hone (by rw [tr, ← hy])
      by_cases h1 : k = 1
      · have hy := hat .nil
        rw [if_pos h1] at hy
        have hv := fn (f0 := 181) (by kernel_rfl) hy.symm
        subst h1
        simp [stepV, stepB, stepG, hv]
      · by_cases h3 : k = 3
        · have hy := hat .nil
          rw [if_neg h1, if_pos h3] at hy
          have hv := fn (f0 := 182) (by kernel_rfl) hy.symm
          subst h3
          simp [stepV, stepB, stepG, hv]
        · by_cases h4 : k = 4
          · have hy := hat .nil
            rw [if_neg h1, if_neg h3, if_pos h4] at hy
            have hv := fn (f0 := 178) (by kernel_rfl) hy.symm
            subst h4
            simp [stepV, stepB, stepG, hv]
          · have a := hat .nil
            have b := hat (.lit (.bool true))
            rw [if_neg h1, if_neg h3, if_neg h4] at a b
            rw [← a] at b
            cases b

theorem glok_N {W : World} (h : laidMetH Tryz.prog laidN W) : GlOk glN W (GA W) := by
  have h1 : laidMet Tryz.prog plainN W := h.1
  have hD := glok_of h1 (by simp [plainN]) (by simp [plainN])
  exact ⟨hD.1, hD.2, steps_of h⟩

end Go.Proofs.YtilhjiopbbbgmaaGreatDoor

/- What a body's answer says of a law of a description, a state and bytes. -/
namespace Go.Proofs.YtilhjiopbbbgmaaGreatDoor
open Go Go.ChangeShapes Go.WideShapes Go.ChangeAt Go.WideMaps Go.WideElems Go.RowKit Am
set_option linter.unusedVariables false
set_option linter.unusedSimpArgs false

theorem byte_of {n : Int} (h : (Lit.int .u8 n).wf = true) : ∃ c : Nat, c < 256 ∧ n = (c : Int) := by
  have e1 : IntKind.u8.min = 0 := by decide
  have e2 : IntKind.u8.max = 255 := by decide
  simp [Lit.wf, e1, e2] at h
  exact ⟨n.toNat, by omega, by omega⟩

set_option maxRecDepth 20000 in
/-- THE FRAME of a law of a description, a state and a byte. -/
theorem three_post {H : Type} {enc : TypeId × Value → H} {sp : ChangeSpec} {fn : Func} (hsp : ∀ d1 d2 d3 : DataW H, sp.fn H [d1, d2, d3] = { results := [.lit (.bool true)], args := [d1, d2, d3] }) (hpar : fn.params.toList = [24, 26, 5]) (hres : fn.resultTypes.toList = [4]) (hsz : fn.resultTypes.size = 1)
    (hvars : sp.vars = [])
    {W : World} {args : Array Value} {ds gs : List (DataW H)} {before : List MemPlace}
    (hval : ∀ (j : Nat) t v, fn.params[j]? = some t → args[j]? = some v → ∃ r base, Value.okWide Tryz.prog W r base t v)
    (hW : DataW.Whole enc Tryz.prog fn.params.toList sp.vars false W args.toList ds gs before)
    (hsz2 : (DataW.weightsEach Tryz.prog (fn.params.toList ++ sp.plain.varTypes Tryz.prog) (ds ++ gs)).all (· ≤ reachBytes) = true)
    (hgl : GlOk glN W (GA W)) {f : FuncId}
    (hret : ∀ (d : List Nd) (s : List It) (c : Nat), c < 256 → d.length ≤ 140737488355328 → (∀ n ∈ d, n.s.size ≤ 140737488355328) → s.length ≤ 140737488355328 → (∀ n ∈ d, CW n) → Ret Tryz.prog glN f [.agg (dC d), .c (stC s), .c (.v (.int .u8 (c : Int)))] (bv true)) :
    Calls Tryz.prog f args W fun e W' => ∃ v, e = .returned v ∧ sp.post enc Tryz.prog fn false true false false W args v W' := by
  have hW' := hW
  obtain ⟨p, q, hA0, hV, hb, hfz, hnd⟩ := hW
  have hA : DataW.TrodAll enc Tryz.prog W 0 (fun _ => true) true [24, 26, 5] args.toList ds p := by rw [← hpar]; exact hA0
  obtain ⟨v0, v1, v2, d0, d1, d2, p0, p1, p2, rfl, rfl, rfl, h0, h1, h2⟩ := trodAll_three hA
  rw [hvars] at hV
  obtain ⟨rfl, rfl⟩ := trodVars_none hV
  subst hb
  have hp0 : fn.params[0]? = some 24 := by rw [← Array.getElem?_toList, hpar]; rfl
  have hp1 : fn.params[1]? = some 26 := by rw [← Array.getElem?_toList, hpar]; rfl
  have hp2 : fn.params[2]? = some 5 := by rw [← Array.getElem?_toList, hpar]; rfl
  obtain ⟨r0, b0, ok0⟩ := hval 0 24 v0 hp0 rfl
  obtain ⟨r1, b1, ok1⟩ := hval 1 26 v1 hp1 rfl
  obtain ⟨r2, b2, ok2⟩ := hval 2 5 v2 hp2 rfl
  have hw : ∀ (j : Nat) t d, (fn.params.toList)[j]? = some t → [d0, d1, d2][j]? = some d → ∀ n ∈ d.weights Tryz.prog t, n ≤ reachBytes := fun j t d ht hd n hn => by
    have := List.all_eq_true.1 hsz2 n (DataW.weights_mem_each (j := j) (t := t) (d := d) (by rw [List.getElem?_append_left (by have := (List.getElem?_eq_some_iff.1 ht).1; exact this)]; exact ht) (by rw [List.append_nil]; exact hd) n hn)
    simpa using this
  obtain ⟨d, vd, rfl, hd, hdl, hds, hdc⟩ := desc_of h0 (okWide_struct Tryz.underlying24 ok0) (hw 0 24 d0 (by rw [hpar]; rfl) rfl)
  obtain ⟨s, hs, hs2⟩ := state_of h1 (okWide_slice Tryz.underlying26 ok1)
  have hsl := state_small (s := s) (hw 1 26 d1 (by rw [hpar]; rfl) rfl) hs2
  obtain ⟨c0, rfl, ec, ep, wc⟩ := open_int Tryz.underlying5 ok2 h2
  obtain ⟨c, hc, rfl⟩ := byte_of wc
  refine ((hret d s c hc hdl hds hsl hdc).2 W (GA W) #[.agg #[vd], v1, .int .u8 (c : Int)] (fun _ _ h => h) hgl (show RepTL W (GA W) [.agg (dC d), .c (stC s), .c (.v (.int .u8 (c : Int)))] [.agg #[vd], v1, .int .u8 (c : Int)] from ⟨⟨#[vd], rfl, hd⟩, hs, ⟨rfl, rfl⟩, trivial⟩)).mono ?_
  rintro e W' ⟨v, he, hbel, _, G', _, _, _, hrep⟩
  obtain rfl : v = .bool true := hrep.1
  refine ⟨_, he, [d0, d1, d2], [], p0 ++ (p1 ++ p2) ++ [], [], p0 ++ (p1 ++ (p2 ++ [])), [], by simpa [List.append_assoc] using hW', ?_, ?_, ?_, ?_, fun h => by cases h⟩
  · rw [List.append_nil, hsp, hres, hsz]
    exact trodAll_mk1 (shut_bool Tryz.underlying4 _)
  · rw [List.append_nil, hsp, hpar]
    have lt0 : ∀ x ∈ p0, x.block < W.heap.size := by
      obtain ⟨n, hn⟩ := h0
      exact DataW.trod_lt _ _ _ _ hn
    have lt1 : ∀ x ∈ p1, x.block < W.heap.size := by
      obtain ⟨n, hn⟩ := h1
      exact DataW.trod_lt _ _ _ _ hn
    have lt2 : ∀ x ∈ p2, x.block < W.heap.size := by rw [ep]; intro x hx; cases hx
    have lay : laidOutB Tryz.prog = true := by kernel_rfl
    exact trodAll_cons_mk (Below.trod lay (by kernel_rfl) (of_decide_eq_true (by kernel_rfl)) h0 hbel lt0) (trodAll_cons_mk (Below.trod lay (by kernel_rfl) (of_decide_eq_true (by kernel_rfl)) h1 hbel lt1)
      (trodAll_cons_mk (Below.trod lay (by kernel_rfl) (of_decide_eq_true (by kernel_rfl)) h2 hbel lt2) trodAll_mk0))
  · rw [hvars, List.append_nil, hsp]
    exact rfl
  · exact hbel.frame _

set_option maxRecDepth 20000 in
/-- THE FRAME of a law of a description, a state and two bytes. -/
theorem four_post {H : Type} {enc : TypeId × Value → H} {sp : ChangeSpec} {fn : Func} (hsp : ∀ d1 d2 d3 d4 : DataW H, sp.fn H [d1, d2, d3, d4] = { results := [.lit (.bool true)], args := [d1, d2, d3, d4] }) (hpar : fn.params.toList = [24, 26, 5, 5]) (hres : fn.resultTypes.toList = [4]) (hsz : fn.resultTypes.size = 1)
    (hvars : sp.vars = [])
    {W : World} {args : Array Value} {ds gs : List (DataW H)} {before : List MemPlace}
    (hval : ∀ (j : Nat) t v, fn.params[j]? = some t → args[j]? = some v → ∃ r base, Value.okWide Tryz.prog W r base t v)
    (hW : DataW.Whole enc Tryz.prog fn.params.toList sp.vars false W args.toList ds gs before)
    (hsz2 : (DataW.weightsEach Tryz.prog (fn.params.toList ++ sp.plain.varTypes Tryz.prog) (ds ++ gs)).all (· ≤ reachBytes) = true)
    (hgl : GlOk glN W (GA W)) {f : FuncId}
    (hret : ∀ (d : List Nd) (s : List It) (c e : Nat), c < 256 → e < 256 → d.length ≤ 140737488355328 → (∀ n ∈ d, n.s.size ≤ 140737488355328) → s.length ≤ 140737488355328 → (∀ n ∈ d, CW n) → Ret Tryz.prog glN f [.agg (dC d), .c (stC s), .c (.v (.int .u8 (c : Int))), .c (.v (.int .u8 (e : Int)))] (bv true)) :
    Calls Tryz.prog f args W fun e W' => ∃ v, e = .returned v ∧ sp.post enc Tryz.prog fn false true false false W args v W' := by
  have hW' := hW
  obtain ⟨p, q, hA0, hV, hb, hfz, hnd⟩ := hW
  have hA : DataW.TrodAll enc Tryz.prog W 0 (fun _ => true) true [24, 26, 5, 5] args.toList ds p := by rw [← hpar]; exact hA0
  obtain ⟨v0, v1, v2, v3, d0, d1, d2, d3, p0, p1, p2, p3, rfl, rfl, rfl, h0, h1, h2, h3⟩ := trodAll_four hA
  rw [hvars] at hV
  obtain ⟨rfl, rfl⟩ := trodVars_none hV
  subst hb
  have hp0 : fn.params[0]? = some 24 := by rw [← Array.getElem?_toList, hpar]; rfl
  have hp1 : fn.params[1]? = some 26 := by rw [← Array.getElem?_toList, hpar]; rfl
  have hp2 : fn.params[2]? = some 5 := by rw [← Array.getElem?_toList, hpar]; rfl
  have hp3 : fn.params[3]? = some 5 := by rw [← Array.getElem?_toList, hpar]; rfl
  obtain ⟨r0, b0, ok0⟩ := hval 0 24 v0 hp0 rfl
  obtain ⟨r1, b1, ok1⟩ := hval 1 26 v1 hp1 rfl
  obtain ⟨r2, b2, ok2⟩ := hval 2 5 v2 hp2 rfl
  obtain ⟨r3, b3, ok3⟩ := hval 3 5 v3 hp3 rfl
  have hw : ∀ (j : Nat) t d, (fn.params.toList)[j]? = some t → [d0, d1, d2, d3][j]? = some d → ∀ n ∈ d.weights Tryz.prog t, n ≤ reachBytes := fun j t d ht hd n hn => by
    have := List.all_eq_true.1 hsz2 n (DataW.weights_mem_each (j := j) (t := t) (d := d) (by rw [List.getElem?_append_left (by have := (List.getElem?_eq_some_iff.1 ht).1; exact this)]; exact ht) (by rw [List.append_nil]; exact hd) n hn)
    simpa using this
  obtain ⟨d, vd, rfl, hd, hdl, hds, hdc⟩ := desc_of h0 (okWide_struct Tryz.underlying24 ok0) (hw 0 24 d0 (by rw [hpar]; rfl) rfl)
  obtain ⟨s, hs, hs2⟩ := state_of h1 (okWide_slice Tryz.underlying26 ok1)
  have hsl := state_small (s := s) (hw 1 26 d1 (by rw [hpar]; rfl) rfl) hs2
  obtain ⟨c0, rfl, ec, ep, wc⟩ := open_int Tryz.underlying5 ok2 h2
  obtain ⟨e0, rfl, ee, eq, we⟩ := open_int Tryz.underlying5 ok3 h3
  obtain ⟨c, hc, rfl⟩ := byte_of wc
  obtain ⟨e, he, rfl⟩ := byte_of we
  refine ((hret d s c e hc he hdl hds hsl hdc).2 W (GA W) #[.agg #[vd], v1, .int .u8 (c : Int), .int .u8 (e : Int)] (fun _ _ h => h) hgl (show RepTL W (GA W) [.agg (dC d), .c (stC s), .c (.v (.int .u8 (c : Int))), .c (.v (.int .u8 (e : Int)))] [.agg #[vd], v1, .int .u8 (c : Int), .int .u8 (e : Int)] from ⟨⟨#[vd], rfl, hd⟩, hs, ⟨rfl, rfl⟩, ⟨rfl, rfl⟩, trivial⟩)).mono ?_
  rintro e' W' ⟨v, he, hbel, _, G', _, _, _, hrep⟩
  obtain rfl : v = .bool true := hrep.1
  refine ⟨_, he, [d0, d1, d2, d3], [], p0 ++ (p1 ++ (p2 ++ p3)) ++ [], [], p0 ++ (p1 ++ (p2 ++ (p3 ++ []))), [], by simpa [List.append_assoc] using hW', ?_, ?_, ?_, ?_, fun h => by cases h⟩
  · rw [List.append_nil, hsp, hres, hsz]
    exact trodAll_mk1 (shut_bool Tryz.underlying4 _)
  · rw [List.append_nil, hsp, hpar]
    have lt0 : ∀ x ∈ p0, x.block < W.heap.size := by
      obtain ⟨n, hn⟩ := h0
      exact DataW.trod_lt _ _ _ _ hn
    have lt1 : ∀ x ∈ p1, x.block < W.heap.size := by
      obtain ⟨n, hn⟩ := h1
      exact DataW.trod_lt _ _ _ _ hn
    have lt2 : ∀ x ∈ p2, x.block < W.heap.size := by rw [ep]; intro x hx; cases hx
    have lt3 : ∀ x ∈ p3, x.block < W.heap.size := by rw [eq]; intro x hx; cases hx
    have lay : laidOutB Tryz.prog = true := by kernel_rfl
    exact trodAll_cons_mk (Below.trod lay (by kernel_rfl) (of_decide_eq_true (by kernel_rfl)) h0 hbel lt0) (trodAll_cons_mk (Below.trod lay (by kernel_rfl) (of_decide_eq_true (by kernel_rfl)) h1 hbel lt1)
      (trodAll_cons_mk (Below.trod lay (by kernel_rfl) (of_decide_eq_true (by kernel_rfl)) h2 hbel lt2) (trodAll_cons_mk (Below.trod lay (by kernel_rfl) (of_decide_eq_true (by kernel_rfl)) h3 hbel lt3) trodAll_mk0)))
  · rw [hvars, List.append_nil, hsp]
    exact rfl
  · exact hbel.frame _

end Go.Proofs.YtilhjiopbbbgmaaGreatDoor

/- Read as a contract. -/
namespace Go.Proofs.YtilhjiopbbbgmaaGreatDoor
open Go Go.RowKit Am Go.Shelf
set_option linter.unusedVariables false
set_option linter.unusedSimpArgs false

theorem stepF_len (n : Nd) (x : It) (c : Nat) : (stepF n x c).1.length ≤ 2 := by
  unfold stepF nodeF textF
  split
  · split
    · simp
    · split <;> simp
  · split
    · split <;> simp
    · simp

theorem read28_c (d : List Nd) (hd : WFd d) (hcw : ∀ n ∈ d, CW n) (hsz : ∀ n ∈ d, n.s.size ≤ 1000000) (s : List It) (hl : s.length ≤ 1000000) (hok : ∀ x ∈ s, itOk x) (hfo : OkS d s) (c : Nat) (hc : c < 256) (vd : Value) (a : Option Addr) (cap : Nat)
    (w : World) (G : Am.Good) (hG : ∀ b o, G b o → b < w.heap.size) (hgl : GlOk glN w G) (hvd : RepL w G (dC d) [vd]) (hs : RepC w G (stC s) (.slice a s.length cap)) :
    Calls Tryz.prog 20 #[.agg #[vd], .slice a s.length cap, .int .u8 (c : Int)] w (BackR w G (readF d c s)) := by
  cases s with
  | nil =>
    refine (read_nil vd a cap c w).mono ?_
    rintro e w' ⟨hb, rfl⟩
    exact backR_none hG hb
  | cons x r =>
    have hl' : r.length ≤ 1000000 := by simp at hl; omega
    have hokr : ∀ y ∈ r, itOk y := fun y hy => hok y (by simp [hy])
    have hxo := hok x (by simp)
    simp only [RepC] at hs
    obtain ⟨a', cap', e, hcap, hs⟩ := hs
    cases e
    obtain ⟨b, o, rfl, hm0⟩ : ∃ b o, a = some ⟨b, o, none⟩ ∧ RepM w G (itsC (x :: r)) b o := by
      rcases hs with h | ⟨b, o, h, hm⟩
      · rw [itsC_cons] at h; cases h
      · exact ⟨b, o, h, hm⟩
    have hcap' : r.length + 1 ≤ cap := by simpa using hcap
    have hle : (x :: r).length = r.length + 1 := rfl
    rw [hle]
    by_cases hno : (lowB r && stepB x.k) = true
    · obtain ⟨hlo, hk⟩ : lowB r = true ∧ stepB x.k = true := by simpa using hno
      have hx := hfo x (by simp)
      have hin : 0 ≤ x.n ∧ x.n < d.length := by
        have := hd.1
        rcases hx with h | h
        · omega
        · exact h.1
      obtain ⟨k, n, lo, hi⟩ := x
      obtain ⟨m, rfl⟩ : ∃ m : Nat, n = m := ⟨n.toNat, by simp at hin; omega⟩
      have hm : m < d.length := by simp at hin; omega
      have e' := nd_get d m hm
      have hr : readF d c (⟨k, m, lo, hi⟩ :: r) = if (stepF d[m] ⟨k, m, lo, hi⟩ c).2 = true then some ((stepF d[m] ⟨k, m, lo, hi⟩ c).1 ++ r.map lowF) else none := by
        have hk' : stepB k = true := hk
        simp only [readF, hlo, hk', e', Bool.true_and]
      rw [hr]
      have hmem := List.getElem_mem hm
      have key : Ret Tryz.prog glE (stepG k) [.agg (stepC d[m] ⟨k, m, lo, hi⟩ c)] (.tup [.c (stC (stepF d[m] ⟨k, m, lo, hi⟩ c).1), bv (stepF d[m] ⟨k, m, lo, hi⟩ c).2]) := by
        by_cases h1 : k = 1
        · have := st_node_ret glE d[m] (hcw _ hmem) ⟨k, m, lo, hi⟩ c hc
          simp only [stepG, stepF, if_pos h1]
          exact this
        · by_cases h3 : k = 3
          · have hlo3 : 0 ≤ lo ∧ lo < d[m].s.size := by
              rcases hx with h | ⟨_, h | h | h | h⟩ <;> simp only at h
              · omega
              · omega
              · omega
              · rw [e'] at h; exact ⟨h.2.2.2.1, h.2.2.2.2⟩
              · omega
            have := st_text_ret glE d[m] ⟨k, m, lo, hi⟩ hlo3 (hsz _ hmem) c hc
            simp only [stepG, stepF, if_neg h1, if_pos h3]
            exact this
          · have hlo4 : 0 ≤ lo ∧ lo ≤ 1000000 := by
              rcases hx with h | ⟨_, h | h | h | h⟩ <;> simp only at h
              · have hk' : stepB k = true := hk
                rw [h.1] at hk'; cases hk'
              · omega
              · have hk' : stepB k = true := hk
                rw [h.1] at hk'; cases hk'
              · omega
              · omega
            have := st_half_ret glE d[m] ⟨k, m, lo, hi⟩ hlo4 c hc
            simp only [stepG, stepF, if_neg h1, if_neg h3]
            exact this
      exact read_step (stepG k) d m hm k lo hi r hl' hokr hxo c hc vd b o cap w G hG hgl hvd hm0 hcap' hlo hk rfl _ _ key.1 (stepF_len _ _ _) (fun w' => step_back key w')
    · have hno' : (lowB r && stepB x.k) = false := by simpa using hno
      have hr : readF d c (x :: r) = none := by
        simp only [readF]
        rw [if_neg]
        intro h
        simp only [Bool.and_eq_true] at h
        rw [h.1, h.2.1] at hno'
        cases hno'
      rw [hr]
      refine (read_low d x r hl' hokr hxo c hc vd b o cap w G hG hgl hm0 hcap' hno').mono ?_
      rintro e w' ⟨hb, rfl⟩
      exact backR_none hG hb

theorem read28_ret (d : List Nd) (hd : WFd d) (hcw : ∀ n ∈ d, CW n) (hsz : ∀ n ∈ d, n.s.size ≤ 1000000) (s : List It) (hl : s.length ≤ 1000000) (hok : ∀ x ∈ s, itOk x) (hfo : OkS d s) (c : Nat) (hc : c < 256) :
    Ret Tryz.prog glN 20 [.agg (dC d), .c (stC s), .c (.v (.int .u8 (c : Int)))] (.tup [.c (stC ((readF d c s).getD [])), bv (readF d c s).isSome]) := by
  refine ⟨callF Tryz.func20 (by kernel_rfl) rfl, fun w G vs hG hgl hrep => ?_⟩
  obtain ⟨vd, a, cap, hvs, hvd, hv⟩ : ∃ vd a cap, vs = #[.agg #[vd], .slice a s.length cap, .int .u8 (c : Int)] ∧ RepL w G (dC d) [vd] ∧ RepC w G (stC s) (.slice a s.length cap) := by
    obtain ⟨l⟩ := vs
    match l, hrep with
    | [x, y, z], ⟨⟨ys, e, h1⟩, h2, h3, _⟩ =>
      obtain ⟨ys⟩ := ys
      simp only [RepT, RepC] at h3
      obtain ⟨a, cap, rfl⟩ : ∃ a cap, y = .slice a s.length cap := by
        simp only [RepT, RepC] at h2
        obtain ⟨a, c, e, _⟩ := h2
        exact ⟨a, c, e⟩
      match ys, h1 with
      | [q], h1 => exact ⟨q, a, cap, by rw [e, h3.1], h1, h2⟩
      | [], h1 => exact h1.elim
      | _ :: _ :: _, h1 => exact h1.2.elim
  subst hvs
  refine (read28_c d hd hcw hsz s hl hok hfo c hc vd a cap w G hG hgl hvd hv).mono ?_
  rintro e w' ⟨v, rfl, hb, G', h1, h2, h3, hr⟩
  exact ⟨_, rfl, hb, fun h => h.elim, G', h1, h2, h3, _, rfl, hr, ⟨rfl, rfl⟩, trivial⟩

end Go.Proofs.YtilhjiopbbbgmaaGreatDoor

/- What one goes on to: what its walk keeps. -/
namespace Go.Proofs.YtilhjiopbbbgmaaGreatDoor
open Go Go.RowKit Am Go.Shelf Go.Maps Go.WideMaps
set_option linter.unusedVariables false
set_option linter.unusedSimpArgs false

def Ri : Value → Option (DV × List MemPlace)
  | .int .i64 n => some (.held (.int .i64 n), [])
  | _ => none
theorem Ri_inv {v : Value} {y : DV × List MemPlace} (h : Ri v = some y) : ∃ n : Int, v = .int .i64 n ∧ y = (.held v, []) := by
  unfold Ri at h
  split at h
  · cases h; exact ⟨_, rfl, rfl⟩
  · cases h
theorem zero3 (w : World) : (zeroValue 3).run Tryz.prog w = .ok (.int .i64 0) w := by kernel_rfl

/-- A map of counts: of each state how often it comes, up to 2. -/
def CntB (D : DV) (L : List (List It)) : Prop := ∀ t, D.atKey (kl t) (.held (.int .i64 0)) = .held (.int .i64 (mn (L.count t)))
theorem CntB.nil : CntB (.map []) [] := fun t => by
  rw [atKey_of_not_has rfl]
  rfl
theorem CntB.put {D : DV} {L : List (List It)} (h : CntB D L) (hD : IsMap D) (t : List It) (c : Nat) : CntB (D.put (kl t) (.held (.int .i64 (mn (L.count t + c))))) (L ++ List.replicate c t) := fun u => by
  rw [count_add]
  by_cases e : u = t
  · subst e
    rw [if_pos rfl, atKey_put_same hD (by trivial)]
  · have e' : kl u ≠ kl t := fun h => e (kl_inj h)
    rw [if_neg e, atKey_put_other e', h u]

theorem wpList_lookup_int (w : World) {ops : Array Oper} {rest : List Oper} {o : Oper} {a : Act} {Q : Exit → Act → World → Prop} (hg : o.guard = none) (m x : Operand) (hop : o.op = Op.lookup 69 m x false) (b n : Nat) (D : DV)
    (hm : a.eval m = .map (some b)) (hown : w.ownsMap Tryz.prog 9 Ri b n D) (key : Value) (k : Lit) (hx : a.eval x = key) (hkey : keyOf Tryz.prog 9 key = some k) {q : Int}
    (hat : D.atKey k (.held (.int .i64 0)) = .held (.int .i64 q)) (hK : wpList Tryz.prog ops Q rest (a.put o.dst (.int .i64 q)) w) :
    wpList Tryz.prog ops Q (o :: rest) a w := by
  refine wpList_plain hg fun K' hK' => ?_
  obtain ⟨v, ps, hrun, hv⟩ := hown.lookup law9 Tryz.underlying69 (zero3 _) (zd := .held (.int .i64 0)) (zp := []) rfl hkey
  obtain ⟨_, _, hy⟩ := Ri_inv hv
  have hy' := congrArg Prod.fst hy
  rw [hat] at hy'
  injection hy' with hy'
  subst hy'
  unfold Oper.wp
  simp [execOp, hop, hm, hx, hrun, Result.andThen]
  exact hK' _ _ hK

theorem okS_itOk {d : List Nd} (hd : WFd d) (hsz : ∀ n ∈ d, n.s.size ≤ 1000000) {s : List It} (h : OkS d s) : ∀ x ∈ s, itOk x := fun x hx => by
  have hl := hd.2.1
  rcases h x hx with h | ⟨⟨n1, n2⟩, h⟩
  · exact ⟨⟨by omega, by omega⟩, ⟨by omega, by omega⟩, ⟨by omega, by omega⟩, ⟨by omega, by omega⟩⟩
  · have hm : x.n.toNat < d.length := by omega
    have e : Go.Proofs.YtilhjiopbbbgmaaGreatDoor.nd d x.n = d[x.n.toNat] := by simp [Go.Proofs.YtilhjiopbbbgmaaGreatDoor.nd, hm]
    have hz := hsz _ (List.getElem_mem hm)
    have ho := hd.2.2 _ (List.getElem_mem hm)
    obtain ⟨_, _, _, _, _, _, o1, o2, o3, _⟩ := ho
    rw [e] at h
    rcases h with h | h | h | h <;> exact ⟨⟨by omega, by omega⟩, ⟨by omega, by omega⟩, ⟨by omega, by omega⟩, ⟨by omega, by omega⟩⟩

theorem readF_len {d : List Nd} {c : Nat} {s t : List It} (h : readF d c s = some t) : t.length ≤ s.length + 1 := by
  cases s with
  | nil => cases h
  | cons x r =>
    simp only [readF] at h
    split at h
    · cases h
      have := stepF_len (Go.Proofs.YtilhjiopbbbgmaaGreatDoor.nd d x.n) x c
      simp only [List.length_append, List.length_map, List.length_cons]
      omega
    · cases h

/-- An element of a slice of branches. -/
theorem bsC_at {w : World} {G : Am.Good} {hs : List Br} {ao : Option Addr} {n co : Nat} (h : RepC w G (.sl n (bsC hs)) (.slice ao n co)) {i : Nat} (hi : i < hs.length) :
    ∃ bo oo a c, ao = some ⟨bo, oo, none⟩ ∧ bo < w.heap.size ∧ w.cell? ⟨bo, oo + i * 2, none⟩ = some (.slice a hs[i].to.length c) ∧ w.cell? ⟨bo, oo + i * 2 + 1, none⟩ = some (.int .i64 hs[i].many) ∧ RepC w G (stC hs[i].to) (.slice a hs[i].to.length c) := by
  simp only [RepC] at h
  obtain ⟨a, cap, e, _, h⟩ := h
  cases e
  have d1 := bsC_drop hs i hi
  rcases h with h | ⟨b, o, e, h⟩
  · have := bsC_length hs
    rw [h] at this
    simp at this
    omega
  · subst e
    have g : ∀ j, (bsC hs)[i * 2 + j]? = ((bsC hs).drop (i * 2))[j]? := fun j => by rw [List.getElem?_drop]
    have g0 := g 0
    have g1 := g 1
    rw [d1] at g0 g1
    simp only [Nat.add_zero, List.getElem?_cons_zero] at g0
    simp only [List.getElem?_cons_succ, List.getElem?_cons_zero] at g1
    obtain ⟨_, v0, c0, r0⟩ := RepM.get h g0
    obtain ⟨_, v1, c1, r1⟩ := RepM.get h g1
    obtain ⟨a, c, rfl⟩ : ∃ a c, v0 = .slice a hs[i].to.length c := by
      simp only [RepC] at r0
      obtain ⟨a, c, e, _⟩ := r0
      exact ⟨a, c, e⟩
    simp only [RepC] at r1
    rw [r1.1, ← Nat.add_assoc] at c1
    obtain ⟨b', o', e', hlt⟩ := plain_of_cell c0
    cases e'
    exact ⟨b, o, a, c, rfl, hlt, c0, c1, r0⟩

/-- Where the walk stands: what is settled; its map and its row stand apart. -/
structure OnEnv (w : World) (G : Am.Good) (m : Nat) (wx : World) (Gx : Am.Good) (x : Value) : Prop where
  bel : Below w.heap.size w wx
  hG : ∀ b o, Gx b o → b < wx.heap.size
  g1 : ∀ b o, G b o → Gx b o
  g2 : ∀ b o, Gx b o → G b o ∨ w.heap.size ≤ b
  mG : ∀ o, ¬ Gx m o
  rG : ∀ b, x.ownBlock = some b → ∀ o, ¬ Gx b o

section
variable {w wx w' : World} {G Gx G' : Am.Good} {m : Nat} {x x' : Value}
theorem OnEnv.call (E : OnEnv w G m wx Gx x) (hm : m < wx.heap.size) (hx : ∀ b, x.ownBlock = some b → b < wx.heap.size) (hb : Below wx.heap.size wx w') (h1 : ∀ b o, Gx b o → G' b o) (h2 : ∀ b o, G' b o → Gx b o ∨ wx.heap.size ≤ b) (h3 : ∀ b o, G' b o → b < w'.heap.size) : OnEnv w G m w' G' x where
  bel := E.bel.trans (hb.mono E.bel.size)
  hG := h3
  g1 := fun b o h => h1 b o (E.g1 b o h)
  g2 := fun b o h => (h2 b o h).elim (E.g2 b o) (fun h => .inr (Nat.le_trans E.bel.size h))
  mG := fun o h => (h2 m o h).elim (E.mG o) (fun h => by omega)
  rG := fun b e o h => (h2 b o h).elim (E.rG b e o) (fun h => by have := hx b e; omega)
theorem OnEnv.grow (E : OnEnv w G m wx Gx x) {row : Option Nat} (hg : wx.grownBy w' row) (hrow : ∀ b, row = some b → w.heap.size ≤ b) (hx : ∀ b, x'.ownBlock = some b → ∀ o, ¬ Gx b o) : OnEnv w G m w' Gx x' where
  bel := ⟨hg.os.trans E.bel.os, hg.tape.trans E.bel.tape, hg.output.trans E.bel.output, Nat.le_trans E.bel.size hg.size, fun k hk => (hg.block k (by have := E.bel.size; omega) (fun e => by have := hrow k e.symm; omega)).trans (E.bel.block k hk)⟩
  hG := fun b o h => Nat.lt_of_lt_of_le (E.hG b o h) hg.size
  g1 := E.g1
  g2 := E.g2
  mG := E.mG
  rG := hx
theorem OnEnv.gl (E : OnEnv w G m wx Gx x) (hG : ∀ b o, G b o → b < w.heap.size) (hgl : GlOk glN w G) : GlOk glN wx Gx := by
  have S : Settled w wx G Gx := ⟨E.g1, fun b o h => E.bel.cell (p := ⟨b, o, none⟩) (hG b o h)⟩
  exact ⟨fun i cs h => RepM.mono S _ _ _ (hgl.1 i cs h), glN.stable w wx E.bel hgl.2⟩
theorem OnEnv.rep (E : OnEnv w G m wx Gx x) (hG : ∀ b o, G b o → b < w.heap.size) {cs : List C} {vs : List Value} (h : RepL w G cs vs) : RepL wx Gx cs vs :=
  RepL.mono ⟨E.g1, fun b o h => E.bel.cell (p := ⟨b, o, none⟩) (hG b o h)⟩ _ _ h
theorem OnEnv.kept (E : OnEnv w G m wx Gx x) {row : Option Nat} (hg : wx.grownBy w' row) (hrow : ∀ b, row = some b → ∀ o, ¬ Gx b o) : Settled wx w' Gx Gx := Settled.of_grown hg E.hG hrow
end

def ent0 (e : Ent) : List Value := [.slice e.2.1 e.1.length e.2.2, .int .i64 0]
theorem ent0_len (es : List Ent) : (es.flatMap ent0).length = es.length * 2 := by
  induction es with
  | nil => rfl
  | cons e es ih => simp [ent0] at ih ⊢; omega

/-- While heads are read: behind i of them. -/
def OnRel (w : World) (G : Am.Good) (d : List Nd) (c m : Nat) (hs : List Br) (vh : Value) (g : Nat) (x y : Value) (wx : World) : Prop :=
  ∃ (i n : Nat) (Gx : Am.Good) (D : DV) (es : List Ent), i + g = hs.length ∧ x = .int .i64 i ∧ n ≤ i ∧ es.length ≤ i ∧ OnEnv w G m wx Gx y ∧ RepC wx Gx (brC hs) vh ∧ wx.ownsMap Tryz.prog 9 Ri m n D ∧ CntB D (goesL d c (hs.take i)) ∧
    wx.ownsRow (w.heap.size + 1) 66 2 y es.length (es.flatMap ent0) ∧ (∀ e ∈ es, RepC wx Gx (stC e.1) (.slice e.2.1 e.1.length e.2.2)) ∧ (es.map (·.1)).Nodup ∧ (∀ t, t ∈ es.map (·.1) ↔ t ∈ goesL d c (hs.take i))

/-- A row whose first i entries have their ways. -/
def mixR (L : List (List It)) (es : List Ent) (i : Nat) : List Value := (es.take i).flatMap (entC L) ++ (es.drop i).flatMap ent0
theorem entC_len (L : List (List It)) (es : List Ent) : (es.flatMap (entC L)).length = es.length * 2 := by
  induction es with
  | nil => rfl
  | cons e es ih => simp [entC] at ih ⊢; omega
theorem mixR_get (L : List (List It)) (es : List Ent) (i : Nat) (h : i < es.length) : (mixR L es i)[i * 2]? = some (.slice es[i].2.1 es[i].1.length es[i].2.2) ∧ (mixR L es i)[i * 2 + 1]? = some (.int .i64 0) := by
  have hl : ((es.take i).flatMap (entC L)).length = i * 2 := by rw [entC_len, List.length_take, Nat.min_eq_left (by omega)]
  unfold mixR
  rw [List.getElem?_append_right (by omega), List.getElem?_append_right (by omega), hl, Nat.sub_self, List.drop_eq_getElem_cons h, show i * 2 + 1 - i * 2 = 1 by omega]
  exact ⟨rfl, rfl⟩
theorem mixR_set (L : List (List It)) (es : List Ent) (i : Nat) (h : i < es.length) : (mixR L es i).set (i * 2 + 1) (.int .i64 (mn (L.count es[i].1))) = mixR L es (i + 1) := by
  have hl : ((es.take i).flatMap (entC L)).length = i * 2 := by rw [entC_len, List.length_take, Nat.min_eq_left (by omega)]
  unfold mixR
  rw [List.set_append_right _ _ (by omega), hl, show i * 2 + 1 - i * 2 = 1 by omega, List.drop_eq_getElem_cons h, List.take_succ_eq_append_getElem h, List.flatMap_append, List.flatMap_cons, List.append_assoc]
  rfl
theorem mixR_zero (L : List (List It)) (es : List Ent) : mixR L es 0 = es.flatMap ent0 := by simp [mixR]
theorem mixR_all (L : List (List It)) (es : List Ent) (i : Nat) (h : es.length ≤ i) : mixR L es i = es.flatMap (entC L) := by
  unfold mixR
  rw [List.take_of_length_le h, List.drop_eq_nil_of_le h]
  simp

/-- While ways are put in: behind i of them. -/
def OnRel2 (w : World) (G : Am.Good) (m n : Nat) (L : List (List It)) (D : DV) (es : List Ent) (y : Value) (g : Nat) (x : Value) (wx : World) : Prop :=
  ∃ (i : Nat) (Gx : Am.Good), i + g = es.length ∧ x = .int .i64 i ∧ OnEnv w G m wx Gx y ∧ wx.ownsMap Tryz.prog 9 Ri m n D ∧
    wx.ownsRow (w.heap.size + 1) 66 2 y es.length (mixR L es i) ∧ (∀ e ∈ es, RepC wx Gx (stC e.1) (.slice e.2.1 e.1.length e.2.2))

theorem goesL_take (d : List Nd) (c : Nat) (hs : List Br) (i : Nat) (h : i < hs.length) : goesL d c (hs.take (i + 1)) = goesL d c (hs.take i) ++ (match readF d c hs[i].to with | some t => List.replicate hs[i].many.toNat t | none => []) := by
  rw [goesL, List.take_succ_eq_append_getElem h, List.flatMap_append]
  simp only [List.flatMap_cons, List.flatMap_nil, List.append_nil]
  rfl

end Go.Proofs.YtilhjiopbbbgmaaGreatDoor

/- On: walked. -/
namespace Go.Proofs.YtilhjiopbbbgmaaGreatDoor
open Go Go.RowKit Am Go.Shelf Go.Maps Go.WideMaps
set_option linter.unusedVariables false
set_option linter.unusedSimpArgs false

theorem row_lt {w : World} {B e sz n : Nat} {v : Value} {xs : List Value} (h : w.ownsRow B e sz v n xs) : ∀ b, v.ownBlock = some b → b < w.heap.size := fun b e => (h.lt b e).2
theorem row_ne {w : World} {B e sz n m : Nat} {v : Value} {xs : List Value} (h : w.ownsRow B e sz v n xs) (hm : m < B) : v.ownBlock = none ∨ v.ownBlock ≠ some m := by
  rcases h' : v.ownBlock with _ | b
  · exact .inl rfl
  · exact .inr fun e => by
      cases e
      have := (h.lt _ h').1
      omega
theorem row_ne' {w : World} {B e sz n m : Nat} {v : Value} {xs : List Value} (h : w.ownsRow B e sz v n xs) (hm : m < B) : some m ≠ v.ownBlock := fun e => by
  have := (h.lt _ e.symm).1
  omega
theorem row_none {v : Value} : v.ownBlock = none ∨ v.ownBlock ≠ none := by
  rcases v.ownBlock with _ | b
  · exact .inl rfl
  · exact .inr (by simp)

theorem cell_grown {w w' : World} {row : Option Nat} (hg : w.grownBy w' row) {b o : Nat} {v : Value} (h : w.cell? ⟨b, o, none⟩ = some v) (hne : row ≠ some b) : w'.cell? ⟨b, o, none⟩ = some v := by
  obtain ⟨b', o', e, hlt⟩ := plain_of_cell h
  cases e
  rw [cell_same (hg.block b hlt (fun e => hne e.symm)) o]
  exact h
theorem cells_two_new (w : World) (x y : Value) (t : TypeId) : ∀ (j : Nat) (u : Value), [x, y][j]? = some u → (w.alloc (.cells #[x, y] t)).cell? ((⟨w.heap.size, 0, none⟩ : Addr).add j) = some u := fun j u hj => by
  rw [add_plain, Nat.zero_add]
  have hn := heap_alloc_new w (.cells #[x, y] t)
  unfold World.cell?
  simp only [hn]
  rw [← hj]
  simp

theorem heads_len' {d : List Nd} (hd : WFd d) {k : Nat} {s : List It} (hs : gd d s) (hl : s.length + k ≤ 1000000) : (headsS d k s).length ≤ (leaves d k s).length := by
  have h := addL_ok (leaves d k s) (l := []) (n := 0) ⟨fun x hx => (by cases hx), fun x hx => (by cases hx), Nat.le_refl _⟩ fun t ht => by
    have := (leaves_len hd k s hs t ht).2
    omega
  rw [Nat.zero_add] at h
  exact h.len

set_option maxHeartbeats 4000000 in
set_option maxRecDepth 1000000 in
theorem on25_c (d : List Nd) (hd : WFd d) (hcw : ∀ n ∈ d, CW n) (hsz : ∀ n ∈ d, n.s.size ≤ 1000000) (k : Nat) (s : List It) (c : Nat) (hc : c < 256) (w : World) (G : Am.Good) (vd vs : Value) (hdp : deep d k s) (hs : gd d s) (hj : okJ s) (hl : s.length + k ≤ 100000) (hn : cnt d k s ≤ 1000000) (hlv : (leaves d k s).length ≤ 1000000)
    (hfo : OkS d s) (hG : ∀ b o, G b o → b < w.heap.size) (hgl : GlOk glN w G) (hvd : RepL w G (dC d) [vd]) (hv : RepC w G (stC s) vs) : Calls Tryz.prog 12 #[.agg #[vd], vs, .int .u8 (c : Int)] w (BackC w G (brC (onS d k s c))) := by
  obtain ⟨i0, hi0, hz0, hs0, hb0⟩ := info_parts info37
  have hmm := @run_makeMap Tryz.prog
  have hHok : ∀ b ∈ headsS d k s, OkS d b.to ∧ b.to.length ≤ 100000 ∧ (1 ≤ b.many ∧ b.many ≤ 2) := fun b hb => by
    have hm := heads_mem hb
    have h1 := (okS_leaves hd k hfo _ hm).1
    have h2 := (leaves_len hd k s hs _ hm).2
    exact ⟨h1, by omega, heads_many b hb⟩
  have hHl : (headsS d k s).length ≤ 1000000 := by
    have := heads_len' hd hs (k := k) (by omega)
    omega
  have hw1 := World.grownBy_alloc w (.cells #[vd] 24) none
  have S1 : Settled w (w.alloc (.cells #[vd] 24)) G G := Settled.of_grown hw1 hG fun b e => by cases e
  have hG1 : ∀ b o, G b o → b < (w.alloc (.cells #[vd] 24)).heap.size := fun b o h => by have := hG b o h; simp; omega
  have hB1 := (Below.refl w.heap.size w).alloc (Nat.le_refl _) (.cells #[vd] 24)
  have hgl1 : GlOk glN (w.alloc (.cells #[vd] 24)) G := ⟨fun i cs h => RepM.mono S1 _ _ _ (hgl.1 i cs h), glN.stable _ _ hB1 hgl.2⟩
  have hcB : (w.alloc (.cells #[vd] 24)).cell? ⟨w.heap.size, 0, none⟩ = some vd := by
    have := heap_alloc_new w (.cells #[vd] 24)
    unfold World.cell?
    simp only [this]
    rfl
  have hcBl : w.heap.size < (w.alloc (.cells #[vd] 24)).heap.size := by simp
  have hvd1 := RepL.mono S1 _ _ hvd
  have hv1 := RepC.mono S1 _ _ hv
  have hwsz : (w.alloc (.cells #[vd] 24)).heap.size = w.heap.size + 1 := by simp
  clear hvd hv hgl hw1 S1
  have hst0 : OnEnv (w.alloc (.cells #[vd] 24)) G (w.alloc (.cells #[vd] 24)).heap.size ((w.alloc (.cells #[vd] 24)).alloc (.map #[] 0)) G (.slice none 0 0) := {
    bel := (Below.refl _ _).alloc (Nat.le_refl _) _
    hG := fun b o h => by have := hG1 b o h; simp at this ⊢; omega
    g1 := fun _ _ h => h
    g2 := fun _ _ h => .inl h
    mG := fun o h => Nat.lt_irrefl _ (hG1 _ _ h)
    rG := fun b e => by cases e }
  have hmap0 := World.ownsMap_made (w.alloc (.cells #[vd] 24)) Tryz.prog 9 Ri
  have S2 : Settled (w.alloc (.cells #[vd] 24)) ((w.alloc (.cells #[vd] 24)).alloc (.map #[] 0)) G G := ⟨fun _ _ h => h, fun b o h => hst0.bel.cell (p := ⟨b, o, none⟩) (hG1 b o h)⟩
  have hgl2 := hst0.gl hG1 hgl1
  have hh := heads15_c d hd k s _ G vd vs hdp hs hj hl hn hlv hst0.hG ⟨fun i cs h => hgl2.1 i cs h, hgl2.2.1⟩ (RepL.mono S2 _ _ hvd1) (RepC.mono S2 _ _ hv1)
  have hfin : onS d k s c = addL [] (goesL d c (headsS d k s)) := rfl
  have hLin : ∀ t ∈ goesL d c (headsS d k s), (∀ x ∈ t, itOk x) ∧ t.length ≤ 100001 := fun t ht => by
    obtain ⟨b, hb, ht⟩ := List.mem_flatMap.1 ht
    obtain ⟨b1, b2, _⟩ := hHok b hb
    cases e : readF d c b.to with
    | none => rw [e] at ht; cases ht
    | some u =>
      rw [e] at ht
      obtain rfl := List.eq_of_mem_replicate ht
      have := readF_len e
      exact ⟨okS_itOk hd hsz (okS_read hd hc b1 e), by omega⟩
  rw [hfin]
  generalize headsS d k s = hs' at *
  go_enter Tryz.func12, Tryz.ntmps12
  go_wp2_with (go_at_call 48; refine hh.mono ?_; rintro e w4 ⟨vh, rfl, hb4, G4, k1, k2, k3, hr4⟩; obtain ⟨ah, ch, rfl⟩ : ∃ a c, vh = .slice a hs'.length c := (by simp only [RepC] at hr4; obtain ⟨a, c, e, h⟩ := hr4; exact ⟨a, c, e⟩))
  have hst : OnRel (w.alloc (.cells #[vd] 24)) G d c (w.heap.size + 1) hs' (.slice ah hs'.length ch) hs'.length (.int .i64 0) (.slice none 0 0) w4 := by
    rw [← hwsz]
    exact ⟨0, 0, G4, .map [], [], by omega, rfl, Nat.le_refl _, Nat.le_refl _, hst0.call (by simp) (fun b e => by cases e) hb4 k1 k2 k3, hr4, hmap0.kept (below_grown hb4) (by simp), CntB.nil, ⟨rfl, .inl ⟨rfl, rfl⟩⟩, fun e h => (by cases h), List.nodup_nil, fun t => by simp [goesL]⟩
  clear hst0 hmap0 S2 hgl2 hh hr4 hb4 k1 k2 k3
  generalize hW1 : w.alloc (.cells #[vd] 24) = W1 at *
  go_loopg [20, 8] hs'.length (fun g x y wx => OnRel W1 G d c (w.heap.size + 1) hs' (.slice ah hs'.length ch) g x y wx)
  case atStart => exact hst
  case round =>
    clear hst
    obtain ⟨i, n, Gx, D, es, hig, rfl, hni, hesi, E, hrx, hD, hcnt, hrow, hE, hnd, hall⟩ := hrel
    have hBm : w.heap.size + 1 < W1.heap.size + 1 := by omega
    have hcBx := (E.bel.cell (p := ⟨w.heap.size, 0, none⟩) hcBl).trans hcB
    cases gk with
    | zero =>
      have hiz : ¬ ((i : Int) < (hs'.length : Int)) := by omega
      have htk : hs'.take i = hs' := List.take_of_length_le (by omega)
      rw [htk] at hcnt hall
      have hesl : es.length ≤ 1000000 := by omega
      clear hrx htk
      generalize hLL : goesL d c hs' = L at *
      rcases hrow.2 with ⟨rfl, h0⟩ | ⟨gb, cap, cur, rfl, hBgb, hbk, hncap, hcm, hszr, htake⟩
      · have hes0 : es = [] := List.eq_nil_of_length_eq_zero h0
        have hL0 : L = [] := by
          cases L with
          | nil => rfl
          | cons t L =>
            have := (hall t).2 (by simp)
            rw [hes0] at this
            cases this
        go_wp2
        go_loopg [57] 0 (fun g x wx => g = 0 ∧ x = .int .i64 0 ∧ wx = wr)
        case atStart => exact ⟨rfl, rfl, rfl⟩
        case round =>
          obtain ⟨rfl, rfl, rfl⟩ := hrel
          have hc36 := AnyF.slices_SortFunc_none sort36 none 0 (.func (.func 51) #[] #[]) wr
          go_wp2_with (go_at_call 50; refine hc36.mono ?_; rintro e w' ⟨rfl, rfl⟩)
          go_ret
          refine ⟨_, rfl, hB1.trans (E.bel.mono (by omega)), Gx, E.g1, fun b o h => (E.g2 b o h).imp id fun h => by omega, E.hG, ?_⟩
          rw [hL0]
          simp only [RepC]
          exact ⟨none, 0, rfl, Nat.le_refl _, .inl rfl⟩
      · have hrow2 : wr.ownsRow (W1.heap.size + 1) 66 2 (.slice (some ⟨gb, 0, none⟩) es.length cap) es.length (mixR L es 0) := by rw [mixR_zero]; exact hrow
        have hst : OnRel2 W1 G (w.heap.size + 1) n L D es (.slice (some ⟨gb, 0, none⟩) es.length cap) es.length (.int .i64 0) wr := ⟨0, Gx, by omega, rfl, E, hD, hrow2, hE⟩
        clear hrow hbk hszr htake cur hrow2
        go_wp2
        go_loopg [57] es.length (fun g x wx => OnRel2 W1 G (w.heap.size + 1) n L D es (.slice (some ⟨gb, 0, none⟩) es.length cap) g x wx)
        case atStart => exact hst
        case round =>
          clear hst E hD hE
          obtain ⟨j, Gy, hjg, rfl, E, hD, hrow, hE⟩ := hrel
          cases gk with
          | zero =>
            have hjz : ¬ ((j : Int) < (es.length : Int)) := by omega
            rw [mixR_all L es j (by omega)] at hrow
            rcases hrow.2 with ⟨h, _⟩ | ⟨gb', cap', cur, h, hB, hb, hncap, hcm, hszr, htake⟩
            · cases h
            cases h
            have hok : ∀ e ∈ es, RepC wr Gy (stC e.1) (.slice e.2.1 e.1.length e.2.2) ∧ e.1.length ≤ 1000000 := fun e he => by
              have := (hLin e.1 ((hall e.1).1 (List.mem_map.2 ⟨e, he, rfl⟩))).2
              exact ⟨hE e he, by omega⟩
            have hds : (es.pmap (mkSE L) hok).toArray.size = es.length := by simp
            have hgbG : ∀ o, ¬ Gy gb o := E.rG gb rfl
            have hgl' : gb < wr.heap.size := (Array.getElem?_eq_some_iff.1 hb).1
            have hH : Go.Sort.HoldsK SE.enc 2 wr gb 0 (es.pmap (mkSE L) hok).toArray := holdsK_row (cap := cap) hb (by rw [hds]; simp only [pm_enc]; exact htake)
            have hc36 := sort36_on E.hG gb cap (es.pmap (mkSE L) hok).toArray hH hgl' hgbG (by rw [hds]; omega)
            rw [hds] at hc36
            clear hH
            go_wp2_with (go_at_call 50; refine hc36.mono ?_; rintro e w7 ⟨rfl, hg7, d', hp7, hd7, hs7, hH7⟩)
            go_ret
            have hp7' : d'.toList.Perm (es.pmap (mkSE L) hok) := by simpa using hp7
            have E7 := E.grow (x' := .slice (some ⟨gb, 0, none⟩) es.length cap) hg7 (fun b e => by cases e; omega) E.rG
            have S7 : Settled wr w7 Gy (fun b o => Gy b o ∨ (b = gb ∧ o < es.length * 2)) := ⟨fun _ _ h => .inl h, (E.kept hg7 fun b e => by cases e; exact hgbG).cell⟩
            have hbs : d'.toList.map SE.br = addL [] L := by
              refine heads_eq (srt_of (by rw [hd7]; exact hs7) ?_) fun y => ?_
              · rw [(hp7'.map SE.to).nodup_iff, pm_to]; exact hnd
              · rw [(hp7'.map SE.br).mem_iff, pm_br, List.mem_map]
                constructor
                · rintro ⟨e, he, rfl⟩
                  exact ⟨(hall e.1).1 (List.mem_map.2 ⟨e, he, rfl⟩), rfl⟩
                · rintro ⟨h1, h2⟩
                  obtain ⟨e, he, h3⟩ := List.mem_map.1 ((hall y.to).2 h1)
                  refine ⟨e, he, ?_⟩
                  cases y
                  simp only at h1 h2 h3
                  rw [h3, h2]
            have hd8 : d'.size = es.length := hd7
            have hrep := rep_row S7 hH7 (cap := cap) (by omega) (fun o h => .inr ⟨rfl, by omega⟩)
            rw [hbs, hd8] at hrep
            refine ⟨_, rfl, hB1.trans (E7.bel.mono (by omega)), _, fun b o h => .inl (E.g1 b o h), fun b o h => ?_, fun b o h => ?_, hrep⟩
            · rcases h with h | ⟨rfl, _⟩
              · exact (E.g2 b o h).imp id fun h' => by omega
              · exact .inr (by omega)
            · rcases h with h | ⟨rfl, _⟩
              · exact Nat.lt_of_lt_of_le (E.hG b o h) hg7.size
              · exact Nat.lt_of_lt_of_le hgl' hg7.size
          | succ g =>
            have hjl : j < es.length := by omega
            have hjz : (j : Int) < (es.length : Int) := by omega
            obtain ⟨m0, m1⟩ := mixR_get L es j hjl
            have ms := mixR_set L es j hjl
            have c0 := (hrow.cellAt (j * 2) (by omega)).trans m0
            have c1 := (hrow.cellAt (j * 2 + 1) (by omega)).trans m1
            have hre := hE _ (List.getElem_mem hjl)
            have hjm := (hall es[j].1).1 (List.mem_map.2 ⟨_, List.getElem_mem hjl, rfl⟩)
            generalize es[j] = en at *
            obtain ⟨t, a2, c2⟩ := en
            simp only at c0 c1 hre hjm ms
            obtain ⟨hit, htl⟩ := hLin t hjm
            have hkl : (keyS t).length ≤ 9223372036854775807 := by have := keyS_le hit (Nat.le_refl _); omega
            have hkey := keyOf_kl hkl
            have hct := hcnt t
            go_wp2_with (first
              | (go_at_call 49; refine (key48_c t _ wr Gy E.hG (by omega) hit (E.gl hG1 hgl1).2.1 hre).mono ?_; rintro e w3 ⟨rfl, hb3'⟩; have E3 := E.call hD.lt (row_lt hrow) hb3' (fun _ _ h => h) (fun _ _ h => .inl h) (fun b o h => Nat.lt_of_lt_of_le (E.hG b o h) hb3'.size); have hD3 := hD.kept (below_grown hb3') (by simp); have hrow3 := hrow.kept (below_grown hb3') row_none; have c1' := (hrow3.cellAt (j * 2 + 1) (by omega)).trans m1; have f1' := hrow3.frozenAt (j * 2 + 1))
              | (at_lookup; refine wpList_lookup_int _ rfl _ _ rfl (w.heap.size + 1) n D rfl hD3 _ _ rfl hkey hct ?_))
            go_roundg g
            case measure => omega
            case rel =>
              have hS := hrow3.stored (j * 2 + 1) (.int .i64 (mn (L.count t)))
              rw [ms] at hS
              have E4 := E3.grow (x' := .slice (some ⟨gb, 0, none⟩) es.length cap) hS.2 (fun b e => by cases e; omega) E3.rG
              have SX := stl_trans (E.kept (below_grown hb3') (fun _ h => by cases h)) (E3.kept hS.2 (fun b e => by cases e; exact E3.rG gb rfl))
              refine ⟨j + 1, Gy, by omega, ?_, E4, hD3.kept hS.2 (fun e => by cases e; omega), hS.1, fun e he => RepC.mono SX _ _ (hE e he)⟩
              first | rfl | (have : wrap64 ((j : Int) + 1) = ((j + 1 : Nat) : Int) := (by unfold wrap64; omega); simp [this])
    | succ g =>
      have hlt : i < hs'.length := by omega
      have hiz : (i : Int) < (hs'.length : Int) := by omega
      obtain ⟨bo, oo, a, cp, rfl, hbo, q0, q1, hra⟩ := bsC_at hrx hlt
      obtain ⟨hb1, hb2, hb3⟩ := hHok _ (List.getElem_mem hlt)
      have htk := goesL_take d c hs' i hlt
      generalize hs'[i] = br at *
      obtain ⟨to, many⟩ := br
      simp only at q0 q1 hra hb1 hb2 hb3 htk
      have hgA := World.grownBy_alloc wr (.cells #[.slice a to.length cp, .int .i64 many] 66) none
      have EA := E.grow (x' := u8) hgA (fun _ h => by cases h) E.rG
      have SA := E.kept hgA (fun _ h => by cases h)
      have hraA := RepC.mono SA _ _ hra
      have hrxA := RepC.mono SA _ _ hrx
      have hDA := hD.kept hgA (by simp)
      have hrowA := hrow.kept hgA row_none
      have qA : (wr.alloc (.cells #[.slice a to.length cp, .int .i64 many] 66)).cell? ⟨wr.heap.size, 1, none⟩ = some (.int .i64 many) := by
        have := heap_alloc_new wr (.cells #[.slice a to.length cp, .int .i64 many] 66)
        unfold World.cell?
        simp only [this]
        rfl
      have hcBA : (wr.alloc (.cells #[.slice a to.length cp, .int .i64 many] 66)).cell? ⟨w.heap.size, 0, none⟩ = some vd :=
        (((Below.refl wr.heap.size wr).alloc (Nat.le_refl _) (.cells #[.slice a to.length cp, .int .i64 many] 66)).cell (p := ⟨w.heap.size, 0, none⟩) (Nat.lt_of_lt_of_le hcBl E.bel.size)).trans hcBx
      have lA : wr.heap.size < (wr.alloc (.cells #[.slice a to.length cp, .int .i64 many] 66)).heap.size := by simp
      have hrd := read28_c d hd hcw hsz to (by omega) (okS_itOk hd hsz hb1) hb1 c hc vd a cp _ Gx EA.hG (EA.gl hG1 hgl1) (EA.rep hG1 hvd1) hraA
      have hmA : w.heap.size + 1 < (wr.alloc (.cells #[.slice a to.length cp, .int .i64 many] 66)).heap.size := hDA.lt
      cases hread : readF d c to with
      | none =>
        rw [hread] at hrd htk
        simp only [List.append_nil] at htk
        go_wp2_with (go_at_call 20; refine hrd.mono ?_; rintro e w2 ⟨v2, rfl, hb2', G2, p1, p2, p3, hr2⟩)
        go_roundg g
        case measure => omega
        case rel =>
          have E2 := EA.call hmA (row_lt hrowA) hb2' p1 p2 p3
          have S2 : Settled _ w2 Gx G2 := ⟨p1, (EA.kept (below_grown hb2') (fun _ h => by cases h)).cell⟩
          refine ⟨i + 1, n, G2, D, es, by omega, ?_, by omega, by omega, E2, RepC.mono S2 _ _ hrxA, hDA.kept (below_grown hb2') (by simp), by rw [htk]; exact hcnt, hrowA.kept (below_grown hb2') row_none, fun e he => RepC.mono S2 _ _ (RepC.mono SA _ _ (hE e he)), hnd, by rw [htk]; exact hall⟩
          first | rfl | (have : wrap64 ((i : Int) + 1) = ((i + 1 : Nat) : Int) := (by unfold wrap64; omega); simp [this])
      | some t =>
        rw [hread] at hrd htk
        simp only at htk
        have hto := okS_read hd hc hb1 hread
        have htl := readF_len hread
        have hit := okS_itOk hd hsz hto
        have hkl : (keyS t).length ≤ 9223372036854775807 := by have := keyS_le hit (Nat.le_refl _); omega
        have hkey := keyOf_kl hkl
        have hct := hcnt t
        have hes2 : (es.length + 1) * 32 ≤ 140737488355328 := by omega
        have r1 := mn_r ((goesL d c (hs'.take i)).count t)
        have hq : min (mn ((goesL d c (hs'.take i)).count t) + many) 2 = mn ((goesL d c (hs'.take i)).count t + many.toNat) := by
          simp only [mn]
          split <;> split <;> omega
        have hput := CntB.put hcnt hD.isMap t many.toNat
        rw [← htk] at hput
        have hnil : ∀ u, u ∈ goesL d c (hs'.take (i + 1)) ↔ u ∈ goesL d c (hs'.take i) ∨ u = t := fun u => by
          rw [htk, List.mem_append, List.mem_replicate]
          constructor
          · rintro (h | ⟨_, h⟩)
            · exact .inl h
            · exact .inr h
          · rintro (h | h)
            · exact .inl h
            · exact .inr ⟨by omega, h⟩
        by_cases h0 : (goesL d c (hs'.take i)).count t = 0
        · rw [h0] at hct hput
          rw [Nat.zero_add] at hput
          clear hq
          have hct : D.atKey (kl t) (.held (.int .i64 0)) = .held (.int .i64 0) := hct
          have hq : min many 2 = mn many.toNat := by rw [← mn12 hb3]; omega
          go_wp2_with (first
            | (go_at_call 20; refine hrd.mono ?_; rintro e w2 ⟨v2, rfl, hb2', G2, p1, p2, p3, hr2⟩; obtain ⟨a2, c2, rfl⟩ : ∃ a c, v2 = .slice a t.length c := (by simp only [Option.getD_some, RepC] at hr2; obtain ⟨a, c, e, h⟩ := hr2; exact ⟨a, c, e⟩); simp only [Option.getD_some] at hr2; have E2 := EA.call hmA (row_lt hrowA) hb2' p1 p2 p3; have hD2 := hDA.kept (below_grown hb2') (by simp); have hrow2 := hrowA.kept (below_grown hb2') row_none; have q2 := (hb2'.cell (p := ⟨wr.heap.size, 1, none⟩) lA).trans qA)
            | (go_at_call 49; refine (key48_c t _ w2 G2 E2.hG (by omega) hit (E2.gl hG1 hgl1).2.1 hr2).mono ?_; rintro e w3 ⟨rfl, hb3'⟩; have E3 := E2.call hD2.lt (row_lt hrow2) hb3' (fun _ _ h => h) (fun _ _ h => .inl h) (fun b o h => Nat.lt_of_lt_of_le (E2.hG b o h) hb3'.size); have hD3 := hD2.kept (below_grown hb3') (by simp); have hrow3 := hrow2.kept (below_grown hb3') row_none; have q3 := (hb3'.cell (p := ⟨wr.heap.size, 1, none⟩) (Nat.lt_of_lt_of_le lA hb2'.size)).trans q2)
            | (at_lookup; refine wpList_lookup_int _ rfl _ _ rfl (w.heap.size + 1) n D rfl (by first | exact hD5 | exact hD3) _ _ rfl hkey hct ?_)
            | (at_builtin; refine wpList_append_own_at _ rfl _ _ 31 rfl (W1.heap.size + 1) 66 i0 _ 2 32 Tryz.underlying31 hi0 hz0 hs0 hb0 rfl (by decide) _ _ _ rfl (hrow3.alloc _) ⟨w3.heap.size, 0, none⟩ 1 1 [.slice a2 t.length c2, .int .i64 0] rfl rfl ?_ ?_ ?_ hes2 ?_ ?_; rotate_left 4; intro v5 w5 hrow5 hg5 hnil5 hat5; have q5 := cell_grown hg5 (cell_grown (World.grownBy_alloc w3 (.cells #[.slice a2 t.length c2, .int .i64 0] 66) none) q3 (by simp)) (fun e => by have := row_lt hrow _ e; omega); have hD5 := (hD3.alloc (.cells #[.slice a2 t.length c2, .int .i64 0] 66)).kept hg5 (row_ne' hrow3 hBm))
            | (at_mapUpdate; refine wpList_mapUpdate_own _ rfl _ _ _ 69 rfl 9 3 law9 Tryz.underlying69 Ri (w.heap.size + 1) n D rfl (by first | exact hD5 | exact hD3) (by unfold maxLen; omega) _ _ (kl t) rfl rfl hkey _ [] rfl ?_; intro w6 hD6 hg6))
          · go_roundg g
            case measure => omega
            case rel =>
              have E3a := E3.grow (x' := u8) (World.grownBy_alloc w3 (.cells #[.slice a2 t.length c2, .int .i64 0] 66) none) (fun _ h => by cases h) E3.rG
              have E5 := E3a.grow (x' := v5) hg5 (fun b e => by have := (hrow3.lt b e).1; omega) (fun b e o h => by
                rcases hat5 with h' | h'
                · rw [h'] at e; exact E3.rG b e o h
                · rw [h'] at e; cases e; exact Nat.lt_irrefl _ (E3a.hG _ _ h))
              have E6 := E5.grow (x' := v5) hg6 (fun b e => by cases e; omega) E5.rG
              have SA2 : Settled _ w2 Gx G2 := ⟨p1, (EA.kept (below_grown hb2') (fun _ h => by cases h)).cell⟩
              have ST := stl_trans (E2.kept (below_grown hb3') (fun _ h => by cases h)) (stl_trans (E3.kept (World.grownBy_alloc w3 (.cells #[.slice a2 t.length c2, .int .i64 0] 66) none) (fun _ h => by cases h)) (stl_trans (E3a.kept hg5 (fun b e => E3.rG b e)) (E5.kept hg6 (fun b e => by cases e; exact E5.mG))))
              have SX := stl_trans SA (stl_trans SA2 ST)
              have hnot : t ∉ es.map (·.1) := fun h => by
                have := (hall t).1 h
                rw [← List.count_pos_iff] at this
                omega
              refine ⟨i + 1, n + 1, G2, _, es ++ [(t, a2, c2)], by omega, ?_, by omega, by simp; omega, E6, RepC.mono SX _ _ hrx, hD6, hput, ?_, fun e he => ?_, ?_, fun u => ?_⟩
              · first | rfl | (have : wrap64 ((i : Int) + 1) = ((i + 1 : Nat) : Int) := (by unfold wrap64; omega); simp [this])
              · simpa [ent0] using hrow5.kept hg6 (row_ne hrow5 hBm)
              · rcases List.mem_append.1 he with he | he
                · exact RepC.mono SX _ _ (hE e he)
                · simp only [List.mem_singleton] at he
                  subst he
                  exact RepC.mono ST _ _ hr2
              · rw [List.map_append, List.nodup_append]
                refine ⟨hnd, by simp, ?_⟩
                intro p hp q hq' e
                simp only [List.map_cons, List.map_nil, List.mem_singleton] at hq'
                subst hq'
                exact hnot (e ▸ hp)
              · rw [hnil, List.map_append, List.mem_append, hall u]
                simp
          · exact cells_two_new _ _ _ _
          · intro u hu
            simp only [List.mem_cons, List.not_mem_nil, or_false] at hu
            rcases hu with rfl | rfl <;> rfl
          · simp only [maxLen]; omega
          · have := E3.bel.size
            simp
            omega
        · have hne : (mn ((goesL d c (hs'.take i)).count t) == 0) = false := by
            rw [beq_eq_false_iff_ne]
            simp only [mn]
            split <;> omega
          go_wp2_with (first
            | (go_at_call 20; refine hrd.mono ?_; rintro e w2 ⟨v2, rfl, hb2', G2, p1, p2, p3, hr2⟩; obtain ⟨a2, c2, rfl⟩ : ∃ a c, v2 = .slice a t.length c := (by simp only [Option.getD_some, RepC] at hr2; obtain ⟨a, c, e, h⟩ := hr2; exact ⟨a, c, e⟩); simp only [Option.getD_some] at hr2; have E2 := EA.call hmA (row_lt hrowA) hb2' p1 p2 p3; have hD2 := hDA.kept (below_grown hb2') (by simp); have hrow2 := hrowA.kept (below_grown hb2') row_none; have q2 := (hb2'.cell (p := ⟨wr.heap.size, 1, none⟩) lA).trans qA)
            | (go_at_call 49; refine (key48_c t _ w2 G2 E2.hG (by omega) hit (E2.gl hG1 hgl1).2.1 hr2).mono ?_; rintro e w3 ⟨rfl, hb3'⟩; have E3 := E2.call hD2.lt (row_lt hrow2) hb3' (fun _ _ h => h) (fun _ _ h => .inl h) (fun b o h => Nat.lt_of_lt_of_le (E2.hG b o h) hb3'.size); have hD3 := hD2.kept (below_grown hb3') (by simp); have hrow3 := hrow2.kept (below_grown hb3') row_none; have q3 := (hb3'.cell (p := ⟨wr.heap.size, 1, none⟩) (Nat.lt_of_lt_of_le lA hb2'.size)).trans q2)
            | (at_lookup; refine wpList_lookup_int _ rfl _ _ rfl (w.heap.size + 1) n D rfl hD3 _ _ rfl hkey hct ?_)
            | (at_mapUpdate; refine wpList_mapUpdate_own _ rfl _ _ _ 69 rfl 9 3 law9 Tryz.underlying69 Ri (w.heap.size + 1) n D rfl hD3 (by unfold maxLen; omega) _ _ (kl t) rfl rfl hkey _ [] rfl ?_; intro w6 hD6 hg6))
          go_roundg g
          case measure => omega
          case rel =>
            have E6 := E3.grow (x' := u8) hg6 (fun b e => by cases e; omega) E3.rG
            have SA2 : Settled _ w2 Gx G2 := ⟨p1, (EA.kept (below_grown hb2') (fun _ h => by cases h)).cell⟩
            have ST := stl_trans (E2.kept (below_grown hb3') (fun _ h => by cases h)) (E3.kept hg6 (fun b e => by cases e; exact E3.mG))
            have SX := stl_trans SA (stl_trans SA2 ST)
            have hin : t ∈ goesL d c (hs'.take i) := List.count_pos_iff.1 (by omega)
            refine ⟨i + 1, n + 1, G2, _, es, by omega, ?_, by omega, by omega, E6, RepC.mono SX _ _ hrx, hD6, hput, hrow3.kept hg6 (row_ne hrow3 hBm), fun e he => RepC.mono SX _ _ (hE e he), hnd, fun u => ?_⟩
            · first | rfl | (have : wrap64 ((i : Int) + 1) = ((i + 1 : Nat) : Int) := (by unfold wrap64; omega); simp [this])
            · rw [hnil, hall u]
              constructor
              · exact .inl
              · rintro (h | rfl)
                · exact h
                · exact hin

end Go.Proofs.YtilhjiopbbbgmaaGreatDoor

/- Ends, Classes: walked. -/
namespace Go.Proofs.YtilhjiopbbbgmaaGreatDoor
open Nat renaming reduceSub → R1, reduceMul → R2, reduceLeDiff → R3, reducePow → R4, reduceBEq → R5, reduceAdd → R6, reduceEqDiff → R7
open Int renaming reduceToNat → R9
open Go Go.RowKit Am
set_option linter.unusedVariables false
set_option linter.unusedSimpArgs false
set_option maxHeartbeats 4000000
attribute [local irreducible] AWp AOps

theorem ends45_ret (gl : Gl) (d : List Nd) (s : List It) (hs : List Br) (hh : Ret Tryz.prog gl 48 [.agg (dC d), .c (stC s)] (.c (brC hs))) (hl : hs.length ≤ 1000000) : Ret Tryz.prog gl 14 [.agg (dC d), .c (stC s)] (iv (endsF hs)) := by
  refine retq (rs := [4]) 22 Tryz.func14 (by kernel_rfl) rfl (by kernel_rfl) rfl (by simp) (by simp) fun Z hN hX hR => ?_
  repeat (first | ((first | refine Q1 ?_ | refine Q2 ?_); intro Z hN hX hR) | refine Q3 (by kernel_rfl) fun K hK => ?_ | ((first | refine Q4 fun R hJ => ?_ | with_reducible change ExpAll _ _ _); simp only [kS, R1, R2, R3, R4, R5, R6, R7, reduceCtorEq, R9, dC_length, dC_take]) | (refine hJ _ ?_; clear hJ R) | refine Q5 ?_ | (refine hK _ ?_; clear hK K) | ((first | refine hN _ ?_ | refine hX _ _ ?_ | refine hR _ ?_); clear hN hX hR Z) | refine Q6 rfl ?_ | refine Q7 (by decide) ?_ | (refine Q8 ?_ ?_; focus (simp only [kS, R1, R2, R3, R4, R5, R6, R7, reduceCtorEq, R9, dC_length, dC_take]; done)) | (refine Q9 ?_ ?_; focus (simp only [kS, R1, R2, R3, R4, R5, R6, R7, reduceCtorEq, R9, dC_length, dC_take]; done)) | refine Qa ?_ | refine Qb ?_ | refine Qc ?_ | refine And.intro (by first | assumption | omega) ?_)
  refine ⟨_, hh, rfl, ?_⟩
  simp only [kS, R1, R2, R3, R4, R5, R6, R7, reduceCtorEq, R9, dC_length, dC_take]
  repeat (first | ((first | refine Q1 ?_ | refine Q2 ?_); intro Z hN hX hR) | refine Q3 (by kernel_rfl) fun K hK => ?_ | ((first | refine Q4 fun R hJ => ?_ | with_reducible change ExpAll _ _ _); simp only [kS, R1, R2, R3, R4, R5, R6, R7, reduceCtorEq, R9, dC_length, dC_take]) | (refine hJ _ ?_; clear hJ R) | refine Q5 ?_ | (refine hK _ ?_; clear hK K) | ((first | refine hN _ ?_ | refine hX _ _ ?_ | refine hR _ ?_); clear hN hX hR Z) | refine Q6 rfl ?_ | refine Q7 (by decide) ?_ | (refine Q8 ?_ ?_; focus (simp only [kS, R1, R2, R3, R4, R5, R6, R7, reduceCtorEq, R9, dC_length, dC_take]; done)) | (refine Q9 ?_ ?_; focus (simp only [kS, R1, R2, R3, R4, R5, R6, R7, reduceCtorEq, R9, dC_length, dC_take]; done)) | refine Qa ?_ | refine Qb ?_ | refine Qc ?_ | refine And.intro (by first | assumption | omega) ?_)
  refine awq_loop (fun c f => ∃ i : Nat, i ≤ hs.length ∧ c = hs.length - i ∧ f.t 11 = iv (i : Int) ∧ f.t 10 = iv (hs.length : Int) ∧ f.t 9 = .c (brC hs) ∧ endsF (hs.drop i) = endsF hs) hs.length ?_ ?_
  · exact ⟨0, by omega, rfl, by (simp only [kS, R1, R2, R3, R4, R5, R6, R7, reduceCtorEq, R9]) <;> first | omega | rfl, by (simp only [kS, R1, R2, R3, R4, R5, R6, R7, reduceCtorEq, R9]) <;> first | omega | rfl, by (simp only [kS, R1, R2, R3, R4, R5, R6, R7, reduceCtorEq, R9]) <;> first | omega | rfl, rfl⟩
  rintro Z c f hN hX hR ⟨i, hi, rfl, h11, h10, h9, hc⟩
  have bl := bsC_length hs
  by_cases hlt : i < hs.length
  · have hlt' : (i : Int) < (hs.length : Int) := by omega
    have d1 := bsC_drop hs i hlt
    rw [List.drop_eq_getElem_cons hlt] at hc
    generalize hs[i] = b at *
    obtain ⟨to, many⟩ := b
    cases to with
    | nil =>
      have hc : many = endsF hs := hc
      have e0 : (((0 : Nat) : Int) == 0) = true := rfl
      repeat (first | ((first | refine Q1 ?_ | refine Q2 ?_); intro Z hN hX hR) | refine Q3 (by kernel_rfl) fun K hK => ?_ | ((first | refine Q4 fun R hJ => ?_ | with_reducible change ExpAll _ _ _); simp only [kS, R1, R2, R3, R4, R5, R6, R7, reduceCtorEq, R9, h11, h10, h9, hlt, hlt', d1, bl, e0, decide_true]) | (refine hJ _ ?_; clear hJ R) | refine Q5 ?_ | (refine hK _ ?_; clear hK K) | ((first | refine hN _ ?_ | refine hX _ _ ?_ | refine hR _ ?_); clear hN hX hR Z) | refine Q6 rfl ?_ | refine Q7 (by decide) ?_ | (refine Q8 ?_ ?_; focus (simp only [kS, R1, R2, R3, R4, R5, R6, R7, reduceCtorEq, R9, h11, h10, h9, hlt, hlt', d1, bl, e0, decide_true]; done)) | (refine Q9 ?_ ?_; focus (simp only [kS, R1, R2, R3, R4, R5, R6, R7, reduceCtorEq, R9, h11, h10, h9, hlt, hlt', d1, bl, e0, decide_true]; done)) | refine Qa ?_ | refine Qb ?_ | refine Qc ?_ | refine And.intro (by first | assumption | omega) ?_)
      rw [← hc]
    | cons x r =>
      have hc : endsF (hs.drop (i + 1)) = endsF hs := by rw [← hc]; simp [endsF]
      have e0 : (((r.length + 1 : Nat) : Int) == 0) = false := by rw [beq_eq_false_iff_ne]; omega
      repeat (first | ((first | refine Q1 ?_ | refine Q2 ?_); intro Z hN hX hR) | refine Q3 (by kernel_rfl) fun K hK => ?_ | ((first | refine Q4 fun R hJ => ?_ | with_reducible change ExpAll _ _ _); simp only [kS, R1, R2, R3, R4, R5, R6, R7, reduceCtorEq, R9, h11, h10, h9, hlt, hlt', d1, bl, e0, decide_true]) | (refine hJ _ ?_; clear hJ R) | refine Q5 ?_ | (refine hK _ ?_; clear hK K) | ((first | refine hN _ ?_ | refine hX _ _ ?_ | refine hR _ ?_); clear hN hX hR Z) | refine Q6 rfl ?_ | refine Q7 (by decide) ?_ | (refine Q8 ?_ ?_; focus (simp only [kS, R1, R2, R3, R4, R5, R6, R7, reduceCtorEq, R9, h11, h10, h9, hlt, hlt', d1, bl, e0, decide_true]; done)) | (refine Q9 ?_ ?_; focus (simp only [kS, R1, R2, R3, R4, R5, R6, R7, reduceCtorEq, R9, h11, h10, h9, hlt, hlt', d1, bl, e0, decide_true]; done)) | refine Qa ?_ | refine Qb ?_ | refine Qc ?_ | refine And.intro (by first | assumption | omega) ?_)
      refine ⟨hs.length - (i + 1), by omega, i + 1, by omega, rfl, ?_, by simp only [kS, R1, R2, R3, R4, R5, R6, R7, reduceCtorEq, R9, h10], by simp only [kS, R1, R2, R3, R4, R5, R6, R7, reduceCtorEq, R9, h9], hc⟩
      simp only [kS, R1, R2, R3, R4, R5, R6, R7, reduceCtorEq, R9]
      rw [wrap_i64 (by omega) (by omega)]; rfl
  · have hlt' : ¬ (i : Int) < (hs.length : Int) := by omega
    rw [List.drop_eq_nil_of_le (by omega)] at hc
    repeat (first | ((first | refine Q1 ?_ | refine Q2 ?_); intro Z hN hX hR) | refine Q3 (by kernel_rfl) fun K hK => ?_ | ((first | refine Q4 fun R hJ => ?_ | with_reducible change ExpAll _ _ _); simp only [kS, R1, R2, R3, R4, R5, R6, R7, reduceCtorEq, R9, h11, h10, h9, hlt', decide_false]) | (refine hJ _ ?_; clear hJ R) | refine Q5 ?_ | (refine hK _ ?_; clear hK K) | ((first | refine hN _ ?_ | refine hX _ _ ?_ | refine hR _ ?_); clear hN hX hR Z) | refine Q6 rfl ?_ | refine Q7 (by decide) ?_ | (refine Q8 ?_ ?_; focus (simp only [kS, R1, R2, R3, R4, R5, R6, R7, reduceCtorEq, R9, h11, h10, h9, hlt', decide_false]; done)) | (refine Q9 ?_ ?_; focus (simp only [kS, R1, R2, R3, R4, R5, R6, R7, reduceCtorEq, R9, h11, h10, h9, hlt', decide_false]; done)) | refine Qa ?_ | refine Qb ?_ | refine Qc ?_ | refine And.intro (by first | assumption | omega) ?_)
    rw [← hc]
    rfl

theorem classesF_take (d : List Nd) (hs : List Br) (i : Nat) (h : i < hs.length) : classesF d (hs.take (i + 1)) = classesF d (hs.take i) ++ clsF d hs[i].to := by
  rw [classesF, List.take_succ_eq_append_getElem h, List.flatMap_append]
  simp [classesF]
theorem clsF_len (d : List Nd) (t : List It) : (clsF d t).length ≤ 256 := by
  unfold clsF
  split
  · simp
  · split
    · simp
    · split
      · simp
      · rw [singles_length]; omega
theorem classesF_len (d : List Nd) : ∀ hs : List Br, (classesF d hs).length ≤ 256 * hs.length
  | [] => by simp [classesF]
  | b :: hs => by
    have h1 := classesF_len d hs
    have h2 := clsF_len d b.to
    simp only [classesF, List.flatMap_cons, List.length_append, List.length_cons] at h1 ⊢
    omega

theorem classes23_ret (gl : Gl) (d : List Nd) (hd : WFd d) (hcw : ∀ n ∈ d, CW n) (s : List It) (hs : List Br) (hh : Ret Tryz.prog gl 48 [.agg (dC d), .c (stC s)] (.c (brC hs))) (hl : hs.length ≤ 1500) (hok : ∀ b ∈ hs, OkS d b.to) :
    Ret Tryz.prog gl 17 [.agg (dC d), .c (stC s)] (.c (clS (classesF d hs))) := by
  refine retq (rs := [4]) 64 Tryz.func17 (by kernel_rfl) rfl (by kernel_rfl) rfl (by simp) (by simp) fun Z hN hX hR => ?_
  repeat (first | ((first | refine Q1 ?_ | refine Q2 ?_); intro Z hN hX hR) | refine Q3 (by kernel_rfl) fun K hK => ?_ | ((first | refine Q4 fun R hJ => ?_ | with_reducible change ExpAll _ _ _); simp only [kS, R1, R2, R3, R4, R5, R6, R7, reduceCtorEq, R9, dC_length, dC_take]) | (refine hJ _ ?_; clear hJ R) | refine Q5 ?_ | (refine hK _ ?_; clear hK K) | ((first | refine hN _ ?_ | refine hX _ _ ?_ | refine hR _ ?_); clear hN hX hR Z) | refine Q6 rfl ?_ | refine Q7 (by decide) ?_ | (refine Q8 ?_ ?_; focus (simp only [kS, R1, R2, R3, R4, R5, R6, R7, reduceCtorEq, R9, dC_length, dC_take]; done)) | (refine Q9 ?_ ?_; focus (simp only [kS, R1, R2, R3, R4, R5, R6, R7, reduceCtorEq, R9, dC_length, dC_take]; done)) | refine Qa ?_ | refine Qb ?_ | refine Qc ?_ | refine And.intro (by first | assumption | omega) ?_)
  refine ⟨_, hh, rfl, ?_⟩
  simp only [kS, R1, R2, R3, R4, R5, R6, R7, reduceCtorEq, R9, dC_length, dC_take]
  repeat (first | ((first | refine Q1 ?_ | refine Q2 ?_); intro Z hN hX hR) | refine Q3 (by kernel_rfl) fun K hK => ?_ | ((first | refine Q4 fun R hJ => ?_ | with_reducible change ExpAll _ _ _); simp only [kS, R1, R2, R3, R4, R5, R6, R7, reduceCtorEq, R9, dC_length, dC_take]) | (refine hJ _ ?_; clear hJ R) | refine Q5 ?_ | (refine hK _ ?_; clear hK K) | ((first | refine hN _ ?_ | refine hX _ _ ?_ | refine hR _ ?_); clear hN hX hR Z) | refine Q6 rfl ?_ | refine Q7 (by decide) ?_ | (refine Q8 ?_ ?_; focus (simp only [kS, R1, R2, R3, R4, R5, R6, R7, reduceCtorEq, R9, dC_length, dC_take]; done)) | (refine Q9 ?_ ?_; focus (simp only [kS, R1, R2, R3, R4, R5, R6, R7, reduceCtorEq, R9, dC_length, dC_take]; done)) | refine Qa ?_ | refine Qb ?_ | refine Qc ?_ | refine And.intro (by first | assumption | omega) ?_)
  refine awq_loop (fun c f => ∃ i : Nat, i ≤ hs.length ∧ c = hs.length - i ∧ f.t 14 = iv (i : Int) ∧ f.t 13 = iv (hs.length : Int) ∧ f.t 12 = .c (brC hs) ∧ f.t 2 = .ref 2 1 0 ∧ f.ob 2 1 = .box (dC d) ∧ 1 < f.k ∧
    ((f.t 5 = .nil ∧ classesF d (hs.take i) = []) ∨ ∃ e t, f.t 5 = .tok e t (classesF d (hs.take i)).length (clC (classesF d (hs.take i))) ∧ f.ob e t = .live 56 4 ∧ t ≤ f.k)) hs.length ?_ ?_
  · exact ⟨0, by omega, rfl, by (simp only [kS, R1, R2, R3, R4, R5, R6, R7, reduceCtorEq, R9]) <;> first | omega | rfl, by (simp only [kS, R1, R2, R3, R4, R5, R6, R7, reduceCtorEq, R9]) <;> first | omega | rfl, by (simp only [kS, R1, R2, R3, R4, R5, R6, R7, reduceCtorEq, R9]) <;> first | omega | rfl, by (simp only [kS, R1, R2, R3, R4, R5, R6, R7, reduceCtorEq, R9]) <;> first | omega | rfl, by (simp only [kS, R1, R2, R3, R4, R5, R6, R7, reduceCtorEq, R9]) <;> first | omega | rfl, by (simp only [kS, R1, R2, R3, R4, R5, R6, R7, reduceCtorEq, R9]) <;> first | omega | rfl, .inl ⟨by (simp only [kS, R1, R2, R3, R4, R5, R6, R7, reduceCtorEq, R9]) <;> first | omega | rfl, rfl⟩⟩
  rintro Z c f hN hX hR ⟨i, hi, rfl, h14, h13, h12, h2, hb, hk, h5⟩
  have bl := bsC_length hs
  by_cases hlt : i < hs.length
  · have hlt' : (i : Int) < (hs.length : Int) := by omega
    have d1 := bsC_drop hs i hlt
    have ht := classesF_take d hs i hlt
    have hb1 := hok _ (List.getElem_mem hlt)
    have hlen := classesF_len d (hs.take i)
    have hlen2 : (hs.take i).length ≤ hs.length := by simp; omega
    generalize hs[i] = b at *
    generalize classesF d (hs.take i) = L at *
    obtain ⟨to, many⟩ := b
    have hcl := clC_length L
    cases to with
    | nil =>
      have e0 : (((0 : Nat) : Int) == 0) = true := rfl
      have ht : classesF d (hs.take (i + 1)) = L := by rw [ht]; simp [clsF]
      rcases h5 with ⟨h5, h5'⟩ | ⟨e, t, h5, hob, htk⟩
      · repeat (first | ((first | refine Q1 ?_ | refine Q2 ?_); intro Z hN hX hR) | refine Q3 (by kernel_rfl) fun K hK => ?_ | ((first | refine Q4 fun R hJ => ?_ | with_reducible change ExpAll _ _ _); simp only [kS, R1, R2, R3, R4, R5, R6, R7, reduceCtorEq, R9, h14, h13, h12, h2, hb, h5, hlt, hlt', d1, bl, e0, decide_true]) | (refine hJ _ ?_; clear hJ R) | refine Q5 ?_ | (refine hK _ ?_; clear hK K) | ((first | refine hN _ ?_ | refine hX _ _ ?_ | refine hR _ ?_); clear hN hX hR Z) | refine Q6 rfl ?_ | refine Q7 (by decide) ?_ | (refine Q8 ?_ ?_; focus (simp only [kS, R1, R2, R3, R4, R5, R6, R7, reduceCtorEq, R9, h14, h13, h12, h2, hb, h5, hlt, hlt', d1, bl, e0, decide_true]; done)) | (refine Q9 ?_ ?_; focus (simp only [kS, R1, R2, R3, R4, R5, R6, R7, reduceCtorEq, R9, h14, h13, h12, h2, hb, h5, hlt, hlt', d1, bl, e0, decide_true]; done)) | refine Qa ?_ | refine Qb ?_ | refine Qc ?_ | refine And.intro (by first | assumption | omega) ?_)
        refine ⟨hs.length - (i + 1), by omega, i + 1, by omega, rfl, ?_, by simp only [kS, R1, R2, R3, R4, R5, R6, R7, reduceCtorEq, R9, h13], by simp only [kS, R1, R2, R3, R4, R5, R6, R7, reduceCtorEq, R9, h12], by simp only [kS, R1, R2, R3, R4, R5, R6, R7, reduceCtorEq, R9, h2], by simp only [kS, R1, R2, R3, R4, R5, R6, R7, reduceCtorEq, R9, hb, hk, tk1, tk2, tk3, tk4, tk5, tk6, tk7, tk8, and_false, false_and], by (simp only [kS, R1, R2, R3, R4, R5, R6, R7, reduceCtorEq, R9]) <;> first | omega | rfl, ?_⟩
        · simp only [kS, R1, R2, R3, R4, R5, R6, R7, reduceCtorEq, R9]
          rw [wrap_i64 (by omega) (by omega)]; rfl
        · rw [ht]; exact .inl ⟨by simp only [kS, R1, R2, R3, R4, R5, R6, R7, reduceCtorEq, R9, h5], h5'⟩
      · repeat (first | ((first | refine Q1 ?_ | refine Q2 ?_); intro Z hN hX hR) | refine Q3 (by kernel_rfl) fun K hK => ?_ | ((first | refine Q4 fun R hJ => ?_ | with_reducible change ExpAll _ _ _); simp only [kS, R1, R2, R3, R4, R5, R6, R7, reduceCtorEq, R9, h14, h13, h12, h2, hb, h5, hlt, hlt', d1, bl, e0, decide_true]) | (refine hJ _ ?_; clear hJ R) | refine Q5 ?_ | (refine hK _ ?_; clear hK K) | ((first | refine hN _ ?_ | refine hX _ _ ?_ | refine hR _ ?_); clear hN hX hR Z) | refine Q6 rfl ?_ | refine Q7 (by decide) ?_ | (refine Q8 ?_ ?_; focus (simp only [kS, R1, R2, R3, R4, R5, R6, R7, reduceCtorEq, R9, h14, h13, h12, h2, hb, h5, hlt, hlt', d1, bl, e0, decide_true]; done)) | (refine Q9 ?_ ?_; focus (simp only [kS, R1, R2, R3, R4, R5, R6, R7, reduceCtorEq, R9, h14, h13, h12, h2, hb, h5, hlt, hlt', d1, bl, e0, decide_true]; done)) | refine Qa ?_ | refine Qb ?_ | refine Qc ?_ | refine And.intro (by first | assumption | omega) ?_)
        refine ⟨hs.length - (i + 1), by omega, i + 1, by omega, rfl, ?_, by simp only [kS, R1, R2, R3, R4, R5, R6, R7, reduceCtorEq, R9, h13], by simp only [kS, R1, R2, R3, R4, R5, R6, R7, reduceCtorEq, R9, h12], by simp only [kS, R1, R2, R3, R4, R5, R6, R7, reduceCtorEq, R9, h2], by simp only [kS, R1, R2, R3, R4, R5, R6, R7, reduceCtorEq, R9, hb, hk, tk1, tk2, tk3, tk4, tk5, tk6, tk7, tk8, and_false, false_and], by (simp only [kS, R1, R2, R3, R4, R5, R6, R7, reduceCtorEq, R9]) <;> first | omega | rfl, ?_⟩
        · simp only [kS, R1, R2, R3, R4, R5, R6, R7, reduceCtorEq, R9]
          rw [wrap_i64 (by omega) (by omega)]; rfl
        · rw [ht]; exact .inr ⟨e, t, by simp only [kS, R1, R2, R3, R4, R5, R6, R7, reduceCtorEq, R9, h5], by simp only [kS, R1, R2, R3, R4, R5, R6, R7, reduceCtorEq, R9, hob, htk, tk1, tk2, tk3, tk4, tk5, tk6, tk7, tk8, and_false, false_and], by (simp only [kS, R1, R2, R3, R4, R5, R6, R7, reduceCtorEq, R9]) <;> first | omega | rfl⟩
    | cons x r =>
      have e0 : (((r.length + 1 : Nat) : Int) == 0) = false := by rw [beq_eq_false_iff_ne]; omega
      have hx := hb1 x (by simp)
      have hin : 0 ≤ x.n ∧ x.n < d.length := by
        have := hd.1
        rcases hx with h | h
        · omega
        · exact h.1
      obtain ⟨k, n, lo, hi⟩ := x
      obtain ⟨m, rfl⟩ : ∃ m : Nat, n = m := ⟨n.toNat, by simp at hin; omega⟩
      have hm : m < d.length := by simp at hin; omega
      have hm' : (m : Int) < (d.length : Int) := by omega
      have e := ndsC_drop d m hm
      have e' := nd_get d m hm
      have hnl := ndsC_length d
      have hil := itsC_length r
      cases k3 : (k == 3)
      · cases g2 : (d[m].k == 2)
        · have ht : classesF d (hs.take (i + 1)) = L ++ singles 256 := by
            rw [ht]; simp only [clsF, k3, e', g2, Bool.false_eq_true, if_false]
          have hsg := singles_ret gl
          have hsl := clC_length (singles 256)
          have hsn := singles_length 256
          rw [hsn] at hsl
          rcases h5 with ⟨h5, rfl⟩ | ⟨e5, t5, h5, hob, htk⟩
          · repeat (first | ((first | refine Q1 ?_ | refine Q2 ?_); intro Z hN hX hR) | refine Q3 (by kernel_rfl) fun K hK => ?_ | ((first | refine Q4 fun R hJ => ?_ | with_reducible change ExpAll _ _ _); simp only [kS, R1, R2, R3, R4, R5, R6, R7, reduceCtorEq, R9, h14, h13, h12, h2, hb, h5, hlt, hlt', d1, bl, e0, hil, itsC_cons, dC, e, hm, hm', hnl, k3, g2, decide_true, tk1, tk2, tk3, tk4, tk5, tk6, tk7, tk8, and_false, false_and]) | (refine hJ _ ?_; clear hJ R) | refine Q5 ?_ | (refine hK _ ?_; clear hK K) | ((first | refine hN _ ?_ | refine hX _ _ ?_ | refine hR _ ?_); clear hN hX hR Z) | refine Q6 rfl ?_ | refine Q7 (by decide) ?_ | (refine Q8 ?_ ?_; focus (simp only [kS, R1, R2, R3, R4, R5, R6, R7, reduceCtorEq, R9, h14, h13, h12, h2, hb, h5, hlt, hlt', d1, bl, e0, hil, itsC_cons, dC, e, hm, hm', hnl, k3, g2, decide_true, tk1, tk2, tk3, tk4, tk5, tk6, tk7, tk8, and_false, false_and]; done)) | (refine Q9 ?_ ?_; focus (simp only [kS, R1, R2, R3, R4, R5, R6, R7, reduceCtorEq, R9, h14, h13, h12, h2, hb, h5, hlt, hlt', d1, bl, e0, hil, itsC_cons, dC, e, hm, hm', hnl, k3, g2, decide_true, tk1, tk2, tk3, tk4, tk5, tk6, tk7, tk8, and_false, false_and]; done)) | refine Qa ?_ | refine Qb ?_ | refine Qc ?_ | refine And.intro (by first | assumption | omega) ?_)
            refine ⟨_, hsg, rfl, ?_⟩
            simp only [kS, R1, R2, R3, R4, R5, R6, R7, reduceCtorEq, R9, h14, h13, h12, h2, hb, h5, hsl, hsn, ws_length, ws_take, tk1, tk2, tk3, tk4, tk5, tk6, tk7, tk8, and_false, false_and]
            repeat (first | ((first | refine Q1 ?_ | refine Q2 ?_); intro Z hN hX hR) | refine Q3 (by kernel_rfl) fun K hK => ?_ | ((first | refine Q4 fun R hJ => ?_ | with_reducible change ExpAll _ _ _); simp only [kS, R1, R2, R3, R4, R5, R6, R7, reduceCtorEq, R9, h14, h13, h12, h2, hb, h5, hsl, hsn, ws_length, ws_take, tk1, tk2, tk3, tk4, tk5, tk6, tk7, tk8, and_false, false_and]) | (refine hJ _ ?_; clear hJ R) | refine Q5 ?_ | (refine hK _ ?_; clear hK K) | ((first | refine hN _ ?_ | refine hX _ _ ?_ | refine hR _ ?_); clear hN hX hR Z) | refine Q6 rfl ?_ | refine Q7 (by decide) ?_ | (refine Q8 ?_ ?_; focus (simp only [kS, R1, R2, R3, R4, R5, R6, R7, reduceCtorEq, R9, h14, h13, h12, h2, hb, h5, hsl, hsn, ws_length, ws_take, tk1, tk2, tk3, tk4, tk5, tk6, tk7, tk8, and_false, false_and]; done)) | (refine Q9 ?_ ?_; focus (simp only [kS, R1, R2, R3, R4, R5, R6, R7, reduceCtorEq, R9, h14, h13, h12, h2, hb, h5, hsl, hsn, ws_length, ws_take, tk1, tk2, tk3, tk4, tk5, tk6, tk7, tk8, and_false, false_and]; done)) | refine Qa ?_ | refine Qb ?_ | refine Qc ?_ | refine And.intro (by first | assumption | omega) ?_)
            refine ⟨hs.length - (i + 1), by omega, i + 1, by omega, rfl, ?_, by simp only [kS, R1, R2, R3, R4, R5, R6, R7, reduceCtorEq, R9, h13], by simp only [kS, R1, R2, R3, R4, R5, R6, R7, reduceCtorEq, R9, h12], by simp only [kS, R1, R2, R3, R4, R5, R6, R7, reduceCtorEq, R9, h2], by simp only [kS, R1, R2, R3, R4, R5, R6, R7, reduceCtorEq, R9, hb, hk, tk1, tk2, tk3, tk4, tk5, tk6, tk7, tk8, and_false, false_and], by (simp only [kS, R1, R2, R3, R4, R5, R6, R7, reduceCtorEq, R9]) <;> first | omega | rfl, ?_⟩
            · simp only [kS, R1, R2, R3, R4, R5, R6, R7, reduceCtorEq, R9]
              rw [wrap_i64 (by omega) (by omega)]; rfl
            · rw [ht]; exact .inr ⟨_, _, by simp only [kS, R1, R2, R3, R4, R5, R6, R7, reduceCtorEq, R9, clC_append, hsl, hsn, ws_length, ws_take, tk1, tk2, tk3, tk4, tk5, tk6, tk7, tk8, and_false, false_and]; exact rfl, by simp only [kS, R1, R2, R3, R4, R5, R6, R7, reduceCtorEq, R9], by (simp only [kS, R1, R2, R3, R4, R5, R6, R7, reduceCtorEq, R9]) <;> first | omega | rfl⟩
          · have hne : ¬ (2 = e5 ∧ 1 = t5) := by rintro ⟨rfl, rfl⟩; rw [hb] at hob; cases hob
            have hne' : ¬ (e5 = 2 ∧ t5 = 1) := by rintro ⟨rfl, rfl⟩; rw [hb] at hob; cases hob
            repeat (first | ((first | refine Q1 ?_ | refine Q2 ?_); intro Z hN hX hR) | refine Q3 (by kernel_rfl) fun K hK => ?_ | ((first | refine Q4 fun R hJ => ?_ | with_reducible change ExpAll _ _ _); simp only [kS, R1, R2, R3, R4, R5, R6, R7, reduceCtorEq, R9, h14, h13, h12, h2, hb, h5, hob, htk, hcl, hlt, hlt', d1, bl, e0, hil, itsC_cons, dC, e, hm, hm', hnl, k3, g2, decide_true, tk1, tk2, tk3, tk4, tk5, tk6, tk7, tk8, and_false, false_and]) | (refine hJ _ ?_; clear hJ R) | refine Q5 ?_ | (refine hK _ ?_; clear hK K) | ((first | refine hN _ ?_ | refine hX _ _ ?_ | refine hR _ ?_); clear hN hX hR Z) | refine Q6 rfl ?_ | refine Q7 (by decide) ?_ | (refine Q8 ?_ ?_; focus (simp only [kS, R1, R2, R3, R4, R5, R6, R7, reduceCtorEq, R9, h14, h13, h12, h2, hb, h5, hob, htk, hcl, hlt, hlt', d1, bl, e0, hil, itsC_cons, dC, e, hm, hm', hnl, k3, g2, decide_true, tk1, tk2, tk3, tk4, tk5, tk6, tk7, tk8, and_false, false_and]; done)) | (refine Q9 ?_ ?_; focus (simp only [kS, R1, R2, R3, R4, R5, R6, R7, reduceCtorEq, R9, h14, h13, h12, h2, hb, h5, hob, htk, hcl, hlt, hlt', d1, bl, e0, hil, itsC_cons, dC, e, hm, hm', hnl, k3, g2, decide_true, tk1, tk2, tk3, tk4, tk5, tk6, tk7, tk8, and_false, false_and]; done)) | refine Qa ?_ | refine Qb ?_ | refine Qc ?_ | refine And.intro (by first | assumption | omega) ?_)
            refine ⟨_, hsg, rfl, ?_⟩
            simp only [kS, R1, R2, R3, R4, R5, R6, R7, reduceCtorEq, R9, h14, h13, h12, h2, hb, h5, hob, htk, hcl, hsl, hsn, ws_length, ws_take, tk1, tk2, tk3, tk4, tk5, tk6, tk7, tk8, and_false, false_and]
            repeat (first | ((first | refine Q1 ?_ | refine Q2 ?_); intro Z hN hX hR) | refine Q3 (by kernel_rfl) fun K hK => ?_ | ((first | refine Q4 fun R hJ => ?_ | with_reducible change ExpAll _ _ _); simp only [kS, R1, R2, R3, R4, R5, R6, R7, reduceCtorEq, R9, h14, h13, h12, h2, hb, h5, hob, htk, hcl, hsl, hsn, ws_length, ws_take, tk1, tk2, tk3, tk4, tk5, tk6, tk7, tk8, and_false, false_and]) | (refine hJ _ ?_; clear hJ R) | refine Q5 ?_ | (refine hK _ ?_; clear hK K) | ((first | refine hN _ ?_ | refine hX _ _ ?_ | refine hR _ ?_); clear hN hX hR Z) | refine Q6 rfl ?_ | refine Q7 (by decide) ?_ | (refine Q8 ?_ ?_; focus (simp only [kS, R1, R2, R3, R4, R5, R6, R7, reduceCtorEq, R9, h14, h13, h12, h2, hb, h5, hob, htk, hcl, hsl, hsn, ws_length, ws_take, tk1, tk2, tk3, tk4, tk5, tk6, tk7, tk8, and_false, false_and]; done)) | (refine Q9 ?_ ?_; focus (simp only [kS, R1, R2, R3, R4, R5, R6, R7, reduceCtorEq, R9, h14, h13, h12, h2, hb, h5, hob, htk, hcl, hsl, hsn, ws_length, ws_take, tk1, tk2, tk3, tk4, tk5, tk6, tk7, tk8, and_false, false_and]; done)) | refine Qa ?_ | refine Qb ?_ | refine Qc ?_ | refine And.intro (by first | assumption | omega) ?_)
            refine ⟨hs.length - (i + 1), by omega, i + 1, by omega, rfl, ?_, by simp only [kS, R1, R2, R3, R4, R5, R6, R7, reduceCtorEq, R9, h13], by simp only [kS, R1, R2, R3, R4, R5, R6, R7, reduceCtorEq, R9, h12], by simp only [kS, R1, R2, R3, R4, R5, R6, R7, reduceCtorEq, R9, h2], by simp only [kS, R1, R2, R3, R4, R5, R6, R7, reduceCtorEq, R9, hb, hk, hne, hne', tk1, tk2, tk3, tk4, tk5, tk6, tk7, tk8, and_false, false_and], by (simp only [kS, R1, R2, R3, R4, R5, R6, R7, reduceCtorEq, R9]) <;> first | omega | rfl, ?_⟩
            · simp only [kS, R1, R2, R3, R4, R5, R6, R7, reduceCtorEq, R9]
              rw [wrap_i64 (by omega) (by omega)]; rfl
            · rw [ht]; exact .inr ⟨_, _, by simp only [kS, R1, R2, R3, R4, R5, R6, R7, reduceCtorEq, R9, clC_append, hob, htk, hcl, hsl, hsn, ws_length, ws_take, tk1, tk2, tk3, tk4, tk5, tk6, tk7, tk8, and_false, false_and]; exact rfl, by simp only [kS, R1, R2, R3, R4, R5, R6, R7, reduceCtorEq, R9], by (simp only [kS, R1, R2, R3, R4, R5, R6, R7, reduceCtorEq, R9]) <;> first | omega | rfl⟩
        · have ht : classesF d (hs.take (i + 1)) = L ++ [d[m].g] := by
            rw [ht]; simp only [clsF, k3, e', g2, Bool.false_eq_true, if_false, if_true]
          have hw := (hcw d[m] (List.getElem_mem hm)).ws
          have hsl := ws_length d[m].g
          have hsn : clC [d[m].g] = ws d[m].g := by simp [clC]
          rcases h5 with ⟨h5, rfl⟩ | ⟨e5, t5, h5, hob, htk⟩
          · repeat (first | ((first | refine Q1 ?_ | refine Q2 ?_); intro Z hN hX hR) | refine Q3 (by kernel_rfl) fun K hK => ?_ | ((first | refine Q4 fun R hJ => ?_ | with_reducible change ExpAll _ _ _); simp only [kS, R1, R2, R3, R4, R5, R6, R7, reduceCtorEq, R9, h14, h13, h12, h2, hb, h5, hlt, hlt', d1, bl, e0, hil, itsC_cons, dC, e, hm, hm', hnl, k3, g2, decide_true, tk1, tk2, tk3, tk4, tk5, tk6, tk7, tk8, and_false, false_and]) | (refine hJ _ ?_; clear hJ R) | refine Q5 ?_ | (refine hK _ ?_; clear hK K) | ((first | refine hN _ ?_ | refine hX _ _ ?_ | refine hR _ ?_); clear hN hX hR Z) | refine Q6 rfl ?_ | refine Q7 (by decide) ?_ | (refine Q8 ?_ ?_; focus (simp only [kS, R1, R2, R3, R4, R5, R6, R7, reduceCtorEq, R9, h14, h13, h12, h2, hb, h5, hlt, hlt', d1, bl, e0, hil, itsC_cons, dC, e, hm, hm', hnl, k3, g2, decide_true, tk1, tk2, tk3, tk4, tk5, tk6, tk7, tk8, and_false, false_and]; done)) | (refine Q9 ?_ ?_; focus (simp only [kS, R1, R2, R3, R4, R5, R6, R7, reduceCtorEq, R9, h14, h13, h12, h2, hb, h5, hlt, hlt', d1, bl, e0, hil, itsC_cons, dC, e, hm, hm', hnl, k3, g2, decide_true, tk1, tk2, tk3, tk4, tk5, tk6, tk7, tk8, and_false, false_and]; done)) | refine Qa ?_ | refine Qb ?_ | refine Qc ?_ | refine And.intro (by first | assumption | omega) ?_)
            refine ⟨hs.length - (i + 1), by omega, i + 1, by omega, rfl, ?_, by simp only [kS, R1, R2, R3, R4, R5, R6, R7, reduceCtorEq, R9, h13], by simp only [kS, R1, R2, R3, R4, R5, R6, R7, reduceCtorEq, R9, h12], by simp only [kS, R1, R2, R3, R4, R5, R6, R7, reduceCtorEq, R9, h2], by simp only [kS, R1, R2, R3, R4, R5, R6, R7, reduceCtorEq, R9, hb, hk, tk1, tk2, tk3, tk4, tk5, tk6, tk7, tk8, and_false, false_and], by (simp only [kS, R1, R2, R3, R4, R5, R6, R7, reduceCtorEq, R9]) <;> first | omega | rfl, ?_⟩
            · simp only [kS, R1, R2, R3, R4, R5, R6, R7, reduceCtorEq, R9]
              rw [wrap_i64 (by omega) (by omega)]; rfl
            · rw [ht]; exact .inr ⟨_, _, by simp only [kS, R1, R2, R3, R4, R5, R6, R7, reduceCtorEq, R9, clC_append, hsl, hsn, hw, ws_length, ws_take, tk1, tk2, tk3, tk4, tk5, tk6, tk7, tk8, and_false, false_and]; exact rfl, by simp only [kS, R1, R2, R3, R4, R5, R6, R7, reduceCtorEq, R9], by (simp only [kS, R1, R2, R3, R4, R5, R6, R7, reduceCtorEq, R9]) <;> first | omega | rfl⟩
          · have hne : ¬ (2 = e5 ∧ 1 = t5) := by rintro ⟨rfl, rfl⟩; rw [hb] at hob; cases hob
            have hne' : ¬ (e5 = 2 ∧ t5 = 1) := by rintro ⟨rfl, rfl⟩; rw [hb] at hob; cases hob
            repeat (first | ((first | refine Q1 ?_ | refine Q2 ?_); intro Z hN hX hR) | refine Q3 (by kernel_rfl) fun K hK => ?_ | ((first | refine Q4 fun R hJ => ?_ | with_reducible change ExpAll _ _ _); simp only [kS, R1, R2, R3, R4, R5, R6, R7, reduceCtorEq, R9, h14, h13, h12, h2, hb, h5, hob, htk, hcl, hlt, hlt', d1, bl, e0, hil, itsC_cons, dC, e, hm, hm', hnl, k3, g2, decide_true, tk1, tk2, tk3, tk4, tk5, tk6, tk7, tk8, and_false, false_and]) | (refine hJ _ ?_; clear hJ R) | refine Q5 ?_ | (refine hK _ ?_; clear hK K) | ((first | refine hN _ ?_ | refine hX _ _ ?_ | refine hR _ ?_); clear hN hX hR Z) | refine Q6 rfl ?_ | refine Q7 (by decide) ?_ | (refine Q8 ?_ ?_; focus (simp only [kS, R1, R2, R3, R4, R5, R6, R7, reduceCtorEq, R9, h14, h13, h12, h2, hb, h5, hob, htk, hcl, hlt, hlt', d1, bl, e0, hil, itsC_cons, dC, e, hm, hm', hnl, k3, g2, decide_true, tk1, tk2, tk3, tk4, tk5, tk6, tk7, tk8, and_false, false_and]; done)) | (refine Q9 ?_ ?_; focus (simp only [kS, R1, R2, R3, R4, R5, R6, R7, reduceCtorEq, R9, h14, h13, h12, h2, hb, h5, hob, htk, hcl, hlt, hlt', d1, bl, e0, hil, itsC_cons, dC, e, hm, hm', hnl, k3, g2, decide_true, tk1, tk2, tk3, tk4, tk5, tk6, tk7, tk8, and_false, false_and]; done)) | refine Qa ?_ | refine Qb ?_ | refine Qc ?_ | refine And.intro (by first | assumption | omega) ?_)
            refine ⟨hs.length - (i + 1), by omega, i + 1, by omega, rfl, ?_, by simp only [kS, R1, R2, R3, R4, R5, R6, R7, reduceCtorEq, R9, h13], by simp only [kS, R1, R2, R3, R4, R5, R6, R7, reduceCtorEq, R9, h12], by simp only [kS, R1, R2, R3, R4, R5, R6, R7, reduceCtorEq, R9, h2], by simp only [kS, R1, R2, R3, R4, R5, R6, R7, reduceCtorEq, R9, hb, hk, hne, hne', tk1, tk2, tk3, tk4, tk5, tk6, tk7, tk8, and_false, false_and], by (simp only [kS, R1, R2, R3, R4, R5, R6, R7, reduceCtorEq, R9]) <;> first | omega | rfl, ?_⟩
            · simp only [kS, R1, R2, R3, R4, R5, R6, R7, reduceCtorEq, R9]
              rw [wrap_i64 (by omega) (by omega)]; rfl
            · rw [ht]; exact .inr ⟨_, _, by simp only [kS, R1, R2, R3, R4, R5, R6, R7, reduceCtorEq, R9, clC_append, hob, htk, hcl, hsl, hsn, hw, ws_length, ws_take, tk1, tk2, tk3, tk4, tk5, tk6, tk7, tk8, and_false, false_and]; exact rfl, by simp only [kS, R1, R2, R3, R4, R5, R6, R7, reduceCtorEq, R9], by (simp only [kS, R1, R2, R3, R4, R5, R6, R7, reduceCtorEq, R9]) <;> first | omega | rfl⟩
      · have ht : classesF d (hs.take (i + 1)) = L ++ [one (bAt d[m].s lo).toNat] := by
          rw [ht]; simp only [clsF, k3, e', if_true]
        have hlo : 0 ≤ lo ∧ lo < d[m].s.size := by
          have k3' : k = 3 := by simpa using k3
          have := hb1 _ (List.mem_cons_self ..)
          rcases this with h | ⟨_, h | h | h | h⟩ <;> simp only at h
          · omega
          · omega
          · omega
          · rw [e'] at h; exact ⟨h.2.2.2.1, h.2.2.2.2⟩
          · omega
        obtain ⟨lo1, lo2⟩ := hlo
        obtain ⟨b1, b2⟩ := bAt_r d[m].s lo
        have hbt : bAt d[m].s lo = (((bAt d[m].s lo).toNat : Nat) : Int) := by omega
        have ho := of46_ret gl (bAt d[m].s lo).toNat (bAt d[m].s lo).toNat (by omega) (by omega)
        rw [← hbt] at ho
        have hsl := ws_length (rowN (bAt d[m].s lo).toNat (bAt d[m].s lo).toNat 256)
        have hsn : clC [one (bAt d[m].s lo).toNat] = ws (rowN (bAt d[m].s lo).toNat (bAt d[m].s lo).toNat 256) := by simp [clC, one]
        rcases h5 with ⟨h5, rfl⟩ | ⟨e5, t5, h5, hob, htk⟩
        · repeat (first | ((first | refine Q1 ?_ | refine Q2 ?_); intro Z hN hX hR) | refine Q3 (by kernel_rfl) fun K hK => ?_ | ((first | refine Q4 fun R hJ => ?_ | with_reducible change ExpAll _ _ _); simp only [kS, R1, R2, R3, R4, R5, R6, R7, reduceCtorEq, R9, h14, h13, h12, h2, hb, h5, hlt, hlt', d1, bl, e0, hil, itsC_cons, dC, e, hm, hm', hnl, k3, lo1, lo2, decide_true, tk1, tk2, tk3, tk4, tk5, tk6, tk7, tk8, and_false, false_and]) | (refine hJ _ ?_; clear hJ R) | refine Q5 ?_ | (refine hK _ ?_; clear hK K) | ((first | refine hN _ ?_ | refine hX _ _ ?_ | refine hR _ ?_); clear hN hX hR Z) | refine Q6 rfl ?_ | refine Q7 (by decide) ?_ | (refine Q8 ?_ ?_; focus (simp only [kS, R1, R2, R3, R4, R5, R6, R7, reduceCtorEq, R9, h14, h13, h12, h2, hb, h5, hlt, hlt', d1, bl, e0, hil, itsC_cons, dC, e, hm, hm', hnl, k3, lo1, lo2, decide_true, tk1, tk2, tk3, tk4, tk5, tk6, tk7, tk8, and_false, false_and]; done)) | (refine Q9 ?_ ?_; focus (simp only [kS, R1, R2, R3, R4, R5, R6, R7, reduceCtorEq, R9, h14, h13, h12, h2, hb, h5, hlt, hlt', d1, bl, e0, hil, itsC_cons, dC, e, hm, hm', hnl, k3, lo1, lo2, decide_true, tk1, tk2, tk3, tk4, tk5, tk6, tk7, tk8, and_false, false_and]; done)) | refine Qa ?_ | refine Qb ?_ | refine Qc ?_ | refine And.intro (by first | assumption | omega) ?_)
          refine ⟨_, ho, rfl, ?_⟩
          simp only [kS, R1, R2, R3, R4, R5, R6, R7, reduceCtorEq, R9, h14, h13, h12, h2, hb, h5, hsl, hsn, ws_length, ws_take, tk1, tk2, tk3, tk4, tk5, tk6, tk7, tk8, and_false, false_and]
          repeat (first | ((first | refine Q1 ?_ | refine Q2 ?_); intro Z hN hX hR) | refine Q3 (by kernel_rfl) fun K hK => ?_ | ((first | refine Q4 fun R hJ => ?_ | with_reducible change ExpAll _ _ _); simp only [kS, R1, R2, R3, R4, R5, R6, R7, reduceCtorEq, R9, h14, h13, h12, h2, hb, h5, hsl, hsn, ws_length, ws_take, tk1, tk2, tk3, tk4, tk5, tk6, tk7, tk8, and_false, false_and]) | (refine hJ _ ?_; clear hJ R) | refine Q5 ?_ | (refine hK _ ?_; clear hK K) | ((first | refine hN _ ?_ | refine hX _ _ ?_ | refine hR _ ?_); clear hN hX hR Z) | refine Q6 rfl ?_ | refine Q7 (by decide) ?_ | (refine Q8 ?_ ?_; focus (simp only [kS, R1, R2, R3, R4, R5, R6, R7, reduceCtorEq, R9, h14, h13, h12, h2, hb, h5, hsl, hsn, ws_length, ws_take, tk1, tk2, tk3, tk4, tk5, tk6, tk7, tk8, and_false, false_and]; done)) | (refine Q9 ?_ ?_; focus (simp only [kS, R1, R2, R3, R4, R5, R6, R7, reduceCtorEq, R9, h14, h13, h12, h2, hb, h5, hsl, hsn, ws_length, ws_take, tk1, tk2, tk3, tk4, tk5, tk6, tk7, tk8, and_false, false_and]; done)) | refine Qa ?_ | refine Qb ?_ | refine Qc ?_ | refine And.intro (by first | assumption | omega) ?_)
          refine ⟨hs.length - (i + 1), by omega, i + 1, by omega, rfl, ?_, by simp only [kS, R1, R2, R3, R4, R5, R6, R7, reduceCtorEq, R9, h13], by simp only [kS, R1, R2, R3, R4, R5, R6, R7, reduceCtorEq, R9, h12], by simp only [kS, R1, R2, R3, R4, R5, R6, R7, reduceCtorEq, R9, h2], by simp only [kS, R1, R2, R3, R4, R5, R6, R7, reduceCtorEq, R9, hb, hk, tk1, tk2, tk3, tk4, tk5, tk6, tk7, tk8, and_false, false_and], by (simp only [kS, R1, R2, R3, R4, R5, R6, R7, reduceCtorEq, R9]) <;> first | omega | rfl, ?_⟩
          · simp only [kS, R1, R2, R3, R4, R5, R6, R7, reduceCtorEq, R9]
            rw [wrap_i64 (by omega) (by omega)]; rfl
          · rw [ht]; exact .inr ⟨_, _, by simp only [kS, R1, R2, R3, R4, R5, R6, R7, reduceCtorEq, R9, clC_append, hsl, hsn, ws_length, ws_take, tk1, tk2, tk3, tk4, tk5, tk6, tk7, tk8, and_false, false_and]; exact rfl, by simp only [kS, R1, R2, R3, R4, R5, R6, R7, reduceCtorEq, R9], by (simp only [kS, R1, R2, R3, R4, R5, R6, R7, reduceCtorEq, R9]) <;> first | omega | rfl⟩
        · have hne : ¬ (2 = e5 ∧ 1 = t5) := by rintro ⟨rfl, rfl⟩; rw [hb] at hob; cases hob
          have hne' : ¬ (e5 = 2 ∧ t5 = 1) := by rintro ⟨rfl, rfl⟩; rw [hb] at hob; cases hob
          repeat (first | ((first | refine Q1 ?_ | refine Q2 ?_); intro Z hN hX hR) | refine Q3 (by kernel_rfl) fun K hK => ?_ | ((first | refine Q4 fun R hJ => ?_ | with_reducible change ExpAll _ _ _); simp only [kS, R1, R2, R3, R4, R5, R6, R7, reduceCtorEq, R9, h14, h13, h12, h2, hb, h5, hob, htk, hcl, hlt, hlt', d1, bl, e0, hil, itsC_cons, dC, e, hm, hm', hnl, k3, lo1, lo2, decide_true, tk1, tk2, tk3, tk4, tk5, tk6, tk7, tk8, and_false, false_and]) | (refine hJ _ ?_; clear hJ R) | refine Q5 ?_ | (refine hK _ ?_; clear hK K) | ((first | refine hN _ ?_ | refine hX _ _ ?_ | refine hR _ ?_); clear hN hX hR Z) | refine Q6 rfl ?_ | refine Q7 (by decide) ?_ | (refine Q8 ?_ ?_; focus (simp only [kS, R1, R2, R3, R4, R5, R6, R7, reduceCtorEq, R9, h14, h13, h12, h2, hb, h5, hob, htk, hcl, hlt, hlt', d1, bl, e0, hil, itsC_cons, dC, e, hm, hm', hnl, k3, lo1, lo2, decide_true, tk1, tk2, tk3, tk4, tk5, tk6, tk7, tk8, and_false, false_and]; done)) | (refine Q9 ?_ ?_; focus (simp only [kS, R1, R2, R3, R4, R5, R6, R7, reduceCtorEq, R9, h14, h13, h12, h2, hb, h5, hob, htk, hcl, hlt, hlt', d1, bl, e0, hil, itsC_cons, dC, e, hm, hm', hnl, k3, lo1, lo2, decide_true, tk1, tk2, tk3, tk4, tk5, tk6, tk7, tk8, and_false, false_and]; done)) | refine Qa ?_ | refine Qb ?_ | refine Qc ?_ | refine And.intro (by first | assumption | omega) ?_)
          refine ⟨_, ho, rfl, ?_⟩
          simp only [kS, R1, R2, R3, R4, R5, R6, R7, reduceCtorEq, R9, h14, h13, h12, h2, hb, h5, hob, htk, hcl, hsl, hsn, ws_length, ws_take, tk1, tk2, tk3, tk4, tk5, tk6, tk7, tk8, and_false, false_and]
          repeat (first | ((first | refine Q1 ?_ | refine Q2 ?_); intro Z hN hX hR) | refine Q3 (by kernel_rfl) fun K hK => ?_ | ((first | refine Q4 fun R hJ => ?_ | with_reducible change ExpAll _ _ _); simp only [kS, R1, R2, R3, R4, R5, R6, R7, reduceCtorEq, R9, h14, h13, h12, h2, hb, h5, hob, htk, hcl, hsl, hsn, ws_length, ws_take, tk1, tk2, tk3, tk4, tk5, tk6, tk7, tk8, and_false, false_and]) | (refine hJ _ ?_; clear hJ R) | refine Q5 ?_ | (refine hK _ ?_; clear hK K) | ((first | refine hN _ ?_ | refine hX _ _ ?_ | refine hR _ ?_); clear hN hX hR Z) | refine Q6 rfl ?_ | refine Q7 (by decide) ?_ | (refine Q8 ?_ ?_; focus (simp only [kS, R1, R2, R3, R4, R5, R6, R7, reduceCtorEq, R9, h14, h13, h12, h2, hb, h5, hob, htk, hcl, hsl, hsn, ws_length, ws_take, tk1, tk2, tk3, tk4, tk5, tk6, tk7, tk8, and_false, false_and]; done)) | (refine Q9 ?_ ?_; focus (simp only [kS, R1, R2, R3, R4, R5, R6, R7, reduceCtorEq, R9, h14, h13, h12, h2, hb, h5, hob, htk, hcl, hsl, hsn, ws_length, ws_take, tk1, tk2, tk3, tk4, tk5, tk6, tk7, tk8, and_false, false_and]; done)) | refine Qa ?_ | refine Qb ?_ | refine Qc ?_ | refine And.intro (by first | assumption | omega) ?_)
          refine ⟨hs.length - (i + 1), by omega, i + 1, by omega, rfl, ?_, by simp only [kS, R1, R2, R3, R4, R5, R6, R7, reduceCtorEq, R9, h13], by simp only [kS, R1, R2, R3, R4, R5, R6, R7, reduceCtorEq, R9, h12], by simp only [kS, R1, R2, R3, R4, R5, R6, R7, reduceCtorEq, R9, h2], by simp only [kS, R1, R2, R3, R4, R5, R6, R7, reduceCtorEq, R9, hb, hk, hne, hne', tk1, tk2, tk3, tk4, tk5, tk6, tk7, tk8, and_false, false_and], by (simp only [kS, R1, R2, R3, R4, R5, R6, R7, reduceCtorEq, R9]) <;> first | omega | rfl, ?_⟩
          · simp only [kS, R1, R2, R3, R4, R5, R6, R7, reduceCtorEq, R9]
            rw [wrap_i64 (by omega) (by omega)]; rfl
          · rw [ht]; exact .inr ⟨_, _, by simp only [kS, R1, R2, R3, R4, R5, R6, R7, reduceCtorEq, R9, clC_append, hob, htk, hcl, hsl, hsn, ws_length, ws_take, tk1, tk2, tk3, tk4, tk5, tk6, tk7, tk8, and_false, false_and]; exact rfl, by simp only [kS, R1, R2, R3, R4, R5, R6, R7, reduceCtorEq, R9], by (simp only [kS, R1, R2, R3, R4, R5, R6, R7, reduceCtorEq, R9]) <;> first | omega | rfl⟩
  · have hlt' : ¬ (i : Int) < (hs.length : Int) := by omega
    have he : hs.take i = hs := List.take_of_length_le (by omega)
    rw [he] at h5
    have hcl := clC_length (classesF d hs)
    rcases h5 with ⟨h5, h5'⟩ | ⟨e5, t5, h5, hob, htk⟩
    · repeat (first | ((first | refine Q1 ?_ | refine Q2 ?_); intro Z hN hX hR) | refine Q3 (by kernel_rfl) fun K hK => ?_ | ((first | refine Q4 fun R hJ => ?_ | with_reducible change ExpAll _ _ _); simp only [kS, R1, R2, R3, R4, R5, R6, R7, reduceCtorEq, R9, h14, h13, h12, h5, hlt', decide_false]) | (refine hJ _ ?_; clear hJ R) | refine Q5 ?_ | (refine hK _ ?_; clear hK K) | ((first | refine hN _ ?_ | refine hX _ _ ?_ | refine hR _ ?_); clear hN hX hR Z) | refine Q6 rfl ?_ | refine Q7 (by decide) ?_ | (refine Q8 ?_ ?_; focus (simp only [kS, R1, R2, R3, R4, R5, R6, R7, reduceCtorEq, R9, h14, h13, h12, h5, hlt', decide_false]; done)) | (refine Q9 ?_ ?_; focus (simp only [kS, R1, R2, R3, R4, R5, R6, R7, reduceCtorEq, R9, h14, h13, h12, h5, hlt', decide_false]; done)) | refine Qa ?_ | refine Qb ?_ | refine Qc ?_ | refine And.intro (by first | assumption | omega) ?_)
      all_goals (rw [h5']; exact .inr rfl)
    · repeat (first | ((first | refine Q1 ?_ | refine Q2 ?_); intro Z hN hX hR) | refine Q3 (by kernel_rfl) fun K hK => ?_ | ((first | refine Q4 fun R hJ => ?_ | with_reducible change ExpAll _ _ _); simp only [kS, R1, R2, R3, R4, R5, R6, R7, reduceCtorEq, R9, h14, h13, h12, h5, hob, htk, hcl, hlt', decide_false]) | (refine hJ _ ?_; clear hJ R) | refine Q5 ?_ | (refine hK _ ?_; clear hK K) | ((first | refine hN _ ?_ | refine hX _ _ ?_ | refine hR _ ?_); clear hN hX hR Z) | refine Q6 rfl ?_ | refine Q7 (by decide) ?_ | (refine Q8 ?_ ?_; focus (simp only [kS, R1, R2, R3, R4, R5, R6, R7, reduceCtorEq, R9, h14, h13, h12, h5, hob, htk, hcl, hlt', decide_false]; done)) | (refine Q9 ?_ ?_; focus (simp only [kS, R1, R2, R3, R4, R5, R6, R7, reduceCtorEq, R9, h14, h13, h12, h5, hob, htk, hcl, hlt', decide_false]; done)) | refine Qa ?_ | refine Qb ?_ | refine Qc ?_ | refine And.intro (by first | assumption | omega) ?_)
      all_goals exact .inl trivial

end Go.Proofs.YtilhjiopbbbgmaaGreatDoor
