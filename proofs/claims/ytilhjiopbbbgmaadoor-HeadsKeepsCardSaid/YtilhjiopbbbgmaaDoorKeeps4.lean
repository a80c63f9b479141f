/- Proved: HeadsKeeps of chapter 14, as a tied card: for every description and state the law's body answers true: what is handed in stays, what is answered is new memory. This is part 4 of 6 of that proof (first the abstract machine and its soundness, then the walks, the plain law, the card): no condition beyond the statement's own. -/
import Derived.Test.YtilhjiopbbbgmaaDoorKeeps3
import Derived.ProofKit
import Derived.OpenShut
import Derived.Deep.Slices
import Derived.SizedLaws
import Derived.Lib.LaidTab
import Derived.Test.YtilhjiopbbbgmaaDoorRows
import Derived.LaidMore
import Derived.Stop.Joined
import Derived.Below
import Derived.Carry
import Derived.Test.YtilhjiopbbbgmaaDoorTie
import Derived.Test.YtilhjiopbbbgmaaDoorCards
import Derived.SevenTiedAt
import Derived.HandedShaped

/- Classes of bytes: has, add, of, singles: what the functions of the packages class and scantlingref01 compute. -/
namespace Go.Proofs.YtilhjiopbbbgmaaDoor
open Nat renaming reduceSub → R1, reduceMul → R2, reduceLeDiff → R3, reducePow → R4, reduceBEq → R5, reduceAdd → R6, reduceEqDiff → R7
open Int renaming reduceToNat → R9
open Go Go.RowKit Am
set_option linter.unusedVariables false
set_option linter.unusedSimpArgs false
set_option maxHeartbeats 4000000
attribute [local irreducible] AWp AOps

theorem retcA {f : FuncId} {fn : Func} {code : Code} {gl : Gl} {p : Nat} {ty : TypeId} {k : Nat} {el : TypeId} {args : List SV} {cs : List C} (n : Nat) (hf : Tryd.prog.funcs[f]? = some fn) (hname : (fn.name == "runtime.NumGoroutine") = false)
    (hb : fn.body = some code) (hN : fn.ntmps = n) (hr : fn.results = #[.cell p ty]) (hu : Tryd.prog.underlying ty = some (.array k el))
    (hi : (Tryd.prog.info? ty).map (·.size) = some cs.length) (hlen : args.length ≤ n)
    (h : ∀ Z : AX → AF → Prop, (∀ s', CellIs p cs s' → Z .normal s') → (∀ id s', False → Z (.exit id) s') → (∀ s', CellIs p cs s' → Z .ret s') → AWp (cxD gl n) code Z (AF.init args)) : Ret Tryd.prog gl f args (.agg cs) := by
  refine ⟨fun vs w => ?_, fun w G vs hG hgl hrep => ?_⟩
  · have h1 : fn.name ≠ "runtime.NumGoroutine" := by simpa using hname
    simp [callFunc, hf, h1, hb, mark]
  · refine calls_of_wp hf hb ?_
    rw [hN]
    have S := init_sim (dr := gl.dr) hG hrep hlen
    have hw := h (fun e s => match e with | .exit _ => False | _ => CellIs p cs s) (fun _ h => h) (fun _ _ h => h.elim) (fun _ h => h)
    refine wp_mono (awp_sound (cxD_ok gl n) hG hgl code _ _ _ _ _ hw S) (fun e a' w' hq => ?_)
    have done : (∃ g s, CellIs p cs s ∧ Sim gl.dr w G n (fun _ => False) g a' w' s) → a'.defers = [] ∧ ∃ v, (results fn a'.tmps).run Tryd.prog w' = .ok v w' ∧ Back gl.dr w G (.agg cs) (.returned v) w' := by
      rintro ⟨g, s, ⟨t, hs, ho⟩, S'⟩
      have h1 := S'.slots p
      rw [hs] at h1
      obtain ⟨b, hb1, hv⟩ := h1
      obtain ⟨b', ys, el, hb2, hy, hl⟩ := S'.boxes _ _ _ ho
      rw [hb1] at hb2
      cases hb2
      have hsz : ys.size = cs.length := by rw [← Array.length_toList]; exact hl.length.symm
      exact ⟨S'.defers, _, results_cell_row hr a'.tmps w' b el ys (0, 0) _ hv hy hu rfl (by rw [hsz]; exact hi), _, rfl, S'.below, S'.drawn, g.G, S'.g0, S'.gnew, S'.glt, ys, rfl, hl⟩
    cases e with
    | normal => exact done hq
    | ret => exact done hq
    | exit id => obtain ⟨_, _, hq, _⟩ := hq; exact hq.elim
    | goto l => exact hq.elim
    | panic ch => exact hq.elim
    | outgrown => exact hq.elim

def bits (p : Nat → Bool) : Nat → Nat
  | 0 => 0
  | n + 1 => bits p n + (if p n = true then 2 ^ n else 0)

theorem bits_lt (p : Nat → Bool) : ∀ n, bits p n < 2 ^ n
  | 0 => by simp [bits]
  | n + 1 => by
    have := bits_lt p n
    simp only [bits, Nat.pow_succ]
    split <;> omega

theorem bits_bit (p : Nat → Bool) (k : Nat) : ∀ n, (bits p n).testBit k = (decide (k < n) && p k)
  | 0 => by simp [bits]
  | n + 1 => by
    have h := bits_lt p n
    have ih := bits_bit p k n
    simp only [bits]
    by_cases hk : k < n
    · have h1 : k < n + 1 := by omega
      simp only [hk, h1, decide_true, Bool.true_and] at ih ⊢
      split
      · rw [Nat.add_comm, Nat.testBit_two_pow_add_gt hk]; exact ih
      · exact ih
    · by_cases he : k = n
      · subst he
        have h0 : (bits p k).testBit k = false := Nat.testBit_lt_two_pow h
        have h1 : k < k + 1 := by omega
        simp only [h1, decide_true, Bool.true_and]
        split
        · rename_i hp
          rw [Nat.add_comm, Nat.testBit_two_pow_add_eq, h0, hp]; rfl
        · rename_i hp
          rw [Nat.add_zero, h0]; simpa using hp
      · have h1 : ¬ k < n + 1 := by omega
        simp only [h1, decide_false, Bool.false_and]
        refine Nat.testBit_lt_two_pow (Nat.lt_of_lt_of_le (bits_lt p (n + 1)) (Nat.pow_le_pow_right (by omega) (by omega)))

theorem bits_or (p : Nat → Bool) (n k : Nat) (hk : k < n) : bits (fun i => p i || i == k) n = bits p n ||| 2 ^ k := by
  refine Nat.eq_of_testBit_eq fun j => ?_
  rw [Nat.testBit_or, bits_bit, bits_bit, Nat.testBit_two_pow]
  by_cases e : j = k
  · subst e; simp [hk]
  · have : k ≠ j := fun h => e h.symm
    have hb : (j == k) = false := by simpa using e
    simp [hb, this]

theorem bits_congr {p q : Nat → Bool} {n : Nat} (h : ∀ i, i < n → p i = q i) : bits p n = bits q n :=
  Nat.eq_of_testBit_eq fun j => by
    rw [bits_bit, bits_bit]
    by_cases hj : j < n
    · rw [h j hj]
    · simp [hj]

/-- A class' four words. -/
def ws (g : Nat → Nat) : List C := [.v (.int .u64 (g 0 : Int)), .v (.int .u64 (g 1 : Int)), .v (.int .u64 (g 2 : Int)), .v (.int .u64 (g 3 : Int))]
theorem ws_length (g : Nat → Nat) : (ws g).length = 4 := rfl
theorem ws_take (g : Nat → Nat) : (ws g).take 4 = ws g := rfl
theorem ws_drop (g : Nat → Nat) {w : Nat} (h : w < 4) : (ws g).drop w = .v (.int .u64 (g w : Int)) :: (ws g).drop (w + 1) := by
  have : w = 0 ∨ w = 1 ∨ w = 2 ∨ w = 3 := by omega
  rcases this with rfl | rfl | rfl | rfl <;> rfl
theorem ws_put (g : Nat → Nat) {w : Nat} (h : w < 4) (v : Nat) : (ws g).take w ++ (.v (.int .u64 (v : Int)) :: (ws g).drop (w + 1)) = ws (fun k => if k = w then v else g k) := by
  have : w = 0 ∨ w = 1 ∨ w = 2 ∨ w = 3 := by omega
  rcases this with rfl | rfl | rfl | rfl <;> rfl
theorem ws_congr {g g' : Nat → Nat} (h : ∀ k, k < 4 → g k = g' k) : ws g = ws g' := by
  simp only [ws, h 0 (by omega), h 1 (by omega), h 2 (by omega), h 3 (by omega)]

def hasN (g : Nat → Nat) (c : Nat) : Bool := (g (c / 64)).testBit (c % 64)

theorem wrap_u64 {n : Nat} (h : n < 18446744073709551616) : IntKind.u64.wrap (n : Int) = (n : Int) := by
  simp only [IntKind.wrap, IntKind.bits, IntKind.signed]
  simp
  omega
theorem wrap_u8 {n : Nat} (h : n < 256) : IntKind.u8.wrap (n : Int) = (n : Int) := by
  simp only [IntKind.wrap, IntKind.bits, IntKind.signed]
  simp
  omega

theorem tdiv_nat (a b : Nat) : (a : Int).tdiv (b : Int) = ((a / b : Nat) : Int) := rfl
theorem tmod_nat (a b : Nat) : (a : Int).tmod (b : Int) = ((a % b : Nat) : Int) := rfl

theorem has24_ret (gl : Gl) (g : Nat → Nat) (hg : ∀ k, g k < 18446744073709551616) (c : Nat) (hc : c < 256) : Ret Tryd.prog gl 24 [.agg (ws g), .c (.v (.int .u8 (c : Int)))] (bv (hasN g c)) := by
  refine retq (rs := [4]) 24 Tryd.func24 (by kernel_rfl) rfl (by kernel_rfl) rfl (by simp) (by simp) fun Z hN hX hR => ?_
  have hcv : IntKind.i64.wrap (c : Int) = (c : Int) := wrap_i64 (by omega) (by omega)
  have hq : IntKind.i64.wrap ((c : Int).tdiv 64) = ((c / 64 : Nat) : Int) := by rw [show (c : Int).tdiv 64 = ((c / 64 : Nat) : Int) from tdiv_nat c 64, wrap_i64 (by omega) (by omega)]
  have hr : (c : Int).tmod 64 = ((c % 64 : Nat) : Int) := tmod_nat c 64
  have h4 : ((c / 64 : Nat) : Int) < 4 := by omega
  have h4' : c / 64 < 4 := by omega
  have d1 := ws_drop g h4'
  repeat (first | ((first | refine Q1 ?_ | refine Q2 ?_); intro Z hN hX hR) | refine Q3 (by kernel_rfl) fun K hK => ?_ | ((first | refine Q4 fun R hJ => ?_ | with_reducible change ExpAll _ _ _); simp only [kS, R1, R2, R3, R4, R5, R6, R7, reduceCtorEq, R9, hcv, hq, hr, h4, d1, ws_length]) | (refine hJ _ ?_; clear hJ R) | refine Q5 ?_ | (refine hK _ ?_; clear hK K) | ((first | refine hN _ ?_ | refine hX _ _ ?_ | refine hR _ ?_); clear hN hX hR Z) | refine Q6 rfl ?_ | refine Q7 (by decide) ?_ | (refine Q8 ?_ ?_; focus (simp only [kS, R1, R2, R3, R4, R5, R6, R7, reduceCtorEq, R9, hcv, hq, hr, h4, d1, ws_length]; done)) | (refine Q9 ?_ ?_; focus (simp only [kS, R1, R2, R3, R4, R5, R6, R7, reduceCtorEq, R9, hcv, hq, hr, h4, d1, ws_length]; done)) | refine Qa ?_ | refine Qb ?_ | refine Qc ?_ | refine And.intro (by first | assumption | omega) ?_)
  refine awq_loop (fun n f => ∃ i : Nat, i ≤ c % 64 ∧ n = c % 64 - i ∧ f.t 1 = .c (.v (.int .u8 (c : Int))) ∧ f.t 5 = .c (.v (.int .u64 ((g (c / 64) / 2 ^ i : Nat) : Int))) ∧ f.t 6 = iv (i : Int)) (c % 64) ?_ ?_
  · exact ⟨0, by omega, rfl, by simp only [kS, R1, R2, R3, R4, R5, R6, R7, reduceCtorEq, R9], by simp only [kS, R1, R2, R3, R4, R5, R6, R7, reduceCtorEq, R9]; simp, by simp only [kS, R1, R2, R3, R4, R5, R6, R7, reduceCtorEq, R9]; rfl⟩
  rintro Z n f hN hX hR ⟨i, hi, rfl, h1, h5, h6⟩
  by_cases hlt : i < c % 64
  · have hlt' : (i : Int) < ((c % 64 : Nat) : Int) := by omega
    have hx : g (c / 64) / 2 ^ i < 18446744073709551616 := Nat.lt_of_le_of_lt (Nat.div_le_self _ _) (hg _)
    have hd : IntKind.u64.wrap (((g (c / 64) / 2 ^ i : Nat) : Int).tdiv 2) = ((g (c / 64) / 2 ^ (i + 1) : Nat) : Int) := by
      rw [show ((g (c / 64) / 2 ^ i : Nat) : Int).tdiv 2 = ((g (c / 64) / 2 ^ i / 2 : Nat) : Int) from tdiv_nat _ 2, wrap_u64 (by omega), Nat.div_div_eq_div_mul, Nat.pow_succ]
    repeat (first | ((first | refine Q1 ?_ | refine Q2 ?_); intro Z hN hX hR) | refine Q3 (by kernel_rfl) fun K hK => ?_ | ((first | refine Q4 fun R hJ => ?_ | with_reducible change ExpAll _ _ _); simp only [kS, R1, R2, R3, R4, R5, R6, R7, reduceCtorEq, R9, h1, h5, h6, hcv, hr, hlt, hlt', hd, decide_true]) | (refine hJ _ ?_; clear hJ R) | refine Q5 ?_ | (refine hK _ ?_; clear hK K) | ((first | refine hN _ ?_ | refine hX _ _ ?_ | refine hR _ ?_); clear hN hX hR Z) | refine Q6 rfl ?_ | refine Q7 (by decide) ?_ | (refine Q8 ?_ ?_; focus (simp only [kS, R1, R2, R3, R4, R5, R6, R7, reduceCtorEq, R9, h1, h5, h6, hcv, hr, hlt, hlt', hd, decide_true]; done)) | (refine Q9 ?_ ?_; focus (simp only [kS, R1, R2, R3, R4, R5, R6, R7, reduceCtorEq, R9, h1, h5, h6, hcv, hr, hlt, hlt', hd, decide_true]; done)) | refine Qa ?_ | refine Qb ?_ | refine Qc ?_ | refine And.intro (by first | assumption | omega) ?_)
    refine ⟨c % 64 - (i + 1), by omega, i + 1, by omega, rfl, by simp only [kS, R1, R2, R3, R4, R5, R6, R7, reduceCtorEq, R9, h1], by simp only [kS, R1, R2, R3, R4, R5, R6, R7, reduceCtorEq, R9], ?_⟩
    simp only [kS, R1, R2, R3, R4, R5, R6, R7, reduceCtorEq, R9]
    rw [wrap_i64 (by omega) (by omega)]; rfl
  · have hlt' : ¬ (i : Int) < ((c % 64 : Nat) : Int) := by omega
    have he : i = c % 64 := by omega
    have hm : ((g (c / 64) / 2 ^ i : Nat) : Int).tmod 2 = ((g (c / 64) / 2 ^ i % 2 : Nat) : Int) := tmod_nat _ 2
    repeat (first | ((first | refine Q1 ?_ | refine Q2 ?_); intro Z hN hX hR) | refine Q3 (by kernel_rfl) fun K hK => ?_ | ((first | refine Q4 fun R hJ => ?_ | with_reducible change ExpAll _ _ _); simp only [kS, R1, R2, R3, R4, R5, R6, R7, reduceCtorEq, R9, h1, h5, h6, hcv, hr, hlt', hm, decide_false]) | (refine hJ _ ?_; clear hJ R) | refine Q5 ?_ | (refine hK _ ?_; clear hK K) | ((first | refine hN _ ?_ | refine hX _ _ ?_ | refine hR _ ?_); clear hN hX hR Z) | refine Q6 rfl ?_ | refine Q7 (by decide) ?_ | (refine Q8 ?_ ?_; focus (simp only [kS, R1, R2, R3, R4, R5, R6, R7, reduceCtorEq, R9, h1, h5, h6, hcv, hr, hlt', hm, decide_false]; done)) | (refine Q9 ?_ ?_; focus (simp only [kS, R1, R2, R3, R4, R5, R6, R7, reduceCtorEq, R9, h1, h5, h6, hcv, hr, hlt', hm, decide_false]; done)) | refine Qa ?_ | refine Qb ?_ | refine Qc ?_ | refine And.intro (by first | assumption | omega) ?_)
    rw [hasN, Nat.testBit_eq_decide_div_mod_eq, ← he]
    rcases Nat.mod_two_eq_zero_or_one (g (c / 64) / 2 ^ i) with h | h <;> rw [h] <;> rfl

theorem ofI {x : Nat} (h : x < 18446744073709551616) : (BitVec.ofInt IntKind.u64.bits (x : Int)).toNat = x := by
  simp only [IntKind.bits, BitVec.toNat_ofInt]
  omega

theorem has126_ret (gl : Gl) (g : Nat → Nat) (hg : ∀ k, g k < 18446744073709551616) (c : Nat) (hc : c < 256) : Ret Tryd.prog gl 126 [.agg (ws g), .c (.v (.int .u8 (c : Int)))] (bv (hasN g c)) := by
  refine retq (rs := [4]) 14 Tryd.func126 (by kernel_rfl) rfl (by kernel_rfl) rfl (by simp) (by simp) fun Z hN hX hR => ?_
  have hq : IntKind.u8.wrap ((c : Int).tdiv 64) = ((c / 64 : Nat) : Int) := by rw [show (c : Int).tdiv 64 = ((c / 64 : Nat) : Int) from tdiv_nat c 64, wrap_u8 (by omega)]
  have hr : (c : Int).tmod 64 = ((c % 64 : Nat) : Int) := tmod_nat c 64
  have h4 : ((c / 64 : Nat) : Int) < 4 := by omega
  have h4' : c / 64 < 4 := by omega
  have d1 := ws_drop g h4'
  have hn : ¬ ((c % 64 : Nat) : Int) < 0 := by omega
  have hs : ((g (c / 64) : Nat) : Int).fdiv (2 ^ (min (c % 64) IntKind.u64.bits)) = ((g (c / 64) / 2 ^ (c % 64) : Nat) : Int) := by
    have e : min (c % 64) IntKind.u64.bits = c % 64 := by simp only [IntKind.bits]; omega
    rw [e, Int.fdiv_eq_ediv_of_nonneg _ (by exact_mod_cast Nat.zero_le (2 ^ (c % 64)))]
    norm_cast
  have ha : IntKind.u64.wrap ((BitVec.ofInt IntKind.u64.bits ((g (c / 64) / 2 ^ (c % 64) : Nat) : Int) &&& BitVec.ofInt IntKind.u64.bits 1).toNat : Int) = ((g (c / 64) / 2 ^ (c % 64) % 2 : Nat) : Int) := by
    have hx : g (c / 64) / 2 ^ (c % 64) < 18446744073709551616 := Nat.lt_of_le_of_lt (Nat.div_le_self _ _) (hg _)
    rw [BitVec.toNat_and, ofI hx, show (BitVec.ofInt IntKind.u64.bits 1).toNat = 1 from ofI (x := 1) (by omega), Nat.and_one_is_mod]
    exact wrap_u64 (by omega)
  repeat (first | ((first | refine Q1 ?_ | refine Q2 ?_); intro Z hN hX hR) | refine Q3 (by kernel_rfl) fun K hK => ?_ | ((first | refine Q4 fun R hJ => ?_ | with_reducible change ExpAll _ _ _); simp only [kS, R1, R2, R3, R4, R5, R6, R7, reduceCtorEq, R9, hq, hr, h4, d1, ws_length, hn, hs, ha]) | (refine hJ _ ?_; clear hJ R) | refine Q5 ?_ | (refine hK _ ?_; clear hK K) | ((first | refine hN _ ?_ | refine hX _ _ ?_ | refine hR _ ?_); clear hN hX hR Z) | refine Q6 rfl ?_ | refine Q7 (by decide) ?_ | (refine Q8 ?_ ?_; focus (simp only [kS, R1, R2, R3, R4, R5, R6, R7, reduceCtorEq, R9, hq, hr, h4, d1, ws_length, hn, hs, ha]; done)) | (refine Q9 ?_ ?_; focus (simp only [kS, R1, R2, R3, R4, R5, R6, R7, reduceCtorEq, R9, hq, hr, h4, d1, ws_length, hn, hs, ha]; done)) | refine Qa ?_ | refine Qb ?_ | refine Qc ?_ | refine And.intro (by first | assumption | omega) ?_)
  rw [hasN, Nat.testBit_eq_decide_div_mod_eq]
  rcases Nat.mod_two_eq_zero_or_one (g (c / 64) / 2 ^ (c % 64)) with h | h <;> rw [h] <;> rfl

/-- A byte put in. -/
def addN (g : Nat → Nat) (c : Nat) : Nat → Nat := fun k => if k = c / 64 then g k ||| 2 ^ (c % 64) else g k

theorem pow64 {k : Nat} (h : k < 64) : 2 ^ k < 18446744073709551616 := by
  have : (2 : Nat) ^ k < 2 ^ 64 := Nat.pow_lt_pow_right (by omega) h
  simpa using this
theorem or64 {a b : Nat} (ha : a < 18446744073709551616) (hb : b < 18446744073709551616) : a ||| b < 18446744073709551616 := by
  have := Nat.or_lt_two_pow (n := 64) (x := a) (y := b) (by simpa using ha) (by simpa using hb)
  simpa using this
theorem addN_lt {g : Nat → Nat} (hg : ∀ k, g k < 18446744073709551616) (c : Nat) : ∀ k, addN g c k < 18446744073709551616 := fun k => by
  simp only [addN]
  split
  · exact or64 (hg _) (pow64 (by omega))
  · exact hg _

theorem add65_ret (gl : Gl) (g : Nat → Nat) (hg : ∀ k, g k < 18446744073709551616) (c : Nat) (hc : c < 256) : Ret Tryd.prog gl 65 [.agg (ws g), .c (.sl 1 [.v (.int .u8 (c : Int))])] (.agg (ws (addN g c))) := by
  have he : ws (addN g c) = ws (fun k => if k = c / 64 then (g (c / 64) ||| 2 ^ (c % 64)) else g k) := ws_congr fun k _ => by
    simp only [addN]
    split
    · rename_i h; rw [h]
    · rfl
  rw [he]
  refine retcA 24 Tryd.func65 (by kernel_rfl) rfl (by kernel_rfl) rfl Tryd.underlying46 (by show _ = some 4; kernel_rfl) (by simp) fun Z hN hX hR => ?_
  have hq : IntKind.u8.wrap ((c : Int).tdiv 64) = ((c / 64 : Nat) : Int) := by rw [show (c : Int).tdiv 64 = ((c / 64 : Nat) : Int) from tdiv_nat c 64, wrap_u8 (by omega)]
  have hr : (c : Int).tmod 64 = ((c % 64 : Nat) : Int) := tmod_nat c 64
  have h4 : ((c / 64 : Nat) : Int) < 4 := by omega
  have h4' : c / 64 < 4 := by omega
  have d1 := ws_drop g h4'
  have p1 := ws_put g h4'
  have hn : ¬ ((c % 64 : Nat) : Int) < 0 := by omega
  have hk : c % 64 < 64 := by omega
  have hs : IntKind.u64.wrap (1 * 2 ^ (min (c % 64) IntKind.u64.bits)) = ((2 ^ (c % 64) : Nat) : Int) := by
    have e : min (c % 64) IntKind.u64.bits = c % 64 := by simp only [IntKind.bits]; omega
    rw [e, Int.one_mul, show ((2 : Int) ^ (c % 64)) = ((2 ^ (c % 64) : Nat) : Int) by norm_cast]
    exact wrap_u64 (pow64 hk)
  have ho : IntKind.u64.wrap ((BitVec.ofInt IntKind.u64.bits ((g (c / 64) : Nat) : Int) ||| BitVec.ofInt IntKind.u64.bits ((2 ^ (c % 64) : Nat) : Int)).toNat : Int) = ((g (c / 64) ||| 2 ^ (c % 64) : Nat) : Int) := by
    rw [BitVec.toNat_or, ofI (hg _), ofI (pow64 hk)]
    exact wrap_u64 (or64 (hg _) (pow64 hk))
  repeat (first | ((first | refine Q1 ?_ | refine Q2 ?_); intro Z hN hX hR) | refine Q3 (by kernel_rfl) fun K hK => ?_ | ((first | refine Q4 fun R hJ => ?_ | with_reducible change ExpAll _ _ _); simp only [kS, R1, R2, R3, R4, R5, R6, R7, reduceCtorEq, R9, hq, hr, h4, d1, ws_length, hn, hs, ho]) | (refine hJ _ ?_; clear hJ R) | refine Q5 ?_ | (refine hK _ ?_; clear hK K) | ((first | refine hN _ ?_ | refine hX _ _ ?_ | refine hR _ ?_); clear hN hX hR Z) | refine Q6 rfl ?_ | refine Q7 (by decide) ?_ | (refine Q8 ?_ ?_; focus (simp only [kS, R1, R2, R3, R4, R5, R6, R7, reduceCtorEq, R9, hq, hr, h4, d1, ws_length, hn, hs, ho]; done)) | (refine Q9 ?_ ?_; focus (simp only [kS, R1, R2, R3, R4, R5, R6, R7, reduceCtorEq, R9, hq, hr, h4, d1, ws_length, hn, hs, ho]; done)) | refine Qa ?_ | refine Qb ?_ | refine Qc ?_ | refine And.intro (by first | assumption | omega) ?_)
  refine awq_loop (fun n f => ∃ i : Nat, i ≤ 1 ∧ n = 1 - i ∧ f.t 7 = .c (.sl 1 [.v (.int .u8 (c : Int))]) ∧ f.t 8 = iv 1 ∧ f.t 9 = iv (i : Int) ∧ f.t 2 = .ref 2 1 0 ∧ (i = 0 ∧ f.ob 2 1 = .box (ws g) ∨ i = 1 ∧ f.ob 2 1 = .box (ws (fun k => if k = c / 64 then (g (c / 64) ||| 2 ^ (c % 64)) else g k))) ∧ f.t 4 = .ref 4 1 0 ∧ f.ob 4 1 = .box [.v (.int .u64 0), .v (.int .u64 0), .v (.int .u64 0), .v (.int .u64 0)] ∧ 1 < f.k) 1 ?_ ?_
  · exact ⟨0, by omega, rfl, by simp only [kS, R1, R2, R3, R4, R5, R6, R7, reduceCtorEq, R9], by simp only [kS, R1, R2, R3, R4, R5, R6, R7, reduceCtorEq, R9]; rfl, by simp only [kS, R1, R2, R3, R4, R5, R6, R7, reduceCtorEq, R9]; rfl, by simp only [kS, R1, R2, R3, R4, R5, R6, R7, reduceCtorEq, R9], .inl ⟨rfl, by simp only [kS, R1, R2, R3, R4, R5, R6, R7, reduceCtorEq, R9]⟩, by simp only [kS, R1, R2, R3, R4, R5, R6, R7, reduceCtorEq, R9], by simp only [kS, R1, R2, R3, R4, R5, R6, R7, reduceCtorEq, R9], by (simp only [kS, R1, R2, R3, R4, R5, R6, R7, reduceCtorEq, R9]) <;> first | omega | rfl⟩
  rintro Z n f hN hX hR ⟨i, hi, rfl, h7, h8, h9, h2, hob, ht4, hb4, hkk⟩
  rcases hob with ⟨rfl, hob⟩ | ⟨rfl, hob⟩
  · have z0 : (((0 : Nat) : Int) < 1) := by omega
    repeat (first | ((first | refine Q1 ?_ | refine Q2 ?_); intro Z hN hX hR) | refine Q3 (by kernel_rfl) fun K hK => ?_ | ((first | refine Q4 fun R hJ => ?_ | with_reducible change ExpAll _ _ _); simp only [kS, R1, R2, R3, R4, R5, R6, R7, reduceCtorEq, R9, h7, h8, h9, h2, hob, ht4, hb4, z0, hq, hr, h4, d1, p1, ws_length, hn, hs, ho, decide_true]) | (refine hJ _ ?_; clear hJ R) | refine Q5 ?_ | (refine hK _ ?_; clear hK K) | ((first | refine hN _ ?_ | refine hX _ _ ?_ | refine hR _ ?_); clear hN hX hR Z) | refine Q6 rfl ?_ | refine Q7 (by decide) ?_ | (refine Q8 ?_ ?_; focus (simp only [kS, R1, R2, R3, R4, R5, R6, R7, reduceCtorEq, R9, h7, h8, h9, h2, hob, ht4, hb4, z0, hq, hr, h4, d1, p1, ws_length, hn, hs, ho, decide_true]; done)) | (refine Q9 ?_ ?_; focus (simp only [kS, R1, R2, R3, R4, R5, R6, R7, reduceCtorEq, R9, h7, h8, h9, h2, hob, ht4, hb4, z0, hq, hr, h4, d1, p1, ws_length, hn, hs, ho, decide_true]; done)) | refine Qa ?_ | refine Qb ?_ | refine Qc ?_ | refine And.intro (by first | assumption | omega) ?_)
    refine ⟨0, by omega, 1, by omega, rfl, by simp only [kS, R1, R2, R3, R4, R5, R6, R7, reduceCtorEq, R9, h7], by simp only [kS, R1, R2, R3, R4, R5, R6, R7, reduceCtorEq, R9, h8], ?_, by simp only [kS, R1, R2, R3, R4, R5, R6, R7, reduceCtorEq, R9, h2], .inr ⟨rfl, ?_⟩, by simp only [kS, R1, R2, R3, R4, R5, R6, R7, reduceCtorEq, R9, ht4], by simp only [kS, R1, R2, R3, R4, R5, R6, R7, reduceCtorEq, R9, hb4], by (simp only [kS, R1, R2, R3, R4, R5, R6, R7, reduceCtorEq, R9]) <;> first | omega | rfl⟩
    · simp only [kS, R1, R2, R3, R4, R5, R6, R7, reduceCtorEq, R9]
      rfl
    · simp only [kS, R1, R2, R3, R4, R5, R6, R7, reduceCtorEq, R9, p1, d1, ws_length]
  · have z1 : ¬ (((1 : Nat) : Int) < 1) := by omega
    repeat (first | ((first | refine Q1 ?_ | refine Q2 ?_); intro Z hN hX hR) | refine Q3 (by kernel_rfl) fun K hK => ?_ | ((first | refine Q4 fun R hJ => ?_ | with_reducible change ExpAll _ _ _); simp only [kS, R1, R2, R3, R4, R5, R6, R7, reduceCtorEq, R9, h7, h8, h9, h2, hob, ht4, hb4, z1, ws_length, ws_take, decide_false]) | (refine hJ _ ?_; clear hJ R) | refine Q5 ?_ | (refine hK _ ?_; clear hK K) | ((first | refine hN _ ?_ | refine hX _ _ ?_ | refine hR _ ?_); clear hN hX hR Z) | refine Q6 rfl ?_ | refine Q7 (by decide) ?_ | (refine Q8 ?_ ?_; focus (simp only [kS, R1, R2, R3, R4, R5, R6, R7, reduceCtorEq, R9, h7, h8, h9, h2, hob, ht4, hb4, z1, ws_length, ws_take, decide_false]; done)) | (refine Q9 ?_ ?_; focus (simp only [kS, R1, R2, R3, R4, R5, R6, R7, reduceCtorEq, R9, h7, h8, h9, h2, hob, ht4, hb4, z1, ws_length, ws_take, decide_false]; done)) | refine Qa ?_ | refine Qb ?_ | refine Qc ?_ | refine And.intro (by first | assumption | omega) ?_)
    all_goals exact ⟨1, by (simp only [kS, R1, R2, R3, R4, R5, R6, R7, reduceCtorEq, R9]) <;> first | omega | rfl, by simp only [kS, R1, R2, R3, R4, R5, R6, R7, reduceCtorEq, R9]⟩

def inr (f t i : Nat) : Bool := decide (f ≤ i) && decide (i ≤ t)
/-- The words of a row of bytes, behind the first n bytes. -/
def rowN (f t n : Nat) : Nat → Nat := fun k => bits (fun j => inr f t (64 * k + j) && decide (64 * k + j < n)) 64

theorem rowN_lt (f t n k : Nat) : rowN f t n k < 18446744073709551616 := by
  have := bits_lt (fun j => inr f t (64 * k + j) && decide (64 * k + j < n)) 64
  simpa [rowN] using this

theorem rowN_yes {f t i : Nat} (h : inr f t i = true) (k : Nat) : rowN f t (i + 1) k = addN (rowN f t i) i k := by
  simp only [addN]
  split
  · rename_i e
    subst e
    rw [rowN, rowN, ← bits_or _ _ _ (show i % 64 < 64 by omega)]
    refine bits_congr fun j hj => ?_
    by_cases e : j = i % 64
    · have e2 : 64 * (i / 64) + j = i := by omega
      rw [e2, h]
      simp [e]
    · have hb : (j == i % 64) = false := by simpa using e
      have e2 : decide (64 * (i / 64) + j < i + 1) = decide (64 * (i / 64) + j < i) := by
        rw [decide_eq_decide]; omega
      rw [hb, e2, Bool.or_false]
  · rename_i e
    refine bits_congr fun j hj => ?_
    have e2 : decide (64 * k + j < i + 1) = decide (64 * k + j < i) := by
      rw [decide_eq_decide]; omega
    rw [e2]

theorem rowN_no {f t i : Nat} (h : inr f t i = false) (k : Nat) : rowN f t (i + 1) k = rowN f t i k := by
  refine bits_congr fun j hj => ?_
  by_cases e : 64 * k + j = i
  · rw [e, h]; rfl
  · have e2 : decide (64 * k + j < i + 1) = decide (64 * k + j < i) := by
      rw [decide_eq_decide]; omega
    rw [e2]

theorem rowN_zero (f t k : Nat) : rowN f t 0 k = 0 := by
  have : rowN f t 0 k = bits (fun _ => false) 64 := bits_congr fun j _ => by simp
  rw [this]
  have h : ∀ n, bits (fun _ => false) n = 0 := fun n => by
    induction n with
    | zero => rfl
    | succ n ih => simp [bits, ih]
  exact h 64

theorem of46_ret (gl : Gl) (f t : Nat) (hf : f < 256) (ht : t < 256) : Ret Tryd.prog gl 46 [.c (.v (.int .u8 (f : Int))), .c (.v (.int .u8 (t : Int)))] (.agg (ws (rowN f t 256))) := by
  refine retcA 27 Tryd.func46 (by kernel_rfl) rfl (by kernel_rfl) rfl Tryd.underlying46 (by show _ = some 4; kernel_rfl) (by simp) fun Z hN hX hR => ?_
  repeat (first | ((first | refine Q1 ?_ | refine Q2 ?_); intro Z hN hX hR) | refine Q3 (by kernel_rfl) fun K hK => ?_ | ((first | refine Q4 fun R hJ => ?_ | with_reducible change ExpAll _ _ _); simp only [kS, R1, R2, R3, R4, R5, R6, R7, reduceCtorEq, R9]) | (refine hJ _ ?_; clear hJ R) | refine Q5 ?_ | (refine hK _ ?_; clear hK K) | ((first | refine hN _ ?_ | refine hX _ _ ?_ | refine hR _ ?_); clear hN hX hR Z) | refine Q6 rfl ?_ | refine Q7 (by decide) ?_ | (refine Q8 ?_ ?_; focus (simp only [kS, R1, R2, R3, R4, R5, R6, R7, reduceCtorEq, R9]; done)) | (refine Q9 ?_ ?_; focus (simp only [kS, R1, R2, R3, R4, R5, R6, R7, reduceCtorEq, R9]; done)) | refine Qa ?_ | refine Qb ?_ | refine Qc ?_ | refine And.intro (by first | assumption | omega) ?_)
  refine awq_loop (fun n s => ∃ i : Nat, i ≤ 256 ∧ n = 256 - i ∧ s.t 0 = .c (.v (.int .u8 (f : Int))) ∧ s.t 1 = .c (.v (.int .u8 (t : Int))) ∧ s.t 8 = iv (i : Int) ∧ s.t 5 = .ref 5 2 0 ∧ s.ob 5 2 = .box (ws (rowN f t i)) ∧ s.t 4 = .ref 4 1 0 ∧ s.ob 4 1 = .box [.v (.int .u64 0), .v (.int .u64 0), .v (.int .u64 0), .v (.int .u64 0)] ∧ 2 < s.k) 256 ?_ ?_
  · refine ⟨0, by omega, rfl, by simp only [kS, R1, R2, R3, R4, R5, R6, R7, reduceCtorEq, R9], by simp only [kS, R1, R2, R3, R4, R5, R6, R7, reduceCtorEq, R9], by simp only [kS, R1, R2, R3, R4, R5, R6, R7, reduceCtorEq, R9]; rfl, by simp only [kS, R1, R2, R3, R4, R5, R6, R7, reduceCtorEq, R9], ?_, by simp only [kS, R1, R2, R3, R4, R5, R6, R7, reduceCtorEq, R9], by (simp only [kS, R1, R2, R3, R4, R5, R6, R7, reduceCtorEq, R9]) <;> first | omega | rfl, by (simp only [kS, R1, R2, R3, R4, R5, R6, R7, reduceCtorEq, R9]) <;> first | omega | rfl⟩
    have e : ws (rowN f t 0) = [.v (.int .u64 0), .v (.int .u64 0), .v (.int .u64 0), .v (.int .u64 0)] := by
      simp only [ws, rowN_zero]; rfl
    rw [e]
    simp only [kS, R1, R2, R3, R4, R5, R6, R7, reduceCtorEq, R9]
  rintro Z n s hN hX hR ⟨i, hi, rfl, h0, h1, h8, h5, hb, ht4, hb4, hkk⟩
  by_cases hlt : i < 256
  · have hlt' : (i : Int) < 256 := by omega
    have hcv : IntKind.u8.wrap (i : Int) = (i : Int) := wrap_u8 hlt
    cases g1 : decide ((f : Int) ≤ (i : Int))
    · have hno : inr f t i = false := by
        have : ¬ f ≤ i := by simpa using g1
        simp [inr, this]
      repeat (first | ((first | refine Q1 ?_ | refine Q2 ?_); intro Z hN hX hR) | refine Q3 (by kernel_rfl) fun K hK => ?_ | ((first | refine Q4 fun R hJ => ?_ | with_reducible change ExpAll _ _ _); simp only [kS, R1, R2, R3, R4, R5, R6, R7, reduceCtorEq, R9, h0, h1, h8, h5, hb, ht4, hb4, hlt', hcv, g1, decide_true]) | (refine hJ _ ?_; clear hJ R) | refine Q5 ?_ | (refine hK _ ?_; clear hK K) | ((first | refine hN _ ?_ | refine hX _ _ ?_ | refine hR _ ?_); clear hN hX hR Z) | refine Q6 rfl ?_ | refine Q7 (by decide) ?_ | (refine Q8 ?_ ?_; focus (simp only [kS, R1, R2, R3, R4, R5, R6, R7, reduceCtorEq, R9, h0, h1, h8, h5, hb, ht4, hb4, hlt', hcv, g1, decide_true]; done)) | (refine Q9 ?_ ?_; focus (simp only [kS, R1, R2, R3, R4, R5, R6, R7, reduceCtorEq, R9, h0, h1, h8, h5, hb, ht4, hb4, hlt', hcv, g1, decide_true]; done)) | refine Qa ?_ | refine Qb ?_ | refine Qc ?_ | refine And.intro (by first | assumption | omega) ?_)
      refine ⟨256 - (i + 1), by omega, i + 1, by omega, rfl, by simp only [kS, R1, R2, R3, R4, R5, R6, R7, reduceCtorEq, R9, h0], by simp only [kS, R1, R2, R3, R4, R5, R6, R7, reduceCtorEq, R9, h1], ?_, by simp only [kS, R1, R2, R3, R4, R5, R6, R7, reduceCtorEq, R9, h5], ?_, by simp only [kS, R1, R2, R3, R4, R5, R6, R7, reduceCtorEq, R9, ht4], by simp only [kS, R1, R2, R3, R4, R5, R6, R7, reduceCtorEq, R9, hb4], by (simp only [kS, R1, R2, R3, R4, R5, R6, R7, reduceCtorEq, R9]) <;> first | omega | rfl⟩
      · simp only [kS, R1, R2, R3, R4, R5, R6, R7, reduceCtorEq, R9]
        rw [wrap_i64 (by omega) (by omega)]; rfl
      · rw [ws_congr fun k _ => rowN_no hno k]; simp only [kS, R1, R2, R3, R4, R5, R6, R7, reduceCtorEq, R9, hb]
    · cases g2 : decide ((i : Int) ≤ (t : Int))
      · have hno : inr f t i = false := by
          have : ¬ i ≤ t := by simpa using g2
          simp [inr, this]
        repeat (first | ((first | refine Q1 ?_ | refine Q2 ?_); intro Z hN hX hR) | refine Q3 (by kernel_rfl) fun K hK => ?_ | ((first | refine Q4 fun R hJ => ?_ | with_reducible change ExpAll _ _ _); simp only [kS, R1, R2, R3, R4, R5, R6, R7, reduceCtorEq, R9, h0, h1, h8, h5, hb, ht4, hb4, hlt', hcv, g1, g2, decide_true]) | (refine hJ _ ?_; clear hJ R) | refine Q5 ?_ | (refine hK _ ?_; clear hK K) | ((first | refine hN _ ?_ | refine hX _ _ ?_ | refine hR _ ?_); clear hN hX hR Z) | refine Q6 rfl ?_ | refine Q7 (by decide) ?_ | (refine Q8 ?_ ?_; focus (simp only [kS, R1, R2, R3, R4, R5, R6, R7, reduceCtorEq, R9, h0, h1, h8, h5, hb, ht4, hb4, hlt', hcv, g1, g2, decide_true]; done)) | (refine Q9 ?_ ?_; focus (simp only [kS, R1, R2, R3, R4, R5, R6, R7, reduceCtorEq, R9, h0, h1, h8, h5, hb, ht4, hb4, hlt', hcv, g1, g2, decide_true]; done)) | refine Qa ?_ | refine Qb ?_ | refine Qc ?_ | refine And.intro (by first | assumption | omega) ?_)
        refine ⟨256 - (i + 1), by omega, i + 1, by omega, rfl, by simp only [kS, R1, R2, R3, R4, R5, R6, R7, reduceCtorEq, R9, h0], by simp only [kS, R1, R2, R3, R4, R5, R6, R7, reduceCtorEq, R9, h1], ?_, by simp only [kS, R1, R2, R3, R4, R5, R6, R7, reduceCtorEq, R9, h5], ?_, by simp only [kS, R1, R2, R3, R4, R5, R6, R7, reduceCtorEq, R9, ht4], by simp only [kS, R1, R2, R3, R4, R5, R6, R7, reduceCtorEq, R9, hb4], by (simp only [kS, R1, R2, R3, R4, R5, R6, R7, reduceCtorEq, R9]) <;> first | omega | rfl⟩
        · simp only [kS, R1, R2, R3, R4, R5, R6, R7, reduceCtorEq, R9]
          rw [wrap_i64 (by omega) (by omega)]; rfl
        · rw [ws_congr fun k _ => rowN_no hno k]; simp only [kS, R1, R2, R3, R4, R5, R6, R7, reduceCtorEq, R9, hb]
      · have hyes : inr f t i = true := by
          have a1 : f ≤ i := by simpa using g1
          have a2 : i ≤ t := by simpa using g2
          simp [inr, a1, a2]
        have ha := add65_ret gl (rowN f t i) (rowN_lt f t i) i hlt
        repeat (first | ((first | refine Q1 ?_ | refine Q2 ?_); intro Z hN hX hR) | refine Q3 (by kernel_rfl) fun K hK => ?_ | ((first | refine Q4 fun R hJ => ?_ | with_reducible change ExpAll _ _ _); simp only [kS, R1, R2, R3, R4, R5, R6, R7, reduceCtorEq, R9, h0, h1, h8, h5, hb, ht4, hb4, hlt', hcv, g1, g2, ws_length, ws_take, decide_true]) | (refine hJ _ ?_; clear hJ R) | refine Q5 ?_ | (refine hK _ ?_; clear hK K) | ((first | refine hN _ ?_ | refine hX _ _ ?_ | refine hR _ ?_); clear hN hX hR Z) | refine Q6 rfl ?_ | refine Q7 (by decide) ?_ | (refine Q8 ?_ ?_; focus (simp only [kS, R1, R2, R3, R4, R5, R6, R7, reduceCtorEq, R9, h0, h1, h8, h5, hb, ht4, hb4, hlt', hcv, g1, g2, ws_length, ws_take, decide_true]; done)) | (refine Q9 ?_ ?_; focus (simp only [kS, R1, R2, R3, R4, R5, R6, R7, reduceCtorEq, R9, h0, h1, h8, h5, hb, ht4, hb4, hlt', hcv, g1, g2, ws_length, ws_take, decide_true]; done)) | refine Qa ?_ | refine Qb ?_ | refine Qc ?_ | refine And.intro (by first | assumption | omega) ?_)
        refine ⟨_, ha, rfl, ?_⟩
        simp only [kS, R1, R2, R3, R4, R5, R6, R7, reduceCtorEq, R9, ws_length, ws_take]
        repeat (first | ((first | refine Q1 ?_ | refine Q2 ?_); intro Z hN hX hR) | refine Q3 (by kernel_rfl) fun K hK => ?_ | ((first | refine Q4 fun R hJ => ?_ | with_reducible change ExpAll _ _ _); simp only [kS, R1, R2, R3, R4, R5, R6, R7, reduceCtorEq, R9, h0, h1, h8, h5, hb, ht4, hb4, ws_length, ws_take, tk1, tk2, tk3, tk4, tk5, tk6, tk7, tk8, and_false, false_and]) | (refine hJ _ ?_; clear hJ R) | refine Q5 ?_ | (refine hK _ ?_; clear hK K) | ((first | refine hN _ ?_ | refine hX _ _ ?_ | refine hR _ ?_); clear hN hX hR Z) | refine Q6 rfl ?_ | refine Q7 (by decide) ?_ | (refine Q8 ?_ ?_; focus (simp only [kS, R1, R2, R3, R4, R5, R6, R7, reduceCtorEq, R9, h0, h1, h8, h5, hb, ht4, hb4, ws_length, ws_take, tk1, tk2, tk3, tk4, tk5, tk6, tk7, tk8, and_false, false_and]; done)) | (refine Q9 ?_ ?_; focus (simp only [kS, R1, R2, R3, R4, R5, R6, R7, reduceCtorEq, R9, h0, h1, h8, h5, hb, ht4, hb4, ws_length, ws_take, tk1, tk2, tk3, tk4, tk5, tk6, tk7, tk8, and_false, false_and]; done)) | refine Qa ?_ | refine Qb ?_ | refine Qc ?_ | refine And.intro (by first | assumption | omega) ?_)
        refine ⟨256 - (i + 1), by omega, i + 1, by omega, rfl, by simp only [kS, R1, R2, R3, R4, R5, R6, R7, reduceCtorEq, R9, h0], by simp only [kS, R1, R2, R3, R4, R5, R6, R7, reduceCtorEq, R9, h1], ?_, by simp only [kS, R1, R2, R3, R4, R5, R6, R7, reduceCtorEq, R9, h5], ?_, by simp only [kS, R1, R2, R3, R4, R5, R6, R7, reduceCtorEq, R9, ht4], by simp only [kS, R1, R2, R3, R4, R5, R6, R7, reduceCtorEq, R9, hb4, tk1, tk2, tk3, tk4, tk5, tk6, tk7, tk8, and_false, false_and], by (simp only [kS, R1, R2, R3, R4, R5, R6, R7, reduceCtorEq, R9]) <;> first | omega | rfl⟩
        · simp only [kS, R1, R2, R3, R4, R5, R6, R7, reduceCtorEq, R9]
          rw [wrap_i64 (by omega) (by omega)]; rfl
        · rw [ws_congr fun k _ => rowN_yes hyes k]
          have : (ws (rowN f t i)).drop 4 = [] := rfl
          simp only [kS, R1, R2, R3, R4, R5, R6, R7, reduceCtorEq, R9, ws_length, this, tk1, tk2, tk3, tk4, tk5, tk6, tk7, tk8, and_false, false_and]
  · have hlt' : ¬ (i : Int) < 256 := by omega
    have hi : i = 256 := by omega
    rw [hi] at hb
    repeat (first | ((first | refine Q1 ?_ | refine Q2 ?_); intro Z hN hX hR) | refine Q3 (by kernel_rfl) fun K hK => ?_ | ((first | refine Q4 fun R hJ => ?_ | with_reducible change ExpAll _ _ _); simp only [kS, R1, R2, R3, R4, R5, R6, R7, reduceCtorEq, R9, h0, h1, h8, h5, hb, ht4, hb4, hlt', ws_length, ws_take, decide_false]) | (refine hJ _ ?_; clear hJ R) | refine Q5 ?_ | (refine hK _ ?_; clear hK K) | ((first | refine hN _ ?_ | refine hX _ _ ?_ | refine hR _ ?_); clear hN hX hR Z) | refine Q6 rfl ?_ | refine Q7 (by decide) ?_ | (refine Q8 ?_ ?_; focus (simp only [kS, R1, R2, R3, R4, R5, R6, R7, reduceCtorEq, R9, h0, h1, h8, h5, hb, ht4, hb4, hlt', ws_length, ws_take, decide_false]; done)) | (refine Q9 ?_ ?_; focus (simp only [kS, R1, R2, R3, R4, R5, R6, R7, reduceCtorEq, R9, h0, h1, h8, h5, hb, ht4, hb4, hlt', ws_length, ws_take, decide_false]; done)) | refine Qa ?_ | refine Qb ?_ | refine Qc ?_ | refine And.intro (by first | assumption | omega) ?_)
    all_goals exact ⟨1, by (simp only [kS, R1, R2, R3, R4, R5, R6, R7, reduceCtorEq, R9]) <;> first | omega | rfl, by simp only [kS, R1, R2, R3, R4, R5, R6, R7, reduceCtorEq, R9, ws_length]⟩

end Go.Proofs.YtilhjiopbbbgmaaDoor

/- The classes of a byte each, and the document's class of a list. -/
namespace Go.Proofs.YtilhjiopbbbgmaaDoor
open Nat renaming reduceSub → R1, reduceMul → R2, reduceLeDiff → R3, reducePow → R4, reduceBEq → R5, reduceAdd → R6, reduceEqDiff → R7
open Int renaming reduceToNat → R9
open Go Go.RowKit Am
set_option linter.unusedVariables false
set_option linter.unusedSimpArgs false
set_option maxHeartbeats 4000000
attribute [local irreducible] AWp AOps

/-- Classes, one behind another. -/
def clC (l : List (Nat → Nat)) : List C := l.flatMap ws
theorem clC_length (l : List (Nat → Nat)) : (clC l).length = l.length * 4 := by
  induction l with
  | nil => rfl
  | cons x l ih => simp [clC, ws_length] at ih ⊢; omega
theorem clC_append (a b : List (Nat → Nat)) : clC (a ++ b) = clC a ++ clC b := by simp [clC]
abbrev clS (l : List (Nat → Nat)) : C := .sl l.length (clC l)

def one (c : Nat) : Nat → Nat := rowN c c 256
def singles (n : Nat) : List (Nat → Nat) := (List.range n).map one
theorem singles_succ (n : Nat) : singles (n + 1) = singles n ++ [one n] := by simp [singles, List.range_succ]
theorem singles_length (n : Nat) : (singles n).length = n := by simp [singles]

theorem singles_ret (gl : Gl) : Ret Tryd.prog gl 47 [] (.c (clS (singles 256))) := by
  refine retq (rs := [0]) 16 Tryd.func47 (by kernel_rfl) rfl (by kernel_rfl) rfl (by simp) (by simp) fun Z hN hX hR => ?_
  repeat (first | ((first | refine Q1 ?_ | refine Q2 ?_); intro Z hN hX hR) | refine Q3 (by kernel_rfl) fun K hK => ?_ | ((first | refine Q4 fun R hJ => ?_ | with_reducible change ExpAll _ _ _); simp only [kS, R1, R2, R3, R4, R5, R6, R7, reduceCtorEq, R9]) | (refine hJ _ ?_; clear hJ R) | refine Q5 ?_ | (refine hK _ ?_; clear hK K) | ((first | refine hN _ ?_ | refine hX _ _ ?_ | refine hR _ ?_); clear hN hX hR Z) | refine Q6 rfl ?_ | refine Q7 (by decide) ?_ | (refine Q8 ?_ ?_; focus (simp only [kS, R1, R2, R3, R4, R5, R6, R7, reduceCtorEq, R9]; done)) | (refine Q9 ?_ ?_; focus (simp only [kS, R1, R2, R3, R4, R5, R6, R7, reduceCtorEq, R9]; done)) | refine Qa ?_ | refine Qb ?_ | refine Qc ?_ | refine And.intro (by first | assumption | omega) ?_)
  refine awq_loop (fun n s => ∃ i : Nat, i ≤ 256 ∧ n = 256 - i ∧ s.t 3 = iv (i : Int) ∧ ((s.t 1 = .nil ∧ i = 0) ∨ ∃ d t, s.t 1 = .tok d t (singles i).length (clC (singles i)) ∧ s.ob d t = .live 46 4 ∧ t ≤ s.k)) 256 ?_ ?_
  · exact ⟨0, by omega, rfl, by simp only [kS, R1, R2, R3, R4, R5, R6, R7, reduceCtorEq, R9]; rfl, .inl ⟨by simp only [kS, R1, R2, R3, R4, R5, R6, R7, reduceCtorEq, R9], rfl⟩⟩
  rintro Z n s hN hX hR ⟨i, hi, rfl, h3, h1⟩
  by_cases hlt : i < 256
  · have hlt' : (i : Int) < 256 := by omega
    have hcv : IntKind.u8.wrap (i : Int) = (i : Int) := wrap_u8 hlt
    have ho := of46_ret gl i i hlt hlt
    have hcl := clC_length (singles i)
    have hsl := singles_length i
    rw [hsl] at hcl
    rcases h1 with ⟨h1, rfl⟩ | ⟨d, t, h1, hob, ht⟩
    · repeat (first | ((first | refine Q1 ?_ | refine Q2 ?_); intro Z hN hX hR) | refine Q3 (by kernel_rfl) fun K hK => ?_ | ((first | refine Q4 fun R hJ => ?_ | with_reducible change ExpAll _ _ _); simp only [kS, R1, R2, R3, R4, R5, R6, R7, reduceCtorEq, R9, h1, h3, hlt', hcv, decide_true, ws_length, ws_take]) | (refine hJ _ ?_; clear hJ R) | refine Q5 ?_ | (refine hK _ ?_; clear hK K) | ((first | refine hN _ ?_ | refine hX _ _ ?_ | refine hR _ ?_); clear hN hX hR Z) | refine Q6 rfl ?_ | refine Q7 (by decide) ?_ | (refine Q8 ?_ ?_; focus (simp only [kS, R1, R2, R3, R4, R5, R6, R7, reduceCtorEq, R9, h1, h3, hlt', hcv, decide_true, ws_length, ws_take]; done)) | (refine Q9 ?_ ?_; focus (simp only [kS, R1, R2, R3, R4, R5, R6, R7, reduceCtorEq, R9, h1, h3, hlt', hcv, decide_true, ws_length, ws_take]; done)) | refine Qa ?_ | refine Qb ?_ | refine Qc ?_ | refine And.intro (by first | assumption | omega) ?_)
      refine ⟨_, ho, rfl, ?_⟩
      simp only [kS, R1, R2, R3, R4, R5, R6, R7, reduceCtorEq, R9, ws_length, ws_take]
      repeat (first | ((first | refine Q1 ?_ | refine Q2 ?_); intro Z hN hX hR) | refine Q3 (by kernel_rfl) fun K hK => ?_ | ((first | refine Q4 fun R hJ => ?_ | with_reducible change ExpAll _ _ _); simp only [kS, R1, R2, R3, R4, R5, R6, R7, reduceCtorEq, R9, h1, h3, ws_length, ws_take, tk1, tk2, tk3, tk4, tk5, tk6, tk7, tk8, and_false, false_and]) | (refine hJ _ ?_; clear hJ R) | refine Q5 ?_ | (refine hK _ ?_; clear hK K) | ((first | refine hN _ ?_ | refine hX _ _ ?_ | refine hR _ ?_); clear hN hX hR Z) | refine Q6 rfl ?_ | refine Q7 (by decide) ?_ | (refine Q8 ?_ ?_; focus (simp only [kS, R1, R2, R3, R4, R5, R6, R7, reduceCtorEq, R9, h1, h3, ws_length, ws_take, tk1, tk2, tk3, tk4, tk5, tk6, tk7, tk8, and_false, false_and]; done)) | (refine Q9 ?_ ?_; focus (simp only [kS, R1, R2, R3, R4, R5, R6, R7, reduceCtorEq, R9, h1, h3, ws_length, ws_take, tk1, tk2, tk3, tk4, tk5, tk6, tk7, tk8, and_false, false_and]; done)) | refine Qa ?_ | refine Qb ?_ | refine Qc ?_ | refine And.intro (by first | assumption | omega) ?_)
      refine ⟨256 - (0 + 1), by omega, 0 + 1, by omega, rfl, ?_, .inr ⟨_, _, by simp only [kS, R1, R2, R3, R4, R5, R6, R7, reduceCtorEq, R9, singles_succ, clC_append, ws_length, ws_take, tk1, tk2, tk3, tk4, tk5, tk6, tk7, tk8, and_false, false_and]; exact rfl, by simp only [kS, R1, R2, R3, R4, R5, R6, R7, reduceCtorEq, R9], by (simp only [kS, R1, R2, R3, R4, R5, R6, R7, reduceCtorEq, R9]) <;> first | omega | rfl⟩⟩
      simp only [kS, R1, R2, R3, R4, R5, R6, R7, reduceCtorEq, R9]
      rfl
    · repeat (first | ((first | refine Q1 ?_ | refine Q2 ?_); intro Z hN hX hR) | refine Q3 (by kernel_rfl) fun K hK => ?_ | ((first | refine Q4 fun R hJ => ?_ | with_reducible change ExpAll _ _ _); simp only [kS, R1, R2, R3, R4, R5, R6, R7, reduceCtorEq, R9, h1, h3, hob, ht, hcl, hlt', hcv, decide_true, ws_length, ws_take, tk1, tk2, tk3, tk4, tk5, tk6, tk7, tk8, and_false, false_and]) | (refine hJ _ ?_; clear hJ R) | refine Q5 ?_ | (refine hK _ ?_; clear hK K) | ((first | refine hN _ ?_ | refine hX _ _ ?_ | refine hR _ ?_); clear hN hX hR Z) | refine Q6 rfl ?_ | refine Q7 (by decide) ?_ | (refine Q8 ?_ ?_; focus (simp only [kS, R1, R2, R3, R4, R5, R6, R7, reduceCtorEq, R9, h1, h3, hob, ht, hcl, hlt', hcv, decide_true, ws_length, ws_take, tk1, tk2, tk3, tk4, tk5, tk6, tk7, tk8, and_false, false_and]; done)) | (refine Q9 ?_ ?_; focus (simp only [kS, R1, R2, R3, R4, R5, R6, R7, reduceCtorEq, R9, h1, h3, hob, ht, hcl, hlt', hcv, decide_true, ws_length, ws_take, tk1, tk2, tk3, tk4, tk5, tk6, tk7, tk8, and_false, false_and]; done)) | refine Qa ?_ | refine Qb ?_ | refine Qc ?_ | refine And.intro (by first | assumption | omega) ?_)
      refine ⟨_, ho, rfl, ?_⟩
      simp only [kS, R1, R2, R3, R4, R5, R6, R7, reduceCtorEq, R9, h1, hob, ht, hcl, hsl, ws_length, ws_take, tk1, tk2, tk3, tk4, tk5, tk6, tk7, tk8, and_false, false_and]
      repeat (first | ((first | refine Q1 ?_ | refine Q2 ?_); intro Z hN hX hR) | refine Q3 (by kernel_rfl) fun K hK => ?_ | ((first | refine Q4 fun R hJ => ?_ | with_reducible change ExpAll _ _ _); simp only [kS, R1, R2, R3, R4, R5, R6, R7, reduceCtorEq, R9, h1, h3, hob, ht, hcl, hsl, ws_length, ws_take, tk1, tk2, tk3, tk4, tk5, tk6, tk7, tk8, and_false, false_and]) | (refine hJ _ ?_; clear hJ R) | refine Q5 ?_ | (refine hK _ ?_; clear hK K) | ((first | refine hN _ ?_ | refine hX _ _ ?_ | refine hR _ ?_); clear hN hX hR Z) | refine Q6 rfl ?_ | refine Q7 (by decide) ?_ | (refine Q8 ?_ ?_; focus (simp only [kS, R1, R2, R3, R4, R5, R6, R7, reduceCtorEq, R9, h1, h3, hob, ht, hcl, hsl, ws_length, ws_take, tk1, tk2, tk3, tk4, tk5, tk6, tk7, tk8, and_false, false_and]; done)) | (refine Q9 ?_ ?_; focus (simp only [kS, R1, R2, R3, R4, R5, R6, R7, reduceCtorEq, R9, h1, h3, hob, ht, hcl, hsl, ws_length, ws_take, tk1, tk2, tk3, tk4, tk5, tk6, tk7, tk8, and_false, false_and]; done)) | refine Qa ?_ | refine Qb ?_ | refine Qc ?_ | refine And.intro (by first | assumption | omega) ?_)
      refine ⟨256 - (i + 1), by omega, i + 1, by omega, rfl, ?_, .inr ⟨_, _, by simp only [kS, R1, R2, R3, R4, R5, R6, R7, reduceCtorEq, R9, singles_succ, clC_append, hsl, ws_length, ws_take, tk1, tk2, tk3, tk4, tk5, tk6, tk7, tk8, and_false, false_and]; exact rfl, by simp only [kS, R1, R2, R3, R4, R5, R6, R7, reduceCtorEq, R9], by (simp only [kS, R1, R2, R3, R4, R5, R6, R7, reduceCtorEq, R9]) <;> first | omega | rfl⟩⟩
      simp only [kS, R1, R2, R3, R4, R5, R6, R7, reduceCtorEq, R9]
      rw [wrap_i64 (by omega) (by omega)]; rfl
  · have hlt' : ¬ (i : Int) < 256 := by omega
    have hi : i = 256 := by omega
    subst hi
    rcases h1 with ⟨h1, h2⟩ | ⟨d, t, h1, hob, ht⟩
    · cases h2
    · repeat (first | ((first | refine Q1 ?_ | refine Q2 ?_); intro Z hN hX hR) | refine Q3 (by kernel_rfl) fun K hK => ?_ | ((first | refine Q4 fun R hJ => ?_ | with_reducible change ExpAll _ _ _); simp only [kS, R1, R2, R3, R4, R5, R6, R7, reduceCtorEq, R9, h1, h3, hlt', decide_false]) | (refine hJ _ ?_; clear hJ R) | refine Q5 ?_ | (refine hK _ ?_; clear hK K) | ((first | refine hN _ ?_ | refine hX _ _ ?_ | refine hR _ ?_); clear hN hX hR Z) | refine Q6 rfl ?_ | refine Q7 (by decide) ?_ | (refine Q8 ?_ ?_; focus (simp only [kS, R1, R2, R3, R4, R5, R6, R7, reduceCtorEq, R9, h1, h3, hlt', decide_false]; done)) | (refine Q9 ?_ ?_; focus (simp only [kS, R1, R2, R3, R4, R5, R6, R7, reduceCtorEq, R9, h1, h3, hlt', decide_false]; done)) | refine Qa ?_ | refine Qb ?_ | refine Qc ?_ | refine And.intro (by first | assumption | omega) ?_)
      all_goals exact .inl trivial

/-- Bools, one behind another. -/
def blC (l : List Bool) : List C := l.map fun b => C.v (.bool b)
theorem blC_length (l : List Bool) : (blC l).length = l.length := by simp [blC]
theorem blC_drop (l : List Bool) (i : Nat) (h : i < l.length) : (blC l).drop i = .v (.bool l[i]) :: blC (l.drop (i + 1)) := by
  simp only [blC, ← List.map_drop, List.drop_eq_getElem_cons h, List.map_cons]

def pw (i : Nat) : Int := if i < 64 then ((2 ^ i : Nat) : Int) else 0
theorem pw_succ {i : Nat} (h : i < 64) : IntKind.u64.wrap (pw i * 2) = pw (i + 1) := by
  simp only [pw, if_pos h]
  have e : ((2 ^ i : Nat) : Int) * 2 = ((2 ^ (i + 1) : Nat) : Int) := by rw [Nat.pow_succ]; omega
  rw [e]
  by_cases h2 : i + 1 < 64
  · rw [if_pos h2]; exact wrap_u64 (pow64 h2)
  · have : i + 1 = 64 := by omega
    rw [this]; rfl

/-- The words, behind the words before w and the first i bits of word w. -/
def ofN (l : List Bool) (w i : Nat) : Nat → Nat := fun k => if k < w then bits (fun j => l.getD (64 * k + j) false) 64 else if k = w then bits (fun j => l.getD (64 * w + j) false) i else 0
theorem ofN_lt (l : List Bool) (w i : Nat) (hi : i ≤ 64) (k : Nat) : ofN l w i k < 18446744073709551616 := by
  simp only [ofN]
  split
  · have := bits_lt (fun j => l.getD (64 * k + j) false) 64; simpa using this
  · split
    · have h := bits_lt (fun j => l.getD (64 * w + j) false) i
      have h2 : 2 ^ i ≤ 2 ^ 64 := Nat.pow_le_pow_right (by omega) hi
      have : (2 : Nat) ^ 64 = 18446744073709551616 := by decide
      omega
    · omega

theorem of64_ret (gl : Gl) (l : List Bool) (hl : l.length = 256) : Ret Tryd.prog gl 64 [.c (.sl 256 (blC l))] (.agg (ws (ofN l 4 0))) := by
  refine retcA 32 Tryd.func64 (by kernel_rfl) rfl (by kernel_rfl) rfl Tryd.underlying46 (by show _ = some 4; kernel_rfl) (by simp) fun Z hN hX hR => ?_
  have z4 : ∀ k, ofN l 0 0 k = 0 := fun k => by simp only [ofN, bits]; split; omega; split <;> rfl
  repeat (first | ((first | refine Q1 ?_ | refine Q2 ?_); intro Z hN hX hR) | refine Q3 (by kernel_rfl) fun K hK => ?_ | ((first | refine Q4 fun R hJ => ?_ | with_reducible change ExpAll _ _ _); simp only [kS, R1, R2, R3, R4, R5, R6, R7, reduceCtorEq, R9]) | (refine hJ _ ?_; clear hJ R) | refine Q5 ?_ | (refine hK _ ?_; clear hK K) | ((first | refine hN _ ?_ | refine hX _ _ ?_ | refine hR _ ?_); clear hN hX hR Z) | refine Q6 rfl ?_ | refine Q7 (by decide) ?_ | (refine Q8 ?_ ?_; focus (simp only [kS, R1, R2, R3, R4, R5, R6, R7, reduceCtorEq, R9]; done)) | (refine Q9 ?_ ?_; focus (simp only [kS, R1, R2, R3, R4, R5, R6, R7, reduceCtorEq, R9]; done)) | refine Qa ?_ | refine Qb ?_ | refine Qc ?_ | refine And.intro (by first | assumption | omega) ?_)
  refine awq_loop (fun n s => ∃ w : Nat, w ≤ 4 ∧ n = 4 - w ∧ s.t 0 = .c (.sl 256 (blC l)) ∧ s.t 4 = iv (w : Int) ∧ s.t 3 = .ref 3 2 0 ∧ s.ob 3 2 = .box (ws (ofN l w 0)) ∧ s.t 2 = .ref 2 1 0 ∧ s.ob 2 1 = .box [.v (.int .u64 0), .v (.int .u64 0), .v (.int .u64 0), .v (.int .u64 0)] ∧ 2 < s.k) 4 ?_ ?_
  · refine ⟨0, by omega, rfl, by simp only [kS, R1, R2, R3, R4, R5, R6, R7, reduceCtorEq, R9], by simp only [kS, R1, R2, R3, R4, R5, R6, R7, reduceCtorEq, R9]; rfl, by simp only [kS, R1, R2, R3, R4, R5, R6, R7, reduceCtorEq, R9], ?_, by simp only [kS, R1, R2, R3, R4, R5, R6, R7, reduceCtorEq, R9], by (simp only [kS, R1, R2, R3, R4, R5, R6, R7, reduceCtorEq, R9]) <;> first | omega | rfl, by (simp only [kS, R1, R2, R3, R4, R5, R6, R7, reduceCtorEq, R9]) <;> first | omega | rfl⟩
    have e : ws (ofN l 0 0) = [.v (.int .u64 0), .v (.int .u64 0), .v (.int .u64 0), .v (.int .u64 0)] := by
      simp only [ws, z4]; rfl
    rw [e]
    simp only [kS, R1, R2, R3, R4, R5, R6, R7, reduceCtorEq, R9]
  rintro Z n s hN hX hR ⟨w, hw, rfl, h0, h4, h3, hb, h2, hb2, hkk⟩
  by_cases hlt : w < 4
  · have hlt' : (w : Int) < 4 := by omega
    repeat (first | ((first | refine Q1 ?_ | refine Q2 ?_); intro Z hN hX hR) | refine Q3 (by kernel_rfl) fun K hK => ?_ | ((first | refine Q4 fun R hJ => ?_ | with_reducible change ExpAll _ _ _); simp only [kS, R1, R2, R3, R4, R5, R6, R7, reduceCtorEq, R9, h0, h4, h3, hb, h2, hb2, hlt', decide_true]) | (refine hJ _ ?_; clear hJ R) | refine Q5 ?_ | (refine hK _ ?_; clear hK K) | ((first | refine hN _ ?_ | refine hX _ _ ?_ | refine hR _ ?_); clear hN hX hR Z) | refine Q6 rfl ?_ | refine Q7 (by decide) ?_ | (refine Q8 ?_ ?_; focus (simp only [kS, R1, R2, R3, R4, R5, R6, R7, reduceCtorEq, R9, h0, h4, h3, hb, h2, hb2, hlt', decide_true]; done)) | (refine Q9 ?_ ?_; focus (simp only [kS, R1, R2, R3, R4, R5, R6, R7, reduceCtorEq, R9, h0, h4, h3, hb, h2, hb2, hlt', decide_true]; done)) | refine Qa ?_ | refine Qb ?_ | refine Qc ?_ | refine And.intro (by first | assumption | omega) ?_)
    refine awq_loop (fun n s => ∃ i : Nat, i ≤ 64 ∧ n = 64 - i ∧ s.t 0 = .c (.sl 256 (blC l)) ∧ s.t 4 = iv (w : Int) ∧ s.t 6 = iv (i : Int) ∧ s.t 5 = .c (.v (.int .u64 (pw i))) ∧ s.t 3 = .ref 3 2 0 ∧ s.ob 3 2 = .box (ws (ofN l w i)) ∧ s.t 2 = .ref 2 1 0 ∧ s.ob 2 1 = .box [.v (.int .u64 0), .v (.int .u64 0), .v (.int .u64 0), .v (.int .u64 0)] ∧ 2 < s.k) 64 ?_ ?_
    · exact ⟨0, by omega, rfl, by simp only [kS, R1, R2, R3, R4, R5, R6, R7, reduceCtorEq, R9, h0], by simp only [kS, R1, R2, R3, R4, R5, R6, R7, reduceCtorEq, R9, h4], by simp only [kS, R1, R2, R3, R4, R5, R6, R7, reduceCtorEq, R9]; rfl, by simp only [kS, R1, R2, R3, R4, R5, R6, R7, reduceCtorEq, R9]; rfl, by simp only [kS, R1, R2, R3, R4, R5, R6, R7, reduceCtorEq, R9, h3], by simp only [kS, R1, R2, R3, R4, R5, R6, R7, reduceCtorEq, R9, hb], by simp only [kS, R1, R2, R3, R4, R5, R6, R7, reduceCtorEq, R9, h2], by simp only [kS, R1, R2, R3, R4, R5, R6, R7, reduceCtorEq, R9, hb2], by (simp only [kS, R1, R2, R3, R4, R5, R6, R7, reduceCtorEq, R9]) <;> first | omega | rfl⟩
    rintro Z n s hN hX hR ⟨i, hi, rfl, h0, h4, h6, h5, h3, hb, h2, hb2, hkk⟩
    by_cases hlt2 : i < 64
    · have hlt2' : (i : Int) < 64 := by omega
      have hw1 : IntKind.i64.wrap (64 * (w : Int)) = ((64 * w : Nat) : Int) := by rw [wrap_i64 (by omega) (by omega)]; omega
      have hw2 : IntKind.i64.wrap (((64 * w : Nat) : Int) + (i : Int)) = ((64 * w + i : Nat) : Int) := by rw [wrap_i64 (by omega) (by omega)]; omega
      have hw3 : ((64 * w + i : Nat) : Int) < 256 := by omega
      have hin : 64 * w + i < l.length := by omega
      have dl := blC_drop l (64 * w + i) hin
      have hbl := blC_length l
      rw [hl] at hbl
      have d1 := ws_drop (ofN l w i) hlt
      have p1 := ws_put (ofN l w i) hlt
      have hpw : pw i = ((2 ^ i : Nat) : Int) := by simp only [pw, if_pos hlt2]
      have hgw : ofN l w i w = bits (fun j => l.getD (64 * w + j) false) i := by simp [ofN]
      have hlt3 := bits_lt (fun j => l.getD (64 * w + j) false) (i + 1)
      have hle3 : 2 ^ (i + 1) ≤ 2 ^ 64 := Nat.pow_le_pow_right (by omega) (by omega)
      have h64 : (2 : Nat) ^ 64 = 18446744073709551616 := by decide
      have hpn := pw_succ hlt2
      have hget : l.getD (64 * w + i) false = l[64 * w + i] := by simp [List.getD, hin]
      cases hc : l[64 * w + i]
      · have hs : ws (ofN l w (i + 1)) = ws (ofN l w i) := ws_congr fun k _ => by
          simp only [ofN, bits, hget, hc]
          rfl
        rw [hc] at dl
        repeat (first | ((first | refine Q1 ?_ | refine Q2 ?_); intro Z hN hX hR) | refine Q3 (by kernel_rfl) fun K hK => ?_ | ((first | refine Q4 fun R hJ => ?_ | with_reducible change ExpAll _ _ _); simp only [kS, R1, R2, R3, R4, R5, R6, R7, reduceCtorEq, R9, h0, h4, h6, h5, h3, hb, h2, hb2, hlt2', hw1, hw2, hw3, dl, hbl, hpn, decide_true]) | (refine hJ _ ?_; clear hJ R) | refine Q5 ?_ | (refine hK _ ?_; clear hK K) | ((first | refine hN _ ?_ | refine hX _ _ ?_ | refine hR _ ?_); clear hN hX hR Z) | refine Q6 rfl ?_ | refine Q7 (by decide) ?_ | (refine Q8 ?_ ?_; focus (simp only [kS, R1, R2, R3, R4, R5, R6, R7, reduceCtorEq, R9, h0, h4, h6, h5, h3, hb, h2, hb2, hlt2', hw1, hw2, hw3, dl, hbl, hpn, decide_true]; done)) | (refine Q9 ?_ ?_; focus (simp only [kS, R1, R2, R3, R4, R5, R6, R7, reduceCtorEq, R9, h0, h4, h6, h5, h3, hb, h2, hb2, hlt2', hw1, hw2, hw3, dl, hbl, hpn, decide_true]; done)) | refine Qa ?_ | refine Qb ?_ | refine Qc ?_ | refine And.intro (by first | assumption | omega) ?_)
        refine ⟨64 - (i + 1), by omega, i + 1, by omega, rfl, by simp only [kS, R1, R2, R3, R4, R5, R6, R7, reduceCtorEq, R9, h0], by simp only [kS, R1, R2, R3, R4, R5, R6, R7, reduceCtorEq, R9, h4], ?_, by simp only [kS, R1, R2, R3, R4, R5, R6, R7, reduceCtorEq, R9], by simp only [kS, R1, R2, R3, R4, R5, R6, R7, reduceCtorEq, R9, h3], by rw [hs]; simp only [kS, R1, R2, R3, R4, R5, R6, R7, reduceCtorEq, R9, hb], by simp only [kS, R1, R2, R3, R4, R5, R6, R7, reduceCtorEq, R9, h2], by simp only [kS, R1, R2, R3, R4, R5, R6, R7, reduceCtorEq, R9, hb2], by (simp only [kS, R1, R2, R3, R4, R5, R6, R7, reduceCtorEq, R9]) <;> first | omega | rfl⟩
        simp only [kS, R1, R2, R3, R4, R5, R6, R7, reduceCtorEq, R9]
        rw [wrap_i64 (by omega) (by omega)]; rfl
      · have hadd : IntKind.u64.wrap (((ofN l w i w : Nat) : Int) + pw i) = ((bits (fun j => l.getD (64 * w + j) false) (i + 1) : Nat) : Int) := by
          rw [hgw, hpw]
          have e : bits (fun j => l.getD (64 * w + j) false) (i + 1) = bits (fun j => l.getD (64 * w + j) false) i + 2 ^ i := by
            simp only [bits, hget, hc, if_true]
          rw [e] at hlt3 ⊢
          rw [← Int.natCast_add]
          exact wrap_u64 (by omega)
        have hs : ws (ofN l w (i + 1)) = ws (fun k => if k = w then bits (fun j => l.getD (64 * w + j) false) (i + 1) else ofN l w i k) := ws_congr fun k _ => by
          simp only [ofN]
          by_cases e : k = w
          · subst e; simp
          · simp [e]
        rw [hc] at dl
        repeat (first | ((first | refine Q1 ?_ | refine Q2 ?_); intro Z hN hX hR) | refine Q3 (by kernel_rfl) fun K hK => ?_ | ((first | refine Q4 fun R hJ => ?_ | with_reducible change ExpAll _ _ _); simp only [kS, R1, R2, R3, R4, R5, R6, R7, reduceCtorEq, R9, h0, h4, h6, h5, h3, hb, h2, hb2, hlt', hlt2', hw1, hw2, hw3, dl, hbl, hpn, d1, p1, hadd, ws_length, decide_true]) | (refine hJ _ ?_; clear hJ R) | refine Q5 ?_ | (refine hK _ ?_; clear hK K) | ((first | refine hN _ ?_ | refine hX _ _ ?_ | refine hR _ ?_); clear hN hX hR Z) | refine Q6 rfl ?_ | refine Q7 (by decide) ?_ | (refine Q8 ?_ ?_; focus (simp only [kS, R1, R2, R3, R4, R5, R6, R7, reduceCtorEq, R9, h0, h4, h6, h5, h3, hb, h2, hb2, hlt', hlt2', hw1, hw2, hw3, dl, hbl, hpn, d1, p1, hadd, ws_length, decide_true]; done)) | (refine Q9 ?_ ?_; focus (simp only [kS, R1, R2, R3, R4, R5, R6, R7, reduceCtorEq, R9, h0, h4, h6, h5, h3, hb, h2, hb2, hlt', hlt2', hw1, hw2, hw3, dl, hbl, hpn, d1, p1, hadd, ws_length, decide_true]; done)) | refine Qa ?_ | refine Qb ?_ | refine Qc ?_ | refine And.intro (by first | assumption | omega) ?_)
        refine ⟨64 - (i + 1), by omega, i + 1, by omega, rfl, by simp only [kS, R1, R2, R3, R4, R5, R6, R7, reduceCtorEq, R9, h0], by simp only [kS, R1, R2, R3, R4, R5, R6, R7, reduceCtorEq, R9, h4], ?_, by simp only [kS, R1, R2, R3, R4, R5, R6, R7, reduceCtorEq, R9], by simp only [kS, R1, R2, R3, R4, R5, R6, R7, reduceCtorEq, R9, h3], by rw [hs]; simp only [kS, R1, R2, R3, R4, R5, R6, R7, reduceCtorEq, R9, hb, p1], by simp only [kS, R1, R2, R3, R4, R5, R6, R7, reduceCtorEq, R9, h2], by simp only [kS, R1, R2, R3, R4, R5, R6, R7, reduceCtorEq, R9, hb2, tk1, tk2, tk3, tk4, tk5, tk6, tk7, tk8, and_false, false_and], by (simp only [kS, R1, R2, R3, R4, R5, R6, R7, reduceCtorEq, R9]) <;> first | omega | rfl⟩
        simp only [kS, R1, R2, R3, R4, R5, R6, R7, reduceCtorEq, R9]
        rw [wrap_i64 (by omega) (by omega)]; rfl
    · have hlt2' : ¬ (i : Int) < 64 := by omega
      have hi : i = 64 := by omega
      have hs : ws (ofN l (w + 1) 0) = ws (ofN l w 64) := ws_congr fun k _ => by
        simp only [ofN]
        by_cases e : k < w
        · rw [if_pos e, if_pos (by omega)]
        · by_cases e2 : k = w
          · subst e2; simp
          · rw [if_neg e, if_neg e2, if_neg (by omega)]
            simp [bits]
      rw [hi, ← hs] at hb
      repeat (first | ((first | refine Q1 ?_ | refine Q2 ?_); intro Z hN hX hR) | refine Q3 (by kernel_rfl) fun K hK => ?_ | ((first | refine Q4 fun R hJ => ?_ | with_reducible change ExpAll _ _ _); simp only [kS, R1, R2, R3, R4, R5, R6, R7, reduceCtorEq, R9, h0, h4, h6, h5, h3, hb, h2, hb2, hlt2', decide_false]) | (refine hJ _ ?_; clear hJ R) | refine Q5 ?_ | (refine hK _ ?_; clear hK K) | ((first | refine hN _ ?_ | refine hX _ _ ?_ | refine hR _ ?_); clear hN hX hR Z) | refine Q6 rfl ?_ | refine Q7 (by decide) ?_ | (refine Q8 ?_ ?_; focus (simp only [kS, R1, R2, R3, R4, R5, R6, R7, reduceCtorEq, R9, h0, h4, h6, h5, h3, hb, h2, hb2, hlt2', decide_false]; done)) | (refine Q9 ?_ ?_; focus (simp only [kS, R1, R2, R3, R4, R5, R6, R7, reduceCtorEq, R9, h0, h4, h6, h5, h3, hb, h2, hb2, hlt2', decide_false]; done)) | refine Qa ?_ | refine Qb ?_ | refine Qc ?_ | refine And.intro (by first | assumption | omega) ?_)
      refine ⟨4 - (w + 1), by omega, w + 1, by omega, rfl, by simp only [kS, R1, R2, R3, R4, R5, R6, R7, reduceCtorEq, R9, h0], ?_, by simp only [kS, R1, R2, R3, R4, R5, R6, R7, reduceCtorEq, R9, h3], by simp only [kS, R1, R2, R3, R4, R5, R6, R7, reduceCtorEq, R9, hb], by simp only [kS, R1, R2, R3, R4, R5, R6, R7, reduceCtorEq, R9, h2], by simp only [kS, R1, R2, R3, R4, R5, R6, R7, reduceCtorEq, R9, hb2], by (simp only [kS, R1, R2, R3, R4, R5, R6, R7, reduceCtorEq, R9]) <;> first | omega | rfl⟩
      simp only [kS, R1, R2, R3, R4, R5, R6, R7, reduceCtorEq, R9]
      rw [wrap_i64 (by omega) (by omega)]; rfl
  · have hlt' : ¬ (w : Int) < 4 := by omega
    have hw : w = 4 := by omega
    rw [hw] at hb
    repeat (first | ((first | refine Q1 ?_ | refine Q2 ?_); intro Z hN hX hR) | refine Q3 (by kernel_rfl) fun K hK => ?_ | ((first | refine Q4 fun R hJ => ?_ | with_reducible change ExpAll _ _ _); simp only [kS, R1, R2, R3, R4, R5, R6, R7, reduceCtorEq, R9, h0, h4, h3, hb, h2, hb2, hlt', ws_length, ws_take, decide_false]) | (refine hJ _ ?_; clear hJ R) | refine Q5 ?_ | (refine hK _ ?_; clear hK K) | ((first | refine hN _ ?_ | refine hX _ _ ?_ | refine hR _ ?_); clear hN hX hR Z) | refine Q6 rfl ?_ | refine Q7 (by decide) ?_ | (refine Q8 ?_ ?_; focus (simp only [kS, R1, R2, R3, R4, R5, R6, R7, reduceCtorEq, R9, h0, h4, h3, hb, h2, hb2, hlt', ws_length, ws_take, decide_false]; done)) | (refine Q9 ?_ ?_; focus (simp only [kS, R1, R2, R3, R4, R5, R6, R7, reduceCtorEq, R9, h0, h4, h3, hb, h2, hb2, hlt', ws_length, ws_take, decide_false]; done)) | refine Qa ?_ | refine Qb ?_ | refine Qc ?_ | refine And.intro (by first | assumption | omega) ?_)
    all_goals exact ⟨1, by (simp only [kS, R1, R2, R3, R4, R5, R6, R7, reduceCtorEq, R9]) <;> first | omega | rfl, by simp only [kS, R1, R2, R3, R4, R5, R6, R7, reduceCtorEq, R9, ws_length]⟩

end Go.Proofs.YtilhjiopbbbgmaaDoor

/- What items read: the steps of the package next. -/
namespace Go.Proofs.YtilhjiopbbbgmaaDoor
open Nat renaming reduceSub → R1, reduceMul → R2, reduceLeDiff → R3, reducePow → R4, reduceBEq → R5, reduceAdd → R6, reduceEqDiff → R7
open Int renaming reduceToNat → R9
open Go Go.RowKit Am
set_option linter.unusedVariables false
set_option linter.unusedSimpArgs false
set_option maxHeartbeats 4000000
attribute [local irreducible] AWp AOps

/-- A node's class. -/
def Nd.g (n : Nd) : Nat → Nat := fun k => (if k = 0 then n.c0 else if k = 1 then n.c1 else if k = 2 then n.c2 else n.c3).toNat
structure CW (n : Nd) : Prop where
  h0 : 0 ≤ n.c0 ∧ n.c0 < 18446744073709551616
  h1 : 0 ≤ n.c1 ∧ n.c1 < 18446744073709551616
  h2 : 0 ≤ n.c2 ∧ n.c2 < 18446744073709551616
  h3 : 0 ≤ n.c3 ∧ n.c3 < 18446744073709551616
theorem CW.lt {n : Nd} (h : CW n) (k : Nat) : n.g k < 18446744073709551616 := by
  obtain ⟨h0, h1, h2, h3⟩ := h
  simp only [Nd.g]
  split
  · omega
  · split
    · omega
    · split <;> omega
theorem CW.ws {n : Nd} (h : CW n) : ws n.g = [.v (.int .u64 n.c0), .v (.int .u64 n.c1), .v (.int .u64 n.c2), .v (.int .u64 n.c3)] := by
  obtain ⟨h0, h1, h2, h3⟩ := h
  simp only [Go.Proofs.YtilhjiopbbbgmaaDoor.ws, Nd.g]
  simp [Int.toNat_of_nonneg h0.1, Int.toNat_of_nonneg h1.1, Int.toNat_of_nonneg h2.1, Int.toNat_of_nonneg h3.1]

theorem st_frame_ret (gl : Gl) (n : Nd) (a : Int) : Ret Tryd.prog gl 125 [.agg n.c, iv a] (.c (stC [⟨1, n.a, 0, 0⟩, ⟨5, 0, a, 0⟩])) := by
  refine retq (rs := [4]) 11 Tryd.func125 (by kernel_rfl) rfl (by kernel_rfl) rfl (by simp) (by simp) fun Z hN hX hR => ?_
  simp only [Nd.c]
  repeat (first | ((first | refine Q1 ?_ | refine Q2 ?_); intro Z hN hX hR) | refine Q3 (by kernel_rfl) fun K hK => ?_ | ((first | refine Q4 fun R hJ => ?_ | with_reducible change ExpAll _ _ _); simp only [kS, R1, R2, R3, R4, R5, R6, R7, reduceCtorEq, R9, Nd.c]) | (refine hJ _ ?_; clear hJ R) | refine Q5 ?_ | (refine hK _ ?_; clear hK K) | ((first | refine hN _ ?_ | refine hX _ _ ?_ | refine hR _ ?_); clear hN hX hR Z) | refine Q6 rfl ?_ | refine Q7 (by decide) ?_ | (refine Q8 ?_ ?_; focus (simp only [kS, R1, R2, R3, R4, R5, R6, R7, reduceCtorEq, R9, Nd.c]; done)) | (refine Q9 ?_ ?_; focus (simp only [kS, R1, R2, R3, R4, R5, R6, R7, reduceCtorEq, R9, Nd.c]; done)) | refine Qa ?_ | refine Qb ?_ | refine Qc ?_ | refine And.intro (by first | assumption | omega) ?_)
  all_goals exact .inl rfl

/-- A step's cells. -/
def stepC (n : Nd) (x : It) (c : Nat) : List C := n.c ++ x.c ++ [.v (.int .u8 (c : Int))]

def nodeF (n : Nd) (x : It) (c : Nat) : List It × Bool :=
  if (n.k == 8) = true then ([⟨1, n.a, 0, 0⟩, ⟨5, 0, c, 0⟩], true) else if (n.k == 9) = true then ([⟨4, x.n, c, 0⟩], true) else ([], hasN n.g c)

theorem st_node_ret (gl : Gl) (n : Nd) (hn : CW n) (x : It) (c : Nat) (hc : c < 256) : Ret Tryd.prog gl 123 [.agg (stepC n x c)] (.tup [.c (stC (nodeF n x c).1), bv (nodeF n x c).2]) := by
  refine retq (rs := [2, 3]) 31 Tryd.func123 (by kernel_rfl) rfl (by kernel_rfl) rfl (by simp) (by simp) fun Z hN hX hR => ?_
  have hcv : IntKind.i64.wrap (c : Int) = (c : Int) := wrap_i64 (by omega) (by omega)
  have hf := st_frame_ret gl n (c : Int)
  have hh := has126_ret gl n.g hn.lt c hc
  rw [hn.ws] at hh
  simp only [Nd.c] at hf
  cases g8 : (n.k == 8)
  · cases g9 : (n.k == 9)
    · repeat (first | ((first | refine Q1 ?_ | refine Q2 ?_); intro Z hN hX hR) | refine Q3 (by kernel_rfl) fun K hK => ?_ | ((first | refine Q4 fun R hJ => ?_ | with_reducible change ExpAll _ _ _); simp only [kS, R1, R2, R3, R4, R5, R6, R7, reduceCtorEq, R9, stepC, Nd.c, It.c, g8, g9]) | (refine hJ _ ?_; clear hJ R) | refine Q5 ?_ | (refine hK _ ?_; clear hK K) | ((first | refine hN _ ?_ | refine hX _ _ ?_ | refine hR _ ?_); clear hN hX hR Z) | refine Q6 rfl ?_ | refine Q7 (by decide) ?_ | (refine Q8 ?_ ?_; focus (simp only [kS, R1, R2, R3, R4, R5, R6, R7, reduceCtorEq, R9, stepC, Nd.c, It.c, g8, g9]; done)) | (refine Q9 ?_ ?_; focus (simp only [kS, R1, R2, R3, R4, R5, R6, R7, reduceCtorEq, R9, stepC, Nd.c, It.c, g8, g9]; done)) | refine Qa ?_ | refine Qb ?_ | refine Qc ?_ | refine And.intro (by first | assumption | omega) ?_)
      refine ⟨_, hh, rfl, ?_⟩
      simp only [kS, R1, R2, R3, R4, R5, R6, R7, reduceCtorEq, R9]
      repeat (first | ((first | refine Q1 ?_ | refine Q2 ?_); intro Z hN hX hR) | refine Q3 (by kernel_rfl) fun K hK => ?_ | ((first | refine Q4 fun R hJ => ?_ | with_reducible change ExpAll _ _ _); simp only [kS, R1, R2, R3, R4, R5, R6, R7, reduceCtorEq, R9]) | (refine hJ _ ?_; clear hJ R) | refine Q5 ?_ | (refine hK _ ?_; clear hK K) | ((first | refine hN _ ?_ | refine hX _ _ ?_ | refine hR _ ?_); clear hN hX hR Z) | refine Q6 rfl ?_ | refine Q7 (by decide) ?_ | (refine Q8 ?_ ?_; focus (simp only [kS, R1, R2, R3, R4, R5, R6, R7, reduceCtorEq, R9]; done)) | (refine Q9 ?_ ?_; focus (simp only [kS, R1, R2, R3, R4, R5, R6, R7, reduceCtorEq, R9]; done)) | refine Qa ?_ | refine Qb ?_ | refine Qc ?_ | refine And.intro (by first | assumption | omega) ?_)
      simp only [nodeF, g8, g9]
      first | rfl | exact ⟨_, rfl, rfl, rfl, trivial⟩
    · repeat (first | ((first | refine Q1 ?_ | refine Q2 ?_); intro Z hN hX hR) | refine Q3 (by kernel_rfl) fun K hK => ?_ | ((first | refine Q4 fun R hJ => ?_ | with_reducible change ExpAll _ _ _); simp only [kS, R1, R2, R3, R4, R5, R6, R7, reduceCtorEq, R9, stepC, Nd.c, It.c, g8, g9, hcv]) | (refine hJ _ ?_; clear hJ R) | refine Q5 ?_ | (refine hK _ ?_; clear hK K) | ((first | refine hN _ ?_ | refine hX _ _ ?_ | refine hR _ ?_); clear hN hX hR Z) | refine Q6 rfl ?_ | refine Q7 (by decide) ?_ | (refine Q8 ?_ ?_; focus (simp only [kS, R1, R2, R3, R4, R5, R6, R7, reduceCtorEq, R9, stepC, Nd.c, It.c, g8, g9, hcv]; done)) | (refine Q9 ?_ ?_; focus (simp only [kS, R1, R2, R3, R4, R5, R6, R7, reduceCtorEq, R9, stepC, Nd.c, It.c, g8, g9, hcv]; done)) | refine Qa ?_ | refine Qb ?_ | refine Qc ?_ | refine And.intro (by first | assumption | omega) ?_)
      simp only [nodeF, g8, g9]
      first | rfl | exact ⟨_, rfl, rfl, rfl, trivial⟩
  · repeat (first | ((first | refine Q1 ?_ | refine Q2 ?_); intro Z hN hX hR) | refine Q3 (by kernel_rfl) fun K hK => ?_ | ((first | refine Q4 fun R hJ => ?_ | with_reducible change ExpAll _ _ _); simp only [kS, R1, R2, R3, R4, R5, R6, R7, reduceCtorEq, R9, stepC, Nd.c, It.c, g8, hcv]) | (refine hJ _ ?_; clear hJ R) | refine Q5 ?_ | (refine hK _ ?_; clear hK K) | ((first | refine hN _ ?_ | refine hX _ _ ?_ | refine hR _ ?_); clear hN hX hR Z) | refine Q6 rfl ?_ | refine Q7 (by decide) ?_ | (refine Q8 ?_ ?_; focus (simp only [kS, R1, R2, R3, R4, R5, R6, R7, reduceCtorEq, R9, stepC, Nd.c, It.c, g8, hcv]; done)) | (refine Q9 ?_ ?_; focus (simp only [kS, R1, R2, R3, R4, R5, R6, R7, reduceCtorEq, R9, stepC, Nd.c, It.c, g8, hcv]; done)) | refine Qa ?_ | refine Qb ?_ | refine Qc ?_ | refine And.intro (by first | assumption | omega) ?_)
    refine ⟨_, hf, rfl, ?_⟩
    simp only [kS, R1, R2, R3, R4, R5, R6, R7, reduceCtorEq, R9]
    repeat (first | ((first | refine Q1 ?_ | refine Q2 ?_); intro Z hN hX hR) | refine Q3 (by kernel_rfl) fun K hK => ?_ | ((first | refine Q4 fun R hJ => ?_ | with_reducible change ExpAll _ _ _); simp only [kS, R1, R2, R3, R4, R5, R6, R7, reduceCtorEq, R9]) | (refine hJ _ ?_; clear hJ R) | refine Q5 ?_ | (refine hK _ ?_; clear hK K) | ((first | refine hN _ ?_ | refine hX _ _ ?_ | refine hR _ ?_); clear hN hX hR Z) | refine Q6 rfl ?_ | refine Q7 (by decide) ?_ | (refine Q8 ?_ ?_; focus (simp only [kS, R1, R2, R3, R4, R5, R6, R7, reduceCtorEq, R9]; done)) | (refine Q9 ?_ ?_; focus (simp only [kS, R1, R2, R3, R4, R5, R6, R7, reduceCtorEq, R9]; done)) | refine Qa ?_ | refine Qb ?_ | refine Qc ?_ | refine And.intro (by first | assumption | omega) ?_)
    simp only [nodeF, g8]
    first | rfl | exact ⟨_, rfl, rfl, rfl, trivial⟩

theorem st_half_ret (gl : Gl) (n : Nd) (x : It) (hx : 0 ≤ x.lo ∧ x.lo ≤ 1000000) (c : Nat) (hc : c < 256) : Ret Tryd.prog gl 120 [.agg (stepC n x c)] (.tup [.c (stC [⟨1, n.a, 0, 0⟩, ⟨5, 0, 256 * x.lo + c, 0⟩]), bv true]) := by
  refine retq (rs := [2, 3]) 15 Tryd.func120 (by kernel_rfl) rfl (by kernel_rfl) rfl (by simp) (by simp) fun Z hN hX hR => ?_
  have hcv : IntKind.i64.wrap (c : Int) = (c : Int) := wrap_i64 (by omega) (by omega)
  have hm : IntKind.i64.wrap (256 * x.lo) = 256 * x.lo := wrap_i64 (by omega) (by omega)
  have ha : IntKind.i64.wrap (256 * x.lo + c) = 256 * x.lo + c := wrap_i64 (by omega) (by omega)
  have hf := st_frame_ret gl n (256 * x.lo + c)
  simp only [Nd.c] at hf
  repeat (first | ((first | refine Q1 ?_ | refine Q2 ?_); intro Z hN hX hR) | refine Q3 (by kernel_rfl) fun K hK => ?_ | ((first | refine Q4 fun R hJ => ?_ | with_reducible change ExpAll _ _ _); simp only [kS, R1, R2, R3, R4, R5, R6, R7, reduceCtorEq, R9, stepC, Nd.c, It.c, hcv, hm, ha]) | (refine hJ _ ?_; clear hJ R) | refine Q5 ?_ | (refine hK _ ?_; clear hK K) | ((first | refine hN _ ?_ | refine hX _ _ ?_ | refine hR _ ?_); clear hN hX hR Z) | refine Q6 rfl ?_ | refine Q7 (by decide) ?_ | (refine Q8 ?_ ?_; focus (simp only [kS, R1, R2, R3, R4, R5, R6, R7, reduceCtorEq, R9, stepC, Nd.c, It.c, hcv, hm, ha]; done)) | (refine Q9 ?_ ?_; focus (simp only [kS, R1, R2, R3, R4, R5, R6, R7, reduceCtorEq, R9, stepC, Nd.c, It.c, hcv, hm, ha]; done)) | refine Qa ?_ | refine Qb ?_ | refine Qc ?_ | refine And.intro (by first | assumption | omega) ?_)
  refine ⟨_, hf, rfl, ?_⟩
  simp only [kS, R1, R2, R3, R4, R5, R6, R7, reduceCtorEq, R9]
  repeat (first | ((first | refine Q1 ?_ | refine Q2 ?_); intro Z hN hX hR) | refine Q3 (by kernel_rfl) fun K hK => ?_ | ((first | refine Q4 fun R hJ => ?_ | with_reducible change ExpAll _ _ _); simp only [kS, R1, R2, R3, R4, R5, R6, R7, reduceCtorEq, R9]) | (refine hJ _ ?_; clear hJ R) | refine Q5 ?_ | (refine hK _ ?_; clear hK K) | ((first | refine hN _ ?_ | refine hX _ _ ?_ | refine hR _ ?_); clear hN hX hR Z) | refine Q6 rfl ?_ | refine Q7 (by decide) ?_ | (refine Q8 ?_ ?_; focus (simp only [kS, R1, R2, R3, R4, R5, R6, R7, reduceCtorEq, R9]; done)) | (refine Q9 ?_ ?_; focus (simp only [kS, R1, R2, R3, R4, R5, R6, R7, reduceCtorEq, R9]; done)) | refine Qa ?_ | refine Qb ?_ | refine Qc ?_ | refine And.intro (by first | assumption | omega) ?_)
  first | rfl | exact ⟨_, rfl, rfl, rfl, trivial⟩

def textF (n : Nd) (x : It) (c : Nat) : List It × Bool := (if x.lo + 1 = n.s.size then [] else [⟨x.k, x.n, x.lo + 1, x.hi⟩], bAt n.s x.lo == c)

theorem st_text_ret (gl : Gl) (n : Nd) (x : It) (hx : 0 ≤ x.lo ∧ x.lo < n.s.size) (hs : n.s.size ≤ 1000000) (c : Nat) (hc : c < 256) : Ret Tryd.prog gl 124 [.agg (stepC n x c)] (.tup [.c (stC (textF n x c).1), bv (textF n x c).2]) := by
  refine retq (rs := [2, 3]) 40 Tryd.func124 (by kernel_rfl) rfl (by kernel_rfl) rfl (by simp) (by simp) fun Z hN hX hR => ?_
  have ha : IntKind.i64.wrap (x.lo + 1) = x.lo + 1 := wrap_i64 (by omega) (by omega)
  obtain ⟨l1, l2⟩ := hx
  by_cases g : x.lo + 1 = n.s.size
  · have g' : (x.lo + 1 == (n.s.size : Int)) = true := by simpa using g
    repeat (first | ((first | refine Q1 ?_ | refine Q2 ?_); intro Z hN hX hR) | refine Q3 (by kernel_rfl) fun K hK => ?_ | ((first | refine Q4 fun R hJ => ?_ | with_reducible change ExpAll _ _ _); simp only [kS, R1, R2, R3, R4, R5, R6, R7, reduceCtorEq, R9, stepC, Nd.c, It.c, ha, g', l1, l2]) | (refine hJ _ ?_; clear hJ R) | refine Q5 ?_ | (refine hK _ ?_; clear hK K) | ((first | refine hN _ ?_ | refine hX _ _ ?_ | refine hR _ ?_); clear hN hX hR Z) | refine Q6 rfl ?_ | refine Q7 (by decide) ?_ | (refine Q8 ?_ ?_; focus (simp only [kS, R1, R2, R3, R4, R5, R6, R7, reduceCtorEq, R9, stepC, Nd.c, It.c, ha, g', l1, l2]; done)) | (refine Q9 ?_ ?_; focus (simp only [kS, R1, R2, R3, R4, R5, R6, R7, reduceCtorEq, R9, stepC, Nd.c, It.c, ha, g', l1, l2]; done)) | refine Qa ?_ | refine Qb ?_ | refine Qc ?_ | refine And.intro (by first | assumption | omega) ?_)
    simp only [textF, g]
    first | rfl | exact ⟨_, rfl, rfl, rfl, trivial⟩
  · have g' : (x.lo + 1 == (n.s.size : Int)) = false := by simpa using g
    repeat (first | ((first | refine Q1 ?_ | refine Q2 ?_); intro Z hN hX hR) | refine Q3 (by kernel_rfl) fun K hK => ?_ | ((first | refine Q4 fun R hJ => ?_ | with_reducible change ExpAll _ _ _); simp only [kS, R1, R2, R3, R4, R5, R6, R7, reduceCtorEq, R9, stepC, Nd.c, It.c, ha, g', l1, l2]) | (refine hJ _ ?_; clear hJ R) | refine Q5 ?_ | (refine hK _ ?_; clear hK K) | ((first | refine hN _ ?_ | refine hX _ _ ?_ | refine hR _ ?_); clear hN hX hR Z) | refine Q6 rfl ?_ | refine Q7 (by decide) ?_ | (refine Q8 ?_ ?_; focus (simp only [kS, R1, R2, R3, R4, R5, R6, R7, reduceCtorEq, R9, stepC, Nd.c, It.c, ha, g', l1, l2]; done)) | (refine Q9 ?_ ?_; focus (simp only [kS, R1, R2, R3, R4, R5, R6, R7, reduceCtorEq, R9, stepC, Nd.c, It.c, ha, g', l1, l2]; done)) | refine Qa ?_ | refine Qb ?_ | refine Qc ?_ | refine And.intro (by first | assumption | omega) ?_)
    simp only [textF, g]
    first | rfl | exact ⟨_, rfl, rfl, rfl, trivial⟩

end Go.Proofs.YtilhjiopbbbgmaaDoor

/- The arguments: what is read as data lies as the abstract machine has it. -/
namespace Go.Proofs.YtilhjiopbbbgmaaDoor
open Go Go.RowKit Am
set_option linter.unusedVariables false
set_option linter.unusedSimpArgs false

theorem list4 {α : Type} : ∀ (l : List α), l.length = 4 → ∃ a b c d, l = [a, b, c, d]
  | [a, b, c, d], _ => ⟨a, b, c, d, rfl⟩
theorem list7 {α : Type} : ∀ (l : List α), l.length = 7 → ∃ a b c d e f g, l = [a, b, c, d, e, f, g]
  | [a, b, c, d, e, f, g], _ => ⟨a, b, c, d, e, f, g, rfl⟩
theorem list10 {α : Type} : ∀ (l : List α), l.length = 10 → ∃ a b c d e f g h i j, l = [a, b, c, d, e, f, g, h, i, j]
  | [a, b, c, d, e, f, g, h, i, j], _ => ⟨a, b, c, d, e, f, g, h, i, j, rfl⟩

section
variable {H : Type} {enc : TypeId × Value → H} {w : World} {base n : Nat} {sp : Nat → Bool} {held : Bool} {cs : List Value} {y : DataW H × List MemPlace}

theorem one_int {t : TypeId} {k : IntKind} (ht : Tryd.prog.underlying t = some (.int k)) {c : Value} {m : Nat} {z : DataW H × List MemPlace} (h : DataW.trod enc Tryd.prog w base sp held m t [c] = some z) : ∃ x, c = .int k x ∧ (Lit.int k x).wf = true := by
  obtain ⟨x, e, _, hw⟩ := DataW.trod_int ht h
  exact ⟨x, by simpa using e, hw⟩

theorem item_of (h : DataW.trod enc Tryd.prog w base sp held n 40 cs = some y) : ∃ x : It, cs = [.int .i64 x.k, .int .i64 x.n, .int .i64 x.lo, .int .i64 x.hi] := by
  obtain ⟨xs, m, rfl, rfl, hl, hlen, hf⟩ := DataW.trod_struct Tryd.underlying40 h
  have c40 : Tryd.prog.cellsOf 40 = 4 := by kernel_rfl
  have c3 : Tryd.prog.cellsOf 3 = 1 := by kernel_rfl
  rw [c40] at hl
  obtain ⟨a0, a1, a2, a3, rfl⟩ := list4 cs hl
  obtain ⟨x0, x1, x2, x3, rfl⟩ := list4 xs hlen
  have f0 : DataW.trod enc Tryd.prog w base sp held m 3 [a0] = some x0 := by simpa [c3] using hf 0 _ rfl
  have f1 : DataW.trod enc Tryd.prog w base sp held m 3 [a1] = some x1 := by simpa [c3] using hf 1 _ rfl
  have f2 : DataW.trod enc Tryd.prog w base sp held m 3 [a2] = some x2 := by simpa [c3] using hf 2 _ rfl
  have f3 : DataW.trod enc Tryd.prog w base sp held m 3 [a3] = some x3 := by simpa [c3] using hf 3 _ rfl
  obtain ⟨k0, rfl, _⟩ := one_int Tryd.underlying3 f0
  obtain ⟨k1, rfl, _⟩ := one_int Tryd.underlying3 f1
  obtain ⟨k2, rfl, _⟩ := one_int Tryd.underlying3 f2
  obtain ⟨k3, rfl, _⟩ := one_int Tryd.underlying3 f3
  exact ⟨⟨k0, k1, k2, k3⟩, rfl⟩

theorem node_of (h : DataW.trod enc Tryd.prog w base sp held n 54 cs = some y) : ∃ x : Nd, cs = [.int .i64 x.k, .int .i64 x.a, .int .i64 x.b, .int .i64 x.lo, .int .i64 x.hi, .int .u64 x.c0, .int .u64 x.c1, .int .u64 x.c2, .int .u64 x.c3, .string x.s] ∧
    (∃ p0 p1 p2 p3 p4 p5, y.1 = .agg [p0, p1, p2, p3, p4, p5, .lit (.string x.s.data.toList)]) ∧ CW x := by
  obtain ⟨xs, m, rfl, rfl, hl, hlen, hf⟩ := DataW.trod_struct Tryd.underlying54 h
  have c54 : Tryd.prog.cellsOf 54 = 10 := by kernel_rfl
  have c3 : Tryd.prog.cellsOf 3 = 1 := by kernel_rfl
  have c9 : Tryd.prog.cellsOf 9 = 1 := by kernel_rfl
  have c46 : Tryd.prog.cellsOf 46 = 4 := by kernel_rfl
  have c44 : Tryd.prog.cellsOf 44 = 1 := by kernel_rfl
  rw [c54] at hl
  obtain ⟨a0, a1, a2, a3, a4, a5, a6, a7, a8, a9, rfl⟩ := list10 cs hl
  obtain ⟨x0, x1, x2, x3, x4, x5, x6, rfl⟩ := list7 xs hlen
  have f0 : DataW.trod enc Tryd.prog w base sp held m 3 [a0] = some x0 := by simpa [c3, c46, c9] using hf 0 _ rfl
  have f1 : DataW.trod enc Tryd.prog w base sp held m 3 [a1] = some x1 := by simpa [c3, c46, c9] using hf 1 _ rfl
  have f2 : DataW.trod enc Tryd.prog w base sp held m 3 [a2] = some x2 := by simpa [c3, c46, c9] using hf 2 _ rfl
  have f3 : DataW.trod enc Tryd.prog w base sp held m 3 [a3] = some x3 := by simpa [c3, c46, c9] using hf 3 _ rfl
  have f4 : DataW.trod enc Tryd.prog w base sp held m 3 [a4] = some x4 := by simpa [c3, c46, c9] using hf 4 _ rfl
  have f5 : DataW.trod enc Tryd.prog w base sp held m 46 [a5, a6, a7, a8] = some x5 := by simpa [c3, c46, c9] using hf 5 _ rfl
  have f6 : DataW.trod enc Tryd.prog w base sp held m 9 [a9] = some x6 := by simpa [c3, c46, c9] using hf 6 _ rfl
  obtain ⟨k0, rfl, _⟩ := one_int Tryd.underlying3 f0
  obtain ⟨k1, rfl, _⟩ := one_int Tryd.underlying3 f1
  obtain ⟨k2, rfl, _⟩ := one_int Tryd.underlying3 f2
  obtain ⟨k3, rfl, _⟩ := one_int Tryd.underlying3 f3
  obtain ⟨k4, rfl, _⟩ := one_int Tryd.underlying3 f4
  obtain ⟨s, e9, e9', _⟩ := DataW.trod_string Tryd.underlying9 f6
  obtain ⟨ys, m', rfl, _, _, hyl, hy⟩ := DataW.trod_array Tryd.underlying46 f5
  obtain ⟨y0, y1, y2, y3, rfl⟩ := list4 ys hyl
  have g0 : DataW.trod enc Tryd.prog w base sp held m' 44 [a5] = some y0 := by simpa [c44] using hy 0 (by decide)
  have g1 : DataW.trod enc Tryd.prog w base sp held m' 44 [a6] = some y1 := by simpa [c44] using hy 1 (by decide)
  have g2 : DataW.trod enc Tryd.prog w base sp held m' 44 [a7] = some y2 := by simpa [c44] using hy 2 (by decide)
  have g3 : DataW.trod enc Tryd.prog w base sp held m' 44 [a8] = some y3 := by simpa [c44] using hy 3 (by decide)
  obtain ⟨u0, rfl, w0⟩ := one_int Tryd.underlying44 g0
  obtain ⟨u1, rfl, w1⟩ := one_int Tryd.underlying44 g1
  obtain ⟨u2, rfl, w2⟩ := one_int Tryd.underlying44 g2
  obtain ⟨u3, rfl, w3⟩ := one_int Tryd.underlying44 g3
  have e9 : a9 = .string s := by simpa using e9
  subst e9
  have wf64 : ∀ n : Int, (Lit.int .u64 n).wf = true → 0 ≤ n ∧ n < 18446744073709551616 := fun n h => by
    have e1 : IntKind.u64.min = 0 := by decide
    have e2 : IntKind.u64.max = 18446744073709551615 := by decide
    simp [Lit.wf, e1, e2] at h
    omega
  refine ⟨⟨k0, k1, k2, k3, k4, u0, u1, u2, u3, s⟩, rfl, ⟨x0.1, x1.1, x2.1, x3.1, x4.1, x5.1, ?_⟩, wf64 _ w0, wf64 _ w1, wf64 _ w2, wf64 _ w3⟩
  have : x6.1 = .lit (.string s.data.toList) := by rw [e9']
  simp only [List.map_cons, List.map_nil, this]
end

theorem repM_flat {α : Type} {w : World} {G : Am.Good} (f : α → List C) (z : Nat) (hz : ∀ x, (f x).length = z) : ∀ (l : List α) (b o : Nat), (∀ i (h : i < l.length), RepM w G (f l[i]) b (o + i * z)) → RepM w G (l.flatMap f) b o
  | [], b, o, _ => by simp [RepM]
  | x :: l, b, o, h => by
    rw [List.flatMap_cons, RepM.append]
    refine ⟨by have := h 0 (by simp); simp only [List.getElem_cons_zero, Nat.zero_mul, Nat.add_zero] at this; exact this, ?_⟩
    rw [hz]
    refine repM_flat f z hz l b (o + z) fun i hi => ?_
    have := h (i + 1) (by simp; omega)
    simp only [List.getElem_cons_succ] at this
    rwa [show o + (i + 1) * z = o + z + i * z by rw [Nat.add_mul]; omega] at this

theorem addr_add (a : Addr) (i j : Nat) : (a.add i).add j = a.add (i + j) := by
  unfold Addr.add
  by_cases hi : i = 0
  · subst hi; simp
  · by_cases hj : j = 0
    · subst hj; simp [hi]
    · simp [hi, hj, Nat.add_assoc]

theorem plain_of_cell {w : World} {a : Addr} {v : Value} (h : w.cell? a = some v) : ∃ b o, a = ⟨b, o, none⟩ ∧ b < w.heap.size := by
  obtain ⟨b, o, sp⟩ := a
  unfold World.cell? at h
  cases sp with
  | none =>
    refine ⟨b, o, rfl, ?_⟩
    rcases Nat.lt_or_ge b w.heap.size with h' | h'
    · exact h'
    · simp [Array.getElem?_eq_none h'] at h
  | some x => split at h <;> simp at h

/-- The cells of a slice's elements lie as the list has it. -/
theorem rows_rep {α : Type} [Inhabited α] {w : World} (f : α → List C) (vals : α → List Value) (z : Nat) (hz : ∀ x, (f x).length = z) (hz0 : 0 < z) (hrep : ∀ x (G : Am.Good), RepL w G (f x) (vals x)) (a : Addr) (len cap : Nat) (hcap : len ≤ cap)
    (h : ∀ i, i < len → ∃ x, w.cells? 0 (a.add (i * z)) z = some (vals x)) :
    ∃ l : List α, l.length = len ∧ RepC w (fun b _ => b < w.heap.size) (.sl l.length (l.flatMap f)) (.slice (some a) len cap) ∧ ∀ i (hi : i < l.length), w.cells? 0 (a.add (i * z)) z = some (vals l[i]) := by
  have ch : ∀ i, ∃ x, i < len → w.cells? 0 (a.add (i * z)) z = some (vals x) := fun i => by
    by_cases hi : i < len
    · obtain ⟨x, hx⟩ := h i hi; exact ⟨x, fun _ => hx⟩
    · exact ⟨default, fun h => absurd h hi⟩
  obtain ⟨g, hg⟩ := Classical.axiomOfChoice ch
  have hl : ((List.range len).map g).length = len := by simp
  have hget : ∀ i (hi : i < ((List.range len).map g).length), ((List.range len).map g)[i] = g i := fun i hi => by simp
  refine ⟨(List.range len).map g, hl, ?_, fun i hi => by rw [hget]; exact hg i (by omega)⟩
  simp only [RepC]
  refine ⟨some a, cap, by rw [hl], by rw [hl]; exact hcap, ?_⟩
  by_cases h0 : len = 0
  · subst h0; exact .inl rfl
  · have h1 := hg 0 (by omega)
    obtain ⟨_, hln, hc⟩ := World.cells?_some h1
    have h2 := hc 0 hz0
    have hv : ∃ v, (vals (g 0))[0]? = some v := ⟨_, List.getElem?_eq_getElem (by omega)⟩
    obtain ⟨v, hv⟩ := hv
    rw [hv] at h2
    have e0 : (a.add (0 * z)).add 0 = a := by simp [Addr.add]
    rw [e0] at h2
    obtain ⟨b, o, rfl, hb⟩ := plain_of_cell h2
    refine .inr ⟨b, o, rfl, repM_flat f z hz _ b o fun i hi => ?_⟩
    rw [hget]
    obtain ⟨_, hln, hc⟩ := World.cells?_some (hg i (by omega))
    refine RepM.of_vals (hrep (g i) _) (fun j u hj => ?_) (fun j hj => hb)
    have hj' : j < z := by
      have := (List.getElem?_eq_some_iff.1 hj).1
      omega
    have := hc j hj'
    rw [addr_add, add_plain, hj] at this
    rwa [Nat.add_assoc]

section
variable {H : Type} {enc : TypeId × Value → H} {w : World}
def itV (x : It) : List Value := [.int .i64 x.k, .int .i64 x.n, .int .i64 x.lo, .int .i64 x.hi]
def ndV (x : Nd) : List Value := [.int .i64 x.k, .int .i64 x.a, .int .i64 x.b, .int .i64 x.lo, .int .i64 x.hi, .int .u64 x.c0, .int .u64 x.c1, .int .u64 x.c2, .int .u64 x.c3, .string x.s]
abbrev GA (w : World) : Am.Good := fun b _ => b < w.heap.size

theorem state_of {v : Value} {d : DataW H} {p : List MemPlace} (h : DataW.Trod enc Tryd.prog w 0 (fun _ => true) true 26 v d p) (hv : ∃ a l c, v = .slice a l c) :
    ∃ s : List It, RepC w (GA w) (stC s) v ∧ (s = [] ∨ ∃ el sp, d = .slice el sp ∧ el.length = s.length) := by
  obtain ⟨a, l, c, rfl⟩ := hv
  obtain ⟨fuel, hf⟩ := h
  rcases Go.Deep.open_slice Tryd.underlying26 hf with ⟨hcs, _⟩ | ⟨a', len, cap, m, n, D, Pl, hcs, _, hl, _, hm, hx, hel⟩
  · simp [Value.cells] at hcs
    obtain ⟨rfl, rfl, rfl⟩ := hcs
    exact ⟨[], by simp only [RepC]; exact ⟨none, 0, rfl, Nat.le_refl _, .inl rfl⟩, .inl rfl⟩
  · simp [Value.cells] at hcs
    obtain ⟨rfl, rfl, rfl⟩ := hcs
    simp only [if_true] at hm
    subst hm
    have c40 : Tryd.prog.cellsOf 40 = 4 := by kernel_rfl
    rw [c40] at hel
    obtain ⟨s, h1, h2, h3⟩ := rows_rep It.c itV 4 (fun _ => rfl) (by decide) (fun x G => ⟨⟨rfl, rfl⟩, ⟨rfl, rfl⟩, ⟨rfl, rfl⟩, ⟨rfl, rfl⟩, trivial⟩) a' l m hl fun i hi => by
      obtain ⟨cs', e1, e2⟩ := hel i (by omega)
      obtain ⟨x, rfl⟩ := item_of e2
      exact ⟨x, e1⟩
    refine ⟨s, h2, .inr ⟨_, _, (congrArg Prod.fst hx), by simp [h1]⟩⟩
end

end Go.Proofs.YtilhjiopbbbgmaaDoor

/- The description read as data: its nodes lie as the abstract machine has it, and none is longer than a machine's reach; what a row's condition says of the tables. -/
namespace Go.Proofs.YtilhjiopbbbgmaaDoor
open Go Go.ChangeShapes Go.WideShapes Go.ChangeAt Go.RowKit Am
set_option linter.unusedVariables false
set_option linter.unusedSimpArgs false

section
variable {H : Type} {enc : TypeId × Value → H} {w : World}

theorem weightsAll_mem {P : Program} {e : TypeId} : ∀ {l : List (DataW H)} {d : DataW H}, d ∈ l → ∀ n ∈ d.weights P e, n ∈ DataW.weightsAll P e l
  | x :: l, d, h, n, hn => by
    simp only [DataW.weightsAll, List.mem_append]
    rcases List.mem_cons.1 h with rfl | h
    · exact .inl hn
    · exact .inr (weightsAll_mem h n hn)

theorem ndV_inj {x y : Nd} (h : ndV x = ndV y) : x = y := by
  obtain ⟨a1, a2, a3, a4, a5, a6, a7, a8, a9, a10⟩ := x
  obtain ⟨b1, b2, b3, b4, b5, b6, b7, b8, b9, b10⟩ := y
  simp only [ndV, List.cons.injEq, Value.int.injEq, Value.string.injEq, true_and, and_true] at h
  obtain ⟨rfl, rfl, rfl, rfl, rfl, rfl, rfl, rfl, rfl, rfl⟩ := h
  rfl

def Small (n : Nat) : Prop := n ≤ 140737488355328

theorem desc_of {v : Value} {d : DataW H} {p : List MemPlace} (h : DataW.Trod enc Tryd.prog w 0 (fun _ => true) true 24 v d p) (hv : ∃ cs, v = .agg cs ∧ cs.size = Tryd.prog.cellsOf 24)
    (hw : ∀ n ∈ d.weights Tryd.prog 24, n ≤ reachBytes) :
    ∃ (l : List Nd) (vd : Value), v = .agg #[vd] ∧ RepL w (GA w) (dC l) [vd] ∧ l.length ≤ 140737488355328 ∧ (∀ x ∈ l, x.s.size ≤ 140737488355328) ∧ ∀ x ∈ l, CW x := by
  obtain ⟨cs, rfl, hcs⟩ := hv
  obtain ⟨fuel, hf⟩ := h
  obtain ⟨y0, n, e1, _, h0⟩ := trod_struct1 Tryd.underlying24 hf
  have c24 : Tryd.prog.cellsOf 24 = 1 := by kernel_rfl
  have c22 : Tryd.prog.cellsOf 22 = 1 := by kernel_rfl
  rw [c24] at hcs
  obtain ⟨vd, rfl⟩ := Array.size_eq_one_iff.1 hcs
  have h0 : DataW.trod enc Tryd.prog w 0 (fun _ => true) true n 22 [vd] = some y0 := by
    have key : ∀ c, c = 1 → DataW.trod enc Tryd.prog w 0 (fun _ => true) true n 22 (List.take c (List.drop 0 [vd])) = some y0 → DataW.trod enc Tryd.prog w 0 (fun _ => true) true n 22 [vd] = some y0 := by rintro _ rfl h; exact h
    exact key _ c22 h0
  have ed : d = .agg [y0.1] := congrArg Prod.fst e1
  subst ed
  rcases Go.Deep.open_slice Tryd.underlying22 h0 with ⟨e2, _⟩ | ⟨a', len, cap, m, n, D, Pl, e2, _, hl, _, hm, hx, hel⟩
  · simp at e2
    subst e2
    refine ⟨[], _, rfl, ?_, by simp, by simp, by simp⟩
    simp only [dC, RepL, RepC]
    exact ⟨⟨none, 0, rfl, Nat.le_refl _, .inl rfl⟩, trivial⟩
  · simp at e2
    subst e2
    simp only [if_true] at hm
    subst hm
    have c54 : Tryd.prog.cellsOf 54 = 10 := by kernel_rfl
    rw [c54] at hel
    obtain ⟨l, h1, h2, h3⟩ := rows_rep Nd.c ndV 10 (fun _ => rfl) (by decide) (fun x G => ⟨⟨rfl, rfl⟩, ⟨rfl, rfl⟩, ⟨rfl, rfl⟩, ⟨rfl, rfl⟩, ⟨rfl, rfl⟩, ⟨rfl, rfl⟩, ⟨rfl, rfl⟩, ⟨rfl, rfl⟩, ⟨rfl, rfl⟩, ⟨rfl, rfl⟩, trivial⟩) a' len m hl fun i hi => by
      obtain ⟨cs', e1, e2⟩ := hel i (by omega)
      obtain ⟨x, rfl, _⟩ := node_of e2
      exact ⟨x, e1⟩
    have ey : y0.1 = .slice ((List.range len).map D) ((List.range (m - len)).map fun j => D (len + j)) := congrArg Prod.fst hx
    have hw2 : ∀ k ∈ y0.1.weights Tryd.prog 22, k ≤ reachBytes := by
      intro k hk
      refine hw k ?_
      simp only [DataW.weights, Tryd.underlying24, List.map_cons, List.map_nil, DataW.weightsEach, List.append_nil]
      exact hk
    rw [ey] at hw2
    simp only [DataW.weights, Tryd.underlying22, List.mem_cons, List.mem_append] at hw2
    have hb : 1 ≤ Tryd.prog.bytesOf 54 := by
      have : (decide (1 ≤ Tryd.prog.bytesOf 54)) = true := by kernel_rfl
      exact of_decide_eq_true this
    have hlen := hw2 _ (.inl rfl)
    simp only [List.length_map, List.length_range] at hlen
    have hr : reachBytes ≤ 140737488355328 := by decide
    have hlen2 : len ≤ reachBytes := by
      have := Nat.mul_le_mul_left (len + (m - len)) hb
      omega
    refine ⟨l, _, rfl, ?_, by omega, fun x hx => ?_, fun x hx => ?_⟩
    · simp only [dC, RepL]
      exact ⟨h2, trivial⟩
    · obtain ⟨i, hi, rfl⟩ := List.getElem_of_mem hx
      obtain ⟨cs', e1, e2⟩ := hel i (by omega)
      obtain ⟨x, rfl, ⟨p0, p1, p2, p3, p4, p5, e3⟩, _⟩ := node_of e2
      have := (h3 i hi).symm.trans e1
      have e4 := ndV_inj (Option.some.inj this)
      rw [e4]
      have hmem : D i ∈ (List.range len).map D := List.mem_map.2 ⟨i, List.mem_range.2 (by omega), rfl⟩
      have h9 : x.s.data.toList.length ≤ reachBytes := by
        refine hw2 _ (.inr (.inl (weightsAll_mem hmem _ ?_)))
        have : D i = .agg [p0, p1, p2, p3, p4, p5, .lit (.string x.s.data.toList)] := e3
        rw [this]
        simp only [DataW.weights, Tryd.underlying54, List.map_cons, List.map_nil, DataW.weightsEach, List.mem_append]
        simp
      have h10 : x.s.data.toList.length = x.s.size := Array.length_toList
      omega
    · obtain ⟨i, hi, rfl⟩ := List.getElem_of_mem hx
      obtain ⟨cs', e1, e2⟩ := hel i (by omega)
      obtain ⟨x, rfl, _, hc⟩ := node_of e2
      have := (h3 i hi).symm.trans e1
      have e4 := ndV_inj (Option.some.inj this)
      rw [e4]
      exact hc

theorem state_small {s : List It} {d : DataW H} (hw : ∀ n ∈ d.weights Tryd.prog 26, n ≤ reachBytes) (h : s = [] ∨ ∃ el sp, d = .slice el sp ∧ el.length = s.length) : s.length ≤ 140737488355328 := by
  rcases h with rfl | ⟨el, sp, rfl, h⟩
  · simp
  · simp only [DataW.weights, Tryd.underlying26, List.mem_cons] at hw
    have hb : 1 ≤ Tryd.prog.bytesOf 40 := by
      have : (decide (1 ≤ Tryd.prog.bytesOf 40)) = true := by kernel_rfl
      exact of_decide_eq_true this
    have hlen := hw _ (.inl rfl)
    have hr : reachBytes ≤ 140737488355328 := by decide
    have := Nat.mul_le_mul_left (el.length + sp.length) hb
    omega
end

/-- One listed variable reads as the datum beside its name. -/
theorem laidReads {P : Program} {w : World} {l : List (String × DataW Unit)} (h : laidMet P l w) {n : String} {d : DataW Unit} (hm : (n, d) ∈ l) :
    ∃ g t cs fuel p, P.globalNamed n = some g ∧ (P.globals[g]?).map (·.type) = some t ∧ w.var? P n = some cs ∧ DataW.trod (fun _ => ()) P w 0 (fun _ => true) false fuel t cs.toList = some (d, p) := by
  obtain ⟨ps, hv, _⟩ := h
  have go : ∀ {l : List (String × DataW Unit)} {ps : List MemPlace}, DataW.LaidVars P w l ps → (n, d) ∈ l → ∃ g t cs fuel p, P.globalNamed n = some g ∧ (P.globals[g]?).map (·.type) = some t ∧ w.var? P n = some cs ∧ DataW.trod (fun _ => ()) P w 0 (fun _ => true) false fuel t cs.toList = some (d, p) := by
    intro l
    induction l with
    | nil => intro ps _ hm; cases hm
    | cons x r ih =>
      intro ps h hm
      obtain ⟨g, t, cs, fuel, p, q, h1, h2, h3, h4, h5, _⟩ := h
      rcases List.mem_cons.1 hm with e | e
      · cases e
        exact ⟨g, t, cs, fuel, p, h1, h2, h3, h4⟩
      · exact ih h5 e
  exact go hv hm

/-- An array of bools that reads as this list holds it, cell for cell. -/
theorem cells_of_bools {H : Type} {enc : TypeId × Value → H} {P : Program} {w : World} {base : Nat} {sp : Nat → Bool} {held : Bool} {fuel : Nat} {t e : TypeId} {n : Nat} {cs : List Value} {zs : List Bool} {p : List MemPlace}
    (ht : P.underlying t = some (.array n e)) (he : P.underlying e = some .bool) (hce : P.cellsOf e = 1) (hct : P.cellsOf t = n)
    (h : DataW.trod enc P w base sp held fuel t cs = some (.agg (zs.map fun z => .lit (.bool z)), p)) : cs = zs.map fun z => Value.bool z := by
  cases fuel with
  | zero => simp [DataW.trod] at h
  | succ fuel =>
    simp only [DataW.trod, ht, hce, hct, Nat.mul_one] at h
    split at h
    · rename_i hl
      obtain ⟨xs, hm, hx⟩ := Option.map_eq_some_iff.1 h
      have hxs : xs.map (·.1) = zs.map fun z => (DataW.lit (.bool z) : DataW H) := by
        have := congrArg Prod.fst hx
        simpa using this
      have hxl : xs.length = n := by simpa using Lib.mapM_length hm
      have hzl : zs.length = n := by
        have := congrArg List.length hxs
        simp at this
        omega
      apply List.ext_getElem?
      intro i
      by_cases hi : i < n
      · obtain ⟨b, hb, hf⟩ := Lib.mapM_at hm i i (by simp [hi])
        obtain ⟨z, hc, rfl⟩ := DataW.trod_bool he hf
        have h1 : cs[i]? = some (.bool z) := by
          have := congrArg (·[0]?) hc
          simpa [List.getElem?_take, List.getElem?_drop] using this
        have h2 : (xs.map (·.1))[i]? = some (DataW.lit (.bool z) : DataW H) := by simp [hb]
        rw [hxs] at h2
        simp only [List.getElem?_map, Option.map_eq_some_iff, DataW.lit.injEq, Lit.bool.injEq] at h2
        obtain ⟨z', hz', rfl⟩ := h2
        simp [h1, hz']
      · rw [List.getElem?_eq_none (by omega), List.getElem?_eq_none (by simp; omega)]
    · cases h

end Go.Proofs.YtilhjiopbbbgmaaDoor

/- What a row's condition says of the tables, and what a body's answer says of a law of a description and a state. -/
namespace Go.Proofs.YtilhjiopbbbgmaaDoor
open Go Go.ChangeShapes Go.WideShapes Go.ChangeAt Go.WideMaps Go.WideElems Go.RowKit Am
set_option linter.unusedVariables false
set_option linter.unusedSimpArgs false

theorem pow_same {H : Type} : (Rows.laid_internal_strconv_uint64pow10 : DataW H) = Lib.tabData .u64 Lib.pow10Tab := by rfl
def readyL : List Bool := [false, false, true, false, false, false, false, false, true, true]
theorem ready_same {H : Type} : (Rows.laid_scantling_heads_readies : DataW H) = .agg (readyL.map fun z => .lit (.bool z)) := by rfl

theorem repM_bools {w : World} {G : Am.Good} : ∀ (l : List Bool) (o : Nat), (∀ i (h : i < l.length), w.cell? ⟨0, o + i, none⟩ = some (.bool l[i]) ∧ G 0 (o + i)) → RepM w G (l.map fun z => C.v (.bool z)) 0 o
  | [], o, _ => by simp [RepM]
  | z :: l, o, h => by
    simp only [List.map_cons, RepM]
    have h0 := h 0 (by simp)
    simp only [List.getElem_cons_zero, Nat.add_zero] at h0
    refine ⟨h0.2, ⟨_, h0.1, rfl, rfl⟩, repM_bools l (o + 1) fun i hi => ?_⟩
    have := h (i + 1) (by simp; omega)
    simp only [List.getElem_cons_succ] at this
    rwa [show o + (i + 1) = o + 1 + i by omega] at this

theorem glok_of {W : World} {l : List (String × DataW Unit)} (h : laidMet Tryd.prog l W) (hp : ("internal/strconv.uint64pow10", Rows.laid_internal_strconv_uint64pow10) ∈ l) (hr : ("scantling/heads.readies", Rows.laid_scantling_heads_readies) ∈ l) : GlOk glD W (GA W) := by
  constructor
  · intro i cs hi
    simp only [glD] at hi
    split at hi
    · rename_i e
      subst e
      cases hi
      obtain ⟨g, t, cs, fuel, p, hg, ht, hv, hd⟩ := laidReads h hr
      have g0 : Tryd.prog.globalNamed "scantling/heads.readies" = some 0 := by kernel_rfl
      have t0 : (Tryd.prog.globals[0]?).map (·.type) = some 61 := by kernel_rfl
      obtain rfl := Option.some.inj (g0.symm.trans hg)
      obtain rfl := Option.some.inj (t0.symm.trans ht)
      rw [ready_same] at hd
      have hc := cells_of_bools Tryd.underlying61 Tryd.underlying4 (by kernel_rfl) (by kernel_rfl) hd
      have hcell : ∀ i (hi : i < readyL.length), W.cell? ⟨0, i, none⟩ = some (.bool readyL[i]) := fun i hi => by
        rw [World.var?_cell hg hv i]
        have : cs[i]? = cs.toList[i]? := by simp
        rw [this, hc, List.getElem?_map, List.getElem?_eq_getElem hi]
        rfl
      refine repM_bools readyL 0 fun i hi => ?_
      rw [Nat.zero_add]
      refine ⟨hcell i hi, ?_⟩
      obtain ⟨b, o, e, hb⟩ := plain_of_cell (hcell i hi)
      cases e
      exact hb
    · cases hi
  · obtain ⟨g, t, cs, fuel, p, hg, ht, hv, hd⟩ := laidReads h hp
    have g0 : Tryd.prog.globalNamed "internal/strconv.uint64pow10" = some 2 := by kernel_rfl
    obtain rfl := Option.some.inj (g0.symm.trans hg)
    have hty : (Tryd.prog.globals[2]?).map (·.type) = some 149 := by kernel_rfl
    obtain rfl := Option.some.inj (hty.symm.trans ht)
    rw [pow_same] at hd
    have hc := Lib.cells_of_tab Tryd.underlying149 Tryd.underlying44 (by kernel_rfl) (by kernel_rfl) hd
    show W.var? _ _ = _
    rw [hv, ← hc]

set_option maxRecDepth 20000 in
/-- THE FRAME of a law of a description and a state: what the body answers is what the row says. -/
theorem two_post {H : Type} {enc : TypeId × Value → H} {sp : ChangeSpec} {fn : Func} (hsp : ∀ d1 d2 : DataW H, sp.fn H [d1, d2] = { results := [.lit (.bool true)], args := [d1, d2] }) (hpar : fn.params.toList = [24, 26]) (hres : fn.resultTypes.toList = [4]) (hsz : fn.resultTypes.size = 1)
    (hvars : sp.vars = [])
    {W : World} {args : Array Value} {ds gs : List (DataW H)} {before : List MemPlace}
    (hval : ∀ (j : Nat) t v, fn.params[j]? = some t → args[j]? = some v → ∃ r base, Value.okWide Tryd.prog W r base t v)
    (hW : DataW.Whole enc Tryd.prog fn.params.toList sp.vars false W args.toList ds gs before)
    (hsz2 : (DataW.weightsEach Tryd.prog (fn.params.toList ++ sp.plain.varTypes Tryd.prog) (ds ++ gs)).all (· ≤ reachBytes) = true)
    (hgl : GlOk glD W (GA W)) {f : FuncId}
    (hret : ∀ (d : List Nd) (s : List It), d.length ≤ 140737488355328 → (∀ n ∈ d, n.s.size ≤ 140737488355328) → s.length ≤ 140737488355328 → Ret Tryd.prog glD f [.agg (dC d), .c (stC s)] (bv true)) :
    Calls Tryd.prog f args W fun e W' => ∃ v, e = .returned v ∧ sp.post enc Tryd.prog fn false true false false W args v W' := by
  have hW' := hW
  obtain ⟨p, q, hA0, hV, hb, hfz, hnd⟩ := hW
  have hA : DataW.TrodAll enc Tryd.prog W 0 (fun _ => true) true [24, 26] args.toList ds p := by rw [← hpar]; exact hA0
  obtain ⟨v0, v1, d0, d1, p0, p1, rfl, rfl, rfl, h0, h1⟩ := trodAll_two hA
  rw [hvars] at hV
  obtain ⟨rfl, rfl⟩ := trodVars_none hV
  subst hb
  have hp0 : fn.params[0]? = some 24 := by rw [← Array.getElem?_toList, hpar]; rfl
  have hp1 : fn.params[1]? = some 26 := by rw [← Array.getElem?_toList, hpar]; rfl
  obtain ⟨r0, b0, ok0⟩ := hval 0 24 v0 hp0 rfl
  obtain ⟨r1, b1, ok1⟩ := hval 1 26 v1 hp1 rfl
  have hw : ∀ (j : Nat) t d, (fn.params.toList)[j]? = some t → [d0, d1][j]? = some d → ∀ n ∈ d.weights Tryd.prog t, n ≤ reachBytes := fun j t d ht hd n hn => by
    have := List.all_eq_true.1 hsz2 n (DataW.weights_mem_each (j := j) (t := t) (d := d) (by rw [List.getElem?_append_left (by have := (List.getElem?_eq_some_iff.1 ht).1; exact this)]; exact ht) (by rw [List.append_nil]; exact hd) n hn)
    simpa using this
  obtain ⟨d, vd, rfl, hd, hdl, hds, _⟩ := desc_of h0 (okWide_struct Tryd.underlying24 ok0) (hw 0 24 d0 (by rw [hpar]; rfl) rfl)
  obtain ⟨s, hs, hs2⟩ := state_of h1 (okWide_slice Tryd.underlying26 ok1)
  have hsl := state_small (s := s) (hw 1 26 d1 (by rw [hpar]; rfl) rfl) hs2
  refine ((hret d s hdl hds hsl).2 W (GA W) #[.agg #[vd], v1] (fun _ _ h => h) hgl (show RepTL W (GA W) [.agg (dC d), .c (stC s)] [.agg #[vd], v1] from ⟨⟨#[vd], rfl, hd⟩, hs, trivial⟩)).mono ?_
  rintro e W' ⟨v, he, hbel, _, G', _, _, _, hrep⟩
  obtain rfl : v = .bool true := hrep.1
  refine ⟨_, he, [d0, d1], [], p0 ++ p1 ++ [], [], p0 ++ (p1 ++ []), [], hW', ?_, ?_, ?_, ?_, fun h => by cases h⟩
  · rw [List.append_nil, hsp, hres, hsz]
    exact trodAll_mk1 (shut_bool Tryd.underlying4 _)
  · rw [List.append_nil, hsp, hpar]
    have lt0 : ∀ x ∈ p0, x.block < W.heap.size := by
      obtain ⟨n, hn⟩ := h0
      exact DataW.trod_lt _ _ _ _ hn
    have lt1 : ∀ x ∈ p1, x.block < W.heap.size := by
      obtain ⟨n, hn⟩ := h1
      exact DataW.trod_lt _ _ _ _ hn
    have lay : laidOutB Tryd.prog = true := by kernel_rfl
    exact trodAll_cons_mk (Below.trod lay (by kernel_rfl) (of_decide_eq_true (by kernel_rfl)) h0 hbel lt0) (trodAll_cons_mk (Below.trod lay (by kernel_rfl) (of_decide_eq_true (by kernel_rfl)) h1 hbel lt1) trodAll_mk0)
  · rw [hvars, List.append_nil, hsp]
    exact rfl
  · exact hbel.frame _

end Go.Proofs.YtilhjiopbbbgmaaDoor

/- What the rows of chapter 14 share: the tables laid, met at the door. -/
namespace Go.Proofs.YtilhjiopbbbgmaaDoor
open Go Go.ChangeShapes Go.WideShapes Go.ChangeAt Go.WideMaps Go.WideElems Go.RowKit Am
set_option linter.unusedVariables false
set_option linter.unusedSimpArgs false

theorem own : ownKnob Tryd.prog.godebug = none := by kernel_rfl

def laidD : List (String × DataW Unit) := [("math/bits.deBruijn32tab", Rows.laid_math_bits_deBruijn32tab), ("math/bits.deBruijn64tab", Rows.laid_math_bits_deBruijn64tab), ("internal/strconv.uint64pow10", Rows.laid_internal_strconv_uint64pow10), ("scantling/heads.readies", Rows.laid_scantling_heads_readies)]

theorem door_met (os : Os) (args : Array Value) : laidMetH Tryd.prog laidD ((World.doorLaid Tryd.prog 400 os).forCall (fun _ _ => 0) ⟨#[], args, []⟩).memory :=
  laidMetH_of_parts3 (fuel := 8) (laidMet_of_run' 8 (by kernel_rfl) (by kernel_rfl)) (by kernel_rfl) (by kernel_rfl)

theorem glok_D {W : World} (h : laidMetH Tryd.prog laidD W) : GlOk glD W (GA W) := by
  rw [MakeChecks.laidMetH_plain _ _ _ (by kernel_rfl)] at h
  exact glok_of h (by simp [laidD]) (by simp [laidD])

end Go.Proofs.YtilhjiopbbbgmaaDoor

/- The program's own Open: what it opens to is memory of the call's own. (Printed by gen_open.py.) -/
namespace Go.Proofs.YtilhjiopbbbgmaaDoor
open Nat renaming reduceSub → R1, reduceMul → R2, reduceLeDiff → R3, reducePow → R4, reduceBEq → R5, reduceAdd → R6, reduceEqDiff → R7
open Int renaming reduceToNat → R9
open Go Go.RowKit Am
set_option linter.unusedVariables false
set_option linter.unusedSimpArgs false
set_option maxHeartbeats 4000000
attribute [local irreducible] AWp AOps

abbrev ssF (l : List (List It)) : C := .sl l.length (l.map fun s => .fr (stC s))

theorem open17_fr (gl : Gl) (d : List Nd) (hd : WFd d) (x : It) (s : List It) (h : smIt d x) (hk : 1 ≤ x.k ∧ x.k ≤ 5) (hr : rdy d (x :: s) = false) (hs : s.length ≤ 1000000) :
    Ret Tryd.prog gl 17 [.agg (dC d), .c (stC (x :: s))] (.c (ssF (openS d (x :: s)))) := by
  refine retq (rs := [4]) 139 Tryd.func17 (by kernel_rfl) rfl (by kernel_rfl) rfl (by simp) (by simp) fun Z hN hX hR => ?_
  obtain ⟨k, n, lo, hi⟩ := x
  obtain ⟨⟨i1, i2⟩, l1, l2, l3⟩ := h
  simp only at i1 i2 l1 l2 l3 hk
  obtain ⟨m, rfl⟩ : ∃ m : Nat, n = m := ⟨n.toNat, by omega⟩
  have hm : m < d.length := by omega
  have e := ndsC_drop d m hm
  have e' := nd_get d m hm
  have hl := ndsC_length d
  have hi' := itsC_length s
  have et : (itsC s).take (s.length * 4) = itsC s := List.take_of_length_le (by omega)
  have hlt : (m : Int) < d.length := by omega
  have hok := hd.2.2 d[m] (List.getElem_mem hm)
  have h7 : (d[m].k == 1) = false → (d[m].k == 3) = false → (d[m].k == 4) = false → (d[m].k == 5) = false → (d[m].k == 6) = false → (k == 5) = false → (k == 2) = false → (d[m].k == 7) = true := by
    intro a1 a3 a4 a5 a6 a7 a8
    obtain ⟨b1, b2, _⟩ := hok
    simp only [rdy, e'] at hr
    simp only [beq_eq_false_iff_ne, ne_eq, Bool.or_eq_false_iff, Bool.and_eq_false_iff] at a1 a3 a4 a5 a6 a7 a8 hr
    rw [beq_iff_eq]
    obtain ⟨c1, c2, c3⟩ := hr
    rcases c3 with c3 | c3
    · omega
    · obtain ⟨c4, c5, c6⟩ := c3
      omega
  simp only [dC]
  repeat (first | ((first | refine Q1 ?_ | refine Q2 ?_); intro Z hN hX hR) | refine Q3 (by kernel_rfl) fun K hK => ?_ | ((first | refine Q4 fun R hJ => ?_ | with_reducible change ExpAll _ _ _); simp only [kS, R1, R2, R3, R4, R5, R6, R7, reduceCtorEq, R9, e, hl, hm, hlt, itsC_cons, hi']) | (refine hJ _ ?_; clear hJ R) | refine Q5 ?_ | (refine hK _ ?_; clear hK K) | ((first | refine hN _ ?_ | refine hX _ _ ?_ | refine hR _ ?_); clear hN hX hR Z) | refine Q6 rfl ?_ | refine Q7 (by decide) ?_ | (refine Q8 ?_ ?_; focus (simp only [kS, R1, R2, R3, R4, R5, R6, R7, reduceCtorEq, R9, e, hl, hm, hlt, itsC_cons, hi']; done)) | (refine Q9 ?_ ?_; focus (simp only [kS, R1, R2, R3, R4, R5, R6, R7, reduceCtorEq, R9, e, hl, hm, hlt, itsC_cons, hi']; done)) | refine Qa ?_ | refine Qb ?_ | refine Qc ?_ | refine And.intro (by first | assumption | omega) ?_)
  cases k5 : (k == 5)
  · cases k2 : (k == 2)
    · cases g1 : (d[m].k == 1)
      · cases g3 : (d[m].k == 3)
        · cases g4 : (d[m].k == 4)
          · cases g5 : (d[m].k == 5)
            · cases g6 : (d[m].k == 6)
              · have g7 := h7 g1 g3 g4 g5 g6 k5 k2
                repeat (first | ((first | refine Q1 ?_ | refine Q2 ?_); intro Z hN hX hR) | refine Q3 (by kernel_rfl) fun K hK => ?_ | ((first | refine Q4 fun R hJ => ?_ | with_reducible change ExpAll _ _ _); simp only [kS, R1, R2, R3, R4, R5, R6, R7, reduceCtorEq, R9, k5, k2, g1, g3, g4, g5, g6, g7, hi', et, Nat.add_one_sub_one, tk1, tk2, tk3, tk4, tk5, tk6, tk7, tk8, and_false, false_and, It.c]) | (refine hJ _ ?_; clear hJ R) | refine Q5 ?_ | (refine hK _ ?_; clear hK K) | ((first | refine hN _ ?_ | refine hX _ _ ?_ | refine hR _ ?_); clear hN hX hR Z) | refine Q6 rfl ?_ | refine Q7 (by decide) ?_ | (refine Q8 ?_ ?_; focus (simp only [kS, R1, R2, R3, R4, R5, R6, R7, reduceCtorEq, R9, k5, k2, g1, g3, g4, g5, g6, g7, hi', et, Nat.add_one_sub_one, tk1, tk2, tk3, tk4, tk5, tk6, tk7, tk8, and_false, false_and, It.c]; done)) | (refine Q9 ?_ ?_; focus (simp only [kS, R1, R2, R3, R4, R5, R6, R7, reduceCtorEq, R9, k5, k2, g1, g3, g4, g5, g6, g7, hi', et, Nat.add_one_sub_one, tk1, tk2, tk3, tk4, tk5, tk6, tk7, tk8, and_false, false_and, It.c]; done)) | refine Qa ?_ | refine Qb ?_ | refine Qc ?_ | refine And.intro (by first | assumption | omega) ?_)
                refine ⟨_, with_fr gl s [⟨2, m, d[m].lo, d[m].hi⟩] (by omega) (by simp), rfl, ?_⟩
                try simp only [kS, R1, R2, R3, R4, R5, R6, R7, reduceCtorEq, R9, k5, k2, g1, g3, g4, g5, g6, g7, hi', et, Nat.add_one_sub_one, tk1, tk2, tk3, tk4, tk5, tk6, tk7, tk8, and_false, false_and, It.c]
                repeat (first | ((first | refine Q1 ?_ | refine Q2 ?_); intro Z hN hX hR) | refine Q3 (by kernel_rfl) fun K hK => ?_ | ((first | refine Q4 fun R hJ => ?_ | with_reducible change ExpAll _ _ _); simp only [kS, R1, R2, R3, R4, R5, R6, R7, reduceCtorEq, R9, k5, k2, g1, g3, g4, g5, g6, g7, hi', et, Nat.add_one_sub_one, tk1, tk2, tk3, tk4, tk5, tk6, tk7, tk8, and_false, false_and, It.c]) | (refine hJ _ ?_; clear hJ R) | refine Q5 ?_ | (refine hK _ ?_; clear hK K) | ((first | refine hN _ ?_ | refine hX _ _ ?_ | refine hR _ ?_); clear hN hX hR Z) | refine Q6 rfl ?_ | refine Q7 (by decide) ?_ | (refine Q8 ?_ ?_; focus (simp only [kS, R1, R2, R3, R4, R5, R6, R7, reduceCtorEq, R9, k5, k2, g1, g3, g4, g5, g6, g7, hi', et, Nat.add_one_sub_one, tk1, tk2, tk3, tk4, tk5, tk6, tk7, tk8, and_false, false_and, It.c]; done)) | (refine Q9 ?_ ?_; focus (simp only [kS, R1, R2, R3, R4, R5, R6, R7, reduceCtorEq, R9, k5, k2, g1, g3, g4, g5, g6, g7, hi', et, Nat.add_one_sub_one, tk1, tk2, tk3, tk4, tk5, tk6, tk7, tk8, and_false, false_and, It.c]; done)) | refine Qa ?_ | refine Qb ?_ | refine Qc ?_ | refine And.intro (by first | assumption | omega) ?_)
                simp only [openS, e', k5, k2, g1, g3, g4, g5, g6, g7, Bool.false_eq_true, if_false, if_true, List.nil_append, List.cons_append, List.append_nil]
                all_goals first | rfl | exact .inr rfl | exact .inl rfl | exact .inl (by simp only [ssF, List.map_cons, List.map_nil, List.length_cons, List.length_nil, Nat.add_comm 1, Nat.add_comm 2] <;> rfl)
              · repeat (first | ((first | refine Q1 ?_ | refine Q2 ?_); intro Z hN hX hR) | refine Q3 (by kernel_rfl) fun K hK => ?_ | ((first | refine Q4 fun R hJ => ?_ | with_reducible change ExpAll _ _ _); simp only [kS, R1, R2, R3, R4, R5, R6, R7, reduceCtorEq, R9, k5, k2, g1, g3, g4, g5, g6, hi', et, Nat.add_one_sub_one, tk1, tk2, tk3, tk4, tk5, tk6, tk7, tk8, and_false, false_and, It.c]) | (refine hJ _ ?_; clear hJ R) | refine Q5 ?_ | (refine hK _ ?_; clear hK K) | ((first | refine hN _ ?_ | refine hX _ _ ?_ | refine hR _ ?_); clear hN hX hR Z) | refine Q6 rfl ?_ | refine Q7 (by decide) ?_ | (refine Q8 ?_ ?_; focus (simp only [kS, R1, R2, R3, R4, R5, R6, R7, reduceCtorEq, R9, k5, k2, g1, g3, g4, g5, g6, hi', et, Nat.add_one_sub_one, tk1, tk2, tk3, tk4, tk5, tk6, tk7, tk8, and_false, false_and, It.c]; done)) | (refine Q9 ?_ ?_; focus (simp only [kS, R1, R2, R3, R4, R5, R6, R7, reduceCtorEq, R9, k5, k2, g1, g3, g4, g5, g6, hi', et, Nat.add_one_sub_one, tk1, tk2, tk3, tk4, tk5, tk6, tk7, tk8, and_false, false_and, It.c]; done)) | refine Qa ?_ | refine Qb ?_ | refine Qc ?_ | refine And.intro (by first | assumption | omega) ?_)
                refine ⟨_, with_fr gl s [] (by omega) (by simp), rfl, ?_⟩
                try simp only [kS, R1, R2, R3, R4, R5, R6, R7, reduceCtorEq, R9, k5, k2, g1, g3, g4, g5, g6, hi', et, Nat.add_one_sub_one, tk1, tk2, tk3, tk4, tk5, tk6, tk7, tk8, and_false, false_and, It.c]
                repeat (first | ((first | refine Q1 ?_ | refine Q2 ?_); intro Z hN hX hR) | refine Q3 (by kernel_rfl) fun K hK => ?_ | ((first | refine Q4 fun R hJ => ?_ | with_reducible change ExpAll _ _ _); simp only [kS, R1, R2, R3, R4, R5, R6, R7, reduceCtorEq, R9, k5, k2, g1, g3, g4, g5, g6, hi', et, Nat.add_one_sub_one, tk1, tk2, tk3, tk4, tk5, tk6, tk7, tk8, and_false, false_and, It.c]) | (refine hJ _ ?_; clear hJ R) | refine Q5 ?_ | (refine hK _ ?_; clear hK K) | ((first | refine hN _ ?_ | refine hX _ _ ?_ | refine hR _ ?_); clear hN hX hR Z) | refine Q6 rfl ?_ | refine Q7 (by decide) ?_ | (refine Q8 ?_ ?_; focus (simp only [kS, R1, R2, R3, R4, R5, R6, R7, reduceCtorEq, R9, k5, k2, g1, g3, g4, g5, g6, hi', et, Nat.add_one_sub_one, tk1, tk2, tk3, tk4, tk5, tk6, tk7, tk8, and_false, false_and, It.c]; done)) | (refine Q9 ?_ ?_; focus (simp only [kS, R1, R2, R3, R4, R5, R6, R7, reduceCtorEq, R9, k5, k2, g1, g3, g4, g5, g6, hi', et, Nat.add_one_sub_one, tk1, tk2, tk3, tk4, tk5, tk6, tk7, tk8, and_false, false_and, It.c]; done)) | refine Qa ?_ | refine Qb ?_ | refine Qc ?_ | refine And.intro (by first | assumption | omega) ?_)
                refine ⟨_, node41_ret gl d[m].a, rfl, ?_⟩
                try simp only [kS, R1, R2, R3, R4, R5, R6, R7, reduceCtorEq, R9, k5, k2, g1, g3, g4, g5, g6, hi', et, Nat.add_one_sub_one, tk1, tk2, tk3, tk4, tk5, tk6, tk7, tk8, and_false, false_and, It.c]
                repeat (first | ((first | refine Q1 ?_ | refine Q2 ?_); intro Z hN hX hR) | refine Q3 (by kernel_rfl) fun K hK => ?_ | ((first | refine Q4 fun R hJ => ?_ | with_reducible change ExpAll _ _ _); simp only [kS, R1, R2, R3, R4, R5, R6, R7, reduceCtorEq, R9, k5, k2, g1, g3, g4, g5, g6, hi', et, Nat.add_one_sub_one, tk1, tk2, tk3, tk4, tk5, tk6, tk7, tk8, and_false, false_and, It.c]) | (refine hJ _ ?_; clear hJ R) | refine Q5 ?_ | (refine hK _ ?_; clear hK K) | ((first | refine hN _ ?_ | refine hX _ _ ?_ | refine hR _ ?_); clear hN hX hR Z) | refine Q6 rfl ?_ | refine Q7 (by decide) ?_ | (refine Q8 ?_ ?_; focus (simp only [kS, R1, R2, R3, R4, R5, R6, R7, reduceCtorEq, R9, k5, k2, g1, g3, g4, g5, g6, hi', et, Nat.add_one_sub_one, tk1, tk2, tk3, tk4, tk5, tk6, tk7, tk8, and_false, false_and, It.c]; done)) | (refine Q9 ?_ ?_; focus (simp only [kS, R1, R2, R3, R4, R5, R6, R7, reduceCtorEq, R9, k5, k2, g1, g3, g4, g5, g6, hi', et, Nat.add_one_sub_one, tk1, tk2, tk3, tk4, tk5, tk6, tk7, tk8, and_false, false_and, It.c]; done)) | refine Qa ?_ | refine Qb ?_ | refine Qc ?_ | refine And.intro (by first | assumption | omega) ?_)
                refine ⟨_, with_fr gl s [⟨1, d[m].a, 0, 0⟩, ⟨k, m, lo, hi⟩] (by omega) (by simp), rfl, ?_⟩
                try simp only [kS, R1, R2, R3, R4, R5, R6, R7, reduceCtorEq, R9, k5, k2, g1, g3, g4, g5, g6, hi', et, Nat.add_one_sub_one, tk1, tk2, tk3, tk4, tk5, tk6, tk7, tk8, and_false, false_and, It.c]
                repeat (first | ((first | refine Q1 ?_ | refine Q2 ?_); intro Z hN hX hR) | refine Q3 (by kernel_rfl) fun K hK => ?_ | ((first | refine Q4 fun R hJ => ?_ | with_reducible change ExpAll _ _ _); simp only [kS, R1, R2, R3, R4, R5, R6, R7, reduceCtorEq, R9, k5, k2, g1, g3, g4, g5, g6, hi', et, Nat.add_one_sub_one, tk1, tk2, tk3, tk4, tk5, tk6, tk7, tk8, and_false, false_and, It.c]) | (refine hJ _ ?_; clear hJ R) | refine Q5 ?_ | (refine hK _ ?_; clear hK K) | ((first | refine hN _ ?_ | refine hX _ _ ?_ | refine hR _ ?_); clear hN hX hR Z) | refine Q6 rfl ?_ | refine Q7 (by decide) ?_ | (refine Q8 ?_ ?_; focus (simp only [kS, R1, R2, R3, R4, R5, R6, R7, reduceCtorEq, R9, k5, k2, g1, g3, g4, g5, g6, hi', et, Nat.add_one_sub_one, tk1, tk2, tk3, tk4, tk5, tk6, tk7, tk8, and_false, false_and, It.c]; done)) | (refine Q9 ?_ ?_; focus (simp only [kS, R1, R2, R3, R4, R5, R6, R7, reduceCtorEq, R9, k5, k2, g1, g3, g4, g5, g6, hi', et, Nat.add_one_sub_one, tk1, tk2, tk3, tk4, tk5, tk6, tk7, tk8, and_false, false_and, It.c]; done)) | refine Qa ?_ | refine Qb ?_ | refine Qc ?_ | refine And.intro (by first | assumption | omega) ?_)
                simp only [openS, e', k5, k2, g1, g3, g4, g5, g6, Bool.false_eq_true, if_false, if_true, List.nil_append, List.cons_append, List.append_nil]
                all_goals first | rfl | exact .inr rfl | exact .inl rfl | exact .inl (by simp only [ssF, List.map_cons, List.map_nil, List.length_cons, List.length_nil, Nat.add_comm 1, Nat.add_comm 2] <;> rfl)
            · repeat (first | ((first | refine Q1 ?_ | refine Q2 ?_); intro Z hN hX hR) | refine Q3 (by kernel_rfl) fun K hK => ?_ | ((first | refine Q4 fun R hJ => ?_ | with_reducible change ExpAll _ _ _); simp only [kS, R1, R2, R3, R4, R5, R6, R7, reduceCtorEq, R9, k5, k2, g1, g3, g4, g5, hi', et, Nat.add_one_sub_one, tk1, tk2, tk3, tk4, tk5, tk6, tk7, tk8, and_false, false_and, It.c]) | (refine hJ _ ?_; clear hJ R) | refine Q5 ?_ | (refine hK _ ?_; clear hK K) | ((first | refine hN _ ?_ | refine hX _ _ ?_ | refine hR _ ?_); clear hN hX hR Z) | refine Q6 rfl ?_ | refine Q7 (by decide) ?_ | (refine Q8 ?_ ?_; focus (simp only [kS, R1, R2, R3, R4, R5, R6, R7, reduceCtorEq, R9, k5, k2, g1, g3, g4, g5, hi', et, Nat.add_one_sub_one, tk1, tk2, tk3, tk4, tk5, tk6, tk7, tk8, and_false, false_and, It.c]; done)) | (refine Q9 ?_ ?_; focus (simp only [kS, R1, R2, R3, R4, R5, R6, R7, reduceCtorEq, R9, k5, k2, g1, g3, g4, g5, hi', et, Nat.add_one_sub_one, tk1, tk2, tk3, tk4, tk5, tk6, tk7, tk8, and_false, false_and, It.c]; done)) | refine Qa ?_ | refine Qb ?_ | refine Qc ?_ | refine And.intro (by first | assumption | omega) ?_)
              refine ⟨_, node41_ret gl d[m].a, rfl, ?_⟩
              try simp only [kS, R1, R2, R3, R4, R5, R6, R7, reduceCtorEq, R9, k5, k2, g1, g3, g4, g5, hi', et, Nat.add_one_sub_one, tk1, tk2, tk3, tk4, tk5, tk6, tk7, tk8, and_false, false_and, It.c]
              repeat (first | ((first | refine Q1 ?_ | refine Q2 ?_); intro Z hN hX hR) | refine Q3 (by kernel_rfl) fun K hK => ?_ | ((first | refine Q4 fun R hJ => ?_ | with_reducible change ExpAll _ _ _); simp only [kS, R1, R2, R3, R4, R5, R6, R7, reduceCtorEq, R9, k5, k2, g1, g3, g4, g5, hi', et, Nat.add_one_sub_one, tk1, tk2, tk3, tk4, tk5, tk6, tk7, tk8, and_false, false_and, It.c]) | (refine hJ _ ?_; clear hJ R) | refine Q5 ?_ | (refine hK _ ?_; clear hK K) | ((first | refine hN _ ?_ | refine hX _ _ ?_ | refine hR _ ?_); clear hN hX hR Z) | refine Q6 rfl ?_ | refine Q7 (by decide) ?_ | (refine Q8 ?_ ?_; focus (simp only [kS, R1, R2, R3, R4, R5, R6, R7, reduceCtorEq, R9, k5, k2, g1, g3, g4, g5, hi', et, Nat.add_one_sub_one, tk1, tk2, tk3, tk4, tk5, tk6, tk7, tk8, and_false, false_and, It.c]; done)) | (refine Q9 ?_ ?_; focus (simp only [kS, R1, R2, R3, R4, R5, R6, R7, reduceCtorEq, R9, k5, k2, g1, g3, g4, g5, hi', et, Nat.add_one_sub_one, tk1, tk2, tk3, tk4, tk5, tk6, tk7, tk8, and_false, false_and, It.c]; done)) | refine Qa ?_ | refine Qb ?_ | refine Qc ?_ | refine And.intro (by first | assumption | omega) ?_)
              refine ⟨_, with_fr gl s [⟨1, d[m].a, 0, 0⟩] (by omega) (by simp), rfl, ?_⟩
              try simp only [kS, R1, R2, R3, R4, R5, R6, R7, reduceCtorEq, R9, k5, k2, g1, g3, g4, g5, hi', et, Nat.add_one_sub_one, tk1, tk2, tk3, tk4, tk5, tk6, tk7, tk8, and_false, false_and, It.c]
              repeat (first | ((first | refine Q1 ?_ | refine Q2 ?_); intro Z hN hX hR) | refine Q3 (by kernel_rfl) fun K hK => ?_ | ((first | refine Q4 fun R hJ => ?_ | with_reducible change ExpAll _ _ _); simp only [kS, R1, R2, R3, R4, R5, R6, R7, reduceCtorEq, R9, k5, k2, g1, g3, g4, g5, hi', et, Nat.add_one_sub_one, tk1, tk2, tk3, tk4, tk5, tk6, tk7, tk8, and_false, false_and, It.c]) | (refine hJ _ ?_; clear hJ R) | refine Q5 ?_ | (refine hK _ ?_; clear hK K) | ((first | refine hN _ ?_ | refine hX _ _ ?_ | refine hR _ ?_); clear hN hX hR Z) | refine Q6 rfl ?_ | refine Q7 (by decide) ?_ | (refine Q8 ?_ ?_; focus (simp only [kS, R1, R2, R3, R4, R5, R6, R7, reduceCtorEq, R9, k5, k2, g1, g3, g4, g5, hi', et, Nat.add_one_sub_one, tk1, tk2, tk3, tk4, tk5, tk6, tk7, tk8, and_false, false_and, It.c]; done)) | (refine Q9 ?_ ?_; focus (simp only [kS, R1, R2, R3, R4, R5, R6, R7, reduceCtorEq, R9, k5, k2, g1, g3, g4, g5, hi', et, Nat.add_one_sub_one, tk1, tk2, tk3, tk4, tk5, tk6, tk7, tk8, and_false, false_and, It.c]; done)) | refine Qa ?_ | refine Qb ?_ | refine Qc ?_ | refine And.intro (by first | assumption | omega) ?_)
              refine ⟨_, node41_ret gl d[m].b, rfl, ?_⟩
              try simp only [kS, R1, R2, R3, R4, R5, R6, R7, reduceCtorEq, R9, k5, k2, g1, g3, g4, g5, hi', et, Nat.add_one_sub_one, tk1, tk2, tk3, tk4, tk5, tk6, tk7, tk8, and_false, false_and, It.c]
              repeat (first | ((first | refine Q1 ?_ | refine Q2 ?_); intro Z hN hX hR) | refine Q3 (by kernel_rfl) fun K hK => ?_ | ((first | refine Q4 fun R hJ => ?_ | with_reducible change ExpAll _ _ _); simp only [kS, R1, R2, R3, R4, R5, R6, R7, reduceCtorEq, R9, k5, k2, g1, g3, g4, g5, hi', et, Nat.add_one_sub_one, tk1, tk2, tk3, tk4, tk5, tk6, tk7, tk8, and_false, false_and, It.c]) | (refine hJ _ ?_; clear hJ R) | refine Q5 ?_ | (refine hK _ ?_; clear hK K) | ((first | refine hN _ ?_ | refine hX _ _ ?_ | refine hR _ ?_); clear hN hX hR Z) | refine Q6 rfl ?_ | refine Q7 (by decide) ?_ | (refine Q8 ?_ ?_; focus (simp only [kS, R1, R2, R3, R4, R5, R6, R7, reduceCtorEq, R9, k5, k2, g1, g3, g4, g5, hi', et, Nat.add_one_sub_one, tk1, tk2, tk3, tk4, tk5, tk6, tk7, tk8, and_false, false_and, It.c]; done)) | (refine Q9 ?_ ?_; focus (simp only [kS, R1, R2, R3, R4, R5, R6, R7, reduceCtorEq, R9, k5, k2, g1, g3, g4, g5, hi', et, Nat.add_one_sub_one, tk1, tk2, tk3, tk4, tk5, tk6, tk7, tk8, and_false, false_and, It.c]; done)) | refine Qa ?_ | refine Qb ?_ | refine Qc ?_ | refine And.intro (by first | assumption | omega) ?_)
              refine ⟨_, with_fr gl s [⟨1, d[m].b, 0, 0⟩] (by omega) (by simp), rfl, ?_⟩
              try simp only [kS, R1, R2, R3, R4, R5, R6, R7, reduceCtorEq, R9, k5, k2, g1, g3, g4, g5, hi', et, Nat.add_one_sub_one, tk1, tk2, tk3, tk4, tk5, tk6, tk7, tk8, and_false, false_and, It.c]
              repeat (first | ((first | refine Q1 ?_ | refine Q2 ?_); intro Z hN hX hR) | refine Q3 (by kernel_rfl) fun K hK => ?_ | ((first | refine Q4 fun R hJ => ?_ | with_reducible change ExpAll _ _ _); simp only [kS, R1, R2, R3, R4, R5, R6, R7, reduceCtorEq, R9, k5, k2, g1, g3, g4, g5, hi', et, Nat.add_one_sub_one, tk1, tk2, tk3, tk4, tk5, tk6, tk7, tk8, and_false, false_and, It.c]) | (refine hJ _ ?_; clear hJ R) | refine Q5 ?_ | (refine hK _ ?_; clear hK K) | ((first | refine hN _ ?_ | refine hX _ _ ?_ | refine hR _ ?_); clear hN hX hR Z) | refine Q6 rfl ?_ | refine Q7 (by decide) ?_ | (refine Q8 ?_ ?_; focus (simp only [kS, R1, R2, R3, R4, R5, R6, R7, reduceCtorEq, R9, k5, k2, g1, g3, g4, g5, hi', et, Nat.add_one_sub_one, tk1, tk2, tk3, tk4, tk5, tk6, tk7, tk8, and_false, false_and, It.c]; done)) | (refine Q9 ?_ ?_; focus (simp only [kS, R1, R2, R3, R4, R5, R6, R7, reduceCtorEq, R9, k5, k2, g1, g3, g4, g5, hi', et, Nat.add_one_sub_one, tk1, tk2, tk3, tk4, tk5, tk6, tk7, tk8, and_false, false_and, It.c]; done)) | refine Qa ?_ | refine Qb ?_ | refine Qc ?_ | refine And.intro (by first | assumption | omega) ?_)
              simp only [openS, e', k5, k2, g1, g3, g4, g5, Bool.false_eq_true, if_false, if_true, List.nil_append, List.cons_append, List.append_nil]
              all_goals first | rfl | exact .inr rfl | exact .inl rfl | exact .inl (by simp only [ssF, List.map_cons, List.map_nil, List.length_cons, List.length_nil, Nat.add_comm 1, Nat.add_comm 2] <;> rfl)
          · repeat (first | ((first | refine Q1 ?_ | refine Q2 ?_); intro Z hN hX hR) | refine Q3 (by kernel_rfl) fun K hK => ?_ | ((first | refine Q4 fun R hJ => ?_ | with_reducible change ExpAll _ _ _); simp only [kS, R1, R2, R3, R4, R5, R6, R7, reduceCtorEq, R9, k5, k2, g1, g3, g4, hi', et, Nat.add_one_sub_one, tk1, tk2, tk3, tk4, tk5, tk6, tk7, tk8, and_false, false_and, It.c]) | (refine hJ _ ?_; clear hJ R) | refine Q5 ?_ | (refine hK _ ?_; clear hK K) | ((first | refine hN _ ?_ | refine hX _ _ ?_ | refine hR _ ?_); clear hN hX hR Z) | refine Q6 rfl ?_ | refine Q7 (by decide) ?_ | (refine Q8 ?_ ?_; focus (simp only [kS, R1, R2, R3, R4, R5, R6, R7, reduceCtorEq, R9, k5, k2, g1, g3, g4, hi', et, Nat.add_one_sub_one, tk1, tk2, tk3, tk4, tk5, tk6, tk7, tk8, and_false, false_and, It.c]; done)) | (refine Q9 ?_ ?_; focus (simp only [kS, R1, R2, R3, R4, R5, R6, R7, reduceCtorEq, R9, k5, k2, g1, g3, g4, hi', et, Nat.add_one_sub_one, tk1, tk2, tk3, tk4, tk5, tk6, tk7, tk8, and_false, false_and, It.c]; done)) | refine Qa ?_ | refine Qb ?_ | refine Qc ?_ | refine And.intro (by first | assumption | omega) ?_)
            refine ⟨_, node41_ret gl d[m].a, rfl, ?_⟩
            try simp only [kS, R1, R2, R3, R4, R5, R6, R7, reduceCtorEq, R9, k5, k2, g1, g3, g4, hi', et, Nat.add_one_sub_one, tk1, tk2, tk3, tk4, tk5, tk6, tk7, tk8, and_false, false_and, It.c]
            repeat (first | ((first | refine Q1 ?_ | refine Q2 ?_); intro Z hN hX hR) | refine Q3 (by kernel_rfl) fun K hK => ?_ | ((first | refine Q4 fun R hJ => ?_ | with_reducible change ExpAll _ _ _); simp only [kS, R1, R2, R3, R4, R5, R6, R7, reduceCtorEq, R9, k5, k2, g1, g3, g4, hi', et, Nat.add_one_sub_one, tk1, tk2, tk3, tk4, tk5, tk6, tk7, tk8, and_false, false_and, It.c]) | (refine hJ _ ?_; clear hJ R) | refine Q5 ?_ | (refine hK _ ?_; clear hK K) | ((first | refine hN _ ?_ | refine hX _ _ ?_ | refine hR _ ?_); clear hN hX hR Z) | refine Q6 rfl ?_ | refine Q7 (by decide) ?_ | (refine Q8 ?_ ?_; focus (simp only [kS, R1, R2, R3, R4, R5, R6, R7, reduceCtorEq, R9, k5, k2, g1, g3, g4, hi', et, Nat.add_one_sub_one, tk1, tk2, tk3, tk4, tk5, tk6, tk7, tk8, and_false, false_and, It.c]; done)) | (refine Q9 ?_ ?_; focus (simp only [kS, R1, R2, R3, R4, R5, R6, R7, reduceCtorEq, R9, k5, k2, g1, g3, g4, hi', et, Nat.add_one_sub_one, tk1, tk2, tk3, tk4, tk5, tk6, tk7, tk8, and_false, false_and, It.c]; done)) | refine Qa ?_ | refine Qb ?_ | refine Qc ?_ | refine And.intro (by first | assumption | omega) ?_)
            refine ⟨_, node41_ret gl d[m].b, rfl, ?_⟩
            try simp only [kS, R1, R2, R3, R4, R5, R6, R7, reduceCtorEq, R9, k5, k2, g1, g3, g4, hi', et, Nat.add_one_sub_one, tk1, tk2, tk3, tk4, tk5, tk6, tk7, tk8, and_false, false_and, It.c]
            repeat (first | ((first | refine Q1 ?_ | refine Q2 ?_); intro Z hN hX hR) | refine Q3 (by kernel_rfl) fun K hK => ?_ | ((first | refine Q4 fun R hJ => ?_ | with_reducible change ExpAll _ _ _); simp only [kS, R1, R2, R3, R4, R5, R6, R7, reduceCtorEq, R9, k5, k2, g1, g3, g4, hi', et, Nat.add_one_sub_one, tk1, tk2, tk3, tk4, tk5, tk6, tk7, tk8, and_false, false_and, It.c]) | (refine hJ _ ?_; clear hJ R) | refine Q5 ?_ | (refine hK _ ?_; clear hK K) | ((first | refine hN _ ?_ | refine hX _ _ ?_ | refine hR _ ?_); clear hN hX hR Z) | refine Q6 rfl ?_ | refine Q7 (by decide) ?_ | (refine Q8 ?_ ?_; focus (simp only [kS, R1, R2, R3, R4, R5, R6, R7, reduceCtorEq, R9, k5, k2, g1, g3, g4, hi', et, Nat.add_one_sub_one, tk1, tk2, tk3, tk4, tk5, tk6, tk7, tk8, and_false, false_and, It.c]; done)) | (refine Q9 ?_ ?_; focus (simp only [kS, R1, R2, R3, R4, R5, R6, R7, reduceCtorEq, R9, k5, k2, g1, g3, g4, hi', et, Nat.add_one_sub_one, tk1, tk2, tk3, tk4, tk5, tk6, tk7, tk8, and_false, false_and, It.c]; done)) | refine Qa ?_ | refine Qb ?_ | refine Qc ?_ | refine And.intro (by first | assumption | omega) ?_)
            refine ⟨_, with_fr gl s [⟨1, d[m].a, 0, 0⟩, ⟨1, d[m].b, 0, 0⟩] (by omega) (by simp), rfl, ?_⟩
            try simp only [kS, R1, R2, R3, R4, R5, R6, R7, reduceCtorEq, R9, k5, k2, g1, g3, g4, hi', et, Nat.add_one_sub_one, tk1, tk2, tk3, tk4, tk5, tk6, tk7, tk8, and_false, false_and, It.c]
            repeat (first | ((first | refine Q1 ?_ | refine Q2 ?_); intro Z hN hX hR) | refine Q3 (by kernel_rfl) fun K hK => ?_ | ((first | refine Q4 fun R hJ => ?_ | with_reducible change ExpAll _ _ _); simp only [kS, R1, R2, R3, R4, R5, R6, R7, reduceCtorEq, R9, k5, k2, g1, g3, g4, hi', et, Nat.add_one_sub_one, tk1, tk2, tk3, tk4, tk5, tk6, tk7, tk8, and_false, false_and, It.c]) | (refine hJ _ ?_; clear hJ R) | refine Q5 ?_ | (refine hK _ ?_; clear hK K) | ((first | refine hN _ ?_ | refine hX _ _ ?_ | refine hR _ ?_); clear hN hX hR Z) | refine Q6 rfl ?_ | refine Q7 (by decide) ?_ | (refine Q8 ?_ ?_; focus (simp only [kS, R1, R2, R3, R4, R5, R6, R7, reduceCtorEq, R9, k5, k2, g1, g3, g4, hi', et, Nat.add_one_sub_one, tk1, tk2, tk3, tk4, tk5, tk6, tk7, tk8, and_false, false_and, It.c]; done)) | (refine Q9 ?_ ?_; focus (simp only [kS, R1, R2, R3, R4, R5, R6, R7, reduceCtorEq, R9, k5, k2, g1, g3, g4, hi', et, Nat.add_one_sub_one, tk1, tk2, tk3, tk4, tk5, tk6, tk7, tk8, and_false, false_and, It.c]; done)) | refine Qa ?_ | refine Qb ?_ | refine Qc ?_ | refine And.intro (by first | assumption | omega) ?_)
            simp only [openS, e', k5, k2, g1, g3, g4, Bool.false_eq_true, if_false, if_true, List.nil_append, List.cons_append, List.append_nil]
            all_goals first | rfl | exact .inr rfl | exact .inl rfl | exact .inl (by simp only [ssF, List.map_cons, List.map_nil, List.length_cons, List.length_nil, Nat.add_comm 1, Nat.add_comm 2] <;> rfl)
        · repeat (first | ((first | refine Q1 ?_ | refine Q2 ?_); intro Z hN hX hR) | refine Q3 (by kernel_rfl) fun K hK => ?_ | ((first | refine Q4 fun R hJ => ?_ | with_reducible change ExpAll _ _ _); simp only [kS, R1, R2, R3, R4, R5, R6, R7, reduceCtorEq, R9, k5, k2, g1, g3, hi', et, Nat.add_one_sub_one, tk1, tk2, tk3, tk4, tk5, tk6, tk7, tk8, and_false, false_and, It.c]) | (refine hJ _ ?_; clear hJ R) | refine Q5 ?_ | (refine hK _ ?_; clear hK K) | ((first | refine hN _ ?_ | refine hX _ _ ?_ | refine hR _ ?_); clear hN hX hR Z) | refine Q6 rfl ?_ | refine Q7 (by decide) ?_ | (refine Q8 ?_ ?_; focus (simp only [kS, R1, R2, R3, R4, R5, R6, R7, reduceCtorEq, R9, k5, k2, g1, g3, hi', et, Nat.add_one_sub_one, tk1, tk2, tk3, tk4, tk5, tk6, tk7, tk8, and_false, false_and, It.c]; done)) | (refine Q9 ?_ ?_; focus (simp only [kS, R1, R2, R3, R4, R5, R6, R7, reduceCtorEq, R9, k5, k2, g1, g3, hi', et, Nat.add_one_sub_one, tk1, tk2, tk3, tk4, tk5, tk6, tk7, tk8, and_false, false_and, It.c]; done)) | refine Qa ?_ | refine Qb ?_ | refine Qc ?_ | refine And.intro (by first | assumption | omega) ?_)
          refine ⟨_, with_fr gl s [⟨3, m, 0, 0⟩] (by omega) (by simp), rfl, ?_⟩
          try simp only [kS, R1, R2, R3, R4, R5, R6, R7, reduceCtorEq, R9, k5, k2, g1, g3, hi', et, Nat.add_one_sub_one, tk1, tk2, tk3, tk4, tk5, tk6, tk7, tk8, and_false, false_and, It.c]
          repeat (first | ((first | refine Q1 ?_ | refine Q2 ?_); intro Z hN hX hR) | refine Q3 (by kernel_rfl) fun K hK => ?_ | ((first | refine Q4 fun R hJ => ?_ | with_reducible change ExpAll _ _ _); simp only [kS, R1, R2, R3, R4, R5, R6, R7, reduceCtorEq, R9, k5, k2, g1, g3, hi', et, Nat.add_one_sub_one, tk1, tk2, tk3, tk4, tk5, tk6, tk7, tk8, and_false, false_and, It.c]) | (refine hJ _ ?_; clear hJ R) | refine Q5 ?_ | (refine hK _ ?_; clear hK K) | ((first | refine hN _ ?_ | refine hX _ _ ?_ | refine hR _ ?_); clear hN hX hR Z) | refine Q6 rfl ?_ | refine Q7 (by decide) ?_ | (refine Q8 ?_ ?_; focus (simp only [kS, R1, R2, R3, R4, R5, R6, R7, reduceCtorEq, R9, k5, k2, g1, g3, hi', et, Nat.add_one_sub_one, tk1, tk2, tk3, tk4, tk5, tk6, tk7, tk8, and_false, false_and, It.c]; done)) | (refine Q9 ?_ ?_; focus (simp only [kS, R1, R2, R3, R4, R5, R6, R7, reduceCtorEq, R9, k5, k2, g1, g3, hi', et, Nat.add_one_sub_one, tk1, tk2, tk3, tk4, tk5, tk6, tk7, tk8, and_false, false_and, It.c]; done)) | refine Qa ?_ | refine Qb ?_ | refine Qc ?_ | refine And.intro (by first | assumption | omega) ?_)
          simp only [openS, e', k5, k2, g1, g3, Bool.false_eq_true, if_false, if_true, List.nil_append, List.cons_append, List.append_nil]
          all_goals first | rfl | exact .inr rfl | exact .inl rfl | exact .inl (by simp only [ssF, List.map_cons, List.map_nil, List.length_cons, List.length_nil, Nat.add_comm 1, Nat.add_comm 2] <;> rfl)
      · repeat (first | ((first | refine Q1 ?_ | refine Q2 ?_); intro Z hN hX hR) | refine Q3 (by kernel_rfl) fun K hK => ?_ | ((first | refine Q4 fun R hJ => ?_ | with_reducible change ExpAll _ _ _); simp only [kS, R1, R2, R3, R4, R5, R6, R7, reduceCtorEq, R9, k5, k2, g1, hi', et, Nat.add_one_sub_one, tk1, tk2, tk3, tk4, tk5, tk6, tk7, tk8, and_false, false_and, It.c]) | (refine hJ _ ?_; clear hJ R) | refine Q5 ?_ | (refine hK _ ?_; clear hK K) | ((first | refine hN _ ?_ | refine hX _ _ ?_ | refine hR _ ?_); clear hN hX hR Z) | refine Q6 rfl ?_ | refine Q7 (by decide) ?_ | (refine Q8 ?_ ?_; focus (simp only [kS, R1, R2, R3, R4, R5, R6, R7, reduceCtorEq, R9, k5, k2, g1, hi', et, Nat.add_one_sub_one, tk1, tk2, tk3, tk4, tk5, tk6, tk7, tk8, and_false, false_and, It.c]; done)) | (refine Q9 ?_ ?_; focus (simp only [kS, R1, R2, R3, R4, R5, R6, R7, reduceCtorEq, R9, k5, k2, g1, hi', et, Nat.add_one_sub_one, tk1, tk2, tk3, tk4, tk5, tk6, tk7, tk8, and_false, false_and, It.c]; done)) | refine Qa ?_ | refine Qb ?_ | refine Qc ?_ | refine And.intro (by first | assumption | omega) ?_)
        refine ⟨_, with_fr gl s [] (by omega) (by simp), rfl, ?_⟩
        try simp only [kS, R1, R2, R3, R4, R5, R6, R7, reduceCtorEq, R9, k5, k2, g1, hi', et, Nat.add_one_sub_one, tk1, tk2, tk3, tk4, tk5, tk6, tk7, tk8, and_false, false_and, It.c]
        repeat (first | ((first | refine Q1 ?_ | refine Q2 ?_); intro Z hN hX hR) | refine Q3 (by kernel_rfl) fun K hK => ?_ | ((first | refine Q4 fun R hJ => ?_ | with_reducible change ExpAll _ _ _); simp only [kS, R1, R2, R3, R4, R5, R6, R7, reduceCtorEq, R9, k5, k2, g1, hi', et, Nat.add_one_sub_one, tk1, tk2, tk3, tk4, tk5, tk6, tk7, tk8, and_false, false_and, It.c]) | (refine hJ _ ?_; clear hJ R) | refine Q5 ?_ | (refine hK _ ?_; clear hK K) | ((first | refine hN _ ?_ | refine hX _ _ ?_ | refine hR _ ?_); clear hN hX hR Z) | refine Q6 rfl ?_ | refine Q7 (by decide) ?_ | (refine Q8 ?_ ?_; focus (simp only [kS, R1, R2, R3, R4, R5, R6, R7, reduceCtorEq, R9, k5, k2, g1, hi', et, Nat.add_one_sub_one, tk1, tk2, tk3, tk4, tk5, tk6, tk7, tk8, and_false, false_and, It.c]; done)) | (refine Q9 ?_ ?_; focus (simp only [kS, R1, R2, R3, R4, R5, R6, R7, reduceCtorEq, R9, k5, k2, g1, hi', et, Nat.add_one_sub_one, tk1, tk2, tk3, tk4, tk5, tk6, tk7, tk8, and_false, false_and, It.c]; done)) | refine Qa ?_ | refine Qb ?_ | refine Qc ?_ | refine And.intro (by first | assumption | omega) ?_)
        simp only [openS, e', k5, k2, g1, Bool.false_eq_true, if_false, if_true, List.nil_append, List.cons_append, List.append_nil]
        all_goals first | rfl | exact .inr rfl | exact .inl rfl | exact .inl (by simp only [ssF, List.map_cons, List.map_nil, List.length_cons, List.length_nil, Nat.add_comm 1, Nat.add_comm 2] <;> rfl)
    · have hk2 : k = 2 := by simpa using k2
      have hw : IntKind.i64.wrap (lo - 1) = lo - 1 := wrap_i64 (by omega) (by omega)
      have hmx : (if 0 < lo - 1 then lo - 1 else 0) = (if lo - 1 < 0 then 0 else lo - 1) := by split <;> split <;> omega
      cases lo0 : (lo == 0)
      · by_cases hp : 0 < hi
        · have hh : IntKind.i64.wrap (hi - 1) = hi - 1 := wrap_i64 (by omega) (by omega)
          repeat (first | ((first | refine Q1 ?_ | refine Q2 ?_); intro Z hN hX hR) | refine Q3 (by kernel_rfl) fun K hK => ?_ | ((first | refine Q4 fun R hJ => ?_ | with_reducible change ExpAll _ _ _); simp only [kS, R1, R2, R3, R4, R5, R6, R7, reduceCtorEq, R9, k5, k2, lo0, hp, decide_true, decide_false, gt_iff_lt, hw, hh, hmx, hi', et, Nat.add_one_sub_one, tk1, tk2, tk3, tk4, tk5, tk6, tk7, tk8, and_false, false_and, It.c]) | (refine hJ _ ?_; clear hJ R) | refine Q5 ?_ | (refine hK _ ?_; clear hK K) | ((first | refine hN _ ?_ | refine hX _ _ ?_ | refine hR _ ?_); clear hN hX hR Z) | refine Q6 rfl ?_ | refine Q7 (by decide) ?_ | (refine Q8 ?_ ?_; focus (simp only [kS, R1, R2, R3, R4, R5, R6, R7, reduceCtorEq, R9, k5, k2, lo0, hp, decide_true, decide_false, gt_iff_lt, hw, hh, hmx, hi', et, Nat.add_one_sub_one, tk1, tk2, tk3, tk4, tk5, tk6, tk7, tk8, and_false, false_and, It.c]; done)) | (refine Q9 ?_ ?_; focus (simp only [kS, R1, R2, R3, R4, R5, R6, R7, reduceCtorEq, R9, k5, k2, lo0, hp, decide_true, decide_false, gt_iff_lt, hw, hh, hmx, hi', et, Nat.add_one_sub_one, tk1, tk2, tk3, tk4, tk5, tk6, tk7, tk8, and_false, false_and, It.c]; done)) | refine Qa ?_ | refine Qb ?_ | refine Qc ?_ | refine And.intro (by first | assumption | omega) ?_)
          refine ⟨_, node41_ret gl d[m].a, rfl, ?_⟩
          try simp only [kS, R1, R2, R3, R4, R5, R6, R7, reduceCtorEq, R9, k5, k2, lo0, hp, decide_true, decide_false, gt_iff_lt, hw, hh, hmx, hi', et, Nat.add_one_sub_one, tk1, tk2, tk3, tk4, tk5, tk6, tk7, tk8, and_false, false_and, It.c]
          repeat (first | ((first | refine Q1 ?_ | refine Q2 ?_); intro Z hN hX hR) | refine Q3 (by kernel_rfl) fun K hK => ?_ | ((first | refine Q4 fun R hJ => ?_ | with_reducible change ExpAll _ _ _); simp only [kS, R1, R2, R3, R4, R5, R6, R7, reduceCtorEq, R9, k5, k2, lo0, hp, decide_true, decide_false, gt_iff_lt, hw, hh, hmx, hi', et, Nat.add_one_sub_one, tk1, tk2, tk3, tk4, tk5, tk6, tk7, tk8, and_false, false_and, It.c]) | (refine hJ _ ?_; clear hJ R) | refine Q5 ?_ | (refine hK _ ?_; clear hK K) | ((first | refine hN _ ?_ | refine hX _ _ ?_ | refine hR _ ?_); clear hN hX hR Z) | refine Q6 rfl ?_ | refine Q7 (by decide) ?_ | (refine Q8 ?_ ?_; focus (simp only [kS, R1, R2, R3, R4, R5, R6, R7, reduceCtorEq, R9, k5, k2, lo0, hp, decide_true, decide_false, gt_iff_lt, hw, hh, hmx, hi', et, Nat.add_one_sub_one, tk1, tk2, tk3, tk4, tk5, tk6, tk7, tk8, and_false, false_and, It.c]; done)) | (refine Q9 ?_ ?_; focus (simp only [kS, R1, R2, R3, R4, R5, R6, R7, reduceCtorEq, R9, k5, k2, lo0, hp, decide_true, decide_false, gt_iff_lt, hw, hh, hmx, hi', et, Nat.add_one_sub_one, tk1, tk2, tk3, tk4, tk5, tk6, tk7, tk8, and_false, false_and, It.c]; done)) | refine Qa ?_ | refine Qb ?_ | refine Qc ?_ | refine And.intro (by first | assumption | omega) ?_)
          refine ⟨_, with_fr gl s [⟨1, d[m].a, 0, 0⟩, ⟨k, m, if lo - 1 < 0 then 0 else lo - 1, hi - 1⟩] (by omega) (by simp), rfl, ?_⟩
          try simp only [kS, R1, R2, R3, R4, R5, R6, R7, reduceCtorEq, R9, k5, k2, lo0, hp, decide_true, decide_false, gt_iff_lt, hw, hh, hmx, hi', et, Nat.add_one_sub_one, tk1, tk2, tk3, tk4, tk5, tk6, tk7, tk8, and_false, false_and, It.c]
          repeat (first | ((first | refine Q1 ?_ | refine Q2 ?_); intro Z hN hX hR) | refine Q3 (by kernel_rfl) fun K hK => ?_ | ((first | refine Q4 fun R hJ => ?_ | with_reducible change ExpAll _ _ _); simp only [kS, R1, R2, R3, R4, R5, R6, R7, reduceCtorEq, R9, k5, k2, lo0, hp, decide_true, decide_false, gt_iff_lt, hw, hh, hmx, hi', et, Nat.add_one_sub_one, tk1, tk2, tk3, tk4, tk5, tk6, tk7, tk8, and_false, false_and, It.c]) | (refine hJ _ ?_; clear hJ R) | refine Q5 ?_ | (refine hK _ ?_; clear hK K) | ((first | refine hN _ ?_ | refine hX _ _ ?_ | refine hR _ ?_); clear hN hX hR Z) | refine Q6 rfl ?_ | refine Q7 (by decide) ?_ | (refine Q8 ?_ ?_; focus (simp only [kS, R1, R2, R3, R4, R5, R6, R7, reduceCtorEq, R9, k5, k2, lo0, hp, decide_true, decide_false, gt_iff_lt, hw, hh, hmx, hi', et, Nat.add_one_sub_one, tk1, tk2, tk3, tk4, tk5, tk6, tk7, tk8, and_false, false_and, It.c]; done)) | (refine Q9 ?_ ?_; focus (simp only [kS, R1, R2, R3, R4, R5, R6, R7, reduceCtorEq, R9, k5, k2, lo0, hp, decide_true, decide_false, gt_iff_lt, hw, hh, hmx, hi', et, Nat.add_one_sub_one, tk1, tk2, tk3, tk4, tk5, tk6, tk7, tk8, and_false, false_and, It.c]; done)) | refine Qa ?_ | refine Qb ?_ | refine Qc ?_ | refine And.intro (by first | assumption | omega) ?_)
          simp only [openS, e', k5, k2, lo0, hp, decide_true, decide_false, gt_iff_lt, hmx, hk2, Int.reduceBEq, Bool.false_eq_true, if_false, if_true, List.nil_append, List.cons_append, List.append_nil]
          all_goals first | rfl | exact .inr rfl | exact .inl rfl | exact .inl (by simp only [ssF, List.map_cons, List.map_nil, List.length_cons, List.length_nil, Nat.add_comm 1, Nat.add_comm 2] <;> rfl)
        · repeat (first | ((first | refine Q1 ?_ | refine Q2 ?_); intro Z hN hX hR) | refine Q3 (by kernel_rfl) fun K hK => ?_ | ((first | refine Q4 fun R hJ => ?_ | with_reducible change ExpAll _ _ _); simp only [kS, R1, R2, R3, R4, R5, R6, R7, reduceCtorEq, R9, k5, k2, lo0, hp, decide_true, decide_false, gt_iff_lt, hi', et, Nat.add_one_sub_one, tk1, tk2, tk3, tk4, tk5, tk6, tk7, tk8, and_false, false_and, It.c]) | (refine hJ _ ?_; clear hJ R) | refine Q5 ?_ | (refine hK _ ?_; clear hK K) | ((first | refine hN _ ?_ | refine hX _ _ ?_ | refine hR _ ?_); clear hN hX hR Z) | refine Q6 rfl ?_ | refine Q7 (by decide) ?_ | (refine Q8 ?_ ?_; focus (simp only [kS, R1, R2, R3, R4, R5, R6, R7, reduceCtorEq, R9, k5, k2, lo0, hp, decide_true, decide_false, gt_iff_lt, hi', et, Nat.add_one_sub_one, tk1, tk2, tk3, tk4, tk5, tk6, tk7, tk8, and_false, false_and, It.c]; done)) | (refine Q9 ?_ ?_; focus (simp only [kS, R1, R2, R3, R4, R5, R6, R7, reduceCtorEq, R9, k5, k2, lo0, hp, decide_true, decide_false, gt_iff_lt, hi', et, Nat.add_one_sub_one, tk1, tk2, tk3, tk4, tk5, tk6, tk7, tk8, and_false, false_and, It.c]; done)) | refine Qa ?_ | refine Qb ?_ | refine Qc ?_ | refine And.intro (by first | assumption | omega) ?_)
          simp only [openS, e', k5, k2, lo0, hp, decide_true, decide_false, gt_iff_lt, hk2, Int.reduceBEq, Bool.false_eq_true, if_false, if_true, List.nil_append, List.cons_append, List.append_nil]
          all_goals first | rfl | exact .inr rfl | exact .inl rfl | exact .inl (by simp only [ssF, List.map_cons, List.map_nil, List.length_cons, List.length_nil, Nat.add_comm 1, Nat.add_comm 2] <;> rfl)
      · by_cases hp : 0 < hi
        · have hh : IntKind.i64.wrap (hi - 1) = hi - 1 := wrap_i64 (by omega) (by omega)
          repeat (first | ((first | refine Q1 ?_ | refine Q2 ?_); intro Z hN hX hR) | refine Q3 (by kernel_rfl) fun K hK => ?_ | ((first | refine Q4 fun R hJ => ?_ | with_reducible change ExpAll _ _ _); simp only [kS, R1, R2, R3, R4, R5, R6, R7, reduceCtorEq, R9, k5, k2, lo0, hp, decide_true, decide_false, gt_iff_lt, hw, hh, hmx, hi', et, Nat.add_one_sub_one, tk1, tk2, tk3, tk4, tk5, tk6, tk7, tk8, and_false, false_and, It.c]) | (refine hJ _ ?_; clear hJ R) | refine Q5 ?_ | (refine hK _ ?_; clear hK K) | ((first | refine hN _ ?_ | refine hX _ _ ?_ | refine hR _ ?_); clear hN hX hR Z) | refine Q6 rfl ?_ | refine Q7 (by decide) ?_ | (refine Q8 ?_ ?_; focus (simp only [kS, R1, R2, R3, R4, R5, R6, R7, reduceCtorEq, R9, k5, k2, lo0, hp, decide_true, decide_false, gt_iff_lt, hw, hh, hmx, hi', et, Nat.add_one_sub_one, tk1, tk2, tk3, tk4, tk5, tk6, tk7, tk8, and_false, false_and, It.c]; done)) | (refine Q9 ?_ ?_; focus (simp only [kS, R1, R2, R3, R4, R5, R6, R7, reduceCtorEq, R9, k5, k2, lo0, hp, decide_true, decide_false, gt_iff_lt, hw, hh, hmx, hi', et, Nat.add_one_sub_one, tk1, tk2, tk3, tk4, tk5, tk6, tk7, tk8, and_false, false_and, It.c]; done)) | refine Qa ?_ | refine Qb ?_ | refine Qc ?_ | refine And.intro (by first | assumption | omega) ?_)
          refine ⟨_, with_fr gl s [] (by omega) (by simp), rfl, ?_⟩
          try simp only [kS, R1, R2, R3, R4, R5, R6, R7, reduceCtorEq, R9, k5, k2, lo0, hp, decide_true, decide_false, gt_iff_lt, hw, hh, hmx, hi', et, Nat.add_one_sub_one, tk1, tk2, tk3, tk4, tk5, tk6, tk7, tk8, and_false, false_and, It.c]
          repeat (first | ((first | refine Q1 ?_ | refine Q2 ?_); intro Z hN hX hR) | refine Q3 (by kernel_rfl) fun K hK => ?_ | ((first | refine Q4 fun R hJ => ?_ | with_reducible change ExpAll _ _ _); simp only [kS, R1, R2, R3, R4, R5, R6, R7, reduceCtorEq, R9, k5, k2, lo0, hp, decide_true, decide_false, gt_iff_lt, hw, hh, hmx, hi', et, Nat.add_one_sub_one, tk1, tk2, tk3, tk4, tk5, tk6, tk7, tk8, and_false, false_and, It.c]) | (refine hJ _ ?_; clear hJ R) | refine Q5 ?_ | (refine hK _ ?_; clear hK K) | ((first | refine hN _ ?_ | refine hX _ _ ?_ | refine hR _ ?_); clear hN hX hR Z) | refine Q6 rfl ?_ | refine Q7 (by decide) ?_ | (refine Q8 ?_ ?_; focus (simp only [kS, R1, R2, R3, R4, R5, R6, R7, reduceCtorEq, R9, k5, k2, lo0, hp, decide_true, decide_false, gt_iff_lt, hw, hh, hmx, hi', et, Nat.add_one_sub_one, tk1, tk2, tk3, tk4, tk5, tk6, tk7, tk8, and_false, false_and, It.c]; done)) | (refine Q9 ?_ ?_; focus (simp only [kS, R1, R2, R3, R4, R5, R6, R7, reduceCtorEq, R9, k5, k2, lo0, hp, decide_true, decide_false, gt_iff_lt, hw, hh, hmx, hi', et, Nat.add_one_sub_one, tk1, tk2, tk3, tk4, tk5, tk6, tk7, tk8, and_false, false_and, It.c]; done)) | refine Qa ?_ | refine Qb ?_ | refine Qc ?_ | refine And.intro (by first | assumption | omega) ?_)
          refine ⟨_, node41_ret gl d[m].a, rfl, ?_⟩
          try simp only [kS, R1, R2, R3, R4, R5, R6, R7, reduceCtorEq, R9, k5, k2, lo0, hp, decide_true, decide_false, gt_iff_lt, hw, hh, hmx, hi', et, Nat.add_one_sub_one, tk1, tk2, tk3, tk4, tk5, tk6, tk7, tk8, and_false, false_and, It.c]
          repeat (first | ((first | refine Q1 ?_ | refine Q2 ?_); intro Z hN hX hR) | refine Q3 (by kernel_rfl) fun K hK => ?_ | ((first | refine Q4 fun R hJ => ?_ | with_reducible change ExpAll _ _ _); simp only [kS, R1, R2, R3, R4, R5, R6, R7, reduceCtorEq, R9, k5, k2, lo0, hp, decide_true, decide_false, gt_iff_lt, hw, hh, hmx, hi', et, Nat.add_one_sub_one, tk1, tk2, tk3, tk4, tk5, tk6, tk7, tk8, and_false, false_and, It.c]) | (refine hJ _ ?_; clear hJ R) | refine Q5 ?_ | (refine hK _ ?_; clear hK K) | ((first | refine hN _ ?_ | refine hX _ _ ?_ | refine hR _ ?_); clear hN hX hR Z) | refine Q6 rfl ?_ | refine Q7 (by decide) ?_ | (refine Q8 ?_ ?_; focus (simp only [kS, R1, R2, R3, R4, R5, R6, R7, reduceCtorEq, R9, k5, k2, lo0, hp, decide_true, decide_false, gt_iff_lt, hw, hh, hmx, hi', et, Nat.add_one_sub_one, tk1, tk2, tk3, tk4, tk5, tk6, tk7, tk8, and_false, false_and, It.c]; done)) | (refine Q9 ?_ ?_; focus (simp only [kS, R1, R2, R3, R4, R5, R6, R7, reduceCtorEq, R9, k5, k2, lo0, hp, decide_true, decide_false, gt_iff_lt, hw, hh, hmx, hi', et, Nat.add_one_sub_one, tk1, tk2, tk3, tk4, tk5, tk6, tk7, tk8, and_false, false_and, It.c]; done)) | refine Qa ?_ | refine Qb ?_ | refine Qc ?_ | refine And.intro (by first | assumption | omega) ?_)
          refine ⟨_, with_fr gl s [⟨1, d[m].a, 0, 0⟩, ⟨k, m, if lo - 1 < 0 then 0 else lo - 1, hi - 1⟩] (by omega) (by simp), rfl, ?_⟩
          try simp only [kS, R1, R2, R3, R4, R5, R6, R7, reduceCtorEq, R9, k5, k2, lo0, hp, decide_true, decide_false, gt_iff_lt, hw, hh, hmx, hi', et, Nat.add_one_sub_one, tk1, tk2, tk3, tk4, tk5, tk6, tk7, tk8, and_false, false_and, It.c]
          repeat (first | ((first | refine Q1 ?_ | refine Q2 ?_); intro Z hN hX hR) | refine Q3 (by kernel_rfl) fun K hK => ?_ | ((first | refine Q4 fun R hJ => ?_ | with_reducible change ExpAll _ _ _); simp only [kS, R1, R2, R3, R4, R5, R6, R7, reduceCtorEq, R9, k5, k2, lo0, hp, decide_true, decide_false, gt_iff_lt, hw, hh, hmx, hi', et, Nat.add_one_sub_one, tk1, tk2, tk3, tk4, tk5, tk6, tk7, tk8, and_false, false_and, It.c]) | (refine hJ _ ?_; clear hJ R) | refine Q5 ?_ | (refine hK _ ?_; clear hK K) | ((first | refine hN _ ?_ | refine hX _ _ ?_ | refine hR _ ?_); clear hN hX hR Z) | refine Q6 rfl ?_ | refine Q7 (by decide) ?_ | (refine Q8 ?_ ?_; focus (simp only [kS, R1, R2, R3, R4, R5, R6, R7, reduceCtorEq, R9, k5, k2, lo0, hp, decide_true, decide_false, gt_iff_lt, hw, hh, hmx, hi', et, Nat.add_one_sub_one, tk1, tk2, tk3, tk4, tk5, tk6, tk7, tk8, and_false, false_and, It.c]; done)) | (refine Q9 ?_ ?_; focus (simp only [kS, R1, R2, R3, R4, R5, R6, R7, reduceCtorEq, R9, k5, k2, lo0, hp, decide_true, decide_false, gt_iff_lt, hw, hh, hmx, hi', et, Nat.add_one_sub_one, tk1, tk2, tk3, tk4, tk5, tk6, tk7, tk8, and_false, false_and, It.c]; done)) | refine Qa ?_ | refine Qb ?_ | refine Qc ?_ | refine And.intro (by first | assumption | omega) ?_)
          simp only [openS, e', k5, k2, lo0, hp, decide_true, decide_false, gt_iff_lt, hmx, hk2, Int.reduceBEq, Bool.false_eq_true, if_false, if_true, List.nil_append, List.cons_append, List.append_nil]
          all_goals first | rfl | exact .inr rfl | exact .inl rfl | exact .inl (by simp only [ssF, List.map_cons, List.map_nil, List.length_cons, List.length_nil, Nat.add_comm 1, Nat.add_comm 2] <;> rfl)
        · repeat (first | ((first | refine Q1 ?_ | refine Q2 ?_); intro Z hN hX hR) | refine Q3 (by kernel_rfl) fun K hK => ?_ | ((first | refine Q4 fun R hJ => ?_ | with_reducible change ExpAll _ _ _); simp only [kS, R1, R2, R3, R4, R5, R6, R7, reduceCtorEq, R9, k5, k2, lo0, hp, decide_true, decide_false, gt_iff_lt, hi', et, Nat.add_one_sub_one, tk1, tk2, tk3, tk4, tk5, tk6, tk7, tk8, and_false, false_and, It.c]) | (refine hJ _ ?_; clear hJ R) | refine Q5 ?_ | (refine hK _ ?_; clear hK K) | ((first | refine hN _ ?_ | refine hX _ _ ?_ | refine hR _ ?_); clear hN hX hR Z) | refine Q6 rfl ?_ | refine Q7 (by decide) ?_ | (refine Q8 ?_ ?_; focus (simp only [kS, R1, R2, R3, R4, R5, R6, R7, reduceCtorEq, R9, k5, k2, lo0, hp, decide_true, decide_false, gt_iff_lt, hi', et, Nat.add_one_sub_one, tk1, tk2, tk3, tk4, tk5, tk6, tk7, tk8, and_false, false_and, It.c]; done)) | (refine Q9 ?_ ?_; focus (simp only [kS, R1, R2, R3, R4, R5, R6, R7, reduceCtorEq, R9, k5, k2, lo0, hp, decide_true, decide_false, gt_iff_lt, hi', et, Nat.add_one_sub_one, tk1, tk2, tk3, tk4, tk5, tk6, tk7, tk8, and_false, false_and, It.c]; done)) | refine Qa ?_ | refine Qb ?_ | refine Qc ?_ | refine And.intro (by first | assumption | omega) ?_)
          refine ⟨_, with_fr gl s [] (by omega) (by simp), rfl, ?_⟩
          try simp only [kS, R1, R2, R3, R4, R5, R6, R7, reduceCtorEq, R9, k5, k2, lo0, hp, decide_true, decide_false, gt_iff_lt, hi', et, Nat.add_one_sub_one, tk1, tk2, tk3, tk4, tk5, tk6, tk7, tk8, and_false, false_and, It.c]
          repeat (first | ((first | refine Q1 ?_ | refine Q2 ?_); intro Z hN hX hR) | refine Q3 (by kernel_rfl) fun K hK => ?_ | ((first | refine Q4 fun R hJ => ?_ | with_reducible change ExpAll _ _ _); simp only [kS, R1, R2, R3, R4, R5, R6, R7, reduceCtorEq, R9, k5, k2, lo0, hp, decide_true, decide_false, gt_iff_lt, hi', et, Nat.add_one_sub_one, tk1, tk2, tk3, tk4, tk5, tk6, tk7, tk8, and_false, false_and, It.c]) | (refine hJ _ ?_; clear hJ R) | refine Q5 ?_ | (refine hK _ ?_; clear hK K) | ((first | refine hN _ ?_ | refine hX _ _ ?_ | refine hR _ ?_); clear hN hX hR Z) | refine Q6 rfl ?_ | refine Q7 (by decide) ?_ | (refine Q8 ?_ ?_; focus (simp only [kS, R1, R2, R3, R4, R5, R6, R7, reduceCtorEq, R9, k5, k2, lo0, hp, decide_true, decide_false, gt_iff_lt, hi', et, Nat.add_one_sub_one, tk1, tk2, tk3, tk4, tk5, tk6, tk7, tk8, and_false, false_and, It.c]; done)) | (refine Q9 ?_ ?_; focus (simp only [kS, R1, R2, R3, R4, R5, R6, R7, reduceCtorEq, R9, k5, k2, lo0, hp, decide_true, decide_false, gt_iff_lt, hi', et, Nat.add_one_sub_one, tk1, tk2, tk3, tk4, tk5, tk6, tk7, tk8, and_false, false_and, It.c]; done)) | refine Qa ?_ | refine Qb ?_ | refine Qc ?_ | refine And.intro (by first | assumption | omega) ?_)
          simp only [openS, e', k5, k2, lo0, hp, decide_true, decide_false, gt_iff_lt, hk2, Int.reduceBEq, Bool.false_eq_true, if_false, if_true, List.nil_append, List.cons_append, List.append_nil]
          all_goals first | rfl | exact .inr rfl | exact .inl rfl | exact .inl (by simp only [ssF, List.map_cons, List.map_nil, List.length_cons, List.length_nil, Nat.add_comm 1, Nat.add_comm 2] <;> rfl)
  · cases lo0 : (lo == 0)
    · repeat (first | ((first | refine Q1 ?_ | refine Q2 ?_); intro Z hN hX hR) | refine Q3 (by kernel_rfl) fun K hK => ?_ | ((first | refine Q4 fun R hJ => ?_ | with_reducible change ExpAll _ _ _); simp only [kS, R1, R2, R3, R4, R5, R6, R7, reduceCtorEq, R9, k5, lo0, hi', et, Nat.add_one_sub_one, tk1, tk2, tk3, tk4, tk5, tk6, tk7, tk8, and_false, false_and, It.c]) | (refine hJ _ ?_; clear hJ R) | refine Q5 ?_ | (refine hK _ ?_; clear hK K) | ((first | refine hN _ ?_ | refine hX _ _ ?_ | refine hR _ ?_); clear hN hX hR Z) | refine Q6 rfl ?_ | refine Q7 (by decide) ?_ | (refine Q8 ?_ ?_; focus (simp only [kS, R1, R2, R3, R4, R5, R6, R7, reduceCtorEq, R9, k5, lo0, hi', et, Nat.add_one_sub_one, tk1, tk2, tk3, tk4, tk5, tk6, tk7, tk8, and_false, false_and, It.c]; done)) | (refine Q9 ?_ ?_; focus (simp only [kS, R1, R2, R3, R4, R5, R6, R7, reduceCtorEq, R9, k5, lo0, hi', et, Nat.add_one_sub_one, tk1, tk2, tk3, tk4, tk5, tk6, tk7, tk8, and_false, false_and, It.c]; done)) | refine Qa ?_ | refine Qb ?_ | refine Qc ?_ | refine And.intro (by first | assumption | omega) ?_)
      simp only [openS, e', k5, lo0, Bool.false_eq_true, if_false, if_true, List.nil_append, List.cons_append, List.append_nil]
      all_goals first | rfl | exact .inr rfl | exact .inl rfl | exact .inl (by simp only [ssF, List.map_cons, List.map_nil, List.length_cons, List.length_nil, Nat.add_comm 1, Nat.add_comm 2] <;> rfl)
    · repeat (first | ((first | refine Q1 ?_ | refine Q2 ?_); intro Z hN hX hR) | refine Q3 (by kernel_rfl) fun K hK => ?_ | ((first | refine Q4 fun R hJ => ?_ | with_reducible change ExpAll _ _ _); simp only [kS, R1, R2, R3, R4, R5, R6, R7, reduceCtorEq, R9, k5, lo0, hi', et, Nat.add_one_sub_one, tk1, tk2, tk3, tk4, tk5, tk6, tk7, tk8, and_false, false_and, It.c]) | (refine hJ _ ?_; clear hJ R) | refine Q5 ?_ | (refine hK _ ?_; clear hK K) | ((first | refine hN _ ?_ | refine hX _ _ ?_ | refine hR _ ?_); clear hN hX hR Z) | refine Q6 rfl ?_ | refine Q7 (by decide) ?_ | (refine Q8 ?_ ?_; focus (simp only [kS, R1, R2, R3, R4, R5, R6, R7, reduceCtorEq, R9, k5, lo0, hi', et, Nat.add_one_sub_one, tk1, tk2, tk3, tk4, tk5, tk6, tk7, tk8, and_false, false_and, It.c]; done)) | (refine Q9 ?_ ?_; focus (simp only [kS, R1, R2, R3, R4, R5, R6, R7, reduceCtorEq, R9, k5, lo0, hi', et, Nat.add_one_sub_one, tk1, tk2, tk3, tk4, tk5, tk6, tk7, tk8, and_false, false_and, It.c]; done)) | refine Qa ?_ | refine Qb ?_ | refine Qc ?_ | refine And.intro (by first | assumption | omega) ?_)
      refine ⟨_, with_fr gl s [] (by omega) (by simp), rfl, ?_⟩
      try simp only [kS, R1, R2, R3, R4, R5, R6, R7, reduceCtorEq, R9, k5, lo0, hi', et, Nat.add_one_sub_one, tk1, tk2, tk3, tk4, tk5, tk6, tk7, tk8, and_false, false_and, It.c]
      repeat (first | ((first | refine Q1 ?_ | refine Q2 ?_); intro Z hN hX hR) | refine Q3 (by kernel_rfl) fun K hK => ?_ | ((first | refine Q4 fun R hJ => ?_ | with_reducible change ExpAll _ _ _); simp only [kS, R1, R2, R3, R4, R5, R6, R7, reduceCtorEq, R9, k5, lo0, hi', et, Nat.add_one_sub_one, tk1, tk2, tk3, tk4, tk5, tk6, tk7, tk8, and_false, false_and, It.c]) | (refine hJ _ ?_; clear hJ R) | refine Q5 ?_ | (refine hK _ ?_; clear hK K) | ((first | refine hN _ ?_ | refine hX _ _ ?_ | refine hR _ ?_); clear hN hX hR Z) | refine Q6 rfl ?_ | refine Q7 (by decide) ?_ | (refine Q8 ?_ ?_; focus (simp only [kS, R1, R2, R3, R4, R5, R6, R7, reduceCtorEq, R9, k5, lo0, hi', et, Nat.add_one_sub_one, tk1, tk2, tk3, tk4, tk5, tk6, tk7, tk8, and_false, false_and, It.c]; done)) | (refine Q9 ?_ ?_; focus (simp only [kS, R1, R2, R3, R4, R5, R6, R7, reduceCtorEq, R9, k5, lo0, hi', et, Nat.add_one_sub_one, tk1, tk2, tk3, tk4, tk5, tk6, tk7, tk8, and_false, false_and, It.c]; done)) | refine Qa ?_ | refine Qb ?_ | refine Qc ?_ | refine And.intro (by first | assumption | omega) ?_)
      simp only [openS, e', k5, lo0, Bool.false_eq_true, if_false, if_true, List.nil_append, List.cons_append, List.append_nil]
      all_goals first | rfl | exact .inr rfl | exact .inl rfl | exact .inl (by simp only [ssF, List.map_cons, List.map_nil, List.length_cons, List.length_nil, Nat.add_comm 1, Nat.add_comm 2] <;> rfl)

end Go.Proofs.YtilhjiopbbbgmaaDoor

/- HeadsKeeps: what is answered lies in memory of the call's own: the plain part. -/
namespace Go.Proofs.YtilhjiopbbbgmaaDoor
open Go Go.RowKit Am Go.Shelf
set_option linter.unusedVariables false
set_option linter.unusedSimpArgs false

mutual
def NF : C → Prop
  | .v _ => True
  | .sl _ cs => NFs cs
  | .fr _ => False
def NFs : List C → Prop
  | [] => True
  | c :: cs => NF c ∧ NFs cs
end
theorem NFs_append : ∀ {a b : List C}, NFs a → NFs b → NFs (a ++ b)
  | [], _, _, h => h
  | _ :: _, _, ⟨h1, h2⟩, h => ⟨h1, NFs_append h2 h⟩
theorem NFs_its : ∀ s : List It, NFs (itsC s)
  | [] => trivial
  | x :: s => NFs_append (a := x.c) (by simp [It.c, NFs, NF]) (NFs_its s)
theorem NFs_nds : ∀ d : List Nd, NFs (ndsC d)
  | [] => trivial
  | x :: s => NFs_append (a := x.c) (by simp [Nd.c, NFs, NF]) (NFs_nds s)

/-- Only cells that are there. -/
def Gc (w : World) (G : Am.Good) : Am.Good := fun b o => G b o ∧ (w.cell? ⟨b, o, none⟩).isSome

mutual
theorem RepC_cut {w : World} {G : Am.Good} : ∀ (c : C) (v : Value), NF c → RepC w G c v → RepC w (Gc w G) c v
  | .v x, v, _, h => by simpa only [RepC] using h
  | .sl n cs, v, hn, h => by
    simp only [RepC] at h ⊢
    obtain ⟨a, cap, e, hc, h⟩ := h
    refine ⟨a, cap, e, hc, ?_⟩
    rcases h with h | ⟨b, o, ea, h⟩
    · exact .inl h
    · exact .inr ⟨b, o, ea, RepM_cut cs b o (by simpa only [NF] using hn) h⟩
  | .fr c, v, hn, h => by simp only [NF] at hn
theorem RepM_cut {w : World} {G : Am.Good} : ∀ (cs : List C) (b o : Nat), NFs cs → RepM w G cs b o → RepM w (Gc w G) cs b o
  | [], _, _, _, _ => by simp only [RepM]
  | c :: cs, b, o, hn, h => by
    simp only [RepM] at h ⊢
    simp only [NFs] at hn
    obtain ⟨hg, ⟨y, hy, hc⟩, hr⟩ := h
    exact ⟨⟨hg, by rw [hy]; rfl⟩, ⟨y, hy, RepC_cut c y hn.1 hc⟩, RepM_cut cs b (o + 1) hn.2 hr⟩
end
theorem Gc_not_whole (w : World) (G : Am.Good) (b : Nat) : ¬ ∀ o, Gc w G b o := by
  intro h
  unfold Gc at h
  simp only [World.cell?] at h
  cases hb : w.heap[b]? with
  | none => have := (h 0).2; rw [hb] at this; cases this
  | some o =>
    cases o with
    | cells c e f =>
      have := (h c.size).2
      rw [hb] at this
      simp at this
    | _ => have := (h 0).2; rw [hb] at this; cases this

abbrev Row := Option Addr × Nat × Nat
/-- Rows that may be written: they lie in what is new, and the row of their slices stays. -/
def Wr (base bh oh st : Nat) (es : List Row) (w : World) : Prop :=
  ∀ i (h : i < es.length), w.cell? ⟨bh, oh + i * st, none⟩ = some (.slice es[i].1 es[i].2.1 es[i].2.2) ∧ es[i].2.1 ≤ 1000000 ∧
    ∀ k, k < es[i].2.1 → ∃ b o, es[i].1 = some ⟨b, o, none⟩ ∧ base ≤ b ∧ (∃ x, w.cell? ⟨b, o + k * 4, none⟩ = some (.int .i64 x)) ∧ frz w b = some (0, 0)

theorem frz_not {w : World} {b : Nat} (h : frz w b = some (0, 0)) (o : Nat) : w.frozen? ⟨b, o, none⟩ = false := by
  unfold frz at h
  unfold World.frozen?
  split at h
  · rename_i c e f hb
    cases h
    simp [hb]
  · cases h

theorem frz_set (w : World) (a : Addr) (v : Value) (b : Nat) : frz (w.setCell a v) b = frz w b := by
  unfold frz World.setCell
  simp only [Array.getElem?_modify]
  by_cases e : a.block = b
  · simp only [if_pos e]
    cases w.heap[b]? with
    | none => rfl
    | some o => cases o <;> rfl
  · simp only [if_neg e]

theorem cell_set {w : World} {b o b' o' : Nat} {v u : Value} (h : w.cell? ⟨b', o', none⟩ = some u) : (w.setCell ⟨b, o, none⟩ v).cell? ⟨b', o', none⟩ = if b' = b ∧ o' = o then some v else some u := by
  unfold World.cell? at h ⊢
  unfold World.setCell
  simp only [Array.getElem?_modify]
  by_cases e : b = b'
  · subst e
    simp only [if_true, true_and]
    cases hb : w.heap[b]? with
    | none => rw [hb] at h; cases h
    | some ob =>
      rw [hb] at h
      cases ob with
      | cells c el f =>
        simp only [Option.isSome_none, Bool.false_eq_true, if_false] at h ⊢
        simp only [Option.map_some, Array.getElem?_setIfInBounds]
        by_cases e2 : o' = o
        · subst e2
          have := (Array.getElem?_eq_some_iff.1 h).1
          simp [this]
        · rw [if_neg (fun e => e2 e.symm), if_neg e2]; exact h
      | _ => cases h
  · rw [if_neg e, if_neg (fun h => e h.1.symm)]
    exact h

theorem Wr.set {base bh oh st : Nat} {es : List Row} {w : World} (h : Wr base bh oh st es w) {b o : Nat} {x0 : Int} (hc : w.cell? ⟨b, o, none⟩ = some (.int .i64 x0)) (y : Int) : Wr base bh oh st es (w.setCell ⟨b, o, none⟩ (.int .i64 y)) := by
  intro i hi
  obtain ⟨h1, hle, h2⟩ := h i hi
  refine ⟨?_, hle, fun k hk => ?_⟩
  · rw [cell_set h1]
    split
    · rename_i e
      rw [e.1, e.2, hc] at h1
      cases h1
    · rfl
  · obtain ⟨b', o', e1, e2, ⟨x, e3⟩, e4⟩ := h2 k hk
    refine ⟨b', o', e1, e2, ?_, by rw [frz_set]; exact e4⟩
    rw [cell_set e3]
    split
    · exact ⟨y, rfl⟩
    · exact ⟨x, rfl⟩

theorem below_set {base : Nat} {w0 w : World} (h : Below base w0 w) {b o : Nat} (hb : base ≤ b) (v : Value) : Below base w0 (w.setCell ⟨b, o, none⟩ v) :=
  h.trans ⟨rfl, rfl, rfl, by simp [World.setCell], fun k hk => heap_setCell_other w ⟨b, o, none⟩ k v (fun e => by simp at e; omega)⟩

/-- What is marked as new is a row that may be written. -/
theorem fr_row {w : World} {G : Am.Good} {base : Nat} {s : List It} {v : Value} (hnew : ∀ b, (∀ o, G b o) → base ≤ b) (h : RepC w G (.fr (stC s)) v) : ∃ e : Row, v = .slice e.1 e.2.1 e.2.2 ∧ e.2.1 = s.length ∧
    ∀ k, k < e.2.1 → ∃ b o, e.1 = some ⟨b, o, none⟩ ∧ base ≤ b ∧ (∃ x, w.cell? ⟨b, o + k * 4, none⟩ = some (.int .i64 x)) ∧ frz w b = some (0, 0) := by
  rw [RepC] at h
  obtain ⟨h, hw⟩ := h
  simp only [RepC] at h
  obtain ⟨a, cap, rfl, _, h⟩ := h
  refine ⟨(a, s.length, cap), rfl, rfl, fun k hk => ?_⟩
  simp only at hk
  rcases h with h | ⟨b, o, rfl, hm⟩
  · have := itsC_length s
    rw [h] at this
    simp at this
    omega
  · obtain ⟨ws1, ws2⟩ := (hw _ _ _ rfl).resolve_left (by omega)
    obtain ⟨ys, hl, hy⟩ := hm.vals
    have := repL_its s ys hl
    subst this
    exact ⟨b, o, rfl, hnew b ws1, ⟨_, hy _ _ (itsW_get s k hk).1⟩, ws2⟩

theorem Wr_of {w : World} {G : Am.Good} {base bh oh st : Nat} (hnew : ∀ b, (∀ o, G b o) → base ≤ b) (l : List (List It)) (hsh : ∀ t ∈ l, t.length ≤ 1000000) (h : ∀ i (hi : i < l.length), ∃ v, w.cell? ⟨bh, oh + i * st, none⟩ = some v ∧ RepC w G (.fr (stC l[i])) v) :
    ∃ es : List Row, es.length = l.length ∧ Wr base bh oh st es w := by
  have h' : ∀ i : Nat, ∃ e : Row, ∀ hi : i < l.length, w.cell? ⟨bh, oh + i * st, none⟩ = some (.slice e.1 e.2.1 e.2.2) ∧ e.2.1 ≤ 1000000 ∧
      ∀ k, k < e.2.1 → ∃ b o, e.1 = some ⟨b, o, none⟩ ∧ base ≤ b ∧ (∃ x, w.cell? ⟨b, o + k * 4, none⟩ = some (.int .i64 x)) ∧ frz w b = some (0, 0) := fun i => by
    by_cases hi : i < l.length
    · obtain ⟨v, h1, h2⟩ := h i hi
      obtain ⟨e, rfl, h3, h4⟩ := fr_row hnew h2
      exact ⟨e, fun _ => ⟨h1, by rw [h3]; exact hsh _ (List.getElem_mem hi), h4⟩⟩
    · exact ⟨(none, 0, 0), fun h => absurd h hi⟩
  obtain ⟨f, hf⟩ := Classical.axiomOfChoice h'
  refine ⟨(List.range l.length).map f, by simp, fun i hi => ?_⟩
  simp only [List.length_map, List.length_range] at hi
  simp only [List.getElem_map, List.getElem_range]
  exact hf i hi

theorem bsF_drop (s : List Br) (i : Nat) (h : i < s.length) : (bsF s).drop (i * 2) = .fr (stC s[i].to) :: .v (.int .i64 s[i].many) :: bsF (s.drop (i + 1)) := by
  induction i generalizing s with
  | zero =>
    cases s with
    | nil => simp at h
    | cons x s => rfl
  | succ i ih =>
    cases s with
    | nil => simp at h
    | cons x s =>
      have := ih s (by simpa using h)
      show ((.fr (stC x.to) :: .v (.int .i64 x.many) :: bsF s : List C)).drop ((i + 1) * 2) = _
      rw [show (i + 1) * 2 = i * 2 + 1 + 1 by omega]
      simpa using this

theorem Wr_heads {w : World} {G : Am.Good} {base : Nat} {l : List Br} {v : Value} (hnew : ∀ b, (∀ o, G b o) → base ≤ b) (hsh : ∀ b ∈ l, b.to.length ≤ 1000000) (h : RepC w G (brF l) v) :
    ∃ a cap bh oh es, v = .slice a es.length cap ∧ (0 < es.length → a = some ⟨bh, oh, none⟩) ∧ es.length = l.length ∧ Wr base bh oh 2 es w := by
  simp only [RepC] at h
  obtain ⟨a, cap, rfl, _, h⟩ := h
  rcases h with h | ⟨b, o, rfl, h⟩
  · have := bsF_length l
    rw [h] at this
    have h0 : l = [] := List.eq_nil_of_length_eq_zero (by simp at this; omega)
    subst h0
    exact ⟨a, cap, 0, 0, [], rfl, fun h => by simp at h, rfl, fun i hi => by simp at hi⟩
  · obtain ⟨es, e1, e2⟩ := Wr_of (bh := b) (oh := o) (st := 2) hnew (l.map Br.to) (by simpa using hsh) fun i hi => by
      simp only [List.length_map] at hi
      have e : (bsF l)[i * 2]? = some (.fr (stC l[i].to)) := by
        have := bsF_drop l i hi
        have h0 : ((bsF l).drop (i * 2))[0]? = some (.fr (stC l[i].to)) := by rw [this]; rfl
        simpa using h0
      obtain ⟨_, y, h1, h2⟩ := RepM.get h e
      refine ⟨y, h1, ?_⟩
      simp only [List.getElem_map]
      exact h2
    simp only [List.length_map] at e1
    exact ⟨_, cap, b, o, es, by rw [e1], fun _ => rfl, e1, e2⟩

theorem Wr_opens {w : World} {G : Am.Good} {base : Nat} {l : List (List It)} {v : Value} (hnew : ∀ b, (∀ o, G b o) → base ≤ b) (hsh : ∀ t ∈ l, t.length ≤ 1000000) (h : RepC w G (ssF l) v) :
    ∃ a cap bh oh es, v = .slice a es.length cap ∧ (0 < es.length → a = some ⟨bh, oh, none⟩) ∧ es.length = l.length ∧ Wr base bh oh 1 es w := by
  simp only [RepC] at h
  obtain ⟨a, cap, rfl, _, h⟩ := h
  rcases h with h | ⟨b, o, rfl, h⟩
  · have h0 : l = [] := by simpa using h
    subst h0
    exact ⟨a, cap, 0, 0, [], rfl, fun h => by simp at h, rfl, fun i hi => by simp at hi⟩
  · obtain ⟨es, e1, e2⟩ := Wr_of (bh := b) (oh := o) (st := 1) hnew l hsh fun i hi => by
      have e : (l.map fun s => C.fr (stC s))[i]? = some (.fr (stC l[i])) := by simp [hi]
      obtain ⟨_, y, h1, h2⟩ := RepM.get h e
      refine ⟨y, ?_, h2⟩
      rw [Nat.mul_one]; exact h1
    exact ⟨_, cap, b, o, es, by rw [e1], fun _ => rfl, e1, e2⟩

end Go.Proofs.YtilhjiopbbbgmaaDoor

/- Is a text UTF-8? -/
namespace Go.Proofs.YtilhjiopbbbgmaaDoor
open Nat renaming reduceSub → R1, reduceMul → R2, reduceLeDiff → R3, reducePow → R4, reduceBEq → R5, reduceAdd → R6, reduceEqDiff → R7
open Int renaming reduceToNat → R9
open Go Go.RowKit Am
set_option linter.unusedVariables false
set_option linter.unusedSimpArgs false
set_option maxHeartbeats 4000000
attribute [local irreducible] AWp AOps

def byt (s : ByteArray) (i : Nat) : Int := IntKind.i64.wrap (bAt s (i : Int))
def inB (s : ByteArray) (i : Nat) (a b : Int) : Bool := decide (i < s.size) && (decide (a ≤ byt s i) && decide (byt s i ≤ b))

theorem in_ret (gl : Gl) (s : ByteArray) (i : Nat) (a b : Int) : Ret Tryd.prog gl 93 [.c (.v (.string s)), iv (i : Int), iv a, iv b] (bv (inB s i a b)) := by
  refine retq (rs := [8]) 29 Tryd.func93 (by kernel_rfl) rfl (by kernel_rfl) rfl (by simp) (by simp) fun Z hN hX hR => ?_
  have hb : IntKind.i64.wrap (bAt s (i : Int)) = byt s i := rfl
  by_cases h1 : i < s.size
  · cases g1 : (decide (a ≤ byt s i))
    · repeat (first | ((first | refine Q1 ?_ | refine Q2 ?_); intro Z hN hX hR) | refine Q3 (by kernel_rfl) fun K hK => ?_ | ((first | refine Q4 fun R hJ => ?_ | with_reducible change ExpAll _ _ _); simp only [kS, R1, R2, R3, R4, R5, R6, R7, reduceCtorEq, R9, hb, h1, decide_true, g1]) | (refine hJ _ ?_; clear hJ R) | refine Q5 ?_ | (refine hK _ ?_; clear hK K) | ((first | refine hN _ ?_ | refine hX _ _ ?_ | refine hR _ ?_); clear hN hX hR Z) | refine Q6 rfl ?_ | refine Q7 (by decide) ?_ | (refine Q8 ?_ ?_; focus (simp only [kS, R1, R2, R3, R4, R5, R6, R7, reduceCtorEq, R9, hb, h1, decide_true, g1]; done)) | (refine Q9 ?_ ?_; focus (simp only [kS, R1, R2, R3, R4, R5, R6, R7, reduceCtorEq, R9, hb, h1, decide_true, g1]; done)) | refine Qa ?_ | refine Qb ?_ | refine Qc ?_ | refine And.intro (by first | assumption | omega) ?_)
      simp only [inB, h1, decide_true, Bool.false_and, Bool.true_and, g1]
    · cases g2 : (decide (byt s i ≤ b))
      · repeat (first | ((first | refine Q1 ?_ | refine Q2 ?_); intro Z hN hX hR) | refine Q3 (by kernel_rfl) fun K hK => ?_ | ((first | refine Q4 fun R hJ => ?_ | with_reducible change ExpAll _ _ _); simp only [kS, R1, R2, R3, R4, R5, R6, R7, reduceCtorEq, R9, hb, h1, decide_true, g1, g2]) | (refine hJ _ ?_; clear hJ R) | refine Q5 ?_ | (refine hK _ ?_; clear hK K) | ((first | refine hN _ ?_ | refine hX _ _ ?_ | refine hR _ ?_); clear hN hX hR Z) | refine Q6 rfl ?_ | refine Q7 (by decide) ?_ | (refine Q8 ?_ ?_; focus (simp only [kS, R1, R2, R3, R4, R5, R6, R7, reduceCtorEq, R9, hb, h1, decide_true, g1, g2]; done)) | (refine Q9 ?_ ?_; focus (simp only [kS, R1, R2, R3, R4, R5, R6, R7, reduceCtorEq, R9, hb, h1, decide_true, g1, g2]; done)) | refine Qa ?_ | refine Qb ?_ | refine Qc ?_ | refine And.intro (by first | assumption | omega) ?_)
        simp only [inB, h1, decide_true, Bool.false_and, Bool.true_and, g1, g2]
      · repeat (first | ((first | refine Q1 ?_ | refine Q2 ?_); intro Z hN hX hR) | refine Q3 (by kernel_rfl) fun K hK => ?_ | ((first | refine Q4 fun R hJ => ?_ | with_reducible change ExpAll _ _ _); simp only [kS, R1, R2, R3, R4, R5, R6, R7, reduceCtorEq, R9, hb, h1, decide_true, g1, g2]) | (refine hJ _ ?_; clear hJ R) | refine Q5 ?_ | (refine hK _ ?_; clear hK K) | ((first | refine hN _ ?_ | refine hX _ _ ?_ | refine hR _ ?_); clear hN hX hR Z) | refine Q6 rfl ?_ | refine Q7 (by decide) ?_ | (refine Q8 ?_ ?_; focus (simp only [kS, R1, R2, R3, R4, R5, R6, R7, reduceCtorEq, R9, hb, h1, decide_true, g1, g2]; done)) | (refine Q9 ?_ ?_; focus (simp only [kS, R1, R2, R3, R4, R5, R6, R7, reduceCtorEq, R9, hb, h1, decide_true, g1, g2]; done)) | refine Qa ?_ | refine Qb ?_ | refine Qc ?_ | refine And.intro (by first | assumption | omega) ?_)
        simp only [inB, h1, decide_true, Bool.false_and, Bool.true_and, g1, g2]
  · repeat (first | ((first | refine Q1 ?_ | refine Q2 ?_); intro Z hN hX hR) | refine Q3 (by kernel_rfl) fun K hK => ?_ | ((first | refine Q4 fun R hJ => ?_ | with_reducible change ExpAll _ _ _); simp only [kS, R1, R2, R3, R4, R5, R6, R7, reduceCtorEq, R9, hb, h1, decide_false]) | (refine hJ _ ?_; clear hJ R) | refine Q5 ?_ | (refine hK _ ?_; clear hK K) | ((first | refine hN _ ?_ | refine hX _ _ ?_ | refine hR _ ?_); clear hN hX hR Z) | refine Q6 rfl ?_ | refine Q7 (by decide) ?_ | (refine Q8 ?_ ?_; focus (simp only [kS, R1, R2, R3, R4, R5, R6, R7, reduceCtorEq, R9, hb, h1, decide_false]; done)) | (refine Q9 ?_ ?_; focus (simp only [kS, R1, R2, R3, R4, R5, R6, R7, reduceCtorEq, R9, hb, h1, decide_false]; done)) | refine Qa ?_ | refine Qb ?_ | refine Qc ?_ | refine And.intro (by first | assumption | omega) ?_)
    simp only [inB, h1, decide_false, Bool.false_and]

def stepU (s : ByteArray) (i : Nat) : Option Nat :=
  if decide (byt s i < 128) = true then some (i + 1)
  else if (decide (194 ≤ byt s i) && (decide (byt s i ≤ 223) && inB s (i + 1) 128 191)) = true then some (i + 2)
  else if (byt s i == 224 && (inB s (i + 1) 160 191 && inB s (i + 2) 128 191)) = true then some (i + 3)
  else if (((decide (225 ≤ byt s i) && decide (byt s i ≤ 236)) || (byt s i == 238 || byt s i == 239)) && (inB s (i + 1) 128 191 && inB s (i + 2) 128 191)) = true then some (i + 3)
  else if (byt s i == 237 && (inB s (i + 1) 128 159 && inB s (i + 2) 128 191)) = true then some (i + 3)
  else if (byt s i == 240 && (inB s (i + 1) 144 191 && (inB s (i + 2) 128 191 && inB s (i + 3) 128 191))) = true then some (i + 4)
  else if (decide (241 ≤ byt s i) && (decide (byt s i ≤ 243) && (inB s (i + 1) 128 191 && (inB s (i + 2) 128 191 && inB s (i + 3) 128 191)))) = true then some (i + 4)
  else if (byt s i == 244 && (inB s (i + 1) 128 143 && (inB s (i + 2) 128 191 && inB s (i + 3) 128 191))) = true then some (i + 4)
  else none

def utfF : Nat → ByteArray → Nat → Bool
  | 0, _, _ => true
  | k + 1, s, i => if i < s.size then (match stepU s i with | some j => utfF k s j | none => false) else true

def utfB (s : ByteArray) : Bool := utfF s.size s 0

theorem utf_ret (gl : Gl) (s : ByteArray) (hs : s.size ≤ 140737488355328) : Ret Tryd.prog gl 85 [.c (.v (.string s))] (bv (utfB s)) := by
  refine retq (rs := [2]) 148 Tryd.func85 (by kernel_rfl) rfl (by kernel_rfl) rfl (by simp) (by simp) fun Z hN hX hR => ?_
  repeat (first | ((first | refine Q1 ?_ | refine Q2 ?_); intro Z hN hX hR) | refine Q3 (by kernel_rfl) fun K hK => ?_ | ((first | refine Q4 fun R hJ => ?_ | with_reducible change ExpAll _ _ _); simp only [kS, R1, R2, R3, R4, R5, R6, R7, reduceCtorEq, R9]) | (refine hJ _ ?_; clear hJ R) | refine Q5 ?_ | (refine hK _ ?_; clear hK K) | ((first | refine hN _ ?_ | refine hX _ _ ?_ | refine hR _ ?_); clear hN hX hR Z) | refine Q6 rfl ?_ | refine Q7 (by decide) ?_ | (refine Q8 ?_ ?_; focus (simp only [kS, R1, R2, R3, R4, R5, R6, R7, reduceCtorEq, R9]; done)) | (refine Q9 ?_ ?_; focus (simp only [kS, R1, R2, R3, R4, R5, R6, R7, reduceCtorEq, R9]; done)) | refine Qa ?_ | refine Qb ?_ | refine Qc ?_ | refine And.intro (by first | assumption | omega) ?_)
  refine awq_loop (fun c f => ∃ (i : Nat), s.size ≤ i + c ∧ i ≤ s.size + 4 ∧ f.t 0 = .c (.v (.string s)) ∧ f.t 3 = iv (i : Int) ∧ utfF c s i = utfB s) s.size ?_ ?_
  · exact ⟨0, by omega, by omega, by simp only [kS, R1, R2, R3, R4, R5, R6, R7, reduceCtorEq, R9], by simp only [kS, R1, R2, R3, R4, R5, R6, R7, reduceCtorEq, R9]; rfl, rfl⟩
  rintro Z k f hN hX hR ⟨i, hk, hi, h0, h3, hc⟩
  by_cases hlt : i < s.size
  · obtain ⟨k, rfl⟩ : ∃ k', k = k' + 1 := ⟨k - 1, by omega⟩
    have hb : IntKind.i64.wrap (bAt s (i : Int)) = byt s i := rfl
    have w1 : IntKind.i64.wrap ((i : Int) + 1) = ((i + 1 : Nat) : Int) := by rw [wrap_i64 (by omega) (by omega)]; rfl
    have w2 : IntKind.i64.wrap ((i : Int) + 2) = ((i + 2 : Nat) : Int) := by rw [wrap_i64 (by omega) (by omega)]; rfl
    have w3 : IntKind.i64.wrap ((i : Int) + 3) = ((i + 3 : Nat) : Int) := by rw [wrap_i64 (by omega) (by omega)]; rfl
    have w4 : IntKind.i64.wrap ((i : Int) + 4) = ((i + 4 : Nat) : Int) := by rw [wrap_i64 (by omega) (by omega)]; rfl
    have i1 := in_ret gl s (i + 1) 128 191
    have i2 := in_ret gl s (i + 2) 128 191
    have i3 := in_ret gl s (i + 3) 128 191
    have j1 := in_ret gl s (i + 1) 160 191
    have j2 := in_ret gl s (i + 1) 128 159
    have j3 := in_ret gl s (i + 1) 144 191
    have j4 := in_ret gl s (i + 1) 128 143
    simp only [utfF, if_pos hlt, stepU] at hc
    generalize inB s (i + 1) 128 191 = q1 at hc i1
    generalize inB s (i + 2) 128 191 = q2 at hc i2
    generalize inB s (i + 3) 128 191 = q3 at hc i3
    generalize inB s (i + 1) 160 191 = p1 at hc j1
    generalize inB s (i + 1) 128 159 = p2 at hc j2
    generalize inB s (i + 1) 144 191 = p3 at hc j3
    generalize inB s (i + 1) 128 143 = p4 at hc j4
    repeat (first | ((first | refine Q1 ?_ | refine Q2 ?_); intro Z hN hX hR) | refine Q3 (by kernel_rfl) fun K hK => ?_ | ((first | refine Q4 fun R hJ => ?_ | with_reducible change ExpAll _ _ _); simp only [kS, R1, R2, R3, R4, R5, R6, R7, reduceCtorEq, R9, h0, h3, hlt, hb, w1, w2, w3, w4, decide_true]) | (refine hJ _ ?_; clear hJ R) | refine Q5 ?_ | (refine hK _ ?_; clear hK K) | ((first | refine hN _ ?_ | refine hX _ _ ?_ | refine hR _ ?_); clear hN hX hR Z) | refine Q6 rfl ?_ | refine Q7 (by decide) ?_ | (refine Q8 ?_ ?_; focus (simp only [kS, R1, R2, R3, R4, R5, R6, R7, reduceCtorEq, R9, h0, h3, hlt, hb, w1, w2, w3, w4, decide_true]; done)) | (refine Q9 ?_ ?_; focus (simp only [kS, R1, R2, R3, R4, R5, R6, R7, reduceCtorEq, R9, h0, h3, hlt, hb, w1, w2, w3, w4, decide_true]; done)) | refine Qa ?_ | refine Qb ?_ | refine Qc ?_ | refine And.intro (by first | assumption | omega) ?_)
    refine ⟨_, i1, rfl, ?_⟩
    simp only [kS, R1, R2, R3, R4, R5, R6, R7, reduceCtorEq, R9]
    repeat (first | ((first | refine Q1 ?_ | refine Q2 ?_); intro Z hN hX hR) | refine Q3 (by kernel_rfl) fun K hK => ?_ | ((first | refine Q4 fun R hJ => ?_ | with_reducible change ExpAll _ _ _); simp only [kS, R1, R2, R3, R4, R5, R6, R7, reduceCtorEq, R9, h0, h3, w1, w2, w3, w4]) | (refine hJ _ ?_; clear hJ R) | refine Q5 ?_ | (refine hK _ ?_; clear hK K) | ((first | refine hN _ ?_ | refine hX _ _ ?_ | refine hR _ ?_); clear hN hX hR Z) | refine Q6 rfl ?_ | refine Q7 (by decide) ?_ | (refine Q8 ?_ ?_; focus (simp only [kS, R1, R2, R3, R4, R5, R6, R7, reduceCtorEq, R9, h0, h3, w1, w2, w3, w4]; done)) | (refine Q9 ?_ ?_; focus (simp only [kS, R1, R2, R3, R4, R5, R6, R7, reduceCtorEq, R9, h0, h3, w1, w2, w3, w4]; done)) | refine Qa ?_ | refine Qb ?_ | refine Qc ?_ | refine And.intro (by first | assumption | omega) ?_)
    refine ⟨_, i2, rfl, ?_⟩
    simp only [kS, R1, R2, R3, R4, R5, R6, R7, reduceCtorEq, R9]
    repeat (first | ((first | refine Q1 ?_ | refine Q2 ?_); intro Z hN hX hR) | refine Q3 (by kernel_rfl) fun K hK => ?_ | ((first | refine Q4 fun R hJ => ?_ | with_reducible change ExpAll _ _ _); simp only [kS, R1, R2, R3, R4, R5, R6, R7, reduceCtorEq, R9, h0, h3, w1, w2, w3, w4]) | (refine hJ _ ?_; clear hJ R) | refine Q5 ?_ | (refine hK _ ?_; clear hK K) | ((first | refine hN _ ?_ | refine hX _ _ ?_ | refine hR _ ?_); clear hN hX hR Z) | refine Q6 rfl ?_ | refine Q7 (by decide) ?_ | (refine Q8 ?_ ?_; focus (simp only [kS, R1, R2, R3, R4, R5, R6, R7, reduceCtorEq, R9, h0, h3, w1, w2, w3, w4]; done)) | (refine Q9 ?_ ?_; focus (simp only [kS, R1, R2, R3, R4, R5, R6, R7, reduceCtorEq, R9, h0, h3, w1, w2, w3, w4]; done)) | refine Qa ?_ | refine Qb ?_ | refine Qc ?_ | refine And.intro (by first | assumption | omega) ?_)
    refine ⟨_, i3, rfl, ?_⟩
    simp only [kS, R1, R2, R3, R4, R5, R6, R7, reduceCtorEq, R9]
    clear hb
    generalize byt s i = b at hc ⊢
    cases u1 : decide (b < 128)
    · simp only [u1, Bool.false_eq_true, if_false] at hc
      repeat (first | ((first | refine Q1 ?_ | refine Q2 ?_); intro Z hN hX hR) | refine Q3 (by kernel_rfl) fun K hK => ?_ | ((first | refine Q4 fun R hJ => ?_ | with_reducible change ExpAll _ _ _); simp only [kS, R1, R2, R3, R4, R5, R6, R7, reduceCtorEq, R9, h0, h3, w1, w2, w3, w4]) | (refine hJ _ ?_; clear hJ R) | refine Q5 ?_ | (refine hK _ ?_; clear hK K) | ((first | refine hN _ ?_ | refine hX _ _ ?_ | refine hR _ ?_); clear hN hX hR Z) | refine Q6 rfl ?_ | refine Q7 (by decide) ?_ | (refine Q8 ?_ ?_; focus (simp only [kS, R1, R2, R3, R4, R5, R6, R7, reduceCtorEq, R9, h0, h3, w1, w2, w3, w4]; done)) | (refine Q9 ?_ ?_; focus (simp only [kS, R1, R2, R3, R4, R5, R6, R7, reduceCtorEq, R9, h0, h3, w1, w2, w3, w4]; done)) | refine Qa ?_ | refine Qb ?_ | refine Qc ?_ | refine And.intro (by first | assumption | omega) ?_)
      refine awp_condF (by simp only [kS, R1, R2, R3, R4, R5, R6, R7, reduceCtorEq, R9, u1]) ?_
      refine awq_cut (fun f => f.t 0 = .c (.v (.string s)) ∧ f.t 3 = iv (i : Int) ∧ f.t 4 = iv b ∧ f.t 5 = bv q1 ∧ f.t 6 = bv q2 ∧ f.t 7 = bv q3 ∧ f.t 33 = bv (decide (194 ≤ b) && (decide (b ≤ 223) && q1))) (fun Z hN hX hR => ?_) ?_
      · have h4 : True := trivial
        have h5 : True := trivial
        have h6 : True := trivial
        have h7 : True := trivial
        cases g1 : (decide (194 ≤ b))
        · repeat (first | ((first | refine Q1 ?_ | refine Q2 ?_); intro Z hN hX hR) | refine Q3 (by kernel_rfl) fun K hK => ?_ | ((first | refine Q4 fun R hJ => ?_ | with_reducible change ExpAll _ _ _); simp only [kS, R1, R2, R3, R4, R5, R6, R7, reduceCtorEq, R9, h0, h3, h4, h5, h6, h7, w1, w2, w3, w4, g1]) | (refine hJ _ ?_; clear hJ R) | refine Q5 ?_ | (refine hK _ ?_; clear hK K) | ((first | refine hN _ ?_ | refine hX _ _ ?_ | refine hR _ ?_); clear hN hX hR Z) | refine Q6 rfl ?_ | refine Q7 (by decide) ?_ | (refine Q8 ?_ ?_; focus (simp only [kS, R1, R2, R3, R4, R5, R6, R7, reduceCtorEq, R9, h0, h3, h4, h5, h6, h7, w1, w2, w3, w4, g1]; done)) | (refine Q9 ?_ ?_; focus (simp only [kS, R1, R2, R3, R4, R5, R6, R7, reduceCtorEq, R9, h0, h3, h4, h5, h6, h7, w1, w2, w3, w4, g1]; done)) | refine Qa ?_ | refine Qb ?_ | refine Qc ?_ | refine And.intro (by first | assumption | omega) ?_)
          repeat (refine And.intro (by first | (simp only [kS, R1, R2, R3, R4, R5, R6, R7, reduceCtorEq, R9, h0, h3, h4, h5, h6, h7]; done) | assumption) ?_)
          simp only [kS, R1, R2, R3, R4, R5, R6, R7, reduceCtorEq, R9, Bool.false_and, Bool.true_and, Bool.false_or, Bool.true_or, g1]
        · cases g2 : (decide (b ≤ 223))
          · repeat (first | ((first | refine Q1 ?_ | refine Q2 ?_); intro Z hN hX hR) | refine Q3 (by kernel_rfl) fun K hK => ?_ | ((first | refine Q4 fun R hJ => ?_ | with_reducible change ExpAll _ _ _); simp only [kS, R1, R2, R3, R4, R5, R6, R7, reduceCtorEq, R9, h0, h3, h4, h5, h6, h7, w1, w2, w3, w4, g1, g2]) | (refine hJ _ ?_; clear hJ R) | refine Q5 ?_ | (refine hK _ ?_; clear hK K) | ((first | refine hN _ ?_ | refine hX _ _ ?_ | refine hR _ ?_); clear hN hX hR Z) | refine Q6 rfl ?_ | refine Q7 (by decide) ?_ | (refine Q8 ?_ ?_; focus (simp only [kS, R1, R2, R3, R4, R5, R6, R7, reduceCtorEq, R9, h0, h3, h4, h5, h6, h7, w1, w2, w3, w4, g1, g2]; done)) | (refine Q9 ?_ ?_; focus (simp only [kS, R1, R2, R3, R4, R5, R6, R7, reduceCtorEq, R9, h0, h3, h4, h5, h6, h7, w1, w2, w3, w4, g1, g2]; done)) | refine Qa ?_ | refine Qb ?_ | refine Qc ?_ | refine And.intro (by first | assumption | omega) ?_)
            repeat (refine And.intro (by first | (simp only [kS, R1, R2, R3, R4, R5, R6, R7, reduceCtorEq, R9, h0, h3, h4, h5, h6, h7]; done) | assumption) ?_)
            simp only [kS, R1, R2, R3, R4, R5, R6, R7, reduceCtorEq, R9, Bool.false_and, Bool.true_and, Bool.false_or, Bool.true_or, g1, g2]
          · cases q1
            · repeat (first | ((first | refine Q1 ?_ | refine Q2 ?_); intro Z hN hX hR) | refine Q3 (by kernel_rfl) fun K hK => ?_ | ((first | refine Q4 fun R hJ => ?_ | with_reducible change ExpAll _ _ _); simp only [kS, R1, R2, R3, R4, R5, R6, R7, reduceCtorEq, R9, h0, h3, h4, h5, h6, h7, w1, w2, w3, w4, g1, g2]) | (refine hJ _ ?_; clear hJ R) | refine Q5 ?_ | (refine hK _ ?_; clear hK K) | ((first | refine hN _ ?_ | refine hX _ _ ?_ | refine hR _ ?_); clear hN hX hR Z) | refine Q6 rfl ?_ | refine Q7 (by decide) ?_ | (refine Q8 ?_ ?_; focus (simp only [kS, R1, R2, R3, R4, R5, R6, R7, reduceCtorEq, R9, h0, h3, h4, h5, h6, h7, w1, w2, w3, w4, g1, g2]; done)) | (refine Q9 ?_ ?_; focus (simp only [kS, R1, R2, R3, R4, R5, R6, R7, reduceCtorEq, R9, h0, h3, h4, h5, h6, h7, w1, w2, w3, w4, g1, g2]; done)) | refine Qa ?_ | refine Qb ?_ | refine Qc ?_ | refine And.intro (by first | assumption | omega) ?_)
              repeat (refine And.intro (by first | (simp only [kS, R1, R2, R3, R4, R5, R6, R7, reduceCtorEq, R9, h0, h3, h4, h5, h6, h7]; done) | assumption) ?_)
              simp only [kS, R1, R2, R3, R4, R5, R6, R7, reduceCtorEq, R9, Bool.false_and, Bool.true_and, Bool.false_or, Bool.true_or, g1, g2]
            · repeat (first | ((first | refine Q1 ?_ | refine Q2 ?_); intro Z hN hX hR) | refine Q3 (by kernel_rfl) fun K hK => ?_ | ((first | refine Q4 fun R hJ => ?_ | with_reducible change ExpAll _ _ _); simp only [kS, R1, R2, R3, R4, R5, R6, R7, reduceCtorEq, R9, h0, h3, h4, h5, h6, h7, w1, w2, w3, w4, g1, g2]) | (refine hJ _ ?_; clear hJ R) | refine Q5 ?_ | (refine hK _ ?_; clear hK K) | ((first | refine hN _ ?_ | refine hX _ _ ?_ | refine hR _ ?_); clear hN hX hR Z) | refine Q6 rfl ?_ | refine Q7 (by decide) ?_ | (refine Q8 ?_ ?_; focus (simp only [kS, R1, R2, R3, R4, R5, R6, R7, reduceCtorEq, R9, h0, h3, h4, h5, h6, h7, w1, w2, w3, w4, g1, g2]; done)) | (refine Q9 ?_ ?_; focus (simp only [kS, R1, R2, R3, R4, R5, R6, R7, reduceCtorEq, R9, h0, h3, h4, h5, h6, h7, w1, w2, w3, w4, g1, g2]; done)) | refine Qa ?_ | refine Qb ?_ | refine Qc ?_ | refine And.intro (by first | assumption | omega) ?_)
              repeat (refine And.intro (by first | (simp only [kS, R1, R2, R3, R4, R5, R6, R7, reduceCtorEq, R9, h0, h3, h4, h5, h6, h7]; done) | assumption) ?_)
              simp only [kS, R1, R2, R3, R4, R5, R6, R7, reduceCtorEq, R9, Bool.false_and, Bool.true_and, Bool.false_or, Bool.true_or, g1, g2]
      clear h0 h3
      rintro f ⟨h0, h3, h4, h5, h6, h7, hf⟩
      by_cases hq : (decide (194 ≤ b) && (decide (b ≤ 223) && q1)) = true
      · rw [hq] at hf
        rw [if_pos hq] at hc
        repeat (first | ((first | refine Q1 ?_ | refine Q2 ?_); intro Z hN hX hR) | refine Q3 (by kernel_rfl) fun K hK => ?_ | ((first | refine Q4 fun R hJ => ?_ | with_reducible change ExpAll _ _ _); simp only [kS, R1, R2, R3, R4, R5, R6, R7, reduceCtorEq, R9, h0, h3, h4, h5, h6, h7, w1, w2, w3, w4, hf]) | (refine hJ _ ?_; clear hJ R) | refine Q5 ?_ | (refine hK _ ?_; clear hK K) | ((first | refine hN _ ?_ | refine hX _ _ ?_ | refine hR _ ?_); clear hN hX hR Z) | refine Q6 rfl ?_ | refine Q7 (by decide) ?_ | (refine Q8 ?_ ?_; focus (simp only [kS, R1, R2, R3, R4, R5, R6, R7, reduceCtorEq, R9, h0, h3, h4, h5, h6, h7, w1, w2, w3, w4, hf]; done)) | (refine Q9 ?_ ?_; focus (simp only [kS, R1, R2, R3, R4, R5, R6, R7, reduceCtorEq, R9, h0, h3, h4, h5, h6, h7, w1, w2, w3, w4, hf]; done)) | refine Qa ?_ | refine Qb ?_ | refine Qc ?_ | refine And.intro (by first | assumption | omega) ?_)
        exact ⟨k, by omega, i + 2, by omega, by omega, by simp only [kS, R1, R2, R3, R4, R5, R6, R7, reduceCtorEq, R9, h0], by simp only [kS, R1, R2, R3, R4, R5, R6, R7, reduceCtorEq, R9], hc⟩
      rw [if_neg hq] at hc
      rw [Bool.eq_false_iff.2 hq] at hf
      refine awp_condF (by simp only [kS, R1, R2, R3, R4, R5, R6, R7, reduceCtorEq, R9, hf]) ?_
      refine awq_cut (fun f => f.t 0 = .c (.v (.string s)) ∧ f.t 3 = iv (i : Int) ∧ f.t 4 = iv b ∧ f.t 5 = bv q1 ∧ f.t 6 = bv q2 ∧ f.t 7 = bv q3 ∧ f.t 45 = bv (b == 224 && (p1 && q2))) (fun Z hN hX hR => ?_) ?_
      · cases g3 : (b == 224)
        · repeat (first | ((first | refine Q1 ?_ | refine Q2 ?_); intro Z hN hX hR) | refine Q3 (by kernel_rfl) fun K hK => ?_ | ((first | refine Q4 fun R hJ => ?_ | with_reducible change ExpAll _ _ _); simp only [kS, R1, R2, R3, R4, R5, R6, R7, reduceCtorEq, R9, h0, h3, h4, h5, h6, h7, w1, w2, w3, w4, g3]) | (refine hJ _ ?_; clear hJ R) | refine Q5 ?_ | (refine hK _ ?_; clear hK K) | ((first | refine hN _ ?_ | refine hX _ _ ?_ | refine hR _ ?_); clear hN hX hR Z) | refine Q6 rfl ?_ | refine Q7 (by decide) ?_ | (refine Q8 ?_ ?_; focus (simp only [kS, R1, R2, R3, R4, R5, R6, R7, reduceCtorEq, R9, h0, h3, h4, h5, h6, h7, w1, w2, w3, w4, g3]; done)) | (refine Q9 ?_ ?_; focus (simp only [kS, R1, R2, R3, R4, R5, R6, R7, reduceCtorEq, R9, h0, h3, h4, h5, h6, h7, w1, w2, w3, w4, g3]; done)) | refine Qa ?_ | refine Qb ?_ | refine Qc ?_ | refine And.intro (by first | assumption | omega) ?_)
          repeat (refine And.intro (by first | (simp only [kS, R1, R2, R3, R4, R5, R6, R7, reduceCtorEq, R9, h0, h3, h4, h5, h6, h7]; done) | assumption) ?_)
          simp only [kS, R1, R2, R3, R4, R5, R6, R7, reduceCtorEq, R9, Bool.false_and, Bool.true_and, Bool.false_or, Bool.true_or, g3]
        · repeat (first | ((first | refine Q1 ?_ | refine Q2 ?_); intro Z hN hX hR) | refine Q3 (by kernel_rfl) fun K hK => ?_ | ((first | refine Q4 fun R hJ => ?_ | with_reducible change ExpAll _ _ _); simp only [kS, R1, R2, R3, R4, R5, R6, R7, reduceCtorEq, R9, h0, h3, h4, h5, h6, h7, w1, w2, w3, w4, g3]) | (refine hJ _ ?_; clear hJ R) | refine Q5 ?_ | (refine hK _ ?_; clear hK K) | ((first | refine hN _ ?_ | refine hX _ _ ?_ | refine hR _ ?_); clear hN hX hR Z) | refine Q6 rfl ?_ | refine Q7 (by decide) ?_ | (refine Q8 ?_ ?_; focus (simp only [kS, R1, R2, R3, R4, R5, R6, R7, reduceCtorEq, R9, h0, h3, h4, h5, h6, h7, w1, w2, w3, w4, g3]; done)) | (refine Q9 ?_ ?_; focus (simp only [kS, R1, R2, R3, R4, R5, R6, R7, reduceCtorEq, R9, h0, h3, h4, h5, h6, h7, w1, w2, w3, w4, g3]; done)) | refine Qa ?_ | refine Qb ?_ | refine Qc ?_ | refine And.intro (by first | assumption | omega) ?_)
          refine ⟨_, j1, rfl, ?_⟩
          simp only [kS, R1, R2, R3, R4, R5, R6, R7, reduceCtorEq, R9, h0, h3, h4, h5, h6, h7, w1, w2, w3, w4, g3]
          cases p1
          · repeat (first | ((first | refine Q1 ?_ | refine Q2 ?_); intro Z hN hX hR) | refine Q3 (by kernel_rfl) fun K hK => ?_ | ((first | refine Q4 fun R hJ => ?_ | with_reducible change ExpAll _ _ _); simp only [kS, R1, R2, R3, R4, R5, R6, R7, reduceCtorEq, R9, h0, h3, h4, h5, h6, h7, w1, w2, w3, w4, g3]) | (refine hJ _ ?_; clear hJ R) | refine Q5 ?_ | (refine hK _ ?_; clear hK K) | ((first | refine hN _ ?_ | refine hX _ _ ?_ | refine hR _ ?_); clear hN hX hR Z) | refine Q6 rfl ?_ | refine Q7 (by decide) ?_ | (refine Q8 ?_ ?_; focus (simp only [kS, R1, R2, R3, R4, R5, R6, R7, reduceCtorEq, R9, h0, h3, h4, h5, h6, h7, w1, w2, w3, w4, g3]; done)) | (refine Q9 ?_ ?_; focus (simp only [kS, R1, R2, R3, R4, R5, R6, R7, reduceCtorEq, R9, h0, h3, h4, h5, h6, h7, w1, w2, w3, w4, g3]; done)) | refine Qa ?_ | refine Qb ?_ | refine Qc ?_ | refine And.intro (by first | assumption | omega) ?_)
            repeat (refine And.intro (by first | (simp only [kS, R1, R2, R3, R4, R5, R6, R7, reduceCtorEq, R9, h0, h3, h4, h5, h6, h7]; done) | assumption) ?_)
            simp only [kS, R1, R2, R3, R4, R5, R6, R7, reduceCtorEq, R9, Bool.false_and, Bool.true_and, Bool.false_or, Bool.true_or, g3]
          · cases q2
            · repeat (first | ((first | refine Q1 ?_ | refine Q2 ?_); intro Z hN hX hR) | refine Q3 (by kernel_rfl) fun K hK => ?_ | ((first | refine Q4 fun R hJ => ?_ | with_reducible change ExpAll _ _ _); simp only [kS, R1, R2, R3, R4, R5, R6, R7, reduceCtorEq, R9, h0, h3, h4, h5, h6, h7, w1, w2, w3, w4, g3]) | (refine hJ _ ?_; clear hJ R) | refine Q5 ?_ | (refine hK _ ?_; clear hK K) | ((first | refine hN _ ?_ | refine hX _ _ ?_ | refine hR _ ?_); clear hN hX hR Z) | refine Q6 rfl ?_ | refine Q7 (by decide) ?_ | (refine Q8 ?_ ?_; focus (simp only [kS, R1, R2, R3, R4, R5, R6, R7, reduceCtorEq, R9, h0, h3, h4, h5, h6, h7, w1, w2, w3, w4, g3]; done)) | (refine Q9 ?_ ?_; focus (simp only [kS, R1, R2, R3, R4, R5, R6, R7, reduceCtorEq, R9, h0, h3, h4, h5, h6, h7, w1, w2, w3, w4, g3]; done)) | refine Qa ?_ | refine Qb ?_ | refine Qc ?_ | refine And.intro (by first | assumption | omega) ?_)
              repeat (refine And.intro (by first | (simp only [kS, R1, R2, R3, R4, R5, R6, R7, reduceCtorEq, R9, h0, h3, h4, h5, h6, h7]; done) | assumption) ?_)
              simp only [kS, R1, R2, R3, R4, R5, R6, R7, reduceCtorEq, R9, Bool.false_and, Bool.true_and, Bool.false_or, Bool.true_or, g3]
            · repeat (first | ((first | refine Q1 ?_ | refine Q2 ?_); intro Z hN hX hR) | refine Q3 (by kernel_rfl) fun K hK => ?_ | ((first | refine Q4 fun R hJ => ?_ | with_reducible change ExpAll _ _ _); simp only [kS, R1, R2, R3, R4, R5, R6, R7, reduceCtorEq, R9, h0, h3, h4, h5, h6, h7, w1, w2, w3, w4, g3]) | (refine hJ _ ?_; clear hJ R) | refine Q5 ?_ | (refine hK _ ?_; clear hK K) | ((first | refine hN _ ?_ | refine hX _ _ ?_ | refine hR _ ?_); clear hN hX hR Z) | refine Q6 rfl ?_ | refine Q7 (by decide) ?_ | (refine Q8 ?_ ?_; focus (simp only [kS, R1, R2, R3, R4, R5, R6, R7, reduceCtorEq, R9, h0, h3, h4, h5, h6, h7, w1, w2, w3, w4, g3]; done)) | (refine Q9 ?_ ?_; focus (simp only [kS, R1, R2, R3, R4, R5, R6, R7, reduceCtorEq, R9, h0, h3, h4, h5, h6, h7, w1, w2, w3, w4, g3]; done)) | refine Qa ?_ | refine Qb ?_ | refine Qc ?_ | refine And.intro (by first | assumption | omega) ?_)
              repeat (refine And.intro (by first | (simp only [kS, R1, R2, R3, R4, R5, R6, R7, reduceCtorEq, R9, h0, h3, h4, h5, h6, h7]; done) | assumption) ?_)
              simp only [kS, R1, R2, R3, R4, R5, R6, R7, reduceCtorEq, R9, Bool.false_and, Bool.true_and, Bool.false_or, Bool.true_or, g3]
      clear h0 h3
      rintro f ⟨h0, h3, h4, h5, h6, h7, hf⟩
      by_cases hq : (b == 224 && (p1 && q2)) = true
      · rw [hq] at hf
        rw [if_pos hq] at hc
        repeat (first | ((first | refine Q1 ?_ | refine Q2 ?_); intro Z hN hX hR) | refine Q3 (by kernel_rfl) fun K hK => ?_ | ((first | refine Q4 fun R hJ => ?_ | with_reducible change ExpAll _ _ _); simp only [kS, R1, R2, R3, R4, R5, R6, R7, reduceCtorEq, R9, h0, h3, h4, h5, h6, h7, w1, w2, w3, w4, hf]) | (refine hJ _ ?_; clear hJ R) | refine Q5 ?_ | (refine hK _ ?_; clear hK K) | ((first | refine hN _ ?_ | refine hX _ _ ?_ | refine hR _ ?_); clear hN hX hR Z) | refine Q6 rfl ?_ | refine Q7 (by decide) ?_ | (refine Q8 ?_ ?_; focus (simp only [kS, R1, R2, R3, R4, R5, R6, R7, reduceCtorEq, R9, h0, h3, h4, h5, h6, h7, w1, w2, w3, w4, hf]; done)) | (refine Q9 ?_ ?_; focus (simp only [kS, R1, R2, R3, R4, R5, R6, R7, reduceCtorEq, R9, h0, h3, h4, h5, h6, h7, w1, w2, w3, w4, hf]; done)) | refine Qa ?_ | refine Qb ?_ | refine Qc ?_ | refine And.intro (by first | assumption | omega) ?_)
        exact ⟨k, by omega, i + 3, by omega, by omega, by simp only [kS, R1, R2, R3, R4, R5, R6, R7, reduceCtorEq, R9, h0], by simp only [kS, R1, R2, R3, R4, R5, R6, R7, reduceCtorEq, R9], hc⟩
      rw [if_neg hq] at hc
      rw [Bool.eq_false_iff.2 hq] at hf
      refine awp_condF (by simp only [kS, R1, R2, R3, R4, R5, R6, R7, reduceCtorEq, R9, hf]) ?_
      refine awq_cut (fun f => f.t 0 = .c (.v (.string s)) ∧ f.t 3 = iv (i : Int) ∧ f.t 4 = iv b ∧ f.t 5 = bv q1 ∧ f.t 6 = bv q2 ∧ f.t 7 = bv q3 ∧ f.t 59 = bv (((decide (225 ≤ b) && decide (b ≤ 236)) || (b == 238 || b == 239)) && (q1 && q2))) (fun Z hN hX hR => ?_) ?_
      · cases ga : (decide (225 ≤ b))
        · cases gc : (b == 238)
          · cases gd : (b == 239)
            · repeat (first | ((first | refine Q1 ?_ | refine Q2 ?_); intro Z hN hX hR) | refine Q3 (by kernel_rfl) fun K hK => ?_ | ((first | refine Q4 fun R hJ => ?_ | with_reducible change ExpAll _ _ _); simp only [kS, R1, R2, R3, R4, R5, R6, R7, reduceCtorEq, R9, h0, h3, h4, h5, h6, h7, w1, w2, w3, w4, ga, gc, gd]) | (refine hJ _ ?_; clear hJ R) | refine Q5 ?_ | (refine hK _ ?_; clear hK K) | ((first | refine hN _ ?_ | refine hX _ _ ?_ | refine hR _ ?_); clear hN hX hR Z) | refine Q6 rfl ?_ | refine Q7 (by decide) ?_ | (refine Q8 ?_ ?_; focus (simp only [kS, R1, R2, R3, R4, R5, R6, R7, reduceCtorEq, R9, h0, h3, h4, h5, h6, h7, w1, w2, w3, w4, ga, gc, gd]; done)) | (refine Q9 ?_ ?_; focus (simp only [kS, R1, R2, R3, R4, R5, R6, R7, reduceCtorEq, R9, h0, h3, h4, h5, h6, h7, w1, w2, w3, w4, ga, gc, gd]; done)) | refine Qa ?_ | refine Qb ?_ | refine Qc ?_ | refine And.intro (by first | assumption | omega) ?_)
              repeat (refine And.intro (by first | (simp only [kS, R1, R2, R3, R4, R5, R6, R7, reduceCtorEq, R9, h0, h3, h4, h5, h6, h7]; done) | assumption) ?_)
              simp only [kS, R1, R2, R3, R4, R5, R6, R7, reduceCtorEq, R9, Bool.false_and, Bool.true_and, Bool.false_or, Bool.true_or, ga, gc, gd]
            · cases q1
              · repeat (first | ((first | refine Q1 ?_ | refine Q2 ?_); intro Z hN hX hR) | refine Q3 (by kernel_rfl) fun K hK => ?_ | ((first | refine Q4 fun R hJ => ?_ | with_reducible change ExpAll _ _ _); simp only [kS, R1, R2, R3, R4, R5, R6, R7, reduceCtorEq, R9, h0, h3, h4, h5, h6, h7, w1, w2, w3, w4, ga, gc, gd]) | (refine hJ _ ?_; clear hJ R) | refine Q5 ?_ | (refine hK _ ?_; clear hK K) | ((first | refine hN _ ?_ | refine hX _ _ ?_ | refine hR _ ?_); clear hN hX hR Z) | refine Q6 rfl ?_ | refine Q7 (by decide) ?_ | (refine Q8 ?_ ?_; focus (simp only [kS, R1, R2, R3, R4, R5, R6, R7, reduceCtorEq, R9, h0, h3, h4, h5, h6, h7, w1, w2, w3, w4, ga, gc, gd]; done)) | (refine Q9 ?_ ?_; focus (simp only [kS, R1, R2, R3, R4, R5, R6, R7, reduceCtorEq, R9, h0, h3, h4, h5, h6, h7, w1, w2, w3, w4, ga, gc, gd]; done)) | refine Qa ?_ | refine Qb ?_ | refine Qc ?_ | refine And.intro (by first | assumption | omega) ?_)
                repeat (refine And.intro (by first | (simp only [kS, R1, R2, R3, R4, R5, R6, R7, reduceCtorEq, R9, h0, h3, h4, h5, h6, h7]; done) | assumption) ?_)
                simp only [kS, R1, R2, R3, R4, R5, R6, R7, reduceCtorEq, R9, Bool.false_and, Bool.true_and, Bool.false_or, Bool.true_or, ga, gc, gd]
              · cases q2
                · repeat (first | ((first | refine Q1 ?_ | refine Q2 ?_); intro Z hN hX hR) | refine Q3 (by kernel_rfl) fun K hK => ?_ | ((first | refine Q4 fun R hJ => ?_ | with_reducible change ExpAll _ _ _); simp only [kS, R1, R2, R3, R4, R5, R6, R7, reduceCtorEq, R9, h0, h3, h4, h5, h6, h7, w1, w2, w3, w4, ga, gc, gd]) | (refine hJ _ ?_; clear hJ R) | refine Q5 ?_ | (refine hK _ ?_; clear hK K) | ((first | refine hN _ ?_ | refine hX _ _ ?_ | refine hR _ ?_); clear hN hX hR Z) | refine Q6 rfl ?_ | refine Q7 (by decide) ?_ | (refine Q8 ?_ ?_; focus (simp only [kS, R1, R2, R3, R4, R5, R6, R7, reduceCtorEq, R9, h0, h3, h4, h5, h6, h7, w1, w2, w3, w4, ga, gc, gd]; done)) | (refine Q9 ?_ ?_; focus (simp only [kS, R1, R2, R3, R4, R5, R6, R7, reduceCtorEq, R9, h0, h3, h4, h5, h6, h7, w1, w2, w3, w4, ga, gc, gd]; done)) | refine Qa ?_ | refine Qb ?_ | refine Qc ?_ | refine And.intro (by first | assumption | omega) ?_)
                  repeat (refine And.intro (by first | (simp only [kS, R1, R2, R3, R4, R5, R6, R7, reduceCtorEq, R9, h0, h3, h4, h5, h6, h7]; done) | assumption) ?_)
                  simp only [kS, R1, R2, R3, R4, R5, R6, R7, reduceCtorEq, R9, Bool.false_and, Bool.true_and, Bool.false_or, Bool.true_or, ga, gc, gd]
                · repeat (first | ((first | refine Q1 ?_ | refine Q2 ?_); intro Z hN hX hR) | refine Q3 (by kernel_rfl) fun K hK => ?_ | ((first | refine Q4 fun R hJ => ?_ | with_reducible change ExpAll _ _ _); simp only [kS, R1, R2, R3, R4, R5, R6, R7, reduceCtorEq, R9, h0, h3, h4, h5, h6, h7, w1, w2, w3, w4, ga, gc, gd]) | (refine hJ _ ?_; clear hJ R) | refine Q5 ?_ | (refine hK _ ?_; clear hK K) | ((first | refine hN _ ?_ | refine hX _ _ ?_ | refine hR _ ?_); clear hN hX hR Z) | refine Q6 rfl ?_ | refine Q7 (by decide) ?_ | (refine Q8 ?_ ?_; focus (simp only [kS, R1, R2, R3, R4, R5, R6, R7, reduceCtorEq, R9, h0, h3, h4, h5, h6, h7, w1, w2, w3, w4, ga, gc, gd]; done)) | (refine Q9 ?_ ?_; focus (simp only [kS, R1, R2, R3, R4, R5, R6, R7, reduceCtorEq, R9, h0, h3, h4, h5, h6, h7, w1, w2, w3, w4, ga, gc, gd]; done)) | refine Qa ?_ | refine Qb ?_ | refine Qc ?_ | refine And.intro (by first | assumption | omega) ?_)
                  repeat (refine And.intro (by first | (simp only [kS, R1, R2, R3, R4, R5, R6, R7, reduceCtorEq, R9, h0, h3, h4, h5, h6, h7]; done) | assumption) ?_)
                  simp only [kS, R1, R2, R3, R4, R5, R6, R7, reduceCtorEq, R9, Bool.false_and, Bool.true_and, Bool.false_or, Bool.true_or, ga, gc, gd]
          · cases q1
            · repeat (first | ((first | refine Q1 ?_ | refine Q2 ?_); intro Z hN hX hR) | refine Q3 (by kernel_rfl) fun K hK => ?_ | ((first | refine Q4 fun R hJ => ?_ | with_reducible change ExpAll _ _ _); simp only [kS, R1, R2, R3, R4, R5, R6, R7, reduceCtorEq, R9, h0, h3, h4, h5, h6, h7, w1, w2, w3, w4, ga, gc]) | (refine hJ _ ?_; clear hJ R) | refine Q5 ?_ | (refine hK _ ?_; clear hK K) | ((first | refine hN _ ?_ | refine hX _ _ ?_ | refine hR _ ?_); clear hN hX hR Z) | refine Q6 rfl ?_ | refine Q7 (by decide) ?_ | (refine Q8 ?_ ?_; focus (simp only [kS, R1, R2, R3, R4, R5, R6, R7, reduceCtorEq, R9, h0, h3, h4, h5, h6, h7, w1, w2, w3, w4, ga, gc]; done)) | (refine Q9 ?_ ?_; focus (simp only [kS, R1, R2, R3, R4, R5, R6, R7, reduceCtorEq, R9, h0, h3, h4, h5, h6, h7, w1, w2, w3, w4, ga, gc]; done)) | refine Qa ?_ | refine Qb ?_ | refine Qc ?_ | refine And.intro (by first | assumption | omega) ?_)
              repeat (refine And.intro (by first | (simp only [kS, R1, R2, R3, R4, R5, R6, R7, reduceCtorEq, R9, h0, h3, h4, h5, h6, h7]; done) | assumption) ?_)
              simp only [kS, R1, R2, R3, R4, R5, R6, R7, reduceCtorEq, R9, Bool.false_and, Bool.true_and, Bool.false_or, Bool.true_or, ga, gc]
            · cases q2
              · repeat (first | ((first | refine Q1 ?_ | refine Q2 ?_); intro Z hN hX hR) | refine Q3 (by kernel_rfl) fun K hK => ?_ | ((first | refine Q4 fun R hJ => ?_ | with_reducible change ExpAll _ _ _); simp only [kS, R1, R2, R3, R4, R5, R6, R7, reduceCtorEq, R9, h0, h3, h4, h5, h6, h7, w1, w2, w3, w4, ga, gc]) | (refine hJ _ ?_; clear hJ R) | refine Q5 ?_ | (refine hK _ ?_; clear hK K) | ((first | refine hN _ ?_ | refine hX _ _ ?_ | refine hR _ ?_); clear hN hX hR Z) | refine Q6 rfl ?_ | refine Q7 (by decide) ?_ | (refine Q8 ?_ ?_; focus (simp only [kS, R1, R2, R3, R4, R5, R6, R7, reduceCtorEq, R9, h0, h3, h4, h5, h6, h7, w1, w2, w3, w4, ga, gc]; done)) | (refine Q9 ?_ ?_; focus (simp only [kS, R1, R2, R3, R4, R5, R6, R7, reduceCtorEq, R9, h0, h3, h4, h5, h6, h7, w1, w2, w3, w4, ga, gc]; done)) | refine Qa ?_ | refine Qb ?_ | refine Qc ?_ | refine And.intro (by first | assumption | omega) ?_)
                repeat (refine And.intro (by first | (simp only [kS, R1, R2, R3, R4, R5, R6, R7, reduceCtorEq, R9, h0, h3, h4, h5, h6, h7]; done) | assumption) ?_)
                simp only [kS, R1, R2, R3, R4, R5, R6, R7, reduceCtorEq, R9, Bool.false_and, Bool.true_and, Bool.false_or, Bool.true_or, ga, gc]
              · repeat (first | ((first | refine Q1 ?_ | refine Q2 ?_); intro Z hN hX hR) | refine Q3 (by kernel_rfl) fun K hK => ?_ | ((first | refine Q4 fun R hJ => ?_ | with_reducible change ExpAll _ _ _); simp only [kS, R1, R2, R3, R4, R5, R6, R7, reduceCtorEq, R9, h0, h3, h4, h5, h6, h7, w1, w2, w3, w4, ga, gc]) | (refine hJ _ ?_; clear hJ R) | refine Q5 ?_ | (refine hK _ ?_; clear hK K) | ((first | refine hN _ ?_ | refine hX _ _ ?_ | refine hR _ ?_); clear hN hX hR Z) | refine Q6 rfl ?_ | refine Q7 (by decide) ?_ | (refine Q8 ?_ ?_; focus (simp only [kS, R1, R2, R3, R4, R5, R6, R7, reduceCtorEq, R9, h0, h3, h4, h5, h6, h7, w1, w2, w3, w4, ga, gc]; done)) | (refine Q9 ?_ ?_; focus (simp only [kS, R1, R2, R3, R4, R5, R6, R7, reduceCtorEq, R9, h0, h3, h4, h5, h6, h7, w1, w2, w3, w4, ga, gc]; done)) | refine Qa ?_ | refine Qb ?_ | refine Qc ?_ | refine And.intro (by first | assumption | omega) ?_)
                repeat (refine And.intro (by first | (simp only [kS, R1, R2, R3, R4, R5, R6, R7, reduceCtorEq, R9, h0, h3, h4, h5, h6, h7]; done) | assumption) ?_)
                simp only [kS, R1, R2, R3, R4, R5, R6, R7, reduceCtorEq, R9, Bool.false_and, Bool.true_and, Bool.false_or, Bool.true_or, ga, gc]
        · cases gb : (decide (b ≤ 236))
          · cases gc : (b == 238)
            · cases gd : (b == 239)
              · repeat (first | ((first | refine Q1 ?_ | refine Q2 ?_); intro Z hN hX hR) | refine Q3 (by kernel_rfl) fun K hK => ?_ | ((first | refine Q4 fun R hJ => ?_ | with_reducible change ExpAll _ _ _); simp only [kS, R1, R2, R3, R4, R5, R6, R7, reduceCtorEq, R9, h0, h3, h4, h5, h6, h7, w1, w2, w3, w4, ga, gb, gc, gd]) | (refine hJ _ ?_; clear hJ R) | refine Q5 ?_ | (refine hK _ ?_; clear hK K) | ((first | refine hN _ ?_ | refine hX _ _ ?_ | refine hR _ ?_); clear hN hX hR Z) | refine Q6 rfl ?_ | refine Q7 (by decide) ?_ | (refine Q8 ?_ ?_; focus (simp only [kS, R1, R2, R3, R4, R5, R6, R7, reduceCtorEq, R9, h0, h3, h4, h5, h6, h7, w1, w2, w3, w4, ga, gb, gc, gd]; done)) | (refine Q9 ?_ ?_; focus (simp only [kS, R1, R2, R3, R4, R5, R6, R7, reduceCtorEq, R9, h0, h3, h4, h5, h6, h7, w1, w2, w3, w4, ga, gb, gc, gd]; done)) | refine Qa ?_ | refine Qb ?_ | refine Qc ?_ | refine And.intro (by first | assumption | omega) ?_)
                repeat (refine And.intro (by first | (simp only [kS, R1, R2, R3, R4, R5, R6, R7, reduceCtorEq, R9, h0, h3, h4, h5, h6, h7]; done) | assumption) ?_)
                simp only [kS, R1, R2, R3, R4, R5, R6, R7, reduceCtorEq, R9, Bool.false_and, Bool.true_and, Bool.false_or, Bool.true_or, ga, gb, gc, gd]
              · cases q1
                · repeat (first | ((first | refine Q1 ?_ | refine Q2 ?_); intro Z hN hX hR) | refine Q3 (by kernel_rfl) fun K hK => ?_ | ((first | refine Q4 fun R hJ => ?_ | with_reducible change ExpAll _ _ _); simp only [kS, R1, R2, R3, R4, R5, R6, R7, reduceCtorEq, R9, h0, h3, h4, h5, h6, h7, w1, w2, w3, w4, ga, gb, gc, gd]) | (refine hJ _ ?_; clear hJ R) | refine Q5 ?_ | (refine hK _ ?_; clear hK K) | ((first | refine hN _ ?_ | refine hX _ _ ?_ | refine hR _ ?_); clear hN hX hR Z) | refine Q6 rfl ?_ | refine Q7 (by decide) ?_ | (refine Q8 ?_ ?_; focus (simp only [kS, R1, R2, R3, R4, R5, R6, R7, reduceCtorEq, R9, h0, h3, h4, h5, h6, h7, w1, w2, w3, w4, ga, gb, gc, gd]; done)) | (refine Q9 ?_ ?_; focus (simp only [kS, R1, R2, R3, R4, R5, R6, R7, reduceCtorEq, R9, h0, h3, h4, h5, h6, h7, w1, w2, w3, w4, ga, gb, gc, gd]; done)) | refine Qa ?_ | refine Qb ?_ | refine Qc ?_ | refine And.intro (by first | assumption | omega) ?_)
                  repeat (refine And.intro (by first | (simp only [kS, R1, R2, R3, R4, R5, R6, R7, reduceCtorEq, R9, h0, h3, h4, h5, h6, h7]; done) | assumption) ?_)
                  simp only [kS, R1, R2, R3, R4, R5, R6, R7, reduceCtorEq, R9, Bool.false_and, Bool.true_and, Bool.false_or, Bool.true_or, ga, gb, gc, gd]
                · cases q2
                  · repeat (first | ((first | refine Q1 ?_ | refine Q2 ?_); intro Z hN hX hR) | refine Q3 (by kernel_rfl) fun K hK => ?_ | ((first | refine Q4 fun R hJ => ?_ | with_reducible change ExpAll _ _ _); simp only [kS, R1, R2, R3, R4, R5, R6, R7, reduceCtorEq, R9, h0, h3, h4, h5, h6, h7, w1, w2, w3, w4, ga, gb, gc, gd]) | (refine hJ _ ?_; clear hJ R) | refine Q5 ?_ | (refine hK _ ?_; clear hK K) | ((first | refine hN _ ?_ | refine hX _ _ ?_ | refine hR _ ?_); clear hN hX hR Z) | refine Q6 rfl ?_ | refine Q7 (by decide) ?_ | (refine Q8 ?_ ?_; focus (simp only [kS, R1, R2, R3, R4, R5, R6, R7, reduceCtorEq, R9, h0, h3, h4, h5, h6, h7, w1, w2, w3, w4, ga, gb, gc, gd]; done)) | (refine Q9 ?_ ?_; focus (simp only [kS, R1, R2, R3, R4, R5, R6, R7, reduceCtorEq, R9, h0, h3, h4, h5, h6, h7, w1, w2, w3, w4, ga, gb, gc, gd]; done)) | refine Qa ?_ | refine Qb ?_ | refine Qc ?_ | refine And.intro (by first | assumption | omega) ?_)
                    repeat (refine And.intro (by first | (simp only [kS, R1, R2, R3, R4, R5, R6, R7, reduceCtorEq, R9, h0, h3, h4, h5, h6, h7]; done) | assumption) ?_)
                    simp only [kS, R1, R2, R3, R4, R5, R6, R7, reduceCtorEq, R9, Bool.false_and, Bool.true_and, Bool.false_or, Bool.true_or, ga, gb, gc, gd]
                  · repeat (first | ((first | refine Q1 ?_ | refine Q2 ?_); intro Z hN hX hR) | refine Q3 (by kernel_rfl) fun K hK => ?_ | ((first | refine Q4 fun R hJ => ?_ | with_reducible change ExpAll _ _ _); simp only [kS, R1, R2, R3, R4, R5, R6, R7, reduceCtorEq, R9, h0, h3, h4, h5, h6, h7, w1, w2, w3, w4, ga, gb, gc, gd]) | (refine hJ _ ?_; clear hJ R) | refine Q5 ?_ | (refine hK _ ?_; clear hK K) | ((first | refine hN _ ?_ | refine hX _ _ ?_ | refine hR _ ?_); clear hN hX hR Z) | refine Q6 rfl ?_ | refine Q7 (by decide) ?_ | (refine Q8 ?_ ?_; focus (simp only [kS, R1, R2, R3, R4, R5, R6, R7, reduceCtorEq, R9, h0, h3, h4, h5, h6, h7, w1, w2, w3, w4, ga, gb, gc, gd]; done)) | (refine Q9 ?_ ?_; focus (simp only [kS, R1, R2, R3, R4, R5, R6, R7, reduceCtorEq, R9, h0, h3, h4, h5, h6, h7, w1, w2, w3, w4, ga, gb, gc, gd]; done)) | refine Qa ?_ | refine Qb ?_ | refine Qc ?_ | refine And.intro (by first | assumption | omega) ?_)
                    repeat (refine And.intro (by first | (simp only [kS, R1, R2, R3, R4, R5, R6, R7, reduceCtorEq, R9, h0, h3, h4, h5, h6, h7]; done) | assumption) ?_)
                    simp only [kS, R1, R2, R3, R4, R5, R6, R7, reduceCtorEq, R9, Bool.false_and, Bool.true_and, Bool.false_or, Bool.true_or, ga, gb, gc, gd]
            · cases q1
              · repeat (first | ((first | refine Q1 ?_ | refine Q2 ?_); intro Z hN hX hR) | refine Q3 (by kernel_rfl) fun K hK => ?_ | ((first | refine Q4 fun R hJ => ?_ | with_reducible change ExpAll _ _ _); simp only [kS, R1, R2, R3, R4, R5, R6, R7, reduceCtorEq, R9, h0, h3, h4, h5, h6, h7, w1, w2, w3, w4, ga, gb, gc]) | (refine hJ _ ?_; clear hJ R) | refine Q5 ?_ | (refine hK _ ?_; clear hK K) | ((first | refine hN _ ?_ | refine hX _ _ ?_ | refine hR _ ?_); clear hN hX hR Z) | refine Q6 rfl ?_ | refine Q7 (by decide) ?_ | (refine Q8 ?_ ?_; focus (simp only [kS, R1, R2, R3, R4, R5, R6, R7, reduceCtorEq, R9, h0, h3, h4, h5, h6, h7, w1, w2, w3, w4, ga, gb, gc]; done)) | (refine Q9 ?_ ?_; focus (simp only [kS, R1, R2, R3, R4, R5, R6, R7, reduceCtorEq, R9, h0, h3, h4, h5, h6, h7, w1, w2, w3, w4, ga, gb, gc]; done)) | refine Qa ?_ | refine Qb ?_ | refine Qc ?_ | refine And.intro (by first | assumption | omega) ?_)
                repeat (refine And.intro (by first | (simp only [kS, R1, R2, R3, R4, R5, R6, R7, reduceCtorEq, R9, h0, h3, h4, h5, h6, h7]; done) | assumption) ?_)
                simp only [kS, R1, R2, R3, R4, R5, R6, R7, reduceCtorEq, R9, Bool.false_and, Bool.true_and, Bool.false_or, Bool.true_or, ga, gb, gc]
              · cases q2
                · repeat (first | ((first | refine Q1 ?_ | refine Q2 ?_); intro Z hN hX hR) | refine Q3 (by kernel_rfl) fun K hK => ?_ | ((first | refine Q4 fun R hJ => ?_ | with_reducible change ExpAll _ _ _); simp only [kS, R1, R2, R3, R4, R5, R6, R7, reduceCtorEq, R9, h0, h3, h4, h5, h6, h7, w1, w2, w3, w4, ga, gb, gc]) | (refine hJ _ ?_; clear hJ R) | refine Q5 ?_ | (refine hK _ ?_; clear hK K) | ((first | refine hN _ ?_ | refine hX _ _ ?_ | refine hR _ ?_); clear hN hX hR Z) | refine Q6 rfl ?_ | refine Q7 (by decide) ?_ | (refine Q8 ?_ ?_; focus (simp only [kS, R1, R2, R3, R4, R5, R6, R7, reduceCtorEq, R9, h0, h3, h4, h5, h6, h7, w1, w2, w3, w4, ga, gb, gc]; done)) | (refine Q9 ?_ ?_; focus (simp only [kS, R1, R2, R3, R4, R5, R6, R7, reduceCtorEq, R9, h0, h3, h4, h5, h6, h7, w1, w2, w3, w4, ga, gb, gc]; done)) | refine Qa ?_ | refine Qb ?_ | refine Qc ?_ | refine And.intro (by first | assumption | omega) ?_)
                  repeat (refine And.intro (by first | (simp only [kS, R1, R2, R3, R4, R5, R6, R7, reduceCtorEq, R9, h0, h3, h4, h5, h6, h7]; done) | assumption) ?_)
                  simp only [kS, R1, R2, R3, R4, R5, R6, R7, reduceCtorEq, R9, Bool.false_and, Bool.true_and, Bool.false_or, Bool.true_or, ga, gb, gc]
                · repeat (first | ((first | refine Q1 ?_ | refine Q2 ?_); intro Z hN hX hR) | refine Q3 (by kernel_rfl) fun K hK => ?_ | ((first | refine Q4 fun R hJ => ?_ | with_reducible change ExpAll _ _ _); simp only [kS, R1, R2, R3, R4, R5, R6, R7, reduceCtorEq, R9, h0, h3, h4, h5, h6, h7, w1, w2, w3, w4, ga, gb, gc]) | (refine hJ _ ?_; clear hJ R) | refine Q5 ?_ | (refine hK _ ?_; clear hK K) | ((first | refine hN _ ?_ | refine hX _ _ ?_ | refine hR _ ?_); clear hN hX hR Z) | refine Q6 rfl ?_ | refine Q7 (by decide) ?_ | (refine Q8 ?_ ?_; focus (simp only [kS, R1, R2, R3, R4, R5, R6, R7, reduceCtorEq, R9, h0, h3, h4, h5, h6, h7, w1, w2, w3, w4, ga, gb, gc]; done)) | (refine Q9 ?_ ?_; focus (simp only [kS, R1, R2, R3, R4, R5, R6, R7, reduceCtorEq, R9, h0, h3, h4, h5, h6, h7, w1, w2, w3, w4, ga, gb, gc]; done)) | refine Qa ?_ | refine Qb ?_ | refine Qc ?_ | refine And.intro (by first | assumption | omega) ?_)
                  repeat (refine And.intro (by first | (simp only [kS, R1, R2, R3, R4, R5, R6, R7, reduceCtorEq, R9, h0, h3, h4, h5, h6, h7]; done) | assumption) ?_)
                  simp only [kS, R1, R2, R3, R4, R5, R6, R7, reduceCtorEq, R9, Bool.false_and, Bool.true_and, Bool.false_or, Bool.true_or, ga, gb, gc]
          · cases q1
            · repeat (first | ((first | refine Q1 ?_ | refine Q2 ?_); intro Z hN hX hR) | refine Q3 (by kernel_rfl) fun K hK => ?_ | ((first | refine Q4 fun R hJ => ?_ | with_reducible change ExpAll _ _ _); simp only [kS, R1, R2, R3, R4, R5, R6, R7, reduceCtorEq, R9, h0, h3, h4, h5, h6, h7, w1, w2, w3, w4, ga, gb]) | (refine hJ _ ?_; clear hJ R) | refine Q5 ?_ | (refine hK _ ?_; clear hK K) | ((first | refine hN _ ?_ | refine hX _ _ ?_ | refine hR _ ?_); clear hN hX hR Z) | refine Q6 rfl ?_ | refine Q7 (by decide) ?_ | (refine Q8 ?_ ?_; focus (simp only [kS, R1, R2, R3, R4, R5, R6, R7, reduceCtorEq, R9, h0, h3, h4, h5, h6, h7, w1, w2, w3, w4, ga, gb]; done)) | (refine Q9 ?_ ?_; focus (simp only [kS, R1, R2, R3, R4, R5, R6, R7, reduceCtorEq, R9, h0, h3, h4, h5, h6, h7, w1, w2, w3, w4, ga, gb]; done)) | refine Qa ?_ | refine Qb ?_ | refine Qc ?_ | refine And.intro (by first | assumption | omega) ?_)
              repeat (refine And.intro (by first | (simp only [kS, R1, R2, R3, R4, R5, R6, R7, reduceCtorEq, R9, h0, h3, h4, h5, h6, h7]; done) | assumption) ?_)
              simp only [kS, R1, R2, R3, R4, R5, R6, R7, reduceCtorEq, R9, Bool.false_and, Bool.true_and, Bool.false_or, Bool.true_or, ga, gb]
            · cases q2
              · repeat (first | ((first | refine Q1 ?_ | refine Q2 ?_); intro Z hN hX hR) | refine Q3 (by kernel_rfl) fun K hK => ?_ | ((first | refine Q4 fun R hJ => ?_ | with_reducible change ExpAll _ _ _); simp only [kS, R1, R2, R3, R4, R5, R6, R7, reduceCtorEq, R9, h0, h3, h4, h5, h6, h7, w1, w2, w3, w4, ga, gb]) | (refine hJ _ ?_; clear hJ R) | refine Q5 ?_ | (refine hK _ ?_; clear hK K) | ((first | refine hN _ ?_ | refine hX _ _ ?_ | refine hR _ ?_); clear hN hX hR Z) | refine Q6 rfl ?_ | refine Q7 (by decide) ?_ | (refine Q8 ?_ ?_; focus (simp only [kS, R1, R2, R3, R4, R5, R6, R7, reduceCtorEq, R9, h0, h3, h4, h5, h6, h7, w1, w2, w3, w4, ga, gb]; done)) | (refine Q9 ?_ ?_; focus (simp only [kS, R1, R2, R3, R4, R5, R6, R7, reduceCtorEq, R9, h0, h3, h4, h5, h6, h7, w1, w2, w3, w4, ga, gb]; done)) | refine Qa ?_ | refine Qb ?_ | refine Qc ?_ | refine And.intro (by first | assumption | omega) ?_)
                repeat (refine And.intro (by first | (simp only [kS, R1, R2, R3, R4, R5, R6, R7, reduceCtorEq, R9, h0, h3, h4, h5, h6, h7]; done) | assumption) ?_)
                simp only [kS, R1, R2, R3, R4, R5, R6, R7, reduceCtorEq, R9, Bool.false_and, Bool.true_and, Bool.false_or, Bool.true_or, ga, gb]
              · repeat (first | ((first | refine Q1 ?_ | refine Q2 ?_); intro Z hN hX hR) | refine Q3 (by kernel_rfl) fun K hK => ?_ | ((first | refine Q4 fun R hJ => ?_ | with_reducible change ExpAll _ _ _); simp only [kS, R1, R2, R3, R4, R5, R6, R7, reduceCtorEq, R9, h0, h3, h4, h5, h6, h7, w1, w2, w3, w4, ga, gb]) | (refine hJ _ ?_; clear hJ R) | refine Q5 ?_ | (refine hK _ ?_; clear hK K) | ((first | refine hN _ ?_ | refine hX _ _ ?_ | refine hR _ ?_); clear hN hX hR Z) | refine Q6 rfl ?_ | refine Q7 (by decide) ?_ | (refine Q8 ?_ ?_; focus (simp only [kS, R1, R2, R3, R4, R5, R6, R7, reduceCtorEq, R9, h0, h3, h4, h5, h6, h7, w1, w2, w3, w4, ga, gb]; done)) | (refine Q9 ?_ ?_; focus (simp only [kS, R1, R2, R3, R4, R5, R6, R7, reduceCtorEq, R9, h0, h3, h4, h5, h6, h7, w1, w2, w3, w4, ga, gb]; done)) | refine Qa ?_ | refine Qb ?_ | refine Qc ?_ | refine And.intro (by first | assumption | omega) ?_)
                repeat (refine And.intro (by first | (simp only [kS, R1, R2, R3, R4, R5, R6, R7, reduceCtorEq, R9, h0, h3, h4, h5, h6, h7]; done) | assumption) ?_)
                simp only [kS, R1, R2, R3, R4, R5, R6, R7, reduceCtorEq, R9, Bool.false_and, Bool.true_and, Bool.false_or, Bool.true_or, ga, gb]
      clear h0 h3
      rintro f ⟨h0, h3, h4, h5, h6, h7, hf⟩
      by_cases hq : (((decide (225 ≤ b) && decide (b ≤ 236)) || (b == 238 || b == 239)) && (q1 && q2)) = true
      · rw [hq] at hf
        rw [if_pos hq] at hc
        repeat (first | ((first | refine Q1 ?_ | refine Q2 ?_); intro Z hN hX hR) | refine Q3 (by kernel_rfl) fun K hK => ?_ | ((first | refine Q4 fun R hJ => ?_ | with_reducible change ExpAll _ _ _); simp only [kS, R1, R2, R3, R4, R5, R6, R7, reduceCtorEq, R9, h0, h3, h4, h5, h6, h7, w1, w2, w3, w4, hf]) | (refine hJ _ ?_; clear hJ R) | refine Q5 ?_ | (refine hK _ ?_; clear hK K) | ((first | refine hN _ ?_ | refine hX _ _ ?_ | refine hR _ ?_); clear hN hX hR Z) | refine Q6 rfl ?_ | refine Q7 (by decide) ?_ | (refine Q8 ?_ ?_; focus (simp only [kS, R1, R2, R3, R4, R5, R6, R7, reduceCtorEq, R9, h0, h3, h4, h5, h6, h7, w1, w2, w3, w4, hf]; done)) | (refine Q9 ?_ ?_; focus (simp only [kS, R1, R2, R3, R4, R5, R6, R7, reduceCtorEq, R9, h0, h3, h4, h5, h6, h7, w1, w2, w3, w4, hf]; done)) | refine Qa ?_ | refine Qb ?_ | refine Qc ?_ | refine And.intro (by first | assumption | omega) ?_)
        exact ⟨k, by omega, i + 3, by omega, by omega, by simp only [kS, R1, R2, R3, R4, R5, R6, R7, reduceCtorEq, R9, h0], by simp only [kS, R1, R2, R3, R4, R5, R6, R7, reduceCtorEq, R9], hc⟩
      rw [if_neg hq] at hc
      rw [Bool.eq_false_iff.2 hq] at hf
      refine awp_condF (by simp only [kS, R1, R2, R3, R4, R5, R6, R7, reduceCtorEq, R9, hf]) ?_
      refine awq_cut (fun f => f.t 0 = .c (.v (.string s)) ∧ f.t 3 = iv (i : Int) ∧ f.t 4 = iv b ∧ f.t 5 = bv q1 ∧ f.t 6 = bv q2 ∧ f.t 7 = bv q3 ∧ f.t 82 = bv (b == 237 && (p2 && q2))) (fun Z hN hX hR => ?_) ?_
      · cases g4 : (b == 237)
        · repeat (first | ((first | refine Q1 ?_ | refine Q2 ?_); intro Z hN hX hR) | refine Q3 (by kernel_rfl) fun K hK => ?_ | ((first | refine Q4 fun R hJ => ?_ | with_reducible change ExpAll _ _ _); simp only [kS, R1, R2, R3, R4, R5, R6, R7, reduceCtorEq, R9, h0, h3, h4, h5, h6, h7, w1, w2, w3, w4, g4]) | (refine hJ _ ?_; clear hJ R) | refine Q5 ?_ | (refine hK _ ?_; clear hK K) | ((first | refine hN _ ?_ | refine hX _ _ ?_ | refine hR _ ?_); clear hN hX hR Z) | refine Q6 rfl ?_ | refine Q7 (by decide) ?_ | (refine Q8 ?_ ?_; focus (simp only [kS, R1, R2, R3, R4, R5, R6, R7, reduceCtorEq, R9, h0, h3, h4, h5, h6, h7, w1, w2, w3, w4, g4]; done)) | (refine Q9 ?_ ?_; focus (simp only [kS, R1, R2, R3, R4, R5, R6, R7, reduceCtorEq, R9, h0, h3, h4, h5, h6, h7, w1, w2, w3, w4, g4]; done)) | refine Qa ?_ | refine Qb ?_ | refine Qc ?_ | refine And.intro (by first | assumption | omega) ?_)
          repeat (refine And.intro (by first | (simp only [kS, R1, R2, R3, R4, R5, R6, R7, reduceCtorEq, R9, h0, h3, h4, h5, h6, h7]; done) | assumption) ?_)
          simp only [kS, R1, R2, R3, R4, R5, R6, R7, reduceCtorEq, R9, Bool.false_and, Bool.true_and, Bool.false_or, Bool.true_or, g4]
        · repeat (first | ((first | refine Q1 ?_ | refine Q2 ?_); intro Z hN hX hR) | refine Q3 (by kernel_rfl) fun K hK => ?_ | ((first | refine Q4 fun R hJ => ?_ | with_reducible change ExpAll _ _ _); simp only [kS, R1, R2, R3, R4, R5, R6, R7, reduceCtorEq, R9, h0, h3, h4, h5, h6, h7, w1, w2, w3, w4, g4]) | (refine hJ _ ?_; clear hJ R) | refine Q5 ?_ | (refine hK _ ?_; clear hK K) | ((first | refine hN _ ?_ | refine hX _ _ ?_ | refine hR _ ?_); clear hN hX hR Z) | refine Q6 rfl ?_ | refine Q7 (by decide) ?_ | (refine Q8 ?_ ?_; focus (simp only [kS, R1, R2, R3, R4, R5, R6, R7, reduceCtorEq, R9, h0, h3, h4, h5, h6, h7, w1, w2, w3, w4, g4]; done)) | (refine Q9 ?_ ?_; focus (simp only [kS, R1, R2, R3, R4, R5, R6, R7, reduceCtorEq, R9, h0, h3, h4, h5, h6, h7, w1, w2, w3, w4, g4]; done)) | refine Qa ?_ | refine Qb ?_ | refine Qc ?_ | refine And.intro (by first | assumption | omega) ?_)
          refine ⟨_, j2, rfl, ?_⟩
          simp only [kS, R1, R2, R3, R4, R5, R6, R7, reduceCtorEq, R9, h0, h3, h4, h5, h6, h7, w1, w2, w3, w4, g4]
          cases p2
          · repeat (first | ((first | refine Q1 ?_ | refine Q2 ?_); intro Z hN hX hR) | refine Q3 (by kernel_rfl) fun K hK => ?_ | ((first | refine Q4 fun R hJ => ?_ | with_reducible change ExpAll _ _ _); simp only [kS, R1, R2, R3, R4, R5, R6, R7, reduceCtorEq, R9, h0, h3, h4, h5, h6, h7, w1, w2, w3, w4, g4]) | (refine hJ _ ?_; clear hJ R) | refine Q5 ?_ | (refine hK _ ?_; clear hK K) | ((first | refine hN _ ?_ | refine hX _ _ ?_ | refine hR _ ?_); clear hN hX hR Z) | refine Q6 rfl ?_ | refine Q7 (by decide) ?_ | (refine Q8 ?_ ?_; focus (simp only [kS, R1, R2, R3, R4, R5, R6, R7, reduceCtorEq, R9, h0, h3, h4, h5, h6, h7, w1, w2, w3, w4, g4]; done)) | (refine Q9 ?_ ?_; focus (simp only [kS, R1, R2, R3, R4, R5, R6, R7, reduceCtorEq, R9, h0, h3, h4, h5, h6, h7, w1, w2, w3, w4, g4]; done)) | refine Qa ?_ | refine Qb ?_ | refine Qc ?_ | refine And.intro (by first | assumption | omega) ?_)
            repeat (refine And.intro (by first | (simp only [kS, R1, R2, R3, R4, R5, R6, R7, reduceCtorEq, R9, h0, h3, h4, h5, h6, h7]; done) | assumption) ?_)
            simp only [kS, R1, R2, R3, R4, R5, R6, R7, reduceCtorEq, R9, Bool.false_and, Bool.true_and, Bool.false_or, Bool.true_or, g4]
          · cases q2
            · repeat (first | ((first | refine Q1 ?_ | refine Q2 ?_); intro Z hN hX hR) | refine Q3 (by kernel_rfl) fun K hK => ?_ | ((first | refine Q4 fun R hJ => ?_ | with_reducible change ExpAll _ _ _); simp only [kS, R1, R2, R3, R4, R5, R6, R7, reduceCtorEq, R9, h0, h3, h4, h5, h6, h7, w1, w2, w3, w4, g4]) | (refine hJ _ ?_; clear hJ R) | refine Q5 ?_ | (refine hK _ ?_; clear hK K) | ((first | refine hN _ ?_ | refine hX _ _ ?_ | refine hR _ ?_); clear hN hX hR Z) | refine Q6 rfl ?_ | refine Q7 (by decide) ?_ | (refine Q8 ?_ ?_; focus (simp only [kS, R1, R2, R3, R4, R5, R6, R7, reduceCtorEq, R9, h0, h3, h4, h5, h6, h7, w1, w2, w3, w4, g4]; done)) | (refine Q9 ?_ ?_; focus (simp only [kS, R1, R2, R3, R4, R5, R6, R7, reduceCtorEq, R9, h0, h3, h4, h5, h6, h7, w1, w2, w3, w4, g4]; done)) | refine Qa ?_ | refine Qb ?_ | refine Qc ?_ | refine And.intro (by first | assumption | omega) ?_)
              repeat (refine And.intro (by first | (simp only [kS, R1, R2, R3, R4, R5, R6, R7, reduceCtorEq, R9, h0, h3, h4, h5, h6, h7]; done) | assumption) ?_)
              simp only [kS, R1, R2, R3, R4, R5, R6, R7, reduceCtorEq, R9, Bool.false_and, Bool.true_and, Bool.false_or, Bool.true_or, g4]
            · repeat (first | ((first | refine Q1 ?_ | refine Q2 ?_); intro Z hN hX hR) | refine Q3 (by kernel_rfl) fun K hK => ?_ | ((first | refine Q4 fun R hJ => ?_ | with_reducible change ExpAll _ _ _); simp only [kS, R1, R2, R3, R4, R5, R6, R7, reduceCtorEq, R9, h0, h3, h4, h5, h6, h7, w1, w2, w3, w4, g4]) | (refine hJ _ ?_; clear hJ R) | refine Q5 ?_ | (refine hK _ ?_; clear hK K) | ((first | refine hN _ ?_ | refine hX _ _ ?_ | refine hR _ ?_); clear hN hX hR Z) | refine Q6 rfl ?_ | refine Q7 (by decide) ?_ | (refine Q8 ?_ ?_; focus (simp only [kS, R1, R2, R3, R4, R5, R6, R7, reduceCtorEq, R9, h0, h3, h4, h5, h6, h7, w1, w2, w3, w4, g4]; done)) | (refine Q9 ?_ ?_; focus (simp only [kS, R1, R2, R3, R4, R5, R6, R7, reduceCtorEq, R9, h0, h3, h4, h5, h6, h7, w1, w2, w3, w4, g4]; done)) | refine Qa ?_ | refine Qb ?_ | refine Qc ?_ | refine And.intro (by first | assumption | omega) ?_)
              repeat (refine And.intro (by first | (simp only [kS, R1, R2, R3, R4, R5, R6, R7, reduceCtorEq, R9, h0, h3, h4, h5, h6, h7]; done) | assumption) ?_)
              simp only [kS, R1, R2, R3, R4, R5, R6, R7, reduceCtorEq, R9, Bool.false_and, Bool.true_and, Bool.false_or, Bool.true_or, g4]
      clear h0 h3
      rintro f ⟨h0, h3, h4, h5, h6, h7, hf⟩
      by_cases hq : (b == 237 && (p2 && q2)) = true
      · rw [hq] at hf
        rw [if_pos hq] at hc
        repeat (first | ((first | refine Q1 ?_ | refine Q2 ?_); intro Z hN hX hR) | refine Q3 (by kernel_rfl) fun K hK => ?_ | ((first | refine Q4 fun R hJ => ?_ | with_reducible change ExpAll _ _ _); simp only [kS, R1, R2, R3, R4, R5, R6, R7, reduceCtorEq, R9, h0, h3, h4, h5, h6, h7, w1, w2, w3, w4, hf]) | (refine hJ _ ?_; clear hJ R) | refine Q5 ?_ | (refine hK _ ?_; clear hK K) | ((first | refine hN _ ?_ | refine hX _ _ ?_ | refine hR _ ?_); clear hN hX hR Z) | refine Q6 rfl ?_ | refine Q7 (by decide) ?_ | (refine Q8 ?_ ?_; focus (simp only [kS, R1, R2, R3, R4, R5, R6, R7, reduceCtorEq, R9, h0, h3, h4, h5, h6, h7, w1, w2, w3, w4, hf]; done)) | (refine Q9 ?_ ?_; focus (simp only [kS, R1, R2, R3, R4, R5, R6, R7, reduceCtorEq, R9, h0, h3, h4, h5, h6, h7, w1, w2, w3, w4, hf]; done)) | refine Qa ?_ | refine Qb ?_ | refine Qc ?_ | refine And.intro (by first | assumption | omega) ?_)
        exact ⟨k, by omega, i + 3, by omega, by omega, by simp only [kS, R1, R2, R3, R4, R5, R6, R7, reduceCtorEq, R9, h0], by simp only [kS, R1, R2, R3, R4, R5, R6, R7, reduceCtorEq, R9], hc⟩
      rw [if_neg hq] at hc
      rw [Bool.eq_false_iff.2 hq] at hf
      refine awp_condF (by simp only [kS, R1, R2, R3, R4, R5, R6, R7, reduceCtorEq, R9, hf]) ?_
      refine awq_cut (fun f => f.t 0 = .c (.v (.string s)) ∧ f.t 3 = iv (i : Int) ∧ f.t 4 = iv b ∧ f.t 5 = bv q1 ∧ f.t 6 = bv q2 ∧ f.t 7 = bv q3 ∧ f.t 96 = bv (b == 240 && (p3 && (q2 && q3)))) (fun Z hN hX hR => ?_) ?_
      · cases g5 : (b == 240)
        · repeat (first | ((first | refine Q1 ?_ | refine Q2 ?_); intro Z hN hX hR) | refine Q3 (by kernel_rfl) fun K hK => ?_ | ((first | refine Q4 fun R hJ => ?_ | with_reducible change ExpAll _ _ _); simp only [kS, R1, R2, R3, R4, R5, R6, R7, reduceCtorEq, R9, h0, h3, h4, h5, h6, h7, w1, w2, w3, w4, g5]) | (refine hJ _ ?_; clear hJ R) | refine Q5 ?_ | (refine hK _ ?_; clear hK K) | ((first | refine hN _ ?_ | refine hX _ _ ?_ | refine hR _ ?_); clear hN hX hR Z) | refine Q6 rfl ?_ | refine Q7 (by decide) ?_ | (refine Q8 ?_ ?_; focus (simp only [kS, R1, R2, R3, R4, R5, R6, R7, reduceCtorEq, R9, h0, h3, h4, h5, h6, h7, w1, w2, w3, w4, g5]; done)) | (refine Q9 ?_ ?_; focus (simp only [kS, R1, R2, R3, R4, R5, R6, R7, reduceCtorEq, R9, h0, h3, h4, h5, h6, h7, w1, w2, w3, w4, g5]; done)) | refine Qa ?_ | refine Qb ?_ | refine Qc ?_ | refine And.intro (by first | assumption | omega) ?_)
          repeat (refine And.intro (by first | (simp only [kS, R1, R2, R3, R4, R5, R6, R7, reduceCtorEq, R9, h0, h3, h4, h5, h6, h7]; done) | assumption) ?_)
          simp only [kS, R1, R2, R3, R4, R5, R6, R7, reduceCtorEq, R9, Bool.false_and, Bool.true_and, Bool.false_or, Bool.true_or, g5]
        · repeat (first | ((first | refine Q1 ?_ | refine Q2 ?_); intro Z hN hX hR) | refine Q3 (by kernel_rfl) fun K hK => ?_ | ((first | refine Q4 fun R hJ => ?_ | with_reducible change ExpAll _ _ _); simp only [kS, R1, R2, R3, R4, R5, R6, R7, reduceCtorEq, R9, h0, h3, h4, h5, h6, h7, w1, w2, w3, w4, g5]) | (refine hJ _ ?_; clear hJ R) | refine Q5 ?_ | (refine hK _ ?_; clear hK K) | ((first | refine hN _ ?_ | refine hX _ _ ?_ | refine hR _ ?_); clear hN hX hR Z) | refine Q6 rfl ?_ | refine Q7 (by decide) ?_ | (refine Q8 ?_ ?_; focus (simp only [kS, R1, R2, R3, R4, R5, R6, R7, reduceCtorEq, R9, h0, h3, h4, h5, h6, h7, w1, w2, w3, w4, g5]; done)) | (refine Q9 ?_ ?_; focus (simp only [kS, R1, R2, R3, R4, R5, R6, R7, reduceCtorEq, R9, h0, h3, h4, h5, h6, h7, w1, w2, w3, w4, g5]; done)) | refine Qa ?_ | refine Qb ?_ | refine Qc ?_ | refine And.intro (by first | assumption | omega) ?_)
          refine ⟨_, j3, rfl, ?_⟩
          simp only [kS, R1, R2, R3, R4, R5, R6, R7, reduceCtorEq, R9, h0, h3, h4, h5, h6, h7, w1, w2, w3, w4, g5]
          cases p3
          · repeat (first | ((first | refine Q1 ?_ | refine Q2 ?_); intro Z hN hX hR) | refine Q3 (by kernel_rfl) fun K hK => ?_ | ((first | refine Q4 fun R hJ => ?_ | with_reducible change ExpAll _ _ _); simp only [kS, R1, R2, R3, R4, R5, R6, R7, reduceCtorEq, R9, h0, h3, h4, h5, h6, h7, w1, w2, w3, w4, g5]) | (refine hJ _ ?_; clear hJ R) | refine Q5 ?_ | (refine hK _ ?_; clear hK K) | ((first | refine hN _ ?_ | refine hX _ _ ?_ | refine hR _ ?_); clear hN hX hR Z) | refine Q6 rfl ?_ | refine Q7 (by decide) ?_ | (refine Q8 ?_ ?_; focus (simp only [kS, R1, R2, R3, R4, R5, R6, R7, reduceCtorEq, R9, h0, h3, h4, h5, h6, h7, w1, w2, w3, w4, g5]; done)) | (refine Q9 ?_ ?_; focus (simp only [kS, R1, R2, R3, R4, R5, R6, R7, reduceCtorEq, R9, h0, h3, h4, h5, h6, h7, w1, w2, w3, w4, g5]; done)) | refine Qa ?_ | refine Qb ?_ | refine Qc ?_ | refine And.intro (by first | assumption | omega) ?_)
            repeat (refine And.intro (by first | (simp only [kS, R1, R2, R3, R4, R5, R6, R7, reduceCtorEq, R9, h0, h3, h4, h5, h6, h7]; done) | assumption) ?_)
            simp only [kS, R1, R2, R3, R4, R5, R6, R7, reduceCtorEq, R9, Bool.false_and, Bool.true_and, Bool.false_or, Bool.true_or, g5]
          · cases q2
            · repeat (first | ((first | refine Q1 ?_ | refine Q2 ?_); intro Z hN hX hR) | refine Q3 (by kernel_rfl) fun K hK => ?_ | ((first | refine Q4 fun R hJ => ?_ | with_reducible change ExpAll _ _ _); simp only [kS, R1, R2, R3, R4, R5, R6, R7, reduceCtorEq, R9, h0, h3, h4, h5, h6, h7, w1, w2, w3, w4, g5]) | (refine hJ _ ?_; clear hJ R) | refine Q5 ?_ | (refine hK _ ?_; clear hK K) | ((first | refine hN _ ?_ | refine hX _ _ ?_ | refine hR _ ?_); clear hN hX hR Z) | refine Q6 rfl ?_ | refine Q7 (by decide) ?_ | (refine Q8 ?_ ?_; focus (simp only [kS, R1, R2, R3, R4, R5, R6, R7, reduceCtorEq, R9, h0, h3, h4, h5, h6, h7, w1, w2, w3, w4, g5]; done)) | (refine Q9 ?_ ?_; focus (simp only [kS, R1, R2, R3, R4, R5, R6, R7, reduceCtorEq, R9, h0, h3, h4, h5, h6, h7, w1, w2, w3, w4, g5]; done)) | refine Qa ?_ | refine Qb ?_ | refine Qc ?_ | refine And.intro (by first | assumption | omega) ?_)
              repeat (refine And.intro (by first | (simp only [kS, R1, R2, R3, R4, R5, R6, R7, reduceCtorEq, R9, h0, h3, h4, h5, h6, h7]; done) | assumption) ?_)
              simp only [kS, R1, R2, R3, R4, R5, R6, R7, reduceCtorEq, R9, Bool.false_and, Bool.true_and, Bool.false_or, Bool.true_or, g5]
            · cases q3
              · repeat (first | ((first | refine Q1 ?_ | refine Q2 ?_); intro Z hN hX hR) | refine Q3 (by kernel_rfl) fun K hK => ?_ | ((first | refine Q4 fun R hJ => ?_ | with_reducible change ExpAll _ _ _); simp only [kS, R1, R2, R3, R4, R5, R6, R7, reduceCtorEq, R9, h0, h3, h4, h5, h6, h7, w1, w2, w3, w4, g5]) | (refine hJ _ ?_; clear hJ R) | refine Q5 ?_ | (refine hK _ ?_; clear hK K) | ((first | refine hN _ ?_ | refine hX _ _ ?_ | refine hR _ ?_); clear hN hX hR Z) | refine Q6 rfl ?_ | refine Q7 (by decide) ?_ | (refine Q8 ?_ ?_; focus (simp only [kS, R1, R2, R3, R4, R5, R6, R7, reduceCtorEq, R9, h0, h3, h4, h5, h6, h7, w1, w2, w3, w4, g5]; done)) | (refine Q9 ?_ ?_; focus (simp only [kS, R1, R2, R3, R4, R5, R6, R7, reduceCtorEq, R9, h0, h3, h4, h5, h6, h7, w1, w2, w3, w4, g5]; done)) | refine Qa ?_ | refine Qb ?_ | refine Qc ?_ | refine And.intro (by first | assumption | omega) ?_)
                repeat (refine And.intro (by first | (simp only [kS, R1, R2, R3, R4, R5, R6, R7, reduceCtorEq, R9, h0, h3, h4, h5, h6, h7]; done) | assumption) ?_)
                simp only [kS, R1, R2, R3, R4, R5, R6, R7, reduceCtorEq, R9, Bool.false_and, Bool.true_and, Bool.false_or, Bool.true_or, g5]
              · repeat (first | ((first | refine Q1 ?_ | refine Q2 ?_); intro Z hN hX hR) | refine Q3 (by kernel_rfl) fun K hK => ?_ | ((first | refine Q4 fun R hJ => ?_ | with_reducible change ExpAll _ _ _); simp only [kS, R1, R2, R3, R4, R5, R6, R7, reduceCtorEq, R9, h0, h3, h4, h5, h6, h7, w1, w2, w3, w4, g5]) | (refine hJ _ ?_; clear hJ R) | refine Q5 ?_ | (refine hK _ ?_; clear hK K) | ((first | refine hN _ ?_ | refine hX _ _ ?_ | refine hR _ ?_); clear hN hX hR Z) | refine Q6 rfl ?_ | refine Q7 (by decide) ?_ | (refine Q8 ?_ ?_; focus (simp only [kS, R1, R2, R3, R4, R5, R6, R7, reduceCtorEq, R9, h0, h3, h4, h5, h6, h7, w1, w2, w3, w4, g5]; done)) | (refine Q9 ?_ ?_; focus (simp only [kS, R1, R2, R3, R4, R5, R6, R7, reduceCtorEq, R9, h0, h3, h4, h5, h6, h7, w1, w2, w3, w4, g5]; done)) | refine Qa ?_ | refine Qb ?_ | refine Qc ?_ | refine And.intro (by first | assumption | omega) ?_)
                repeat (refine And.intro (by first | (simp only [kS, R1, R2, R3, R4, R5, R6, R7, reduceCtorEq, R9, h0, h3, h4, h5, h6, h7]; done) | assumption) ?_)
                simp only [kS, R1, R2, R3, R4, R5, R6, R7, reduceCtorEq, R9, Bool.false_and, Bool.true_and, Bool.false_or, Bool.true_or, g5]
      clear h0 h3
      rintro f ⟨h0, h3, h4, h5, h6, h7, hf⟩
      by_cases hq : (b == 240 && (p3 && (q2 && q3))) = true
      · rw [hq] at hf
        rw [if_pos hq] at hc
        repeat (first | ((first | refine Q1 ?_ | refine Q2 ?_); intro Z hN hX hR) | refine Q3 (by kernel_rfl) fun K hK => ?_ | ((first | refine Q4 fun R hJ => ?_ | with_reducible change ExpAll _ _ _); simp only [kS, R1, R2, R3, R4, R5, R6, R7, reduceCtorEq, R9, h0, h3, h4, h5, h6, h7, w1, w2, w3, w4, hf]) | (refine hJ _ ?_; clear hJ R) | refine Q5 ?_ | (refine hK _ ?_; clear hK K) | ((first | refine hN _ ?_ | refine hX _ _ ?_ | refine hR _ ?_); clear hN hX hR Z) | refine Q6 rfl ?_ | refine Q7 (by decide) ?_ | (refine Q8 ?_ ?_; focus (simp only [kS, R1, R2, R3, R4, R5, R6, R7, reduceCtorEq, R9, h0, h3, h4, h5, h6, h7, w1, w2, w3, w4, hf]; done)) | (refine Q9 ?_ ?_; focus (simp only [kS, R1, R2, R3, R4, R5, R6, R7, reduceCtorEq, R9, h0, h3, h4, h5, h6, h7, w1, w2, w3, w4, hf]; done)) | refine Qa ?_ | refine Qb ?_ | refine Qc ?_ | refine And.intro (by first | assumption | omega) ?_)
        exact ⟨k, by omega, i + 4, by omega, by omega, by simp only [kS, R1, R2, R3, R4, R5, R6, R7, reduceCtorEq, R9, h0], by simp only [kS, R1, R2, R3, R4, R5, R6, R7, reduceCtorEq, R9], hc⟩
      rw [if_neg hq] at hc
      rw [Bool.eq_false_iff.2 hq] at hf
      refine awp_condF (by simp only [kS, R1, R2, R3, R4, R5, R6, R7, reduceCtorEq, R9, hf]) ?_
      refine awq_cut (fun f => f.t 0 = .c (.v (.string s)) ∧ f.t 3 = iv (i : Int) ∧ f.t 4 = iv b ∧ f.t 5 = bv q1 ∧ f.t 6 = bv q2 ∧ f.t 7 = bv q3 ∧ f.t 113 = bv (decide (241 ≤ b) && (decide (b ≤ 243) && (q1 && (q2 && q3))))) (fun Z hN hX hR => ?_) ?_
      · cases g6 : (decide (241 ≤ b))
        · repeat (first | ((first | refine Q1 ?_ | refine Q2 ?_); intro Z hN hX hR) | refine Q3 (by kernel_rfl) fun K hK => ?_ | ((first | refine Q4 fun R hJ => ?_ | with_reducible change ExpAll _ _ _); simp only [kS, R1, R2, R3, R4, R5, R6, R7, reduceCtorEq, R9, h0, h3, h4, h5, h6, h7, w1, w2, w3, w4, g6]) | (refine hJ _ ?_; clear hJ R) | refine Q5 ?_ | (refine hK _ ?_; clear hK K) | ((first | refine hN _ ?_ | refine hX _ _ ?_ | refine hR _ ?_); clear hN hX hR Z) | refine Q6 rfl ?_ | refine Q7 (by decide) ?_ | (refine Q8 ?_ ?_; focus (simp only [kS, R1, R2, R3, R4, R5, R6, R7, reduceCtorEq, R9, h0, h3, h4, h5, h6, h7, w1, w2, w3, w4, g6]; done)) | (refine Q9 ?_ ?_; focus (simp only [kS, R1, R2, R3, R4, R5, R6, R7, reduceCtorEq, R9, h0, h3, h4, h5, h6, h7, w1, w2, w3, w4, g6]; done)) | refine Qa ?_ | refine Qb ?_ | refine Qc ?_ | refine And.intro (by first | assumption | omega) ?_)
          repeat (refine And.intro (by first | (simp only [kS, R1, R2, R3, R4, R5, R6, R7, reduceCtorEq, R9, h0, h3, h4, h5, h6, h7]; done) | assumption) ?_)
          simp only [kS, R1, R2, R3, R4, R5, R6, R7, reduceCtorEq, R9, Bool.false_and, Bool.true_and, Bool.false_or, Bool.true_or, g6]
        · cases g7 : (decide (b ≤ 243))
          · repeat (first | ((first | refine Q1 ?_ | refine Q2 ?_); intro Z hN hX hR) | refine Q3 (by kernel_rfl) fun K hK => ?_ | ((first | refine Q4 fun R hJ => ?_ | with_reducible change ExpAll _ _ _); simp only [kS, R1, R2, R3, R4, R5, R6, R7, reduceCtorEq, R9, h0, h3, h4, h5, h6, h7, w1, w2, w3, w4, g6, g7]) | (refine hJ _ ?_; clear hJ R) | refine Q5 ?_ | (refine hK _ ?_; clear hK K) | ((first | refine hN _ ?_ | refine hX _ _ ?_ | refine hR _ ?_); clear hN hX hR Z) | refine Q6 rfl ?_ | refine Q7 (by decide) ?_ | (refine Q8 ?_ ?_; focus (simp only [kS, R1, R2, R3, R4, R5, R6, R7, reduceCtorEq, R9, h0, h3, h4, h5, h6, h7, w1, w2, w3, w4, g6, g7]; done)) | (refine Q9 ?_ ?_; focus (simp only [kS, R1, R2, R3, R4, R5, R6, R7, reduceCtorEq, R9, h0, h3, h4, h5, h6, h7, w1, w2, w3, w4, g6, g7]; done)) | refine Qa ?_ | refine Qb ?_ | refine Qc ?_ | refine And.intro (by first | assumption | omega) ?_)
            repeat (refine And.intro (by first | (simp only [kS, R1, R2, R3, R4, R5, R6, R7, reduceCtorEq, R9, h0, h3, h4, h5, h6, h7]; done) | assumption) ?_)
            simp only [kS, R1, R2, R3, R4, R5, R6, R7, reduceCtorEq, R9, Bool.false_and, Bool.true_and, Bool.false_or, Bool.true_or, g6, g7]
          · cases q1
            · repeat (first | ((first | refine Q1 ?_ | refine Q2 ?_); intro Z hN hX hR) | refine Q3 (by kernel_rfl) fun K hK => ?_ | ((first | refine Q4 fun R hJ => ?_ | with_reducible change ExpAll _ _ _); simp only [kS, R1, R2, R3, R4, R5, R6, R7, reduceCtorEq, R9, h0, h3, h4, h5, h6, h7, w1, w2, w3, w4, g6, g7]) | (refine hJ _ ?_; clear hJ R) | refine Q5 ?_ | (refine hK _ ?_; clear hK K) | ((first | refine hN _ ?_ | refine hX _ _ ?_ | refine hR _ ?_); clear hN hX hR Z) | refine Q6 rfl ?_ | refine Q7 (by decide) ?_ | (refine Q8 ?_ ?_; focus (simp only [kS, R1, R2, R3, R4, R5, R6, R7, reduceCtorEq, R9, h0, h3, h4, h5, h6, h7, w1, w2, w3, w4, g6, g7]; done)) | (refine Q9 ?_ ?_; focus (simp only [kS, R1, R2, R3, R4, R5, R6, R7, reduceCtorEq, R9, h0, h3, h4, h5, h6, h7, w1, w2, w3, w4, g6, g7]; done)) | refine Qa ?_ | refine Qb ?_ | refine Qc ?_ | refine And.intro (by first | assumption | omega) ?_)
              repeat (refine And.intro (by first | (simp only [kS, R1, R2, R3, R4, R5, R6, R7, reduceCtorEq, R9, h0, h3, h4, h5, h6, h7]; done) | assumption) ?_)
              simp only [kS, R1, R2, R3, R4, R5, R6, R7, reduceCtorEq, R9, Bool.false_and, Bool.true_and, Bool.false_or, Bool.true_or, g6, g7]
            · cases q2
              · repeat (first | ((first | refine Q1 ?_ | refine Q2 ?_); intro Z hN hX hR) | refine Q3 (by kernel_rfl) fun K hK => ?_ | ((first | refine Q4 fun R hJ => ?_ | with_reducible change ExpAll _ _ _); simp only [kS, R1, R2, R3, R4, R5, R6, R7, reduceCtorEq, R9, h0, h3, h4, h5, h6, h7, w1, w2, w3, w4, g6, g7]) | (refine hJ _ ?_; clear hJ R) | refine Q5 ?_ | (refine hK _ ?_; clear hK K) | ((first | refine hN _ ?_ | refine hX _ _ ?_ | refine hR _ ?_); clear hN hX hR Z) | refine Q6 rfl ?_ | refine Q7 (by decide) ?_ | (refine Q8 ?_ ?_; focus (simp only [kS, R1, R2, R3, R4, R5, R6, R7, reduceCtorEq, R9, h0, h3, h4, h5, h6, h7, w1, w2, w3, w4, g6, g7]; done)) | (refine Q9 ?_ ?_; focus (simp only [kS, R1, R2, R3, R4, R5, R6, R7, reduceCtorEq, R9, h0, h3, h4, h5, h6, h7, w1, w2, w3, w4, g6, g7]; done)) | refine Qa ?_ | refine Qb ?_ | refine Qc ?_ | refine And.intro (by first | assumption | omega) ?_)
                repeat (refine And.intro (by first | (simp only [kS, R1, R2, R3, R4, R5, R6, R7, reduceCtorEq, R9, h0, h3, h4, h5, h6, h7]; done) | assumption) ?_)
                simp only [kS, R1, R2, R3, R4, R5, R6, R7, reduceCtorEq, R9, Bool.false_and, Bool.true_and, Bool.false_or, Bool.true_or, g6, g7]
              · cases q3
                · repeat (first | ((first | refine Q1 ?_ | refine Q2 ?_); intro Z hN hX hR) | refine Q3 (by kernel_rfl) fun K hK => ?_ | ((first | refine Q4 fun R hJ => ?_ | with_reducible change ExpAll _ _ _); simp only [kS, R1, R2, R3, R4, R5, R6, R7, reduceCtorEq, R9, h0, h3, h4, h5, h6, h7, w1, w2, w3, w4, g6, g7]) | (refine hJ _ ?_; clear hJ R) | refine Q5 ?_ | (refine hK _ ?_; clear hK K) | ((first | refine hN _ ?_ | refine hX _ _ ?_ | refine hR _ ?_); clear hN hX hR Z) | refine Q6 rfl ?_ | refine Q7 (by decide) ?_ | (refine Q8 ?_ ?_; focus (simp only [kS, R1, R2, R3, R4, R5, R6, R7, reduceCtorEq, R9, h0, h3, h4, h5, h6, h7, w1, w2, w3, w4, g6, g7]; done)) | (refine Q9 ?_ ?_; focus (simp only [kS, R1, R2, R3, R4, R5, R6, R7, reduceCtorEq, R9, h0, h3, h4, h5, h6, h7, w1, w2, w3, w4, g6, g7]; done)) | refine Qa ?_ | refine Qb ?_ | refine Qc ?_ | refine And.intro (by first | assumption | omega) ?_)
                  repeat (refine And.intro (by first | (simp only [kS, R1, R2, R3, R4, R5, R6, R7, reduceCtorEq, R9, h0, h3, h4, h5, h6, h7]; done) | assumption) ?_)
                  simp only [kS, R1, R2, R3, R4, R5, R6, R7, reduceCtorEq, R9, Bool.false_and, Bool.true_and, Bool.false_or, Bool.true_or, g6, g7]
                · repeat (first | ((first | refine Q1 ?_ | refine Q2 ?_); intro Z hN hX hR) | refine Q3 (by kernel_rfl) fun K hK => ?_ | ((first | refine Q4 fun R hJ => ?_ | with_reducible change ExpAll _ _ _); simp only [kS, R1, R2, R3, R4, R5, R6, R7, reduceCtorEq, R9, h0, h3, h4, h5, h6, h7, w1, w2, w3, w4, g6, g7]) | (refine hJ _ ?_; clear hJ R) | refine Q5 ?_ | (refine hK _ ?_; clear hK K) | ((first | refine hN _ ?_ | refine hX _ _ ?_ | refine hR _ ?_); clear hN hX hR Z) | refine Q6 rfl ?_ | refine Q7 (by decide) ?_ | (refine Q8 ?_ ?_; focus (simp only [kS, R1, R2, R3, R4, R5, R6, R7, reduceCtorEq, R9, h0, h3, h4, h5, h6, h7, w1, w2, w3, w4, g6, g7]; done)) | (refine Q9 ?_ ?_; focus (simp only [kS, R1, R2, R3, R4, R5, R6, R7, reduceCtorEq, R9, h0, h3, h4, h5, h6, h7, w1, w2, w3, w4, g6, g7]; done)) | refine Qa ?_ | refine Qb ?_ | refine Qc ?_ | refine And.intro (by first | assumption | omega) ?_)
                  repeat (refine And.intro (by first | (simp only [kS, R1, R2, R3, R4, R5, R6, R7, reduceCtorEq, R9, h0, h3, h4, h5, h6, h7]; done) | assumption) ?_)
                  simp only [kS, R1, R2, R3, R4, R5, R6, R7, reduceCtorEq, R9, Bool.false_and, Bool.true_and, Bool.false_or, Bool.true_or, g6, g7]
      clear h0 h3
      rintro f ⟨h0, h3, h4, h5, h6, h7, hf⟩
      by_cases hq : (decide (241 ≤ b) && (decide (b ≤ 243) && (q1 && (q2 && q3)))) = true
      · rw [hq] at hf
        rw [if_pos hq] at hc
        repeat (first | ((first | refine Q1 ?_ | refine Q2 ?_); intro Z hN hX hR) | refine Q3 (by kernel_rfl) fun K hK => ?_ | ((first | refine Q4 fun R hJ => ?_ | with_reducible change ExpAll _ _ _); simp only [kS, R1, R2, R3, R4, R5, R6, R7, reduceCtorEq, R9, h0, h3, h4, h5, h6, h7, w1, w2, w3, w4, hf]) | (refine hJ _ ?_; clear hJ R) | refine Q5 ?_ | (refine hK _ ?_; clear hK K) | ((first | refine hN _ ?_ | refine hX _ _ ?_ | refine hR _ ?_); clear hN hX hR Z) | refine Q6 rfl ?_ | refine Q7 (by decide) ?_ | (refine Q8 ?_ ?_; focus (simp only [kS, R1, R2, R3, R4, R5, R6, R7, reduceCtorEq, R9, h0, h3, h4, h5, h6, h7, w1, w2, w3, w4, hf]; done)) | (refine Q9 ?_ ?_; focus (simp only [kS, R1, R2, R3, R4, R5, R6, R7, reduceCtorEq, R9, h0, h3, h4, h5, h6, h7, w1, w2, w3, w4, hf]; done)) | refine Qa ?_ | refine Qb ?_ | refine Qc ?_ | refine And.intro (by first | assumption | omega) ?_)
        exact ⟨k, by omega, i + 4, by omega, by omega, by simp only [kS, R1, R2, R3, R4, R5, R6, R7, reduceCtorEq, R9, h0], by simp only [kS, R1, R2, R3, R4, R5, R6, R7, reduceCtorEq, R9], hc⟩
      rw [if_neg hq] at hc
      rw [Bool.eq_false_iff.2 hq] at hf
      refine awp_condF (by simp only [kS, R1, R2, R3, R4, R5, R6, R7, reduceCtorEq, R9, hf]) ?_
      refine awq_cut (fun f => f.t 0 = .c (.v (.string s)) ∧ f.t 3 = iv (i : Int) ∧ f.t 4 = iv b ∧ f.t 5 = bv q1 ∧ f.t 6 = bv q2 ∧ f.t 7 = bv q3 ∧ f.t 131 = bv (b == 244 && (p4 && (q2 && q3)))) (fun Z hN hX hR => ?_) ?_
      · cases g8 : (b == 244)
        · repeat (first | ((first | refine Q1 ?_ | refine Q2 ?_); intro Z hN hX hR) | refine Q3 (by kernel_rfl) fun K hK => ?_ | ((first | refine Q4 fun R hJ => ?_ | with_reducible change ExpAll _ _ _); simp only [kS, R1, R2, R3, R4, R5, R6, R7, reduceCtorEq, R9, h0, h3, h4, h5, h6, h7, w1, w2, w3, w4, g8]) | (refine hJ _ ?_; clear hJ R) | refine Q5 ?_ | (refine hK _ ?_; clear hK K) | ((first | refine hN _ ?_ | refine hX _ _ ?_ | refine hR _ ?_); clear hN hX hR Z) | refine Q6 rfl ?_ | refine Q7 (by decide) ?_ | (refine Q8 ?_ ?_; focus (simp only [kS, R1, R2, R3, R4, R5, R6, R7, reduceCtorEq, R9, h0, h3, h4, h5, h6, h7, w1, w2, w3, w4, g8]; done)) | (refine Q9 ?_ ?_; focus (simp only [kS, R1, R2, R3, R4, R5, R6, R7, reduceCtorEq, R9, h0, h3, h4, h5, h6, h7, w1, w2, w3, w4, g8]; done)) | refine Qa ?_ | refine Qb ?_ | refine Qc ?_ | refine And.intro (by first | assumption | omega) ?_)
          repeat (refine And.intro (by first | (simp only [kS, R1, R2, R3, R4, R5, R6, R7, reduceCtorEq, R9, h0, h3, h4, h5, h6, h7]; done) | assumption) ?_)
          simp only [kS, R1, R2, R3, R4, R5, R6, R7, reduceCtorEq, R9, Bool.false_and, Bool.true_and, Bool.false_or, Bool.true_or, g8]
        · repeat (first | ((first | refine Q1 ?_ | refine Q2 ?_); intro Z hN hX hR) | refine Q3 (by kernel_rfl) fun K hK => ?_ | ((first | refine Q4 fun R hJ => ?_ | with_reducible change ExpAll _ _ _); simp only [kS, R1, R2, R3, R4, R5, R6, R7, reduceCtorEq, R9, h0, h3, h4, h5, h6, h7, w1, w2, w3, w4, g8]) | (refine hJ _ ?_; clear hJ R) | refine Q5 ?_ | (refine hK _ ?_; clear hK K) | ((first | refine hN _ ?_ | refine hX _ _ ?_ | refine hR _ ?_); clear hN hX hR Z) | refine Q6 rfl ?_ | refine Q7 (by decide) ?_ | (refine Q8 ?_ ?_; focus (simp only [kS, R1, R2, R3, R4, R5, R6, R7, reduceCtorEq, R9, h0, h3, h4, h5, h6, h7, w1, w2, w3, w4, g8]; done)) | (refine Q9 ?_ ?_; focus (simp only [kS, R1, R2, R3, R4, R5, R6, R7, reduceCtorEq, R9, h0, h3, h4, h5, h6, h7, w1, w2, w3, w4, g8]; done)) | refine Qa ?_ | refine Qb ?_ | refine Qc ?_ | refine And.intro (by first | assumption | omega) ?_)
          refine ⟨_, j4, rfl, ?_⟩
          simp only [kS, R1, R2, R3, R4, R5, R6, R7, reduceCtorEq, R9, h0, h3, h4, h5, h6, h7, w1, w2, w3, w4, g8]
          cases p4
          · repeat (first | ((first | refine Q1 ?_ | refine Q2 ?_); intro Z hN hX hR) | refine Q3 (by kernel_rfl) fun K hK => ?_ | ((first | refine Q4 fun R hJ => ?_ | with_reducible change ExpAll _ _ _); simp only [kS, R1, R2, R3, R4, R5, R6, R7, reduceCtorEq, R9, h0, h3, h4, h5, h6, h7, w1, w2, w3, w4, g8]) | (refine hJ _ ?_; clear hJ R) | refine Q5 ?_ | (refine hK _ ?_; clear hK K) | ((first | refine hN _ ?_ | refine hX _ _ ?_ | refine hR _ ?_); clear hN hX hR Z) | refine Q6 rfl ?_ | refine Q7 (by decide) ?_ | (refine Q8 ?_ ?_; focus (simp only [kS, R1, R2, R3, R4, R5, R6, R7, reduceCtorEq, R9, h0, h3, h4, h5, h6, h7, w1, w2, w3, w4, g8]; done)) | (refine Q9 ?_ ?_; focus (simp only [kS, R1, R2, R3, R4, R5, R6, R7, reduceCtorEq, R9, h0, h3, h4, h5, h6, h7, w1, w2, w3, w4, g8]; done)) | refine Qa ?_ | refine Qb ?_ | refine Qc ?_ | refine And.intro (by first | assumption | omega) ?_)
            repeat (refine And.intro (by first | (simp only [kS, R1, R2, R3, R4, R5, R6, R7, reduceCtorEq, R9, h0, h3, h4, h5, h6, h7]; done) | assumption) ?_)
            simp only [kS, R1, R2, R3, R4, R5, R6, R7, reduceCtorEq, R9, Bool.false_and, Bool.true_and, Bool.false_or, Bool.true_or, g8]
          · cases q2
            · repeat (first | ((first | refine Q1 ?_ | refine Q2 ?_); intro Z hN hX hR) | refine Q3 (by kernel_rfl) fun K hK => ?_ | ((first | refine Q4 fun R hJ => ?_ | with_reducible change ExpAll _ _ _); simp only [kS, R1, R2, R3, R4, R5, R6, R7, reduceCtorEq, R9, h0, h3, h4, h5, h6, h7, w1, w2, w3, w4, g8]) | (refine hJ _ ?_; clear hJ R) | refine Q5 ?_ | (refine hK _ ?_; clear hK K) | ((first | refine hN _ ?_ | refine hX _ _ ?_ | refine hR _ ?_); clear hN hX hR Z) | refine Q6 rfl ?_ | refine Q7 (by decide) ?_ | (refine Q8 ?_ ?_; focus (simp only [kS, R1, R2, R3, R4, R5, R6, R7, reduceCtorEq, R9, h0, h3, h4, h5, h6, h7, w1, w2, w3, w4, g8]; done)) | (refine Q9 ?_ ?_; focus (simp only [kS, R1, R2, R3, R4, R5, R6, R7, reduceCtorEq, R9, h0, h3, h4, h5, h6, h7, w1, w2, w3, w4, g8]; done)) | refine Qa ?_ | refine Qb ?_ | refine Qc ?_ | refine And.intro (by first | assumption | omega) ?_)
              repeat (refine And.intro (by first | (simp only [kS, R1, R2, R3, R4, R5, R6, R7, reduceCtorEq, R9, h0, h3, h4, h5, h6, h7]; done) | assumption) ?_)
              simp only [kS, R1, R2, R3, R4, R5, R6, R7, reduceCtorEq, R9, Bool.false_and, Bool.true_and, Bool.false_or, Bool.true_or, g8]
            · cases q3
              · repeat (first | ((first | refine Q1 ?_ | refine Q2 ?_); intro Z hN hX hR) | refine Q3 (by kernel_rfl) fun K hK => ?_ | ((first | refine Q4 fun R hJ => ?_ | with_reducible change ExpAll _ _ _); simp only [kS, R1, R2, R3, R4, R5, R6, R7, reduceCtorEq, R9, h0, h3, h4, h5, h6, h7, w1, w2, w3, w4, g8]) | (refine hJ _ ?_; clear hJ R) | refine Q5 ?_ | (refine hK _ ?_; clear hK K) | ((first | refine hN _ ?_ | refine hX _ _ ?_ | refine hR _ ?_); clear hN hX hR Z) | refine Q6 rfl ?_ | refine Q7 (by decide) ?_ | (refine Q8 ?_ ?_; focus (simp only [kS, R1, R2, R3, R4, R5, R6, R7, reduceCtorEq, R9, h0, h3, h4, h5, h6, h7, w1, w2, w3, w4, g8]; done)) | (refine Q9 ?_ ?_; focus (simp only [kS, R1, R2, R3, R4, R5, R6, R7, reduceCtorEq, R9, h0, h3, h4, h5, h6, h7, w1, w2, w3, w4, g8]; done)) | refine Qa ?_ | refine Qb ?_ | refine Qc ?_ | refine And.intro (by first | assumption | omega) ?_)
                repeat (refine And.intro (by first | (simp only [kS, R1, R2, R3, R4, R5, R6, R7, reduceCtorEq, R9, h0, h3, h4, h5, h6, h7]; done) | assumption) ?_)
                simp only [kS, R1, R2, R3, R4, R5, R6, R7, reduceCtorEq, R9, Bool.false_and, Bool.true_and, Bool.false_or, Bool.true_or, g8]
              · repeat (first | ((first | refine Q1 ?_ | refine Q2 ?_); intro Z hN hX hR) | refine Q3 (by kernel_rfl) fun K hK => ?_ | ((first | refine Q4 fun R hJ => ?_ | with_reducible change ExpAll _ _ _); simp only [kS, R1, R2, R3, R4, R5, R6, R7, reduceCtorEq, R9, h0, h3, h4, h5, h6, h7, w1, w2, w3, w4, g8]) | (refine hJ _ ?_; clear hJ R) | refine Q5 ?_ | (refine hK _ ?_; clear hK K) | ((first | refine hN _ ?_ | refine hX _ _ ?_ | refine hR _ ?_); clear hN hX hR Z) | refine Q6 rfl ?_ | refine Q7 (by decide) ?_ | (refine Q8 ?_ ?_; focus (simp only [kS, R1, R2, R3, R4, R5, R6, R7, reduceCtorEq, R9, h0, h3, h4, h5, h6, h7, w1, w2, w3, w4, g8]; done)) | (refine Q9 ?_ ?_; focus (simp only [kS, R1, R2, R3, R4, R5, R6, R7, reduceCtorEq, R9, h0, h3, h4, h5, h6, h7, w1, w2, w3, w4, g8]; done)) | refine Qa ?_ | refine Qb ?_ | refine Qc ?_ | refine And.intro (by first | assumption | omega) ?_)
                repeat (refine And.intro (by first | (simp only [kS, R1, R2, R3, R4, R5, R6, R7, reduceCtorEq, R9, h0, h3, h4, h5, h6, h7]; done) | assumption) ?_)
                simp only [kS, R1, R2, R3, R4, R5, R6, R7, reduceCtorEq, R9, Bool.false_and, Bool.true_and, Bool.false_or, Bool.true_or, g8]
      clear h0 h3
      rintro f ⟨h0, h3, h4, h5, h6, h7, hf⟩
      by_cases hq : (b == 244 && (p4 && (q2 && q3))) = true
      · rw [hq] at hf
        rw [if_pos hq] at hc
        repeat (first | ((first | refine Q1 ?_ | refine Q2 ?_); intro Z hN hX hR) | refine Q3 (by kernel_rfl) fun K hK => ?_ | ((first | refine Q4 fun R hJ => ?_ | with_reducible change ExpAll _ _ _); simp only [kS, R1, R2, R3, R4, R5, R6, R7, reduceCtorEq, R9, h0, h3, h4, h5, h6, h7, w1, w2, w3, w4, hf]) | (refine hJ _ ?_; clear hJ R) | refine Q5 ?_ | (refine hK _ ?_; clear hK K) | ((first | refine hN _ ?_ | refine hX _ _ ?_ | refine hR _ ?_); clear hN hX hR Z) | refine Q6 rfl ?_ | refine Q7 (by decide) ?_ | (refine Q8 ?_ ?_; focus (simp only [kS, R1, R2, R3, R4, R5, R6, R7, reduceCtorEq, R9, h0, h3, h4, h5, h6, h7, w1, w2, w3, w4, hf]; done)) | (refine Q9 ?_ ?_; focus (simp only [kS, R1, R2, R3, R4, R5, R6, R7, reduceCtorEq, R9, h0, h3, h4, h5, h6, h7, w1, w2, w3, w4, hf]; done)) | refine Qa ?_ | refine Qb ?_ | refine Qc ?_ | refine And.intro (by first | assumption | omega) ?_)
        exact ⟨k, by omega, i + 4, by omega, by omega, by simp only [kS, R1, R2, R3, R4, R5, R6, R7, reduceCtorEq, R9, h0], by simp only [kS, R1, R2, R3, R4, R5, R6, R7, reduceCtorEq, R9], hc⟩
      rw [if_neg hq] at hc
      rw [Bool.eq_false_iff.2 hq] at hf
      refine awp_condF (by simp only [kS, R1, R2, R3, R4, R5, R6, R7, reduceCtorEq, R9, hf]) ?_
      repeat (first | ((first | refine Q1 ?_ | refine Q2 ?_); intro Z hN hX hR) | refine Q3 (by kernel_rfl) fun K hK => ?_ | ((first | refine Q4 fun R hJ => ?_ | with_reducible change ExpAll _ _ _); simp only [kS, R1, R2, R3, R4, R5, R6, R7, reduceCtorEq, R9, h0, h3, h4, h5, h6, h7, w1, w2, w3, w4]) | (refine hJ _ ?_; clear hJ R) | refine Q5 ?_ | (refine hK _ ?_; clear hK K) | ((first | refine hN _ ?_ | refine hX _ _ ?_ | refine hR _ ?_); clear hN hX hR Z) | refine Q6 rfl ?_ | refine Q7 (by decide) ?_ | (refine Q8 ?_ ?_; focus (simp only [kS, R1, R2, R3, R4, R5, R6, R7, reduceCtorEq, R9, h0, h3, h4, h5, h6, h7, w1, w2, w3, w4]; done)) | (refine Q9 ?_ ?_; focus (simp only [kS, R1, R2, R3, R4, R5, R6, R7, reduceCtorEq, R9, h0, h3, h4, h5, h6, h7, w1, w2, w3, w4]; done)) | refine Qa ?_ | refine Qb ?_ | refine Qc ?_ | refine And.intro (by first | assumption | omega) ?_)
      rw [← hc]
    · simp only [u1, if_true] at hc
      repeat (first | ((first | refine Q1 ?_ | refine Q2 ?_); intro Z hN hX hR) | refine Q3 (by kernel_rfl) fun K hK => ?_ | ((first | refine Q4 fun R hJ => ?_ | with_reducible change ExpAll _ _ _); simp only [kS, R1, R2, R3, R4, R5, R6, R7, reduceCtorEq, R9, h0, h3, w1, w2, w3, w4, u1]) | (refine hJ _ ?_; clear hJ R) | refine Q5 ?_ | (refine hK _ ?_; clear hK K) | ((first | refine hN _ ?_ | refine hX _ _ ?_ | refine hR _ ?_); clear hN hX hR Z) | refine Q6 rfl ?_ | refine Q7 (by decide) ?_ | (refine Q8 ?_ ?_; focus (simp only [kS, R1, R2, R3, R4, R5, R6, R7, reduceCtorEq, R9, h0, h3, w1, w2, w3, w4, u1]; done)) | (refine Q9 ?_ ?_; focus (simp only [kS, R1, R2, R3, R4, R5, R6, R7, reduceCtorEq, R9, h0, h3, w1, w2, w3, w4, u1]; done)) | refine Qa ?_ | refine Qb ?_ | refine Qc ?_ | refine And.intro (by first | assumption | omega) ?_)
      exact ⟨k, by omega, i + 1, by omega, by omega, by simp only [kS, R1, R2, R3, R4, R5, R6, R7, reduceCtorEq, R9, h0], by simp only [kS, R1, R2, R3, R4, R5, R6, R7, reduceCtorEq, R9], hc⟩
  · repeat (first | ((first | refine Q1 ?_ | refine Q2 ?_); intro Z hN hX hR) | refine Q3 (by kernel_rfl) fun K hK => ?_ | ((first | refine Q4 fun R hJ => ?_ | with_reducible change ExpAll _ _ _); simp only [kS, R1, R2, R3, R4, R5, R6, R7, reduceCtorEq, R9, h0, h3, hlt, decide_false]) | (refine hJ _ ?_; clear hJ R) | refine Q5 ?_ | (refine hK _ ?_; clear hK K) | ((first | refine hN _ ?_ | refine hX _ _ ?_ | refine hR _ ?_); clear hN hX hR Z) | refine Q6 rfl ?_ | refine Q7 (by decide) ?_ | (refine Q8 ?_ ?_; focus (simp only [kS, R1, R2, R3, R4, R5, R6, R7, reduceCtorEq, R9, h0, h3, hlt, decide_false]; done)) | (refine Q9 ?_ ?_; focus (simp only [kS, R1, R2, R3, R4, R5, R6, R7, reduceCtorEq, R9, h0, h3, hlt, decide_false]; done)) | refine Qa ?_ | refine Qb ?_ | refine Qc ?_ | refine And.intro (by first | assumption | omega) ?_)
    cases k with
    | zero => simp only [utfF] at hc; rw [← hc]
    | succ k => simp only [utfF, if_neg hlt] at hc; rw [← hc]

end Go.Proofs.YtilhjiopbbbgmaaDoor
