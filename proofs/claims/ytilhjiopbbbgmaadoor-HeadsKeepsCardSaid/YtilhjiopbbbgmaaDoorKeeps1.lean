/- Proved: HeadsKeeps of chapter 14, as a tied card: for every description and state the law's body answers true: what is handed in stays, what is answered is new memory. This is part 1 of 6 of that proof (first the abstract machine and its soundness, then the walks, the plain law, the card): no condition beyond the statement's own. -/
import Derived.Below
import Derived.Orders
import Derived.Deep.LoopGhost
import Derived.Laws.CopyRow
import Derived.Laws.AppendOwn
import Derived.Laws.Entries
import Derived.Test.YtilhjiopbbbgmaaDoorProg
import Derived.KernelRfl
import Derived.Laws.StructEq

/- The abstract machine, part A: values without memory, and how they lie in memory. -/
namespace Go.Proofs.YtilhjiopbbbgmaaDoor.Am
open Go Go.RowKit
set_option linter.unusedVariables false
set_option linter.unusedSimpArgs false

inductive C where
  | v (x : Value)
  | sl (n : Nat) (cs : List C)
  /-- what lies in memory of the call's own -/
  | fr (c : C)
  deriving Inhabited

inductive SV where
  | c (x : C)
  | nil
  | tok (d t n : Nat) (cs : List C)
  | agg (cs : List C)
  | tup (vs : List SV)
  | ref (d t off : Nat)
  | el (cs : List C)
  | und
  | bad
  deriving Inhabited

/-- The cells that are settled: what lies there stays. -/
abbrev Good := Nat → Nat → Prop

/-- Which cells of a block strings share. -/
def frz (w : World) (b : Nat) : Option (Nat × Nat) :=
  match w.heap[b]? with
  | some (.cells _ _ f) => some f
  | _ => none
/-- The mark of a block that a call made: it is settled whole. -/
def Whole (w : World) (G : Good) (b : Nat) : Prop := (∀ o, G b o) ∧ frz w b = some (0, 0)

mutual
def RepC (w : World) (G : Good) : C → Value → Prop
  | .v x, y => y = x ∧ x.oneCell' = true
  | .sl n cs, y => ∃ a cap, y = .slice a n cap ∧ n ≤ cap ∧ (cs = [] ∨ ∃ b o, a = some ⟨b, o, none⟩ ∧ RepM w G cs b o)
  | .fr c, y => RepC w G c y ∧ ∀ a n cap, y = .slice (some a) n cap → n = 0 ∨ Whole w G a.block
def RepM (w : World) (G : Good) : List C → Nat → Nat → Prop
  | [], _, _ => True
  | c :: cs, b, o => G b o ∧ (∃ y, w.cell? ⟨b, o, none⟩ = some y ∧ RepC w G c y) ∧ RepM w G cs b (o + 1)
end

theorem RepC.one {w : World} {G : Good} {c : C} {y : Value} (h : RepC w G c y) : y.oneCell' = true := by
  cases c with
  | v x => simp only [RepC] at h; rw [h.1]; exact h.2
  | sl n cs => simp only [RepC] at h; obtain ⟨a, cap, rfl, _⟩ := h; rfl
  | fr c => simp only [RepC] at h; exact RepC.one h.1

/-- w' is as w at the settled cells, and no fewer are settled. -/
structure Settled (w w' : World) (G G' : Good) : Prop where
  more : ∀ b o, G b o → G' b o
  cell : ∀ b o, G b o → w'.cell? ⟨b, o, none⟩ = w.cell? ⟨b, o, none⟩
  frz : ∀ b, (∀ o, G b o) → frz w' b = frz w b

theorem frz_same {W W' : World} {b : Nat} (h : W'.heap[b]? = W.heap[b]?) : frz W' b = frz W b := by unfold frz; rw [h]

mutual
theorem RepC.mono {w w' : World} {G G' : Good} (S : Settled w w' G G') : ∀ (c : C) (y : Value), RepC w G c y → RepC w' G' c y
  | .v x, y, h => by simpa only [RepC] using h
  | .sl n cs, y, h => by
    simp only [RepC] at h ⊢
    obtain ⟨a, cap, e, hn, h⟩ := h
    refine ⟨a, cap, e, hn, ?_⟩
    rcases h with h | ⟨b, o, ea, h⟩
    · exact .inl h
    · exact .inr ⟨b, o, ea, RepM.mono S cs b o h⟩
  | .fr c, y, h => by
    simp only [RepC] at h ⊢
    exact ⟨RepC.mono S c y h.1, fun a n cap e => (h.2 a n cap e).imp id fun h => ⟨fun o => S.more _ _ (h.1 o), (S.frz _ h.1).trans h.2⟩⟩
theorem RepM.mono {w w' : World} {G G' : Good} (S : Settled w w' G G') : ∀ (cs : List C) (b o : Nat), RepM w G cs b o → RepM w' G' cs b o
  | [], _, _, _ => by simp only [RepM]
  | c :: cs, b, o, h => by
    simp only [RepM] at h ⊢
    obtain ⟨hg, ⟨y, hy, hc⟩, hr⟩ := h
    exact ⟨S.more _ _ hg, ⟨y, (S.cell _ _ hg).trans hy, RepC.mono S c y hc⟩, RepM.mono S cs b (o + 1) hr⟩
end

def RepL (w : World) (G : Good) : List C → List Value → Prop
  | [], [] => True
  | c :: cs, y :: ys => RepC w G c y ∧ RepL w G cs ys
  | _, _ => False

theorem RepL.mono {w w' : World} {G G' : Good} (S : Settled w w' G G') : ∀ (cs : List C) (ys : List Value), RepL w G cs ys → RepL w' G' cs ys
  | [], [], _ => trivial
  | [], _ :: _, h => h.elim
  | _ :: _, [], h => h.elim
  | c :: cs, y :: ys, h => ⟨RepC.mono S c y h.1, RepL.mono S cs ys h.2⟩

theorem RepL.length {w : World} {G : Good} : ∀ {cs : List C} {ys : List Value}, RepL w G cs ys → cs.length = ys.length
  | [], [], _ => rfl
  | [], _ :: _, h => h.elim
  | _ :: _, [], h => h.elim
  | c :: cs, y :: ys, h => by simp [RepL.length h.2]

theorem RepL.one {w : World} {G : Good} : ∀ {cs : List C} {ys : List Value}, RepL w G cs ys → ∀ y ∈ ys, y.oneCell' = true
  | [], [], _ => by simp
  | [], _ :: _, h => h.elim
  | _ :: _, [], h => h.elim
  | c :: cs, y :: ys, h => by
    intro z hz
    rcases List.mem_cons.1 hz with rfl | hz
    · exact h.1.one
    · exact RepL.one h.2 z hz

theorem RepL.append {w : World} {G : Good} : ∀ {cs ds : List C} {ys zs : List Value}, RepL w G cs ys → RepL w G ds zs → RepL w G (cs ++ ds) (ys ++ zs)
  | [], _, [], _, _, h => h
  | [], _, _ :: _, _, h, _ => h.elim
  | _ :: _, _, [], _, h, _ => h.elim
  | c :: cs, _, y :: ys, _, h, k => ⟨h.1, RepL.append h.2 k⟩

theorem RepL.take {w : World} {G : Good} : ∀ {cs : List C} {ys : List Value} (k : Nat), RepL w G cs ys → RepL w G (cs.take k) (ys.take k)
  | [], [], k, _ => by simp [RepL]
  | [], _ :: _, _, h => h.elim
  | _ :: _, [], _, h => h.elim
  | c :: cs, y :: ys, 0, h => by simp [RepL]
  | c :: cs, y :: ys, k + 1, h => by simpa [RepL] using ⟨h.1, RepL.take k h.2⟩

theorem RepL.drop {w : World} {G : Good} : ∀ {cs : List C} {ys : List Value} (k : Nat), RepL w G cs ys → RepL w G (cs.drop k) (ys.drop k)
  | [], [], k, _ => by simp [RepL]
  | [], _ :: _, _, h => h.elim
  | _ :: _, [], _, h => h.elim
  | c :: cs, y :: ys, 0, h => by simpa [RepL] using h
  | c :: cs, y :: ys, k + 1, h => by simpa using RepL.drop k h.2

theorem RepL.get {w : World} {G : Good} : ∀ {cs : List C} {ys : List Value} {k : Nat} {c : C}, RepL w G cs ys → cs[k]? = some c → ∃ y, ys[k]? = some y ∧ RepC w G c y
  | [], _, _, _, _, h => by simp at h
  | _ :: _, [], _, _, h, _ => h.elim
  | c :: cs, y :: ys, 0, d, h, e => by simp at e; subst e; exact ⟨y, rfl, h.1⟩
  | c :: cs, y :: ys, k + 1, d, h, e => by simpa using RepL.get h.2 (by simpa using e)

theorem RepM.append {w : World} {G : Good} : ∀ {cs ds : List C} {b o : Nat}, RepM w G (cs ++ ds) b o ↔ RepM w G cs b o ∧ RepM w G ds b (o + cs.length)
  | [], ds, b, o => by simp [RepM]
  | c :: cs, ds, b, o => by
    simp only [List.cons_append, RepM, RepM.append (cs := cs), List.length_cons, and_assoc]
    rw [show o + 1 + cs.length = o + (cs.length + 1) by omega]

theorem RepM.take {w : World} {G : Good} {cs : List C} {b o : Nat} (k : Nat) (h : RepM w G cs b o) : RepM w G (cs.take k) b o := by
  rw [← List.take_append_drop k cs] at h
  exact (RepM.append.1 h).1

theorem RepM.drop {w : World} {G : Good} {cs : List C} {b o : Nat} (k : Nat) (h : RepM w G cs b o) : RepM w G (cs.drop k) b (o + k) := by
  by_cases hk : k ≤ cs.length
  · rw [← List.take_append_drop k cs] at h
    have := (RepM.append.1 h).2
    rwa [List.length_take, Nat.min_eq_left hk] at this
  · rw [List.drop_eq_nil_of_le (by omega)]; simp [RepM]

theorem RepM.get {w : World} {G : Good} {cs : List C} {b o k : Nat} {c : C} (h : RepM w G cs b o) (e : cs[k]? = some c) :
    G b (o + k) ∧ ∃ y, w.cell? ⟨b, o + k, none⟩ = some y ∧ RepC w G c y := by
  have h' := RepM.drop k h
  have hk : k < cs.length := (List.getElem?_eq_some_iff.1 e).1
  rw [List.drop_eq_getElem_cons hk] at h'
  simp only [RepM] at h'
  have : cs[k] = c := (List.getElem?_eq_some_iff.1 e).2
  rw [this] at h'
  exact ⟨h'.1, h'.2.1⟩

/-- The values that lie there. -/
theorem RepM.vals {w : World} {G : Good} : ∀ {cs : List C} {b o : Nat}, RepM w G cs b o →
    ∃ ys : List Value, RepL w G cs ys ∧ ∀ j v, ys[j]? = some v → w.cell? ⟨b, o + j, none⟩ = some v
  | [], b, o, _ => ⟨[], trivial, by simp⟩
  | c :: cs, b, o, h => by
    simp only [RepM] at h
    obtain ⟨_, ⟨y, hy, hc⟩, hr⟩ := h
    obtain ⟨ys, hl, hv⟩ := RepM.vals hr
    refine ⟨y :: ys, ⟨hc, hl⟩, ?_⟩
    intro j v hj
    cases j with
    | zero => simp at hj; subst hj; exact hy
    | succ j => have := hv j v (by simpa using hj); rwa [show o + 1 + j = o + (j + 1) by omega] at this

/-- And back: values that lie there, at settled cells. -/
theorem RepM.of_vals {w : World} {G : Good} : ∀ {cs : List C} {ys : List Value} {b o : Nat}, RepL w G cs ys →
    (∀ j v, ys[j]? = some v → w.cell? ⟨b, o + j, none⟩ = some v) → (∀ j, j < cs.length → G b (o + j)) → RepM w G cs b o
  | [], [], b, o, _, _, _ => by simp [RepM]
  | [], _ :: _, _, _, h, _, _ => h.elim
  | _ :: _, [], _, _, h, _, _ => h.elim
  | c :: cs, y :: ys, b, o, h, hv, hg => by
    simp only [RepM]
    refine ⟨by simpa using hg 0 (by simp), ⟨y, by simpa using hv 0 y rfl, h.1⟩, RepM.of_vals h.2 (fun j v hj => ?_) (fun j hj => ?_)⟩
    · have := hv (j + 1) v (by simpa using hj); rwa [show o + (j + 1) = o + 1 + j by omega] at this
    · have := hg (j + 1) (by simp; omega); rwa [show o + (j + 1) = o + 1 + j by omega] at this

theorem add_plain (b o n : Nat) : (⟨b, o, none⟩ : Addr).add n = ⟨b, o + n, none⟩ := by
  unfold Addr.add; split <;> simp_all

theorem RepM.run_load {P : Program} {w : World} {G : Good} {cs : List C} {b o : Nat} (h : RepM w G cs b o) :
    ∃ ys : List Value, RepL w G cs ys ∧ (loadCells ⟨b, o, none⟩ cs.length).run P w = .ok ys.toArray w := by
  obtain ⟨ys, hl, hv⟩ := h.vals
  refine ⟨ys, hl, ?_⟩
  rw [hl.length]
  exact run_loadCells_list w _ ys (fun j v hj => by rw [add_plain]; exact hv j v hj)

end Go.Proofs.YtilhjiopbbbgmaaDoor.Am

/- The abstract machine, part C: the builtin append at a slice of the call's own, to the cell. -/
namespace Go.Proofs.YtilhjiopbbbgmaaDoor.Am
open Go Go.RowKit
set_option linter.unusedVariables false
set_option linter.unusedSimpArgs false

section
variable {P : Program} {w : World}

/-- How the world turned: in place; not at all; one new block. -/
inductive AppKind (w : World) (e n m : Nat) (v v' : Value) (w' : World) : Prop where
  | inplace (g cap : Nat) (cur cs : Array Value) (hv : v = .slice (some ⟨g, 0, none⟩) n cap) (hv' : v' = .slice (some ⟨g, 0, none⟩) (n + m) cap)
      (hg : w.heap[g]? = some (.cells cur e (0, 0))) (hw : w' = w.setRow g cs)
  | same (hm : m = 0) (hv : v' = v) (hw : w' = w)
  | grown (cells : Array Value) (cap : Nat) (hv : v' = .slice (some ⟨w.heap.size, 0, none⟩) (n + m) cap) (hw : w' = w.drew.alloc (.cells cells e))

theorem run_firstCells_zero (size : Nat) (x : Option Addr) (m c : Nat) (w : World) : (Builtin.firstCells size 0 (.slice x m c)).run P w = .ok #[] w := by
  cases x <;> simp [Builtin.firstCells, loadCells, loadCellsFrom]

theorem run_append2 {t u ty e e2 : TypeId} {i : TypeInfo} {z : Value} (ht : P.underlying t = some (.slice e)) (hu : P.underlying u = some (.slice e2))
    (hi : P.info? e = some i) (hz : i.zero = some z) (hzs : z.cells.size = i.size) {base : Nat} {v : Value} {n : Nat} {xs : List Value}
    (hown : w.ownsRow base e i.size v n xs) (ax : Option Addr) (m c : Nat) (news : List Value) (hl : news.length = m * i.size)
    (hnews : m = 0 ∨ ∃ a, ax = some a ∧ ∀ j u, news[j]? = some u → w.cell? (a.add j) = some u) (h1 : ∀ u ∈ news, u.oneCell' = true)
    (h63 : n + m ≤ maxLen) (hbytes : (n + m) * i.bytes ≤ 140737488355328) (hbase : base ≤ w.heap.size) :
    ∃ v' w', (Builtin.append_ #[t, u] ty #[v, .slice ax m c]).run P w = .ok v' w' ∧ w'.ownsRow base e i.size v' (n + m) (xs ++ news) ∧
      AppKind w e n m v v' w' := by
  have hsmall : n + m ≤ 9223372036854775807 := by simp only [maxLen] at h63; omega
  by_cases hm : m = 0
  · subst hm
    have hn : news = [] := List.eq_nil_of_length_eq_zero (by simpa using hl)
    subst hn
    refine ⟨v, w, ?_, by simpa using hown, .same rfl rfl rfl⟩
    rcases hown.2 with ⟨rfl, rfl⟩ | ⟨g, cap, cur, rfl, hbg, hg, hnc, hcm, hcs, htake⟩
    · simp [Builtin.append_, run_underlying ht, run_underlying hu, sizeOf, typeInfo, hi, Builtin.lenOf, run_firstCells_zero]
    · have hst := run_storeCells_at P g (n * i.size) e [] 0 cur w hg (by simp [hcs]; exact Nat.mul_le_mul_right _ hnc) (by simp)
      simp [Builtin.append_, run_underlying ht, run_underlying hu, sizeOf, typeInfo, hi, Builtin.lenOf, run_firstCells_zero, hnc, storeCells]
  · obtain ⟨a, rfl, hnw⟩ := hnews.resolve_left hm
    clear hnews
    have hnews := hnw
    clear hnw
    have hlen : (xs ++ news).length = (n + m) * i.size := by rw [List.length_append, hown.1, hl, Nat.add_mul]
    have owned : ∀ (old : Nat), old < n + m →
        (w.drew.alloc (.cells (xs.toArray ++ news.toArray ++ Builtin.zeroCells z.cells (grownCap w (n + m) old e - (n + m))) e)).ownsRow base e i.size
          (.slice (some ⟨w.heap.size, 0, none⟩) (n + m) (grownCap w (n + m) old e)) (n + m) (xs ++ news) := by
      intro old ho
      have hge := grownCap_ge w (n + m) old e
      have hcm : grownCap w (n + m) old e ≤ maxLen := grownCap_le_maxLen w (n + m) old e h63
      refine ⟨hlen, .inr ⟨w.heap.size, _, _, rfl, hbase, heap_alloc_new w.drew _, hge, hcm, ?_, ?_⟩⟩
      · simp only [Array.size_append, List.size_toArray, size_zeroCells, hzs, hown.1, hl, ← Nat.add_mul]
        congr 1
        omega
      · simp only [Array.toList_append, List.append_assoc]
        rw [← List.append_assoc, ← hlen]
        exact List.take_left
    rcases hown.2 with ⟨rfl, rfl⟩ | ⟨g, cap, cur, rfl, hbg, hg, hnc, hcm, hcs, htake⟩
    · have hx : xs = [] := List.eq_nil_of_length_eq_zero (by simpa using hown.1)
      subst hx
      have hn : m ≠ 0 := hm
      have h63' : ¬ (9223372036854775807 < (m : Int)) := by omega
      have h48' : ¬ (281474976710656 < Builtin.nextslicecap m 0 * i.bytes) := by rw [nextslicecap_zero (by omega)]; simp only [Nat.zero_add] at hbytes; omega
      have hf := run_firstCells_some (P := P) w.drew i.size m a m c news hl (by simpa using hnews)
      have hgr := owned 0 (by omega)
      simp only [Nat.zero_add, List.nil_append, Array.empty_append] at hgr ⊢
      refine ⟨_, _, ?_, hgr, .grown _ (grownCap w m 0 e) (by simp) rfl⟩
      simp [Builtin.append_, run_underlying ht, run_underlying hu, sizeOf, typeInfo, zeroValue, hi, hz, Builtin.lenOf, hn, h63', h48', Question.forced, run_firstCells_none, hf, newRow, grownCap]
    · by_cases hroom : n + m ≤ cap
      · have hfit : n * i.size + news.length ≤ cur.size := by rw [hl, hcs, ← Nat.add_mul]; exact Nat.mul_le_mul_right _ hroom
        have hf := run_firstCells_some (P := P) w i.size m a m c news hl hnews
        have hst := run_storeCells_at P g (n * i.size) e news 0 cur w hg (by simpa using hfit) h1
        simp only [Nat.add_zero] at hst
        refine ⟨.slice (some ⟨g, 0, none⟩) (n + m) cap, w.setRow g (cur.toList.take (n * i.size) ++ news ++ cur.toList.drop (n * i.size + news.length)).toArray, ?_, ⟨hlen, .inr ⟨g, cap, _, rfl, hbg, setRow_heap w g cur _ e _ hg, hroom, hcm, ?_, ?_⟩⟩, .inplace g cap cur _ rfl rfl hg rfl⟩
        · simp [Builtin.append_, run_underlying ht, run_underlying hu, sizeOf, typeInfo, hi, Builtin.lenOf, hroom, hf, Addr.add_lit, hst]
        · simp only [List.size_toArray, List.length_append, List.length_take, List.length_drop, Array.length_toList]
          omega
        · rw [htake, ← hlen]
          exact List.take_left
      · have holds : ∀ j u, xs[j]? = some u → w.cell? ((⟨g, 0, none⟩ : Addr).add j) = some u := hown.cells (g := g) rfl
        have hn : ¬ (n + m ≤ cap) := hroom
        have h63' : ¬ (9223372036854775807 < ((n : Int) + (m : Int))) := by omega
        have h48' : ¬ (281474976710656 < Builtin.nextslicecap (n + m) cap * i.bytes) := by
          have := growslice_fits (need := n + m) (old := cap) (bytes := i.bytes) (by omega) hbytes; omega
        have hf := run_firstCells_some (P := P) w.drew i.size m a m c news hl (by simpa using hnews)
        have hfo := run_firstCells_some (P := P) w.drew i.size n ⟨g, 0, none⟩ n cap xs hown.1 (by simpa using holds)
        refine ⟨_, _, ?_, owned cap (by omega), .grown _ _ rfl rfl⟩
        simp [Builtin.append_, run_underlying ht, run_underlying hu, sizeOf, typeInfo, zeroValue, hi, hz, Builtin.lenOf, hn, h63', h48', Question.forced, hf, hfo, newRow, grownCap]
        congr 2
        apply Array.ext'
        simp [List.append_assoc]

end
end Go.Proofs.YtilhjiopbbbgmaaDoor.Am

/- The abstract machine, part B: frames, the tie to the model's frames and worlds, and what each kind of effect does to it. -/
namespace Go.Proofs.YtilhjiopbbbgmaaDoor.Am
open Go Go.RowKit
set_option linter.unusedVariables false
set_option linter.unusedSimpArgs false

inductive Ob where
  | none
  | box (cs : List C)
  | live (el sz : Nat)
  | dead
  deriving Inhabited

structure AF where
  t : Nat → SV
  ob : Nat → Nat → Ob
  k : Nat

def upd (f : Nat → SV) (i : Nat) (x : SV) : Nat → SV := fun j => if j = i then x else f j
theorem upd_same (f : Nat → SV) (i : Nat) (x : SV) : upd f i x i = x := by simp [upd]
theorem upd_ne (f : Nat → SV) (i j : Nat) (x : SV) (h : j ≠ i) : upd f i x j = f j := by simp [upd, h]
def updO (f : Nat → Nat → Ob) (d t : Nat) (x : Ob) : Nat → Nat → Ob := fun i j => if i = d ∧ j = t then x else f i j
theorem updO_same (f : Nat → Nat → Ob) (d t : Nat) (x : Ob) : updO f d t x d t = x := by simp [updO]
theorem updO_ne (f : Nat → Nat → Ob) (d t i j : Nat) (x : Ob) (h : ¬ (i = d ∧ j = t)) : updO f d t x i j = f i j := by simp only [updO, if_neg h]

def AF.put (s : AF) (dst : Option Nat) (x : SV) : AF :=
  match dst with
  | some d => { s with t := upd s.t d x }
  | none => s

/-- The proof's own book: settled cells, where each box lies, what each token's slice is, and whose a block is. -/
structure Gh where
  G : Good
  β : Nat → Nat → Option Nat
  τ : Nat → Nat → Option Value
  ω : Nat → Option (Nat × Nat)

def RepT (w : World) (G : Good) : SV → Value → Prop
  | .c x, y => RepC w G x y
  | .nil, y => y = .slice none 0 0
  | .agg cs, y => ∃ ys : Array Value, y = .agg ys ∧ RepL w G cs ys.toList
  | _, _ => False

def RepTL (w : World) (G : Good) : List SV → List Value → Prop
  | [], [] => True
  | c :: cs, y :: ys => RepT w G c y ∧ RepTL w G cs ys
  | _, _ => False

def RepS (w : World) (g : Gh) : SV → Value → Prop
  | .c x, y => RepC w g.G x y
  | .nil, y => y = .slice none 0 0
  | .tok d t n cs, y => RepC w g.G (.sl n cs) y ∧ g.τ d t = some y
  | .agg cs, y => ∃ ys : Array Value, y = .agg ys ∧ RepL w g.G cs ys.toList
  | .tup vs, y => ∃ ys : Array Value, y = .tuple ys ∧ RepTL w g.G vs ys.toList
  | .ref d t off, y => ∃ b, g.β d t = some b ∧ y = .pointer (some ⟨b, off, none⟩)
  | .el cs, y => ∃ b o, y = .pointer (some ⟨b, o, none⟩) ∧ RepM w g.G cs b o
  | .und, y => y = undef
  | .bad, _ => True

theorem RepT.mono {w w' : World} {G G' : Good} (S : Settled w w' G G') (x : SV) (y : Value) (h : RepT w G x y) : RepT w' G' x y := by
  cases x <;> simp only [RepT] at h ⊢
  · exact RepC.mono S _ _ h
  · exact h
  · obtain ⟨ys, e, h⟩ := h; exact ⟨ys, e, RepL.mono S _ _ h⟩

theorem RepTL.mono {w w' : World} {G G' : Good} (S : Settled w w' G G') : ∀ (xs : List SV) (ys : List Value), RepTL w G xs ys → RepTL w' G' xs ys
  | [], [], _ => trivial
  | [], _ :: _, h => h.elim
  | _ :: _, [], h => h.elim
  | c :: cs, y :: ys, h => ⟨RepT.mono S c y h.1, RepTL.mono S cs ys h.2⟩

structure Gh.le (g g' : Gh) : Prop where
  β : ∀ d t b, g.β d t = some b → g'.β d t = some b
  τ : ∀ d t v, g.τ d t = some v → g'.τ d t = some v

theorem RepS.mono {w w' : World} {g g' : Gh} (S : Settled w w' g.G g'.G) (L : g.le g') (x : SV) (y : Value) (h : RepS w g x y) : RepS w' g' x y := by
  cases x <;> simp only [RepS] at h ⊢
  · exact RepC.mono S _ _ h
  · exact h
  · exact ⟨RepC.mono S _ _ h.1, L.τ _ _ _ h.2⟩
  · obtain ⟨ys, e, h⟩ := h; exact ⟨ys, e, RepL.mono S _ _ h⟩
  · obtain ⟨ys, e, h⟩ := h; exact ⟨ys, e, RepTL.mono S _ _ h⟩
  · obtain ⟨b, hb, e⟩ := h; exact ⟨b, L.β _ _ _ hb, e⟩
  · obtain ⟨b, o, e, h⟩ := h; exact ⟨b, o, e, RepM.mono S _ _ _ h⟩
  · exact h

/-- The room of a token's slice: a row of the call's own that nobody else has; what lies behind the slice's end is not settled. -/
def Room (w : World) (g : Gh) (B d t el sz : Nat) : Prop :=
  ∃ v n xs, g.τ d t = some v ∧ w.ownsRow B el sz v n xs ∧ ∀ b, v.ownBlock = some b → g.ω b = some (d, t) ∧ ∀ j, n * sz ≤ j → ¬ g.G b j

/-- The tie. w0: the world at the call's begin; G0: what was settled then; N: how many slots; D: ids (D, k) that are still free. -/
structure Sim (dr : Prop) (w0 : World) (G0 : Good) (N : Nat) (D : Nat → Prop) (g : Gh) (a : Act) (w : World) (s : AF) : Prop where
  below : Below w0.heap.size w0 w
  drawn : dr → w0.drawn ≤ w.drawn
  size : a.tmps.size = N
  defers : a.defers = []
  g0 : ∀ b o, G0 b o → g.G b o
  gnew : ∀ b o, g.G b o → G0 b o ∨ w0.heap.size ≤ b
  glt : ∀ b o, g.G b o → b < w.heap.size
  slots : ∀ i, RepS w g (s.t i) (a.tmps.getD i undef)
  boxes : ∀ d t cs, s.ob d t = .box cs → ∃ b ys el, g.β d t = some b ∧ w.heap[b]? = some (.cells ys el (0, 0)) ∧ RepL w g.G cs ys.toList
  beta : ∀ d t b, g.β d t = some b → (∃ cs, s.ob d t = .box cs) ∧ w0.heap.size ≤ b ∧ b < w.heap.size ∧ (∀ o, ¬ g.G b o) ∧ g.ω b = some (d, t)
  toks : ∀ d t el sz, s.ob d t = .live el sz → Room w g w0.heap.size d t el sz
  tau : ∀ d t v, g.τ d t = some v → (∃ el sz, s.ob d t = .live el sz) ∨ s.ob d t = .dead
  owner : ∀ b i, g.ω b = some i → b < w.heap.size
  fresh : ∀ d t, s.k < t → s.ob d t = .none
  free : ∀ d, D d → s.ob d s.k = .none

section
variable {dr : Prop} {w0 : World} {G0 : Good} {N : Nat} {D : Nat → Prop} {g : Gh} {a : Act} {w : World} {s : AF}

theorem getD_put (a : Act) (d : Nat) (v : Value) (i : Nat) (hd : d < a.tmps.size) : (a.put (some d) v).tmps.getD i undef = if i = d then v else a.tmps.getD i undef := by
  simp only [Act.put]
  by_cases h : i = d
  · subst h; simp [hd]
  · simp [h, Array.getElem?_setIfInBounds_ne (Ne.symm h)]

theorem Sim.weaken {D' : Nat → Prop} (S : Sim dr w0 G0 N D g a w s) (h : ∀ d, D' d → D d) : Sim dr w0 G0 N D' g a w s :=
  { S with free := fun d hd => S.free d (h d hd) }

/-- A new round of names. -/
theorem Sim.tick (S : Sim dr w0 G0 N D g a w s) : Sim dr w0 G0 N (fun _ => True) g a w { s with k := s.k + 1 } :=
  { S with
    fresh := fun d t h => S.fresh d t (Nat.lt_of_succ_lt h)
    free := fun d _ => S.fresh d _ (Nat.lt_succ_self _) }

/-- A slot is written. -/
theorem Sim.put {v : Value} {x : SV} (S : Sim dr w0 G0 N D g a w s) (dst : Option Nat) (hd : ∀ d, dst = some d → d < N) (hx : ∀ d, dst = some d → RepS w g x v) :
    Sim dr w0 G0 N D g (a.put dst v) w (s.put dst x) := by
  cases dst with
  | none => exact S
  | some d =>
    have hdN := hd d rfl
    refine { S with size := ?_, defers := S.defers, slots := ?_ }
    · simp [Act.put, S.size]
    · intro i
      rw [getD_put a d v i (by rw [S.size]; exact hdN)]
      simp only [AF.put, upd]
      split
      · exact hx d rfl
      · exact S.slots i

/-- Nothing but draws. -/
theorem Sim.world {w' : World} (S : Sim dr w0 G0 N D g a w s) (hh : w'.heap = w.heap) (ho : w'.os = w.os) (ht : w'.tape = w.tape) (hp : w'.output = w.output) (hdr : dr → w.drawn ≤ w'.drawn) :
    Sim dr w0 G0 N D g a w' s := by
  have hc : ∀ p, w'.cell? p = w.cell? p := fun p => by simp [World.cell?, hh]
  have st : Settled w w' g.G g.G := ⟨fun _ _ h => h, fun _ _ _ => hc _, fun b _ => frz_same (by rw [hh])⟩
  have le : g.le g := ⟨fun _ _ _ h => h, fun _ _ _ h => h⟩
  exact {
    below := S.below.trans ⟨ho, ht, hp, by rw [hh]; exact Nat.le_refl _, fun _ _ => by rw [hh]⟩
    drawn := fun h => Nat.le_trans (S.drawn h) (hdr h)
    size := S.size, defers := S.defers, g0 := S.g0, gnew := S.gnew
    glt := fun b o h => by rw [hh]; exact S.glt b o h
    slots := fun i => RepS.mono st le _ _ (S.slots i)
    boxes := fun d t cs h => by
      obtain ⟨b, ys, el, hb, hy, hl⟩ := S.boxes d t cs h
      exact ⟨b, ys, el, hb, by rw [hh]; exact hy, RepL.mono st _ _ hl⟩
    beta := fun d t b h => by rw [hh]; exact S.beta d t b h
    toks := fun d t el sz h => by
      obtain ⟨v, n, xs, h1, h2, h3⟩ := S.toks d t el sz h
      refine ⟨v, n, xs, h1, ?_, h3⟩
      simpa only [World.ownsRow, hh] using h2
    tau := S.tau
    owner := fun b i h => by rw [hh]; exact S.owner b i h
    fresh := S.fresh, free := S.free }

/-- No id is at (d, k) yet. -/
theorem Sim.idle (S : Sim dr w0 G0 N D g a w s) {d : Nat} (hd : D d) : g.β d s.k = none ∧ g.τ d s.k = none := by
  have h0 := S.free d hd
  constructor
  · cases h : g.β d s.k with
    | none => rfl
    | some b => obtain ⟨⟨cs, hcs⟩, _⟩ := S.beta _ _ _ h; rw [h0] at hcs; cases hcs
  · cases h : g.τ d s.k with
    | none => rfl
    | some v => rcases S.tau _ _ _ h with ⟨el, sz, h⟩ | h <;> rw [h0] at h <;> cases h

def upd2 {α : Type} (f : Nat → Nat → Option α) (d t : Nat) (x : α) : Nat → Nat → Option α := fun i j => if i = d ∧ j = t then some x else f i j
def upd1 {α : Type} (f : Nat → Option α) (d : Nat) (x : α) : Nat → Option α := fun i => if i = d then some x else f i

theorem upd2_le {α : Type} {f : Nat → Nat → Option α} {d t : Nat} {x : α} (h : f d t = none) (i j : Nat) (v : α) (hv : f i j = some v) : upd2 f d t x i j = some v := by
  simp only [upd2]
  split
  · rename_i e; rw [e.1, e.2, h] at hv; cases hv
  · exact hv

theorem ownsRow_block {B e sz n : Nat} {v : Value} {xs : List Value} {W W' : World} (h : W.ownsRow B e sz v n xs) (hb : ∀ b, v.ownBlock = some b → W'.heap[b]? = W.heap[b]?) :
    W'.ownsRow B e sz v n xs := by
  refine ⟨h.1, ?_⟩
  rcases h.2 with h | ⟨g, cap, cur, rfl, hg, hh, r⟩
  · exact .inl h
  · exact .inr ⟨g, cap, cur, rfl, hg, by rw [hb g rfl]; exact hh, r⟩

theorem cell_same {W W' : World} {b : Nat} (h : W'.heap[b]? = W.heap[b]?) (o : Nat) : W'.cell? ⟨b, o, none⟩ = W.cell? ⟨b, o, none⟩ := World.cell?_of_block (a := ⟨b, o, none⟩) h

theorem alloc_old (w : World) (o : Obj) {b : Nat} (h : b < w.heap.size) : (w.alloc o).heap[b]? = w.heap[b]? := heap_alloc_old w o b h
theorem alloc_new (w : World) (o : Obj) : (w.alloc o).heap[w.heap.size]? = some o := heap_alloc_new w o

def Gh.box (g : Gh) (d t b : Nat) : Gh := { g with β := upd2 g.β d t b, ω := upd1 g.ω b (d, t) }

/-- A box of one's own. -/
theorem Sim.newBox (S : Sim dr w0 G0 N D g a w s) {d : Nat} (hd : D d) {cs : List C} {ys : Array Value} (el : TypeId) (hl : RepL w g.G cs ys.toList) :
    ∃ g', Sim dr w0 G0 N (fun x => D x ∧ x ≠ d) g' a (w.alloc (.cells ys el)) { s with ob := updO s.ob d s.k (.box cs) } ∧
      g'.G = g.G ∧ g.le g' ∧ g'.β d s.k = some w.heap.size := by
  obtain ⟨hβ, hτ⟩ := S.idle hd
  have h0 := S.free d hd
  have le : g.le (g.box d s.k w.heap.size) := ⟨fun i j b hb => upd2_le hβ i j b hb, fun _ _ _ h => h⟩
  have st : Settled w (w.alloc (.cells ys el)) g.G g.G := ⟨fun _ _ h => h, fun b o h => cell_same (alloc_old w _ (S.glt b o h)) o, fun b h => frz_same (alloc_old w _ (S.glt b 0 (h 0)))⟩
  refine ⟨g.box d s.k w.heap.size, ?_, rfl, le, by simp [Gh.box, upd2]⟩
  exact {
    below := S.below.alloc S.below.size _
    drawn := S.drawn
    size := S.size, defers := S.defers, g0 := S.g0, gnew := S.gnew
    glt := fun b o h => Nat.lt_of_lt_of_le (S.glt b o h) (by simp)
    slots := fun i => RepS.mono (g' := g.box d s.k w.heap.size) st le _ _ (S.slots i)
    boxes := fun i j cs' h => by
      simp only [updO] at h
      split at h
      · rename_i e
        obtain ⟨rfl, rfl⟩ := e
        cases h
        exact ⟨w.heap.size, ys, el, by simp [Gh.box, upd2], alloc_new w _, RepL.mono st _ _ hl⟩
      · obtain ⟨b, zs, el', hb, hy, hr⟩ := S.boxes i j cs' h
        exact ⟨b, zs, el', le.β _ _ _ hb, by rw [alloc_old w _ (S.beta _ _ _ hb).2.2.1]; exact hy, RepL.mono st _ _ hr⟩
    beta := fun i j b h => by
      simp only [Gh.box, upd2] at h
      split at h
      · rename_i e
        obtain ⟨rfl, rfl⟩ := e
        cases h
        refine ⟨⟨cs, by simp [updO]⟩, S.below.size, by simp, fun o ho => Nat.lt_irrefl _ (S.glt _ o ho), by simp [Gh.box, upd1]⟩
      · rename_i e
        obtain ⟨⟨cs', h1⟩, h2, h3, h4, h5⟩ := S.beta i j b h
        refine ⟨⟨cs', by simp only [updO, if_neg e]; exact h1⟩, h2, Nat.lt_of_lt_of_le h3 (by simp), h4, ?_⟩
        simp only [Gh.box, upd1]; rw [if_neg (by omega)]; exact h5
    toks := fun i j el' sz h => by
      simp only [updO] at h
      split at h
      · cases h
      · obtain ⟨v, n, xs, h1, h2, h3⟩ := S.toks i j el' sz h
        have hlt := fun b hb => (h2.lt b hb).2
        refine ⟨v, n, xs, h1, ownsRow_block h2 (fun b hb => alloc_old w _ (hlt b hb)), fun b hb => ?_⟩
        obtain ⟨h4, h5⟩ := h3 b hb
        refine ⟨?_, h5⟩
        have := hlt b hb
        simp only [Gh.box, upd1]; rw [if_neg (by omega)]; exact h4
    tau := fun i j v h => by
      have hne : ¬ (i = d ∧ j = s.k) := fun e => by obtain ⟨rfl, rfl⟩ := e; have h' : g.τ i s.k = some v := h; rw [hτ] at h'; cases h'
      simp only [updO, if_neg hne]
      exact S.tau i j v h
    owner := fun b i h => by
      simp only [Gh.box, upd1] at h
      split at h
      · rename_i e; subst e; simp
      · exact Nat.lt_of_lt_of_le (S.owner b i h) (by simp)
    fresh := fun i j h => by
      simp only [updO]; rw [if_neg (by simp only at h; omega)]; exact S.fresh i j h
    free := fun i hi => by
      simp only [updO]; rw [if_neg (fun e => hi.2 e.1)]; exact S.free i hi.1 }

/-- A box is written. -/
theorem Sim.setBox (S : Sim dr w0 G0 N D g a w s) {d t b : Nat} (hb : g.β d t = some b) {cs : List C} {ys zs : Array Value} {el : TypeId} (hy : w.heap[b]? = some (.cells zs el (0, 0)))
    (hl : RepL w g.G cs ys.toList) :
    Sim dr w0 G0 N D g a (w.setRow b ys) { s with ob := updO s.ob d t (.box cs) } := by
  obtain ⟨⟨cs0, hcs0⟩, hB, hlt, hnG, hω⟩ := S.beta _ _ _ hb
  have hother : ∀ k, k ≠ b → (w.setRow b ys).heap[k]? = w.heap[k]? := fun k hk => setRow_other w b k ys hk
  have le : g.le g := ⟨fun _ _ _ h => h, fun _ _ _ h => h⟩
  have st : Settled w (w.setRow b ys) g.G g.G := ⟨fun _ _ h => h, fun k o h => cell_same (hother k (fun e => hnG o (e ▸ h))) o, fun k h => frz_same (hother k (fun e => hnG 0 (e ▸ h 0)))⟩
  exact {
    below := S.below.trans ⟨rfl, rfl, rfl, by simp, fun k hk => hother k (by omega)⟩
    drawn := S.drawn
    size := S.size, defers := S.defers, g0 := S.g0, gnew := S.gnew
    glt := fun b o h => by simpa using S.glt b o h
    slots := fun i => RepS.mono st le _ _ (S.slots i)
    boxes := fun i j cs' h => by
      simp only [updO] at h
      split at h
      · rename_i e
        obtain ⟨rfl, rfl⟩ := e
        cases h
        exact ⟨b, ys, el, hb, setRow_heap w b zs ys el _ hy, RepL.mono st _ _ hl⟩
      · rename_i e
        obtain ⟨b', zs', el', hb', hy', hr⟩ := S.boxes i j cs' h
        have hne : b' ≠ b := fun eb => by
          have h1 := (S.beta _ _ _ hb').2.2.2.2
          rw [eb, hω] at h1
          cases h1
          exact e ⟨rfl, rfl⟩
        exact ⟨b', zs', el', hb', by rw [hother _ hne]; exact hy', RepL.mono st _ _ hr⟩
    beta := fun i j b' h => by
      obtain ⟨⟨cs', h1⟩, h2, h3, h4, h5⟩ := S.beta i j b' h
      refine ⟨?_, h2, by simpa using h3, h4, h5⟩
      simp only [updO]
      split
      · exact ⟨cs, rfl⟩
      · exact ⟨cs', h1⟩
    toks := fun i j el' sz h => by
      simp only [updO] at h
      split at h
      · cases h
      · rename_i e
        obtain ⟨v, n, xs, h1, h2, h3⟩ := S.toks i j el' sz h
        refine ⟨v, n, xs, h1, ownsRow_block h2 (fun b' hb' => hother b' (fun eb => ?_)), h3⟩
        have h4 := (h3 b' hb').1
        rw [eb, hω] at h4
        cases h4
        exact e ⟨rfl, rfl⟩
    tau := fun i j v h => by
      have hne : ¬ (i = d ∧ j = t) := fun e => by
        obtain ⟨rfl, rfl⟩ := e
        rcases S.tau _ _ _ h with ⟨el', sz, h⟩ | h <;> rw [hcs0] at h <;> cases h
      simp only [updO, if_neg hne]
      exact S.tau i j v h
    owner := fun b i h => by simpa using S.owner b i h
    fresh := fun i j h => by
      have hne : ¬ (i = d ∧ j = t) := fun e => by
        obtain ⟨rfl, rfl⟩ := e
        have := S.fresh i j h
        rw [hcs0] at this; cases this
      simp only [updO, if_neg hne]; exact S.fresh i j h
    free := fun i hi => by
      have h1 := S.free i hi
      have hne : ¬ (i = d ∧ s.k = t) := fun e => by
        obtain ⟨rfl, e⟩ := e
        rw [e, hcs0] at h1; cases h1
      simp only [updO, if_neg hne]; exact h1 }

end
end Go.Proofs.YtilhjiopbbbgmaaDoor.Am

/- The abstract machine, part D: a new slice of the call's own, with the right to append to it. -/
namespace Go.Proofs.YtilhjiopbbbgmaaDoor.Am
open Go Go.RowKit
set_option linter.unusedVariables false
set_option linter.unusedSimpArgs false

def kill (ob : Nat → Nat → Ob) : Option (Nat × Nat) → Nat → Nat → Ob
  | none => ob
  | some (d, t) => updO ob d t .dead

def Gh.tok (g : Gh) (d t : Nat) (v : Value) (m : Nat) : Gh :=
  { G := fun b o => g.G b o ∨ (v.ownBlock = some b ∧ o < m), β := g.β, τ := upd2 g.τ d t v,
    ω := fun b => if v.ownBlock = some b then some (d, t) else g.ω b }

section
variable {dr : Prop} {w0 : World} {G0 : Good} {N : Nat} {D : Nat → Prop} {g : Gh} {a : Act} {w : World} {s : AF}

theorem RepC_own {w : World} {G : Good} {B el sz n : Nat} {v : Value} {xs : List Value} {cs : List C} (h : w.ownsRow B el sz v n xs) (hl : RepL w G cs xs)
    (hg : ∀ b, v.ownBlock = some b → ∀ o, o < n * sz → G b o) : RepC w G (.sl n cs) v := by
  simp only [RepC]
  rcases h.2 with ⟨rfl, rfl⟩ | ⟨b, cap, cur, rfl, hB, hh, hn, _, hsz, htake⟩
  · refine ⟨none, 0, rfl, Nat.le_refl _, .inl ?_⟩
    have := hl.length
    rw [h.1] at this
    exact List.eq_nil_of_length_eq_zero (by simpa using this)
  · refine ⟨_, cap, rfl, hn, .inr ⟨b, 0, rfl, ?_⟩⟩
    refine RepM.of_vals hl (fun j u hj => ?_) (fun j hj => ?_)
    · have := h.cells (g := b) rfl j u hj
      rwa [add_plain] at this
    · rw [Nat.zero_add]
      refine hg b rfl j ?_
      rw [hl.length, h.1] at hj
      exact hj

theorem Sim.newTok (S : Sim dr w0 G0 N D g a w s) {d : Nat} (hd : D d) (old : Option (Nat × Nat)) (hold : ∀ i j, old = some (i, j) → ∃ el sz, s.ob i j = .live el sz)
    {w' : World} {el : TypeId} {sz n' : Nat} {xs' : List Value} {v' : Value} {cs' : List C} (row : Option Nat)
    (hos : w'.os = w.os) (ht : w'.tape = w.tape) (ho : w'.output = w.output) (hdr : dr → w.drawn ≤ w'.drawn) (hsize : w.heap.size ≤ w'.heap.size)
    (hblk : ∀ b, b < w.heap.size → row ≠ some b → w'.heap[b]? = w.heap[b]?)
    (hrow : ∀ b, row = some b → ∃ i, old = some i ∧ g.ω b = some i ∧ (∀ o, g.G b o → w'.cell? ⟨b, o, none⟩ = w.cell? ⟨b, o, none⟩) ∧ (∀ o, n' * sz ≤ o → ¬ g.G b o))
    (hrowB : ∀ b, row = some b → w0.heap.size ≤ b) (hown : w'.ownsRow w0.heap.size el sz v' n' xs') (hb' : ∀ b, v'.ownBlock = some b → w.heap.size ≤ b ∨ row = some b) (hl : RepL w g.G cs' xs') :
    ∃ g', Sim dr w0 G0 N (fun x => D x ∧ x ≠ d) g' a w' { s with ob := updO (kill s.ob old) d s.k (.live el sz) } ∧ g.le g' ∧ RepS w' g' (.tok d s.k n' cs') v' := by
  obtain ⟨hβ, hτ⟩ := S.idle hd
  have h0 := S.free d hd
  have hod : ∀ i, old = some i → ¬ (i.1 = d ∧ i.2 = s.k) := fun i hi e => by
    obtain ⟨el', sz', h⟩ := hold i.1 i.2 hi
    rw [e.1, e.2, h0] at h; cases h
  -- what the old token's death leaves
  have kbox : ∀ i j cs, s.ob i j = .box cs → kill s.ob old i j = .box cs := fun i j cs h => by
    cases old with
    | none => exact h
    | some p =>
      obtain ⟨el', sz', hp⟩ := hold p.1 p.2 rfl
      simp only [kill]
      rw [updO_ne _ _ _ _ _ _ (fun e => by rw [e.1, e.2, hp] at h; cases h)]
      exact h
  have kbox' : ∀ i j cs, kill s.ob old i j = .box cs → s.ob i j = .box cs := fun i j cs h => by
    cases old with
    | none => exact h
    | some p =>
      simp only [kill, updO] at h
      split at h
      · cases h
      · exact h
  have klive : ∀ i j el' sz', kill s.ob old i j = .live el' sz' → s.ob i j = .live el' sz' ∧ old ≠ some (i, j) := fun i j el' sz' h => by
    cases old with
    | none => exact ⟨h, by simp⟩
    | some p =>
      simp only [kill, updO] at h
      split at h
      · cases h
      · rename_i e
        exact ⟨h, fun e' => e (by cases e'; exact ⟨rfl, rfl⟩)⟩
  have knone : ∀ i j, s.ob i j = .none → kill s.ob old i j = .none := fun i j h => by
    cases old with
    | none => exact h
    | some p =>
      obtain ⟨el', sz', hp⟩ := hold p.1 p.2 rfl
      simp only [kill]
      rw [updO_ne _ _ _ _ _ _ (fun e => by rw [e.1, e.2, hp] at h; cases h)]
      exact h
  have ktau : ∀ i j, ((∃ el sz, s.ob i j = .live el sz) ∨ s.ob i j = .dead) → (∃ el sz, kill s.ob old i j = .live el sz) ∨ kill s.ob old i j = .dead := fun i j h => by
    cases old with
    | none => exact h
    | some p =>
      simp only [kill, updO]
      split
      · exact .inr rfl
      · exact h
  -- no box's block, no other token's block is the row
  have rowbox : ∀ i j b, g.β i j = some b → row ≠ some b := fun i j b hb e => by
    obtain ⟨p, hp, hω, _⟩ := hrow b e
    obtain ⟨⟨cs, hcs⟩, _, _, _, h5⟩ := S.beta _ _ _ hb
    rw [hω] at h5; cases h5
    obtain ⟨el', sz', h⟩ := hold i j hp
    rw [hcs] at h; cases h
  have newbox : ∀ i j b, g.β i j = some b → v'.ownBlock ≠ some b := fun i j b hb e => by
    rcases hb' b e with h | h
    · exact Nat.lt_irrefl _ (Nat.lt_of_lt_of_le (S.beta _ _ _ hb).2.2.1 h)
    · exact rowbox i j b hb h
  have rowtok : ∀ i j b, g.ω b = some (i, j) → old ≠ some (i, j) → row ≠ some b := fun i j b hω hne e => by
    obtain ⟨p, hp, hω', _⟩ := hrow b e
    rw [hω] at hω'; cases hω'; exact hne hp
  have newtok : ∀ i j b, b < w.heap.size → g.ω b = some (i, j) → old ≠ some (i, j) → v'.ownBlock ≠ some b := fun i j b hlt hω hne e => by
    rcases hb' b e with h | h
    · omega
    · exact rowtok i j b hω hne h
  have le : g.le (g.tok d s.k v' (n' * sz)) := ⟨fun _ _ _ h => h, fun i j v hv => upd2_le hτ i j v hv⟩
  have st : Settled w w' g.G (g.tok d s.k v' (n' * sz)).G := ⟨fun _ _ h => .inl h, fun b o h => by
    by_cases e : row = some b
    · obtain ⟨p, _, _, h1, _⟩ := hrow b e; exact h1 o h
    · exact cell_same (hblk b (S.glt b o h) e) o, fun b h => by
    by_cases e : row = some b
    · obtain ⟨p, _, _, _, h1⟩ := hrow b e; exact absurd (h (n' * sz)) (h1 _ (Nat.le_refl _))
    · exact frz_same (hblk b (S.glt b 0 (h 0)) e)⟩
  have hlt' : ∀ b, v'.ownBlock = some b → w0.heap.size ≤ b ∧ b < w'.heap.size := fun b hb => hown.lt b hb
  refine ⟨g.tok d s.k v' (n' * sz), ?_, le, ?_⟩
  · exact {
      below := S.below.trans ⟨hos, ht, ho, hsize, fun k hk => hblk k (Nat.lt_of_lt_of_le hk S.below.size) (fun e => by
        have := (hrowB k e); omega)⟩
      drawn := fun h => Nat.le_trans (S.drawn h) (hdr h)
      size := S.size, defers := S.defers
      g0 := fun b o h => .inl (S.g0 b o h)
      gnew := fun b o h => by
        rcases h with h | h
        · exact S.gnew b o h
        · exact .inr (hlt' b h.1).1
      glt := fun b o h => by
        rcases h with h | h
        · exact Nat.lt_of_lt_of_le (S.glt b o h) hsize
        · exact (hlt' b h.1).2
      slots := fun i => RepS.mono (g' := g.tok d s.k v' (n' * sz)) st le _ _ (S.slots i)
      boxes := fun i j cs h => by
        simp only [updO] at h
        split at h
        · cases h
        · obtain ⟨b, ys, el', hb, hy, hr⟩ := S.boxes i j cs (kbox' _ _ _ h)
          exact ⟨b, ys, el', hb, by rw [hblk b (S.beta _ _ _ hb).2.2.1 (rowbox i j b hb)]; exact hy, RepL.mono st _ _ hr⟩
      beta := fun i j b h => by
        obtain ⟨⟨cs, h1⟩, h2, h3, h4, h5⟩ := S.beta i j b h
        have hne : ¬ (i = d ∧ j = s.k) := fun e => by rw [e.1, e.2, h0] at h1; cases h1
        refine ⟨⟨cs, by simp only [updO, if_neg hne]; exact kbox _ _ _ h1⟩, h2, Nat.lt_of_lt_of_le h3 hsize, fun o ho' => ?_, ?_⟩
        · rcases ho' with ho' | ho'
          · exact h4 o ho'
          · exact newbox i j b h ho'.1
        · simp only [Gh.tok]; rw [if_neg (newbox i j b h)]; exact h5
      toks := fun i j el' sz' h => by
        simp only [updO] at h
        split at h
        · rename_i e
          obtain ⟨rfl, rfl⟩ := e
          cases h
          refine ⟨v', n', xs', by simp [Gh.tok, upd2], hown, fun b hb => ⟨by simp [Gh.tok, hb], fun o ho' hG => ?_⟩⟩
          rcases hG with hG | hG
          · rcases hb' b hb with h | h
            · exact Nat.lt_irrefl _ (Nat.lt_of_lt_of_le (S.glt b o hG) h)
            · obtain ⟨p, _, _, _, h1⟩ := hrow b h; exact h1 o ho' hG
          · omega
        · rename_i e
          obtain ⟨hlive, hne⟩ := klive _ _ _ _ h
          obtain ⟨v, n, xs, h1, h2, h3⟩ := S.toks i j el' sz' hlive
          have hv := fun b (hb : v.ownBlock = some b) => rowtok i j b (h3 b hb).1 hne
          have hv' := fun b (hb : v.ownBlock = some b) => newtok i j b (h2.lt b hb).2 (h3 b hb).1 hne
          refine ⟨v, n, xs, le.τ _ _ _ h1, ownsRow_block h2 (fun b hb => hblk b (h2.lt b hb).2 (hv b hb)), fun b hb => ⟨?_, fun o ho' hG => ?_⟩⟩
          · simp only [Gh.tok]; rw [if_neg (hv' b hb)]; exact (h3 b hb).1
          · rcases hG with hG | hG
            · exact (h3 b hb).2 o ho' hG
            · exact hv' b hb hG.1
      tau := fun i j v h => by
        simp only [Gh.tok, upd2] at h
        simp only [updO]
        split
        · exact .inl ⟨el, sz, rfl⟩
        · rename_i e
          rw [if_neg e] at h
          exact ktau i j (S.tau i j v h)
      owner := fun b i h => by
        simp only [Gh.tok] at h
        split at h
        · rename_i e; exact (hlt' b e).2
        · exact Nat.lt_of_lt_of_le (S.owner b i h) hsize
      fresh := fun i j h => by
        simp only [updO]; rw [if_neg (by have h' : s.k < j := h; omega)]; exact knone _ _ (S.fresh i j h)
      free := fun i hi => by
        simp only [updO]; rw [if_neg (fun e => hi.2 e.1)]; exact knone _ _ (S.free i hi.1) }
  · refine ⟨RepC_own hown (RepL.mono st _ _ hl) (fun b hb o ho' => .inr ⟨hb, ho'⟩), by simp [Gh.tok, upd2]⟩

end
end Go.Proofs.YtilhjiopbbbgmaaDoor.Am

/- The abstract machine, part E: what each operation does, on values; regions; code; a function's contract. -/
namespace Go.Proofs.YtilhjiopbbbgmaaDoor.Am
open Go Go.RowKit
set_option linter.unusedVariables false
set_option linter.unusedSimpArgs false

/-- What is known of a type. -/
structure TI where
  desc : TypeDesc
  size : Nat
  bytes : Nat
  zero : List C
  agg : Bool

/-- A cell's kind, for '=='. -/
inductive EK where
  | int (k : IntKind)
  | bool
  | str

/-- What is known of package-level variables: cells that are laid; a fact on the world that no growth turns. -/
structure Gl where
  cells : Nat → Option (List C)
  inv : World → Prop
  stable : ∀ w w' : World, Below w.heap.size w w' → inv w → inv w'
  dr : Prop

structure Cx where
  P : Program
  T : TypeId → Option TI
  gl : Gl
  eqk : TypeId → Option (List EK)
  N : Nat

def cellOf : Value → C
  | .slice none 0 0 => .sl 0 []
  | x => .v x

def constOf : Value → SV
  | .slice none 0 0 => .nil
  | .agg cs => if cs.toList.all (·.oneCell') then .agg (cs.toList.map cellOf) else .bad
  | .tuple _ => .bad
  | x => .c (.v x)

def Cx.ev (cx : Cx) (s : AF) : Operand → SV
  | .tmp t => s.t t
  | .const v => constOf v
  | .global g => match cx.gl.cells g with | some cs => .el cs | none => .bad
  | .func f => .c (.v (.func (.func f) #[] #[]))

def SV.sl? : SV → Option (Nat × List C)
  | .c (.sl n cs) => some (n, cs)
  | .nil => some (0, [])
  | .tok _ _ n cs => some (n, cs)
  | _ => none

def SV.cells? : SV → Option (List C)
  | .c x => some [x]
  | .nil => some [.sl 0 []]
  | .tok _ _ n cs => some [.sl n cs]
  | .agg cs => some cs
  | _ => none

/-- As an argument. -/
def SV.down : SV → Option SV
  | .c x => some (.c x)
  | .nil => some (.c (.sl 0 []))
  | .tok _ _ n cs => some (.c (.sl n cs))
  | .agg cs => some (.agg cs)
  | _ => none

def SV.downs : List SV → Option (List SV)
  | [] => some []
  | x :: xs => match x.down, SV.downs xs with
    | some y, some ys => some (y :: ys)
    | _, _ => none

/-- Functions that are told a nil slice as such. -/
def rawNil (g : Nat) : Bool := g == 70

def SV.raw : SV → Option SV
  | .c x => some (.c x)
  | .nil => some .nil
  | _ => none

def SV.raws : List SV → Option (List SV)
  | [] => some []
  | x :: xs => match x.raw, SV.raws xs with
    | some y, some ys => some (y :: ys)
    | _, _ => none

inductive Eff where
  | val (x : SV)
  | new (cs : List C)
  | set (d t : Nat) (cs : List C)
  | app (old : Option (Nat × Nat)) (el sz n : Nat) (cs : List C)

def loaded (ti : TI) (cs : List C) : Option SV :=
  if ti.agg = true then (if ti.size ≤ cs.length then some (.agg (cs.take ti.size)) else none)
  else match cs with | c :: _ => some (.c c) | [] => none

def afill (place : Nat → Option (Nat × Nat)) (cells : List C) : List (Nat × SV) → Option (List C)
  | [] => some cells
  | (i, x) :: rest => match place i, x.cells? with
    | some (off, size), some cs => if cs.length = size ∧ off + size ≤ cells.length then afill place (cells.take off ++ (cs ++ cells.drop (off + size))) rest else none
    | _, _ => none

def abin (op : BinOp) (k : IntKind) (a : Int) (k' : IntKind) (b : Int) : Option Value :=
  match op with
  | .shl => if b < 0 then none else some (.int k (k.wrap (a * 2 ^ (min b.toNat k.bits))))
  | .shr => if b < 0 then none else some (.int k (a.fdiv (2 ^ (min b.toNat k.bits))))
  | .add => if k = k' then some (.int k (k.wrap (a + b))) else none
  | .sub => if k = k' then some (.int k (k.wrap (a - b))) else none
  | .mul => if k = k' then some (.int k (k.wrap (a * b))) else none
  | .quo => if k = k' ∧ b ≠ 0 then some (.int k (k.wrap (a.tdiv b))) else none
  | .rem => if k = k' ∧ b ≠ 0 then some (.int k (a.tmod b)) else none
  | .and => if k = k' then some (.int k (k.wrap (BitVec.ofInt k.bits a &&& BitVec.ofInt k.bits b).toNat)) else none
  | .or => if k = k' then some (.int k (k.wrap (BitVec.ofInt k.bits a ||| BitVec.ofInt k.bits b).toNat)) else none
  | .xor => if k = k' then some (.int k (k.wrap (BitVec.ofInt k.bits a ^^^ BitVec.ofInt k.bits b).toNat)) else none
  | .andNot => none
  | .eql => if k = k' then some (.bool (a == b)) else none
  | .neq => if k = k' then some (.bool (a != b)) else none
  | .lss => if k = k' then some (.bool (a < b)) else none
  | .leq => if k = k' then some (.bool (a ≤ b)) else none
  | .gtr => if k = k' then some (.bool (b < a)) else none
  | .geq => if k = k' then some (.bool (b ≤ a)) else none

/-- Are two rows of cells of these kinds the same? -/
def cellsEq : List EK → List C → List C → Option Bool
  | [], [], [] => some true
  | .int k :: ks, .v (.int k1 a) :: xs, .v (.int k2 b) :: ys => if k1 = k ∧ k2 = k then (cellsEq ks xs ys).map (a == b && ·) else none
  | .bool :: ks, .v (.bool a) :: xs, .v (.bool b) :: ys => (cellsEq ks xs ys).map (a == b && ·)
  | .str :: ks, .v (.string a) :: xs, .v (.string b) :: ys => (cellsEq ks xs ys).map (a == b && ·)
  | _, _, _ => none

def abinOp (cx : Cx) (op : BinOp) (t : TypeId) (x y : SV) : Option SV :=
  match x, y with
  | .c (.v (.int k a)), .c (.v (.int k' b)) => (abin op k a k' b).map fun v => .c (.v v)
  | .c (.v (.string a)), .c (.v (.string b)) => match op with
    | .eql => some (.c (.v (.bool (a.toList == b.toList))))
    | .neq => some (.c (.v (.bool (!(a.toList == b.toList)))))
    | _ => none
  | .c (.v (.bool a)), .c (.v (.bool b)) => match cx.T t with
    | some ti => match ti.desc, op with
      | .bool, .eql => some (.c (.v (.bool (a == b))))
      | .bool, .neq => some (.c (.v (.bool (!(a == b)))))
      | _, _ => none
    | none => none
  | .agg xs, .agg ys => match cx.eqk t with
    | some ks => match op with
      | .eql => (cellsEq ks xs ys).map fun r => .c (.v (.bool r))
      | .neq => (cellsEq ks xs ys).map fun r => .c (.v (.bool (!r)))
      | _ => none
    | none => none
  | _, _ => none

def bAt (s : ByteArray) (i : Int) : Int := ((s.data.toList.getD i.toNat 0).toNat : Int)

def Cx.place (cx : Cx) (fields : Array Field) (i : Nat) : Option (Nat × Nat) :=
  match fields[i]? with
  | some f => (cx.T f.type).map fun ti => (f.offset, ti.size)
  | none => none

/-- A pointer moved on. -/
def SV.on : SV → Nat → Option SV
  | .ref d t off, k => some (.ref d t (off + k))
  | .el cs, k => some (.el (cs.drop k))
  | _, _ => none

def abuiltin (cx : Cx) (b : Builtin) (ts : Array TypeId) (xs : List SV) (ob : Nat → Nat → Ob) : Option Eff :=
  match b, xs with
  | .len, [x] => match ts[0]? with
    | some t => match cx.T t with
      | some ti => match ti.desc with
        | .slice _ => x.sl?.map fun p => .val (.c (.v (.int .i64 p.1)))
        | .string => match x with | .c (.v (.string s)) => some (.val (.c (.v (.int .i64 s.size)))) | _ => none
        | .array n _ => some (.val (.c (.v (.int .i64 n))))
        | _ => none
      | none => none
    | none => none
  | .min, [.c (.v (.int k x)), .c (.v (.int k' y))] => if k = k' then some (.val (.c (.v (.int k (if y < x then y else x))))) else none
  | .max, [.c (.v (.int k x)), .c (.v (.int k' y))] => if k = k' then some (.val (.c (.v (.int k (if x < y then y else x))))) else none
  | .append, [s, x] => match ts[0]?, ts[1]? with
    | some t, some u => match cx.T t, cx.T u with
      | some ti, some ui => match ti.desc, ui.desc with
        | .slice e, .slice _ => match cx.T e with
          | some te => match x.sl? with
            | some (m, ds) =>
              if ds.length = m * te.size ∧ 0 < te.size then match s with
              | .nil => if m * te.bytes ≤ 140737488355328 ∧ m ≤ maxLen then some (.app none e te.size m ds) else none
              | .tok d t n cs => match ob d t with
                | .live e' sz => if e' = e ∧ sz = te.size ∧ cs.length = n * te.size ∧ (n + m) * te.bytes ≤ 140737488355328 ∧ n + m ≤ maxLen then some (.app (some (d, t)) e te.size (n + m) (cs ++ ds)) else none
                | _ => none
              | _ => none
              else none
            | none => none
          | none => none
        | _, _ => none
      | _, _ => none
    | _, _ => none
  | _, _ => none

def evOr (ev : Operand → SV) (o : Option Operand) (n : Int) : SV :=
  match o with
  | none => .c (.v (.int .i64 n))
  | some x => ev x

def acomp (cx : Cx) (op : Op) (ev : Operand → SV) (ob : Nat → Nat → Ob) : Option Eff :=
  match op with
  | .move x => some (.val (ev x))
  | .assign x => some (.val (ev x))
  | .pick c a b => match ev c with | .c (.v (.bool t)) => some (.val (if t = true then ev a else ev b)) | _ => none
  | .alloc t => (cx.T t).map fun ti => .new ti.zero
  | .box t x => match cx.T t with
    | some ti => match (ev x).cells? with | some cs => some (.new cs) | none => none
    | none => none
  | .build t ps => match cx.T t with
    | some ti => match ti.desc with
      | .struct fs => (afill (cx.place fs) ti.zero (ps.toList.map fun p => (p.1, ev p.2))).map fun cs => .val (.agg cs)
      | .array _ e => match cx.T e with
        | some te => (afill (fun i => some (i * te.size, te.size)) ti.zero (ps.toList.map fun p => (p.1, ev p.2))).map fun cs => .val (.agg cs)
        | none => none
      | _ => none
    | none => none
  | .buildSlice t len ps => match cx.T t with
    | some ti => match ti.desc with
      | .slice e => match cx.T e with
        | some te => if len * te.size ≤ 2 ^ 24 ∧ len ≤ maxLen then (afill (fun i => some (i * te.size, te.size)) (List.replicate len te.zero).flatten (ps.toList.map fun p => (p.1, ev p.2))).map fun cs => .app none e te.size len cs else none
        | none => none
      | _ => none
    | none => none
  | .load t p => match cx.T t with
    | some ti => match ev p with
      | .ref d t off => match ob d t with | .box cs => (loaded ti (cs.drop off)).map .val | _ => none
      | .el cs => (loaded ti cs).map .val
      | _ => none
    | none => none
  | .store t p x => match cx.T t with
    | some ti => match ev p with
      | .ref d t off => match ob d t with
        | .box cs => match (ev x).cells? with
          | some vs => if vs.length = ti.size ∧ off + vs.length ≤ cs.length then some (.set d t (cs.take off ++ (vs ++ cs.drop (off + vs.length)))) else none
          | none => none
        | _ => none
      | _ => none
    | none => none
  | .nilCheck x => match ev x with
    | .ref d t off => some (.val (.ref d t off))
    | .el cs => some (.val (.el cs))
    | _ => none
  | .binOp op t x y _ => (abinOp cx op t (ev x) (ev y)).map .val
  | .unOp op _ x => match op, ev x with
    | .not, .c (.v (.bool b)) => some (.val (.c (.v (.bool !b))))
    | .neg, .c (.v (.int k n)) => some (.val (.c (.v (.int k (k.wrap (0 - n))))))
    | _, _ => none
  | .convert src dst x => match cx.T src, cx.T dst with
    | some _, some td => match td.desc, ev x with
      | .int k, .c (.v (.int _ n)) => some (.val (.c (.v (.int k (k.wrap n)))))
      | _, _ => none
    | _, _ => none
  | .slice t x lo hi none => match cx.T t with
    | some ti => match ti.desc with
      | .slice e => match cx.T e with
        | some te => match (ev x).sl? with
          | some (n, cs) =>
            match evOr ev lo 0, evOr ev hi n with
            | .c (.v (.int _ l)), .c (.v (.int _ h)) =>
              if 0 ≤ l ∧ l ≤ h ∧ h ≤ n then some (.val (.c (.sl (h.toNat - l.toNat) ((cs.drop (l.toNat * te.size)).take ((h.toNat - l.toNat) * te.size))))) else none
            | _, _ => none
          | none => none
        | none => none
      | _ => none
    | none => none
  | .fieldAddr t x f => match cx.T t with
    | some ti => match ti.desc with
      | .struct fs => match cx.place fs f with
        | some (off, size) => if size ≠ 0 then ((ev x).on off).map .val else none
        | none => none
      | _ => none
    | none => none
  | .field t x f => match cx.T t with
    | some ti => match ti.desc with
      | .struct fs => match fs[f]? with
        | some fd => match cx.T fd.type with
          | some tf => match ev x with | .agg cs => (loaded tf (cs.drop fd.offset)).map .val | _ => none
          | none => none
        | none => none
      | _ => none
    | none => none
  | .indexAddr t x i => match cx.T t with
    | some ti => match ev i with
      | .c (.v (.int _ i)) => match ti.desc with
        | .slice e => match cx.T e with
          | some te => match (ev x).sl? with
            | some (n, cs) => if 0 ≤ i ∧ i < n ∧ n * te.size ≤ cs.length ∧ 0 < te.size then some (.val (.el (cs.drop (i.toNat * te.size)))) else none
            | none => none
          | none => none
        | .array n e => match cx.T e with
          | some te => if 0 ≤ i ∧ i < n then ((ev x).on (i.toNat * te.size)).map .val else none
          | none => none
        | _ => none
      | _ => none
    | none => none
  | .index t x i => match cx.T t with
    | some ti => match ti.desc, ev x, ev i with
      | .string, .c (.v (.string s)), .c (.v (.int _ i)) => if 0 ≤ i ∧ i < s.size then some (.val (.c (.v (.int .u8 (bAt s i))))) else none
      | .array n e, .agg cs, .c (.v (.int _ i)) => match cx.T e with
        | some te => if 0 ≤ i ∧ i < n then (loaded te (cs.drop (i.toNat * te.size))).map .val else none
        | none => none
      | _, _, _ => none
    | none => none
  | .extract x i => match ev x with
    | .tup vs => vs[i]?.map .val
    | _ => none
  | .call c => match c.callee with
    | .builtin b => abuiltin cx b c.argTypes (c.args.toList.map ev) ob
    | _ => none
  | _ => none

def Eff.to (e : Eff) (s : AF) (dst : Option Nat) : Option AF :=
  match e with
  | .val x => some (s.put dst x)
  | .new cs => match dst with
    | some d => some { t := upd s.t d (.ref d s.k 0), ob := updO s.ob d s.k (.box cs), k := s.k }
    | none => none
  | .set d t cs => some (AF.put { t := s.t, ob := updO s.ob d t (.box cs), k := s.k } dst .und)
  | .app old el sz n cs => match dst with
    | some d => some { t := upd s.t d (.tok d s.k n cs), ob := updO (kill s.ob old) d s.k (.live el sz), k := s.k }
    | none => none

/-- A result comes back: what is exported as owned gets a token. -/
def AF.ret (s : AF) (dst : Option Nat) (r : SV) : AF :=
  match r, dst with
  | .tok el sz n cs, some d => { t := upd s.t d (.tok d s.k n cs), ob := updO s.ob d s.k (.live el sz), k := s.k }
  | .tok _ _ _ _, none => s
  | r, dst => s.put dst r

def GlOk (gl : Gl) (w : World) (G : Good) : Prop := (∀ i cs, gl.cells i = some cs → RepM w G cs i 0) ∧ gl.inv w

/-- What a function hands back: r lies as v, at cells that were settled or are new; what is said to be owned is. -/
def RepR (w' : World) (G : Good) (B : Nat) : SV → Value → Prop
  | .c x, y => RepC w' G x y
  | .nil, y => y = .slice none 0 0
  | .agg cs, y => ∃ ys : Array Value, y = .agg ys ∧ RepL w' G cs ys.toList
  | .tup vs, y => ∃ ys : Array Value, y = .tuple ys ∧ RepTL w' G vs ys.toList
  | .tok el sz n cs, y => ∃ xs, w'.ownsRow B el sz y n xs ∧ RepL w' G cs xs ∧ ∀ b, y.ownBlock = some b → ∀ o, n * sz ≤ o → ¬ G b o
  | _, _ => False

def Back (dr : Prop) (w : World) (G : Good) (r : SV) (e : Ending) (w' : World) : Prop :=
  ∃ v, e = .returned v ∧ Below w.heap.size w w' ∧ (dr → w.drawn ≤ w'.drawn) ∧ ∃ G' : Good, (∀ b o, G b o → G' b o) ∧ (∀ b o, G' b o → G b o ∨ w.heap.size ≤ b) ∧ (∀ b o, G' b o → b < w'.heap.size) ∧ RepR w' G' w.heap.size r v

/-- THE CONTRACT: called with what lies as 'args', function f hands back what lies as 'r'; nothing that was there turns. -/
def Ret (P : Program) (gl : Gl) (f : FuncId) (args : List SV) (r : SV) : Prop :=
  (∀ (vs : Array Value) (w : World), (callFunc f vs).run P w = .ok (.enter f vs) w) ∧ ∀ (w : World) (G : Good) (vs : Array Value), (∀ b o, G b o → b < w.heap.size) → GlOk gl w G → RepTL w G args vs.toList → Calls P f vs w (Back gl.dr w G r)

def acallee (ev : Operand → SV) (f : Operand) (args : Array Operand) : Option (FuncId × List SV) :=
  match ev f with
  | .c (.v (.func (.func g) ⟨[]⟩ ⟨[]⟩)) => match (if rawNil g = true then SV.raws (args.toList.map ev) else SV.downs (args.toList.map ev)) with
    | some xs => some (g, xs)
    | none => none
  | _ => none

def isCall : Op → Bool
  | .call ⟨.value _, _, _⟩ => true
  | _ => false

def SV.plain : SV → Bool
  | .c _ => true
  | .nil => true
  | .agg _ => true
  | _ => false

/-- What may be handed back. -/
def SV.okR : SV → Bool
  | .c _ => true
  | .nil => true
  | .agg _ => true
  | .tup vs => vs.all SV.plain
  | .tok _ _ _ _ => true
  | _ => false

/-- It is there, and is such. -/
def want {α : Type} : Option α → (α → Prop) → Prop
  | some a, K => K a
  | none, _ => False

theorem want_some {α : Type} (a : α) (K : α → Prop) : want (some a) K = K a := rfl
theorem want_none {α : Type} (K : α → Prop) : want none K = False := rfl
theorem want_ite {α : Type} (c : Prop) [Decidable c] (x : Option α) (K : α → Prop) : want (if c then x else none) K = (c ∧ want x K) := by
  by_cases h : c <;> simp [h, want]
theorem want_map {α β : Type} (o : Option α) (f : α → β) (K : β → Prop) : want (o.map f) K = want o (fun a => K (f a)) := by cases o <;> rfl
theorem want_iff {α : Type} (o : Option α) (K : α → Prop) : want o K ↔ ∃ a, o = some a ∧ K a := by cases o <;> simp [want]

def AOp (cx : Cx) (o : Oper) (K : AF → Prop) (s : AF) : Prop :=
  match o.op with
  | .call ⟨.value f, args, _⟩ => want (acallee (cx.ev s) f args) fun gx => ∃ r, Ret cx.P cx.gl gx.1 gx.2 r ∧ r.okR = true ∧ K (s.ret o.dst r)
  | op => want (acomp cx op (cx.ev s) s.ob) fun e => want (e.to s o.dst) K

def awanted (ops : Array Oper) (o : Oper) (t : Nat → SV) : Option Bool :=
  match o.guard with
  | none => some true
  | some (j, want) => match (ops[j]?).bind (·.dst) with
    | some d => match t d with
      | .c (.v (.bool b)) => some (b == want)
      | .und => some false
      | _ => none
    | none => some false

def AStep (cx : Cx) (ops : Array Oper) (o : Oper) (K : AF → Prop) (s : AF) : Prop :=
  match awanted ops o s.t with
  | some b => if b = true then AOp cx o K s else K (s.put o.dst .und)
  | none => False

def AOps (cx : Cx) (ops : Array Oper) : List Oper → (AF → Prop) → AF → Prop
  | [], Q, s => Q s
  | o :: rest, Q, s => AStep cx ops o (AOps cx ops rest Q) s

end Go.Proofs.YtilhjiopbbbgmaaDoor.Am

/- The abstract machine, part F: each operation of the model does what part E says of it (operations that make no memory). -/
namespace Go.Proofs.YtilhjiopbbbgmaaDoor.Am
open Go Go.RowKit
set_option linter.unusedVariables false
set_option linter.unusedSimpArgs false

structure TOk (P : Program) (t : TypeId) (ti : TI) : Prop where
  under : P.underlying t = some ti.desc
  info : ∃ i z, P.info? t = some i ∧ i.size = ti.size ∧ i.bytes = ti.bytes ∧ i.zero = some z ∧ z.cells.toList.map cellOf = ti.zero ∧ z.cells.size = ti.size ∧
    (z.cells.toList.all (·.oneCell')) = true
  agg : (match ti.desc with | .struct _ => true | .array _ _ => true | _ => false) = ti.agg
  fields : ∀ fs, ti.desc = .struct fs → ∀ f ∈ fs.toList, ∃ i, P.info? f.type = some i

def valsEq : List EK → List Value → List Value → Option Bool
  | [], [], [] => some true
  | .int k :: ks, .int k1 a :: xs, .int k2 b :: ys => if k1 = k ∧ k2 = k then (valsEq ks xs ys).map (a == b && ·) else none
  | .bool :: ks, .bool a :: xs, .bool b :: ys => (valsEq ks xs ys).map (a == b && ·)
  | .str :: ks, .string a :: xs, .string b :: ys => (valsEq ks xs ys).map (a == b && ·)
  | _, _, _ => none

structure CxOk (cx : Cx) : Prop where
  types : ∀ t ti, cx.T t = some ti → TOk cx.P t ti
  eqs : ∀ t ks, cx.eqk t = some ks → cx.P.eqGuardType cx.P.depth t = false ∧
    ∀ (ys zs : List Value) (r : Bool) (w : World), valsEq ks ys zs = some r → (Op.equal t (.agg ys.toArray) (.agg zs.toArray)).run cx.P w = .ok r w
  mixed : cx.P.follows .mixedOrders = true

def Does (P : Program) (o : Oper) (a : Act) (w : World) (v : Value) (w' : World) : Prop :=
  (execOp a.eval o).run P w = .ok (.value v) w' ∨ ((execOp a.eval o).run P w = .ok .skip w' ∧ v = undef)

theorem Does.wp {P : Program} {o : Oper} {a : Act} {w w' : World} {v : Value} {K : Act → World → Prop} {Q : Exit → Act → World → Prop} (h : Does P o a w v w') (k : K (a.put o.dst v) w') :
    o.wp P a w K Q := by
  unfold Oper.wp
  rcases h with h | ⟨h, rfl⟩ <;> rw [h] <;> exact k

theorem valsEq_of {w : World} {G : Good} : ∀ {ks : List EK} {cs ds : List C} {ys zs : List Value} {r : Bool}, cellsEq ks cs ds = some r → RepL w G cs ys → RepL w G ds zs → valsEq ks ys zs = some r := by
  intro ks
  induction ks with
  | nil =>
    intro cs ds ys zs r h h1 h2
    cases cs <;> cases ds <;> simp [cellsEq] at h
    subst h
    cases ys <;> cases zs <;> simp_all [RepL, valsEq]
  | cons k ks ih =>
    intro cs ds ys zs r h h1 h2
    cases cs with
    | nil => cases k <;> simp [cellsEq] at h
    | cons c cs =>
      cases ds with
      | nil => cases k <;> simp [cellsEq] at h
      | cons d ds =>
        cases ys with
        | nil => exact h1.elim
        | cons y ys =>
          cases zs with
          | nil => exact h2.elim
          | cons z zs =>
            obtain ⟨h1, h1'⟩ := h1
            obtain ⟨h2, h2'⟩ := h2
            cases c with
            | sl n cs => cases k <;> simp [cellsEq] at h
            | fr c => cases k <;> simp [cellsEq] at h
            | v x =>
              cases d with
              | sl n ds => cases k <;> cases x <;> simp [cellsEq] at h
              | fr c => cases k <;> cases x <;> simp [cellsEq] at h
              | v x' =>
                simp only [RepC] at h1 h2
                obtain ⟨rfl, _⟩ := h1
                obtain ⟨rfl, _⟩ := h2
                cases hc : cellsEq ks cs ds with
                | none => cases k <;> cases y <;> cases z <;> simp [cellsEq, hc] at h
                | some r' =>
                  have hv := ih hc h1' h2'
                  cases k <;> cases y <;> cases z <;> simp [cellsEq, hc] at h <;> simp [valsEq, hv, h]

section
variable {cx : Cx} {w : World} {g : Gh} {a : Act} {s : AF} {o : Oper}

theorem run_sizeOf {P : Program} {t : TypeId} {ti : TI} (h : TOk P t ti) (w : World) : (sizeOf t).run P w = .ok ti.size w := by
  obtain ⟨i, z, h1, h2, _⟩ := h.info
  simp [sizeOf, typeInfo, h1, h2]

theorem run_isAgg {P : Program} {t : TypeId} {ti : TI} (h : TOk P t ti) (w : World) : (isAgg t).run P w = .ok ti.agg w := by
  have h1 := h.agg
  simp only [isAgg, Sem.run_bind, run_underlying h.under, Result.andThen_ok]
  revert h1
  cases ti.desc <;> simp <;> intro h1 <;> simp [← h1]

theorem run_loaded {P : Program} {G : Good} {t : TypeId} {ti : TI} (h : TOk P t ti) {cs : List C} {zs : List Value} {b o : Nat} {x : SV} (hx : loaded ti cs = some x) (hl : RepL w G cs zs)
    (hv : ∀ j v, zs[j]? = some v → w.cell? ⟨b, o + j, none⟩ = some v) :
    ∃ v, (loadVar t ⟨b, o, none⟩).run P w = .ok v w ∧ RepT w G x v ∧ ∀ g : Gh, g.G = G → RepS w g x v := by
  unfold loaded at hx
  split at hx
  · rename_i ha
    split at hx
    · rename_i hs
      cases hx
      have hlen := hl.length
      have hl' := hl.take ti.size
      refine ⟨.agg (zs.take ti.size).toArray, ?_, ⟨_, rfl, by simpa using hl'⟩, fun g hg => ⟨_, rfl, by subst hg; simpa using hl'⟩⟩
      have hload := run_loadCells_list (P := P) w ⟨b, o, none⟩ (zs.take ti.size) (fun j v hj => by
        rw [add_plain]
        refine hv j v ?_
        rw [List.getElem?_take] at hj
        split at hj
        · exact hj
        · cases hj)
      rw [List.length_take, Nat.min_eq_left (by omega)] at hload
      simp [loadVar, run_isAgg h, ha, run_sizeOf h, hload]
    · cases hx
  · rename_i ha
    cases cs with
    | nil => cases hx
    | cons c cs =>
      cases hx
      cases zs with
      | nil => exact hl.elim
      | cons z zs =>
        have hc := hv 0 z rfl
        simp only [Nat.add_zero] at hc
        refine ⟨z, ?_, hl.1, fun g hg => by subst hg; exact hl.1⟩
        have ha' : ti.agg = false := by simpa using ha
        simp [loadVar, run_isAgg h, ha', hc]

/-- What lies at a pointer. -/
theorem at_el {cs : List C} {v : Value} (h : RepS w g (.el cs) v) :
    ∃ b o zs, v = .pointer (some ⟨b, o, none⟩) ∧ RepL w g.G cs zs ∧ ∀ j v, zs[j]? = some v → w.cell? ⟨b, o + j, none⟩ = some v := by
  obtain ⟨b, o, e, h⟩ := h
  obtain ⟨zs, h1, h2⟩ := h.vals
  exact ⟨b, o, zs, e, h1, h2⟩

theorem cell_block {b o : Nat} {ys : Array Value} {el : TypeId} {fr : Nat × Nat} (h : w.heap[b]? = some (.cells ys el fr)) (j : Nat) (v : Value) (hj : (ys.toList.drop o)[j]? = some v) :
    w.cell? ⟨b, o + j, none⟩ = some v := by
  simp only [World.cell?, h]
  simpa using hj

end

section
variable {cx : Cx} {w0 : World} {G0 : Good} {N : Nat} {D : Nat → Prop} {w : World} {g : Gh} {a : Act} {s : AF} {o : Oper}

theorem RepC_nil {w : World} {G : Good} : RepC w G (.sl 0 []) (.slice none 0 0) := by
  simp [RepC]

theorem cellOf_rep {w : World} {G : Good} {y : Value} (h : y.oneCell' = true) : RepC w G (cellOf y) y := by
  unfold cellOf
  split
  · exact RepC_nil
  · simp only [RepC]; exact ⟨trivial, h⟩

theorem cellsOf_rep {w : World} {G : Good} : ∀ (ys : List Value), (ys.all (·.oneCell')) = true → RepL w G (ys.map cellOf) ys
  | [], _ => trivial
  | y :: ys, h => by
    simp only [List.all_cons, Bool.and_eq_true] at h
    exact ⟨cellOf_rep h.1, cellsOf_rep ys h.2⟩

theorem constOf_rep {w : World} {g : Gh} (v : Value) : RepS w g (constOf v) v := by
  unfold constOf
  split
  · rfl
  · rename_i cs
    split
    · rename_i h; exact ⟨cs, rfl, cellsOf_rep _ h⟩
    · trivial
  · trivial
  · rename_i h1 h2 h3
    simp only [RepS, RepC]
    refine ⟨trivial, ?_⟩
    cases v <;> simp_all [Value.oneCell']

theorem Sim.glOk (S : Sim cx.gl.dr w0 G0 N D g a w s) {gl : Gl} (hG0 : ∀ b o, G0 b o → b < w0.heap.size) (h : GlOk gl w0 G0) : GlOk gl w g.G := ⟨fun i cs hi =>
  RepM.mono ⟨S.g0, fun b o hb => S.below.cell (p := ⟨b, o, none⟩) (hG0 b o hb), fun b hb => frz_same (S.below.block b (hG0 b 0 (hb 0)))⟩ _ _ _ (h.1 i cs hi), gl.stable _ _ S.below h.2⟩

theorem Sim.ev (S : Sim cx.gl.dr w0 G0 N D g a w s) (hgl : GlOk cx.gl w g.G) (x : Operand) : RepS w g (cx.ev s x) (a.eval x) := by
  cases x with
  | tmp t => exact S.slots t
  | const v => exact constOf_rep v
  | global i =>
    simp only [Cx.ev, Act.eval]
    split
    · rename_i cs h; exact ⟨i, 0, rfl, hgl.1 i cs h⟩
    · trivial
  | func f => exact ⟨rfl, rfl⟩

/-- A row of values to store. -/
theorem cells?_rep {x : SV} {v : Value} {cs : List C} (h : RepS w g x v) (hc : x.cells? = some cs) : RepL w g.G cs v.cells.toList := by
  cases x <;> simp [SV.cells?] at hc <;> subst hc <;> simp only [RepS] at h
  · have := h.one
    have hv : v.cells = #[v] := by cases v <;> simp_all [Value.oneCell', Value.cells]
    rw [hv]; exact ⟨h, trivial⟩
  · subst h
    exact ⟨RepC_nil, trivial⟩
  · have := h.1.one
    have hv : v.cells = #[v] := by cases v <;> simp_all [Value.oneCell', Value.cells]
    rw [hv]; exact ⟨h.1, trivial⟩
  · obtain ⟨ys, rfl, h⟩ := h
    exact h

theorem sl?_rep {x : SV} {v : Value} {n : Nat} {cs : List C} (h : RepS w g x v) (hx : x.sl? = some (n, cs)) : RepC w g.G (.sl n cs) v := by
  cases x <;> simp [SV.sl?] at hx
  · rename_i c
    cases c <;> simp at hx
    obtain ⟨rfl, rfl⟩ := hx
    exact h
  · obtain ⟨rfl, rfl⟩ := hx
    simp only [RepS] at h
    subst h
    exact RepC_nil
  · obtain ⟨rfl, rfl⟩ := hx
    exact h.1

theorem on_rep {x y : SV} {v : Value} {k : Nat} (h : RepS w g x v) (hx : x.on k = some y) : ∃ b off, v = .pointer (some ⟨b, off, none⟩) ∧ RepS w g y (.pointer (some ⟨b, off + k, none⟩)) := by
  cases x <;> simp [SV.on] at hx
  · subst hx
    obtain ⟨b, hb, rfl⟩ := h
    exact ⟨b, _, rfl, b, hb, rfl⟩
  · subst hx
    obtain ⟨b, o, rfl, h⟩ := h
    exact ⟨b, o, rfl, b, _, rfl, h.drop k⟩

/-! ### one operation after the other -/

theorem do_move (S : Sim cx.gl.dr w0 G0 N D g a w s) (hgl : GlOk cx.gl w g.G) {x : Operand} (ho : o.op = .move x ∨ o.op = .assign x) :
    ∃ v, Does cx.P o a w v w ∧ RepS w g (cx.ev s x) v := by
  refine ⟨a.eval x, .inl ?_, S.ev hgl x⟩
  rcases ho with ho | ho <;> simp [execOp, ho]

theorem do_pick (S : Sim cx.gl.dr w0 G0 N D g a w s) (hgl : GlOk cx.gl w g.G) {c x y : Operand} (ho : o.op = .pick c x y) {t : Bool} (hc : cx.ev s c = .c (.v (.bool t))) :
    ∃ v, Does cx.P o a w v w ∧ RepS w g (if t = true then cx.ev s x else cx.ev s y) v := by
  have h := S.ev hgl c
  rw [hc] at h
  have hc' : a.eval c = .bool t := h.1
  refine ⟨if t = true then a.eval x else a.eval y, .inl ?_, ?_⟩
  · simp [execOp, ho, hc', asBool]
  · cases t
    · exact S.ev hgl y
    · exact S.ev hgl x

theorem do_load (C : CxOk cx) (S : Sim cx.gl.dr w0 G0 N D g a w s) (hgl : GlOk cx.gl w g.G) {t : TypeId} {p : Operand} (ho : o.op = .load t p) {x : SV}
    (hx : acomp cx o.op (cx.ev s) s.ob = some (.val x)) : ∃ v, Does cx.P o a w v w ∧ RepS w g x v := by
  rw [ho] at hx
  simp only [acomp] at hx
  split at hx
  · rename_i ti hT
    have hp := S.ev hgl p
    have key : ∃ b off cs zs, a.eval p = .pointer (some ⟨b, off, none⟩) ∧ loaded ti cs = some x ∧ RepL w g.G cs zs ∧ ∀ j v, zs[j]? = some v → w.cell? ⟨b, off + j, none⟩ = some v := by
      split at hx
      · rename_i d t' off he
        rw [he] at hp
        obtain ⟨b, hb, hv⟩ := hp
        split at hx
        · rename_i cs hob
          obtain ⟨b', ys, el, hb', hy, hl⟩ := S.boxes _ _ _ hob
          rw [hb] at hb'; cases hb'
          simp only [Option.map_eq_some_iff, Eff.val.injEq, exists_eq_right] at hx
          exact ⟨b, off, _, _, hv, hx, hl.drop off, fun j v hj => cell_block hy j v hj⟩
        · cases hx
      · rename_i cs he
        rw [he] at hp
        obtain ⟨b, off, zs, hv, hl, hz⟩ := at_el hp
        simp only [Option.map_eq_some_iff, Eff.val.injEq, exists_eq_right] at hx
        exact ⟨b, off, cs, zs, hv, hx, hl, hz⟩
      · cases hx
    obtain ⟨b, off, cs, zs, hv, hx', hl, hz⟩ := key
    obtain ⟨v, hrun, _, hrep⟩ := run_loaded (C.types _ _ hT) hx' hl hz
    refine ⟨v, .inl ?_, hrep g rfl⟩
    simp [execOp, ho, hv, Instr.loadAt, Instr.sureAddr, hrun]
  · cases hx

theorem do_nilCheck (S : Sim cx.gl.dr w0 G0 N D g a w s) (hgl : GlOk cx.gl w g.G) {p : Operand} (ho : o.op = .nilCheck p) {x : SV}
    (hx : acomp cx o.op (cx.ev s) s.ob = some (.val x)) : ∃ v, Does cx.P o a w v w ∧ RepS w g x v := by
  rw [ho] at hx
  simp only [acomp] at hx
  have hp := S.ev hgl p
  split at hx
  · rename_i d t off he
    cases hx
    rw [he] at hp
    obtain ⟨b, hb, hv⟩ := hp
    exact ⟨_, .inl (by simp [execOp, ho, hv]), b, hb, rfl⟩
  · rename_i cs he
    cases hx
    rw [he] at hp
    obtain ⟨b, off, hv, hm⟩ := hp
    exact ⟨_, .inl (by simp [execOp, ho, hv]), b, off, rfl, hm⟩
  · cases hx

theorem do_unOp (S : Sim cx.gl.dr w0 G0 N D g a w s) (hgl : GlOk cx.gl w g.G) {op : UnOp} {t : TypeId} {p : Operand} (ho : o.op = .unOp op t p) {x : SV}
    (hx : acomp cx o.op (cx.ev s) s.ob = some (.val x)) : ∃ v, Does cx.P o a w v w ∧ RepS w g x v := by
  rw [ho] at hx
  simp only [acomp] at hx
  have hp := S.ev hgl p
  split at hx
  · rename_i b he
    cases hx
    rw [he] at hp
    have hv : a.eval p = .bool b := hp.1
    exact ⟨.bool !b, .inl (by simp [execOp, ho, hv, Op.unary]), rfl, rfl⟩
  · rename_i k n he
    cases hx
    rw [he] at hp
    have hv : a.eval p = .int k n := hp.1
    exact ⟨_, .inl (by simp [execOp, ho, hv, Op.unary, Op.intArith]), rfl, rfl⟩
  · cases hx

theorem do_convert (C : CxOk cx) (S : Sim cx.gl.dr w0 G0 N D g a w s) (hgl : GlOk cx.gl w g.G) {t u : TypeId} {p : Operand} (ho : o.op = .convert t u p) {x : SV}
    (hx : acomp cx o.op (cx.ev s) s.ob = some (.val x)) : ∃ v, Does cx.P o a w v w ∧ RepS w g x v := by
  rw [ho] at hx
  simp only [acomp] at hx
  have hp := S.ev hgl p
  split at hx
  · rename_i ts td hts htd
    split at hx
    · rename_i k _ k' n hd he
      cases hx
      rw [he] at hp
      have hv : a.eval p = .int k' n := hp.1
      have h1 := (C.types _ _ hts).under
      have h2 := (C.types _ _ htd).under
      rw [hd] at h2
      exact ⟨_, .inl (by simp [execOp, ho, hv, convert, run_underlying h1, run_underlying h2, Conv.intToInt]), rfl, rfl⟩
    · cases hx
  · cases hx

theorem do_extract (S : Sim cx.gl.dr w0 G0 N D g a w s) (hgl : GlOk cx.gl w g.G) {i : Nat} {p : Operand} (ho : o.op = .extract p i) {x : SV}
    (hx : acomp cx o.op (cx.ev s) s.ob = some (.val x)) : ∃ v, Does cx.P o a w v w ∧ RepS w g x v := by
  rw [ho] at hx
  simp only [acomp] at hx
  have hp := S.ev hgl p
  split at hx
  · rename_i vs he
    rw [he] at hp
    obtain ⟨ys, hv, hl⟩ := hp
    simp only [Option.map_eq_some_iff, Eff.val.injEq, exists_eq_right] at hx
    have key : ∀ (vs : List SV) (ys : List Value) (i : Nat), RepTL w g.G vs ys → vs[i]? = some x → ∃ y, ys[i]? = some y ∧ RepT w g.G x y := by
      intro vs
      induction vs with
      | nil => intro ys i _ h; simp at h
      | cons v vs ih =>
        intro ys i h1 h2
        cases ys with
        | nil => exact h1.elim
        | cons y ys =>
          cases i with
          | zero => simp at h2; subst h2; exact ⟨y, rfl, h1.1⟩
          | succ i => simpa using ih ys i h1.2 (by simpa using h2)
    obtain ⟨y, hy, hr⟩ := key vs ys.toList i hl hx
    refine ⟨y, .inl ?_, ?_⟩
    · have hy' : ys[i]? = some y := by simpa using hy
      simp [execOp, ho, hv, Instr.extract, hy']
    · cases x <;> simp only [RepT] at hr <;> first | exact hr | exact hr.elim
  · cases hx

theorem do_fieldAddr (C : CxOk cx) (S : Sim cx.gl.dr w0 G0 N D g a w s) (hgl : GlOk cx.gl w g.G) {t : TypeId} {p : Operand} {f : Nat} (ho : o.op = .fieldAddr t p f) {x : SV}
    (hx : acomp cx o.op (cx.ev s) s.ob = some (.val x)) : ∃ v, Does cx.P o a w v w ∧ RepS w g x v := by
  rw [ho] at hx
  simp only [acomp] at hx
  have hp := S.ev hgl p
  split at hx
  · rename_i ti hT
    split at hx
    · rename_i fs hd
      split at hx
      · rename_i off size hpl
        split at hx
        · rename_i hsz
          simp only [Option.map_eq_some_iff, Eff.val.injEq, exists_eq_right] at hx
          obtain ⟨b, off0, hv, hr⟩ := on_rep hp hx
          simp only [Cx.place] at hpl
          split at hpl
          · rename_i fd hfd
            simp only [Option.map_eq_some_iff, Prod.mk.injEq] at hpl
            obtain ⟨tf, hTf, rfl, rfl⟩ := hpl
            have h1 := (C.types _ _ hT).under
            rw [hd] at h1
            refine ⟨_, .inl ?_, hr⟩
            simp [execOp, ho, hv, Instr.fieldAt, run_underlying h1, hfd, Instr.sureAddr, fieldPlace, run_sizeOf (C.types _ _ hTf), hsz, add_plain]
          · cases hpl
        · cases hx
      · cases hx
    · cases hx
  · cases hx

end
end Go.Proofs.YtilhjiopbbbgmaaDoor.Am

/- The abstract machine, part G: the other operations that make no memory. -/
namespace Go.Proofs.YtilhjiopbbbgmaaDoor.Am
open Go Go.RowKit
set_option linter.unusedVariables false
set_option linter.unusedSimpArgs false

section
variable {cx : Cx} {w0 : World} {G0 : Good} {N : Nat} {D : Nat → Prop} {w : World} {g : Gh} {a : Act} {s : AF} {o : Oper}

theorem run_abin {P : Program} {op : BinOp} {t : TypeId} {k k' : IntKind} {x y : Int} {v : Value} (h : abin op k x k' y = some v) (w : World) :
    (binOp op t (.int k x) (.int k' y)).run P w = .ok v w ∧ v.oneCell' = true := by
  cases op <;> simp only [abin, Option.ite_none_right_eq_some, Option.ite_none_left_eq_some, Option.some.injEq] at h
  case andNot => cases h
  case shl => obtain ⟨h1, rfl⟩ := h; simp [binOp, Op.shift, h1, Value.oneCell']
  case shr => obtain ⟨h1, rfl⟩ := h; simp [binOp, Op.shift, h1, Value.oneCell']
  case quo => obtain ⟨⟨rfl, h1⟩, rfl⟩ := h; simp [binOp, Op.intDiv, h1, Value.oneCell']
  case rem => obtain ⟨⟨rfl, h1⟩, rfl⟩ := h; simp [binOp, Op.intDiv, h1, Value.oneCell']
  all_goals
    obtain ⟨rfl, rfl⟩ := h
    simp [binOp, Op.intArith, Op.intBits, Op.intCmp, Value.oneCell']

theorem run_equal_bool {P : Program} {t : TypeId} (hu : P.underlying t = some .bool) (x y : Bool) (w : World) : (Op.equal t (.bool x) (.bool y)).run P w = .ok (x == y) w := by
  show (Op.equalIn (9999 + 1) t (.bool x) (.bool y)).run P w = _
  unfold Op.equalIn
  rw [Sem.run_bind, run_underlying hu]
  rfl

theorem run_sliceBound {P : Program} {k : IntKind} {i : Int} {y : Nat} (h0 : 0 ≤ i) (h1 : i ≤ (y : Int)) (c : BoundsCode) (w : World) :
    (Instr.sliceBound (.int k i) y c).run P w = .ok i.toNat w := by
  have h : 0 ≤ i ∧ i ≤ (y : Int) := ⟨h0, h1⟩
  simp only [Instr.sliceBound, asIntOf, Sem.run_bind, Sem.run_pure, Result.andThen_ok]
  rw [if_pos h]
  rfl

theorem do_binOp (C : CxOk cx) (S : Sim cx.gl.dr w0 G0 N D g a w s) (hgl : GlOk cx.gl w g.G) {op : BinOp} {t u : TypeId} {p q : Operand} (ho : o.op = .binOp op t p q u) {x : SV}
    (hx : acomp cx o.op (cx.ev s) s.ob = some (.val x)) : ∃ v, Does cx.P o a w v w ∧ RepS w g x v := by
  rw [ho] at hx
  simp only [acomp, Option.map_eq_some_iff, Eff.val.injEq, exists_eq_right] at hx
  have hp := S.ev hgl p
  have hq := S.ev hgl q
  unfold abinOp at hx
  split at hx
  · rename_i k n k' n' e1 e2
    rw [e1] at hp; rw [e2] at hq
    have v1 : a.eval p = .int k n := hp.1
    have v2 : a.eval q = .int k' n' := hq.1
    simp only [Option.map_eq_some_iff] at hx
    obtain ⟨v, hv, rfl⟩ := hx
    obtain ⟨h1, h2⟩ := run_abin (P := cx.P) (t := t) hv w
    refine ⟨v, .inl ?_, rfl, h2⟩
    have hg : (eqGuard op t p q (.int k n) (.int k' n')).run cx.P w = .ok () w := by unfold eqGuard; cases op <;> simp
    simp only [execOp, ho, v1, v2, Sem.run_bind, hg, h1, Result.andThen_ok, Sem.run_pure]
  · rename_i s1 s2 e1 e2
    rw [e1] at hp; rw [e2] at hq
    have v1 : a.eval p = .string s1 := hp.1
    have v2 : a.eval q = .string s2 := hq.1
    split at hx
    · cases hx
      exact ⟨_, .inl (by simp [execOp, ho, v1, v2, eqGuard, binOp, Op.stringOp]), rfl, rfl⟩
    · cases hx
      exact ⟨_, .inl (by simp [execOp, ho, v1, v2, eqGuard, binOp, Op.stringOp]), rfl, rfl⟩
    · cases hx
  · rename_i b1 b2 e1 e2
    rw [e1] at hp; rw [e2] at hq
    have v1 : a.eval p = .bool b1 := hp.1
    have v2 : a.eval q = .bool b2 := hq.1
    split at hx
    · rename_i ti hT
      have hu := (C.types _ _ hT).under
      split at hx
      · rename_i hd
        rw [hd] at hu
        cases hx
        have h1 := run_equal_bool hu b1 b2 w
        exact ⟨.bool (b1 == b2), .inl (by simp only [execOp, ho, v1, v2, eqGuard, binOp]; simp [h1]), rfl, rfl⟩
      · rename_i hd
        rw [hd] at hu
        cases hx
        have h1 := run_equal_bool hu b1 b2 w
        exact ⟨.bool (!(b1 == b2)), .inl (by simp only [execOp, ho, v1, v2, eqGuard, binOp]; simp [h1]), rfl, rfl⟩
      · cases hx
    · cases hx
  · rename_i xs ys e1 e2
    rw [e1] at hp; rw [e2] at hq
    obtain ⟨us, v1, l1⟩ := hp
    obtain ⟨vs, v2, l2⟩ := hq
    split at hx
    · rename_i ks hk
      obtain ⟨hg, heq⟩ := C.eqs _ _ hk
      have heq' : ∀ r, cellsEq ks xs ys = some r → (Op.equal t (.agg us) (.agg vs)).run cx.P w = .ok r w := fun r hr => by
        simpa using heq us.toList vs.toList r w (valsEq_of hr l1 l2)
      split at hx
      · simp only [Option.map_eq_some_iff] at hx
        obtain ⟨r, hr, rfl⟩ := hx
        have h1 := heq' r hr
        exact ⟨.bool r, .inl (by simp [execOp, ho, v1, v2, eqGuard, hg, binOp, h1]), rfl, rfl⟩
      · simp only [Option.map_eq_some_iff] at hx
        obtain ⟨r, hr, rfl⟩ := hx
        have h1 := heq' r hr
        exact ⟨.bool !r, .inl (by simp [execOp, ho, v1, v2, eqGuard, hg, binOp, h1]), rfl, rfl⟩
      · cases hx
    · cases hx
  · cases hx

theorem part_rep {P : Program} {t : TypeId} {ti : TI} (h : TOk P t ti) {cs : List C} {ys : Array Value} {off : Nat} {x : SV} (hx : loaded ti (cs.drop off) = some x) (hl : RepL w g.G cs ys.toList) :
    ∃ v, (part t ys off).run P w = .ok v w ∧ RepS w g x v := by
  unfold loaded at hx
  split at hx
  · rename_i ha
    split at hx
    · rename_i hs
      cases hx
      refine ⟨_, by simp [part, run_isAgg h, ha, run_sizeOf h]; rfl, _, rfl, ?_⟩
      have := (hl.drop off).take ti.size
      have e : (ys.extract off (off + ti.size)).toList = (ys.toList.drop off).take ti.size := by
        simp [Array.toList_extract, List.extract_eq_take_drop]
      rw [e]; exact this
    · cases hx
  · rename_i ha
    split at hx
    · rename_i c r hc
      cases hx
      have ha' : ti.agg = false := by simpa using ha
      obtain ⟨y, hy, hr⟩ := hl.get (k := off) (c := c) (by
        have : (cs.drop off)[0]? = some c := by rw [hc]; rfl
        simpa using this)
      have hy' : ys[off]? = some y := by simpa using hy
      exact ⟨y, by simp [part, run_isAgg h, ha', hy'], hr⟩
    · cases hx

theorem do_field (C : CxOk cx) (S : Sim cx.gl.dr w0 G0 N D g a w s) (hgl : GlOk cx.gl w g.G) {t : TypeId} {p : Operand} {f : Nat} (ho : o.op = .field t p f) {x : SV}
    (hx : acomp cx o.op (cx.ev s) s.ob = some (.val x)) : ∃ v, Does cx.P o a w v w ∧ RepS w g x v := by
  rw [ho] at hx
  simp only [acomp] at hx
  have hp := S.ev hgl p
  split at hx
  · rename_i ti hT
    have hu := (C.types _ _ hT).under
    split at hx
    · rename_i fs hd
      rw [hd] at hu
      split at hx
      · rename_i fd hfd
        split at hx
        · rename_i tf hTf
          split at hx
          · rename_i cs e
            rw [e] at hp
            obtain ⟨ys, hv, hl⟩ := hp
            simp only [Option.map_eq_some_iff, Eff.val.injEq, exists_eq_right] at hx
            obtain ⟨v, hrun, hr⟩ := part_rep (C.types _ _ hTf) hx hl
            exact ⟨v, .inl (by simp [execOp, ho, hv, Instr.field, run_underlying hu, hfd, asAgg, hrun]), hr⟩
          · cases hx
        · cases hx
      · cases hx
    · cases hx
  · cases hx

theorem RepC_sl {w : World} {G : Good} {n : Nat} {cs : List C} {v : Value} (h : RepC w G (.sl n cs) v) :
    ∃ a cap, v = .slice a n cap ∧ n ≤ cap ∧ (cs = [] ∨ ∃ b o, a = some ⟨b, o, none⟩ ∧ RepM w G cs b o) := by simpa only [RepC] using h

theorem do_indexAddr (C : CxOk cx) (S : Sim cx.gl.dr w0 G0 N D g a w s) (hgl : GlOk cx.gl w g.G) {t : TypeId} {p q : Operand} (ho : o.op = .indexAddr t p q) {x : SV}
    (hx : acomp cx o.op (cx.ev s) s.ob = some (.val x)) : ∃ v, Does cx.P o a w v w ∧ RepS w g x v := by
  rw [ho] at hx
  simp only [acomp] at hx
  have hp := S.ev hgl p
  have hq := S.ev hgl q
  split at hx
  · rename_i ti hT
    have hu := (C.types _ _ hT).under
    split at hx
    · rename_i k i e
      rw [e] at hq
      have hv2 : a.eval q = .int k i := hq.1
      split at hx
      · rename_i el hd
        rw [hd] at hu
        split at hx
        · rename_i te hTe
          split at hx
          · rename_i n cs hs
            split at hx
            · rename_i hc
              obtain ⟨h0, h1, h2, h3⟩ := hc
              cases hx
              obtain ⟨ad, cap, hv, hcap, hm⟩ := RepC_sl (sl?_rep hp hs)
              have hlt : i.toNat * te.size < cs.length := by
                have : i.toNat < n := by omega
                exact Nat.lt_of_lt_of_le (Nat.mul_lt_mul_of_pos_right this h3) h2
              rcases hm with rfl | ⟨b, o', rfl, hm⟩
              · simp at hlt
              · refine ⟨_, .inl ?_, b, o' + i.toNat * te.size, rfl, hm.drop _⟩
                simp [execOp, ho, hv, hv2, Instr.indexAt, asIntOf, run_underlying hu, h0, h1, run_sizeOf (C.types _ _ hTe), add_plain]
            · cases hx
          · cases hx
        · cases hx
      · rename_i n el hd
        rw [hd] at hu
        split at hx
        · rename_i te hTe
          split at hx
          · rename_i hc
            obtain ⟨h0, h1⟩ := hc
            simp only [Option.map_eq_some_iff, Eff.val.injEq, exists_eq_right] at hx
            obtain ⟨b, off, hv, hr⟩ := on_rep hp hx
            refine ⟨_, .inl ?_, hr⟩
            simp [execOp, ho, hv, hv2, Instr.indexAt, asIntOf, run_underlying hu, h0, h1, run_sizeOf (C.types _ _ hTe), add_plain, Instr.sureAddr]
          · cases hx
        · cases hx
      · cases hx
    · cases hx
  · cases hx

theorem do_index (C : CxOk cx) (S : Sim cx.gl.dr w0 G0 N D g a w s) (hgl : GlOk cx.gl w g.G) {t : TypeId} {p q : Operand} (ho : o.op = .index t p q) {x : SV}
    (hx : acomp cx o.op (cx.ev s) s.ob = some (.val x)) : ∃ v, Does cx.P o a w v w ∧ RepS w g x v := by
  rw [ho] at hx
  simp only [acomp] at hx
  have hp := S.ev hgl p
  have hq := S.ev hgl q
  split at hx
  · rename_i ti hT
    have hu := (C.types _ _ hT).under
    split at hx
    · rename_i _ _ _ st k i hd e1 e2
      rw [e1] at hp; rw [e2] at hq; rw [hd] at hu
      have v1 : a.eval p = .string st := hp.1
      have v2 : a.eval q = .int k i := hq.1
      split at hx
      · rename_i hc
        obtain ⟨h0, h1⟩ := hc
        cases hx
        have hlt : i.toNat < st.size := by omega
        refine ⟨_, .inl ?_, rfl, rfl⟩
        have hb : st[i.toNat]? = some st[i.toNat] := by simp [hlt]
        have hb2 : bAt st i = (st[i.toNat].toNat : Int) := by
          unfold bAt
          have : st.data.toList.getD i.toNat 0 = st[i.toNat] := by
            have hlt' : i.toNat < st.data.toList.length := by simpa using hlt
            simp only [List.getD, List.getElem?_eq_getElem hlt']
            rfl
          rw [this]
        simp [execOp, ho, v1, v2, Instr.index, asIntOf, run_underlying hu, h0, hb, hb2]
      · cases hx
    · rename_i _ _ _ n el cs k i hd e1 e2
      rw [e1] at hp; rw [e2] at hq; rw [hd] at hu
      obtain ⟨ys, v1, hl⟩ := hp
      have v2 : a.eval q = .int k i := hq.1
      split at hx
      · rename_i te hTe
        split at hx
        · rename_i hc
          obtain ⟨h0, h1⟩ := hc
          simp only [Option.map_eq_some_iff, Eff.val.injEq, exists_eq_right] at hx
          obtain ⟨v, hrun, hr⟩ := part_rep (C.types _ _ hTe) hx hl
          exact ⟨v, .inl (by simp [execOp, ho, v1, v2, Instr.index, asIntOf, run_underlying hu, h0, h1, run_sizeOf (C.types _ _ hTe), hrun]), hr⟩
        · cases hx
      · cases hx
    · cases hx
  · cases hx

theorem evOr_rep (S : Sim cx.gl.dr w0 G0 N D g a w s) (hgl : GlOk cx.gl w g.G) {x : Option Operand} {n l : Int} {k : IntKind} (h : evOr (cx.ev s) x n = .c (.v (.int k l))) :
    (x = none ∧ l = n) ∨ ∃ y, x = some y ∧ a.eval y = .int k l := by
  cases x with
  | none => simp only [evOr] at h; cases h; exact .inl ⟨rfl, rfl⟩
  | some y =>
    simp only [evOr] at h
    have hy := S.ev hgl y
    rw [h] at hy
    exact .inr ⟨y, rfl, hy.1⟩

theorem do_slice (C : CxOk cx) (S : Sim cx.gl.dr w0 G0 N D g a w s) (hgl : GlOk cx.gl w g.G) {t : TypeId} {p : Operand} {lo hi mx : Option Operand} (ho : o.op = .slice t p lo hi mx) {x : SV}
    (hx : acomp cx o.op (cx.ev s) s.ob = some (.val x)) : ∃ v, Does cx.P o a w v w ∧ RepS w g x v := by
  rw [ho] at hx
  have hp := S.ev hgl p
  cases mx with
  | some m => simp [acomp] at hx
  | none =>
    simp only [acomp] at hx
    split at hx
    · rename_i ti hT
      have hu := (C.types _ _ hT).under
      split at hx
      · rename_i el hd
        rw [hd] at hu
        split at hx
        · rename_i te hTe
          split at hx
          · rename_i n cs hs
            split at hx
            · rename_i k1 l k2 h e1 e2
              split at hx
              · rename_i hc
                obtain ⟨h0, h1, h2⟩ := hc
                cases hx
                obtain ⟨ad, cap, hv, hcap, hm⟩ := RepC_sl (sl?_rep hp hs)
                have hlr : (match lo.map a.eval with | some v => Instr.sliceBound v h.toNat .sliceB | none => pure 0).run cx.P w = .ok l.toNat w := by
                  rcases evOr_rep S hgl e1 with ⟨rfl, rfl⟩ | ⟨y, rfl, hy⟩
                  · simp
                  · have hle : l ≤ (h.toNat : Int) := by omega
                    simp only [Option.map_some, hy]
                    exact run_sliceBound h0 hle _ w
                have hhr : (match hi.map a.eval with | some v => Instr.sliceBound v cap .sliceAcap | none => pure n).run cx.P w = .ok h.toNat w := by
                  rcases evOr_rep S hgl e2 with ⟨rfl, rfl⟩ | ⟨y, rfl, hy⟩
                  · simp
                  · have hle : h ≤ (cap : Int) := by omega
                    have h0' : 0 ≤ h := by omega
                    simp only [Option.map_some, hy]
                    exact run_sliceBound h0' hle _ w
                have hrun : (Instr.sliceBounds true n cap (lo.map a.eval) (hi.map a.eval) none).run cx.P w = .ok (l.toNat, h.toNat, cap) w := by
                  cases lo <;> cases hi <;> simp [Instr.sliceBounds] at hlr hhr ⊢ <;> simp [hlr, hhr]
                refine ⟨_, .inl (by simp [execOp, ho, hv, Instr.sliceAt, Instr.slice, run_underlying hu, hrun, run_sizeOf (C.types _ _ hTe)]; rfl), ?_⟩
                simp only [RepS, RepC]
                refine ⟨_, _, rfl, by omega, ?_⟩
                rcases hm with rfl | ⟨b, o', rfl, hm⟩
                · left; simp
                · by_cases hcl : cap = l.toNat
                  · left
                    have : h.toNat - l.toNat = 0 := by omega
                    simp [this]
                  · right
                    refine ⟨b, o' + l.toNat * te.size, by simp [hcl, add_plain], (hm.drop _).take _⟩
              · cases hx
            · cases hx
          · cases hx
        · cases hx
      · cases hx
    · cases hx

end
end Go.Proofs.YtilhjiopbbbgmaaDoor.Am

/- The abstract machine, part H: structs and slices made out of parts; the operations that make or write memory. -/
namespace Go.Proofs.YtilhjiopbbbgmaaDoor.Am
open Go Go.RowKit
set_option linter.unusedVariables false
set_option linter.unusedSimpArgs false

theorem foldl_set (off : Nat) : ∀ (vs : List Value) (k : Nat) (cs : Array Value), off + k + vs.length ≤ cs.size →
    ((vs.zipIdx k).foldl (fun (cs : Array Value) (x : Value × Nat) => cs.setIfInBounds (off + x.2) x.1) cs).toList = cs.toList.take (off + k) ++ (vs ++ cs.toList.drop (off + k + vs.length))
  | [], k, cs, _ => by simp
  | v :: vs, k, cs, h => by
    simp only [List.length_cons] at h
    rw [List.zipIdx_cons, List.foldl_cons, foldl_set off vs (k + 1) _ (by simp; omega)]
    have hlt : off + k < cs.toList.length := by simp; omega
    simp only [Array.toList_setIfInBounds]
    apply List.ext_getElem?
    intro j
    simp only [List.getElem?_append, List.length_take, List.getElem?_take, List.getElem?_set, List.length_set, List.getElem?_drop, List.length_cons, List.getElem?_cons]
    have e1 : min (off + (k + 1)) cs.toList.length = off + k + 1 := by omega
    have e2 : min (off + k) cs.toList.length = off + k := by omega
    rw [e1, e2]
    by_cases h1 : j < off + k
    · simp [h1, show j < off + k + 1 by omega, show ¬ off + k = j by omega, show j < off + (k + 1) by omega]
    · by_cases h2 : j = off + k
      · subst h2
        have hlt' : off + k < cs.size := by simpa using hlt
        simp [show off + k < off + (k + 1) by omega, hlt']
      · have h3 : ¬ j < off + k + 1 := by omega
        simp only [h3, h1, if_false]
        obtain ⟨m, rfl⟩ : ∃ m, j = off + k + 1 + m := ⟨j - (off + k + 1), by omega⟩
        have e3 : off + k + 1 + m - (off + k + 1) = m := by omega
        have e4 : off + k + 1 + m - (off + k) = m + 1 := by omega
        rw [e3, e4]
        simp only [Nat.add_lt_add_iff_right, Nat.add_eq_zero_iff, Nat.succ_ne_self, and_false, if_false, Nat.add_sub_cancel]
        by_cases h4 : m < vs.length
        · simp [h4]
        · simp only [h4, if_false]
          have : ¬ off + k = off + (k + 1) + vs.length + (m - vs.length) := by omega
          rw [if_neg this]
          congr 1
          omega

section
variable {cx : Cx} {w0 : World} {G0 : Good} {N : Nat} {D : Nat → Prop} {w : World} {g : Gh} {a : Act} {s : AF} {o : Oper}

theorem fill_rep {place : Nat → Option (Nat × Nat)} : ∀ {ps : List (Nat × SV)} {qs : List (Nat × Value)} {cells cs : List C} {ys : Array Value},
    (ps.map (·.1) = qs.map (·.1)) → (∀ (i : Nat) (x : Nat × SV) (v : Nat × Value), ps[i]? = some x → qs[i]? = some v → RepS w g x.2 v.2) →
    RepL w g.G cells ys.toList → afill place cells ps = some cs → ∃ zs, Instr.fill place ys qs = some zs ∧ RepL w g.G cs zs.toList ∧ cs.length = cells.length
  | [], [], cells, cs, ys, _, _, hl, h => by
    simp only [afill, Option.some.injEq] at h
    subst h
    exact ⟨ys, rfl, hl, rfl⟩
  | [], _ :: _, _, _, _, h, _, _, _ => by simp at h
  | _ :: _, [], _, _, _, h, _, _, _ => by simp at h
  | (i, x) :: ps, (j, v) :: qs, cells, cs, ys, hi, hr, hl, h => by
    simp only [List.map_cons, List.cons.injEq] at hi
    obtain ⟨hij, hi⟩ := hi
    subst hij
    have hx := hr 0 (i, x) (i, v) rfl rfl
    simp only [afill] at h
    split at h
    · rename_i off size us hp hc
      split at h
      · rename_i hsz
        obtain ⟨h1, h2⟩ := hsz
        have hu := cells?_rep hx hc
        have hlen := hu.length
        have hys := hl.length
        have hvs : v.cells.size = size := by rw [← h1, hlen]; simp
        have hset := foldl_set off v.cells.toList 0 ys (by simp only [Array.length_toList] at hys ⊢; omega)
        simp only [Nat.add_zero, Array.length_toList, hvs] at hset
        have hfold : (v.cells.zipIdx.foldl (fun (cs : Array Value) (x : Value × Nat) => cs.setIfInBounds (off + x.2) x.1) ys) =
            (v.cells.toList.zipIdx.foldl (fun (cs : Array Value) (x : Value × Nat) => cs.setIfInBounds (off + x.2) x.1) ys) := by
          rw [← Array.foldl_toList, Array.toList_zipIdx]
        have hl' : RepL w g.G (cells.take off ++ (us ++ cells.drop (off + size)))
            (v.cells.zipIdx.foldl (fun (cs : Array Value) (x : Value × Nat) => cs.setIfInBounds (off + x.2) x.1) ys).toList := by
          rw [hfold, hset]
          exact (hl.take off).append (hu.append (hl.drop (off + size)))
        obtain ⟨zs, hz, hlz, hlen'⟩ := fill_rep hi (fun k x' v' h1 h2 => hr (k + 1) x' v' (by simpa using h1) (by simpa using h2)) hl' h
        refine ⟨zs, ?_, hlz, ?_⟩
        · simp only [Instr.fill, hp]
          rw [if_neg (by simp only [Array.length_toList] at hys; simp [hvs]; omega)]
          exact hz
        · rw [hlen']
          simp only [List.length_append, List.length_take, List.length_drop]
          omega
      · cases h
    · cases h

theorem parts_rep (S : Sim cx.gl.dr w0 G0 N D g a w s) (hgl : GlOk cx.gl w g.G) (ps : Array (Nat × Operand)) :
    ((ps.toList.map fun p => (p.1, cx.ev s p.2)).map (·.1) = (ps.toList.map fun p => (p.1, a.eval p.2)).map (·.1)) ∧
    ∀ (i : Nat) (x : Nat × SV) (v : Nat × Value), (ps.toList.map fun p => (p.1, cx.ev s p.2))[i]? = some x → (ps.toList.map fun p => (p.1, a.eval p.2))[i]? = some v → RepS w g x.2 v.2 := by
  constructor
  · simp
  · intro i x v h1 h2
    simp only [List.getElem?_map, Option.map_eq_some_iff] at h1 h2
    obtain ⟨p, hp, rfl⟩ := h1
    obtain ⟨q, hq, rfl⟩ := h2
    rw [hp] at hq; cases hq
    exact S.ev hgl _

theorem zero_rep {P : Program} {t : TypeId} {ti : TI} (h : TOk P t ti) (w : World) (G : Good) :
    ∃ z, (zeroValue t).run P w = .ok z w ∧ RepL w G ti.zero z.cells.toList ∧ z.cells.size = ti.size ∧ ti.zero.length = ti.size := by
  obtain ⟨i, z, h1, h2, h3, h4, h5, h6, h7⟩ := h.info
  refine ⟨z, by simp [zeroValue, typeInfo, h1, h4], ?_, h6, ?_⟩
  · rw [← h5]; exact cellsOf_rep _ h7
  · rw [← h5]; simpa using h6

theorem run_places {P : Program} (fs : List Field) (w : World) (h : ∀ f ∈ fs, ∃ i, P.info? f.type = some i) :
    (fs.mapM (m := Sem) fun f => do pure (f.offset, ← sizeOf f.type)).run P w = .ok (fs.map fun f => (f.offset, ((P.info? f.type).map (·.size)).getD 0)) w := by
  induction fs with
  | nil => simp
  | cons f fs ih =>
    obtain ⟨i, hi⟩ := h f (by simp)
    have hs : (sizeOf f.type).run P w = .ok i.size w := by simp [sizeOf, typeInfo, hi]
    have ih' := ih (fun f' hf' => h f' (by simp [hf']))
    rw [List.mapM_cons]
    simp only [Sem.run_bind, hs, Result.andThen_ok, Sem.run_pure, ih', List.map_cons, hi, Option.map_some, Option.getD_some]

theorem fill_congr {p q : Nat → Option (Nat × Nat)} : ∀ (qs : List (Nat × Value)) (ys : Array Value), (∀ x ∈ qs, p x.1 = q x.1) → Instr.fill p ys qs = Instr.fill q ys qs
  | [], _, _ => rfl
  | (i, v) :: qs, ys, h => by
    have h0 := h (i, v) (by simp)
    simp only at h0
    simp only [Instr.fill, h0]
    split
    · rfl
    · split
      · rfl
      · exact fill_congr qs _ (fun x hx => h x (by simp [hx]))

theorem afill_place {place : Nat → Option (Nat × Nat)} : ∀ {ps : List (Nat × SV)} {cells cs : List C}, afill place cells ps = some cs → ∀ x ∈ ps, (place x.1).isSome = true
  | [], _, _, _ => by simp
  | (i, x) :: ps, cells, cs, h => by
    simp only [afill] at h
    split at h
    · rename_i off size us hp hc
      split at h
      · intro y hy
        rcases List.mem_cons.1 hy with rfl | hy
        · simp [hp]
        · exact afill_place h y hy
      · cases h
    · cases h

theorem do_build (C : CxOk cx) (S : Sim cx.gl.dr w0 G0 N D g a w s) (hgl : GlOk cx.gl w g.G) {t : TypeId} {ps : Array (Nat × Operand)} (ho : o.op = .build t ps) {x : SV}
    (hx : acomp cx o.op (cx.ev s) s.ob = some (.val x)) : ∃ v, Does cx.P o a w v w ∧ RepS w g x v := by
  rw [ho] at hx
  simp only [acomp] at hx
  obtain ⟨p1, p2⟩ := parts_rep (cx := cx) S hgl ps
  split at hx
  · rename_i ti hT
    have hok := C.types _ _ hT
    have hu := hok.under
    obtain ⟨z, hz, hzl, hzs, _⟩ := zero_rep hok w g.G
    split at hx
    · rename_i fs hd
      rw [hd] at hu
      simp only [Option.map_eq_some_iff, Eff.val.injEq] at hx
      obtain ⟨cs, hcs, rfl⟩ := hx
      obtain ⟨zs, hf, hl, _⟩ := fill_rep p1 p2 hzl hcs
      have hpl := run_places fs.toList w (hok.fields fs hd)
      refine ⟨.agg zs, .inl ?_, zs, rfl, hl⟩
      have hpl' : (fs.mapM (m := Sem) fun f => do pure (f.offset, ← sizeOf f.type)).run cx.P w = .ok (fs.map fun f => (f.offset, ((cx.P.info? f.type).map (·.size)).getD 0)) w := by
        rw [Array.mapM_eq_mapM_toList]
        simp only [Functor.map, Sem.run_bind'] at hpl ⊢
        rw [hpl]
        simp only [Result.andThen_ok]
        refine congrArg (fun z => Result.ok z w) ?_
        apply Array.ext'
        simp
      have hfc : Instr.fill (fun i => (fs.map fun f => (f.offset, ((cx.P.info? f.type).map (·.size)).getD 0))[i]?) z.cells (ps.toList.map fun p => (p.1, a.eval p.2)) = some zs := by
        rw [← hf]
        refine fill_congr _ _ (fun y hy => ?_)
        obtain ⟨q, hq, rfl⟩ := List.mem_map.1 hy
        have hsome := afill_place hcs (q.1, cx.ev s q.2) (List.mem_map.2 ⟨q, hq, rfl⟩)
        simp only [Cx.place] at hsome ⊢
        cases hfd : fs[q.1]? with
        | none => rw [hfd] at hsome; simp at hsome
        | some fd =>
          rw [hfd] at hsome
          simp only [Option.isSome_map] at hsome
          obtain ⟨tf, hTf⟩ := Option.isSome_iff_exists.1 hsome
          obtain ⟨i, z', h1, h2, _⟩ := (C.types _ _ hTf).info
          simp [hfd, hTf, h1, h2]
      have hparts : (ps.map fun x => (x.1, a.eval x.2)).toList = ps.toList.map fun p => (p.1, a.eval p.2) := by simp
      simp only [execOp, ho, Instr.build, Sem.run_bind, hz, Result.andThen_ok, run_underlying hu, hpl', Sem.run_pure]
      rw [hparts, hfc]
      rfl
    · rename_i n el hd
      rw [hd] at hu
      split at hx
      · rename_i te hTe
        simp only [Option.map_eq_some_iff, Eff.val.injEq] at hx
        obtain ⟨cs, hcs, rfl⟩ := hx
        obtain ⟨zs, hf, hl, _⟩ := fill_rep p1 p2 hzl hcs
        refine ⟨.agg zs, .inl ?_, zs, rfl, hl⟩
        have hparts : (ps.map fun x => (x.1, a.eval x.2)).toList = ps.toList.map fun p => (p.1, a.eval p.2) := by simp
        simp only [execOp, ho, Instr.build, Sem.run_bind, hz, Result.andThen_ok, run_underlying hu, Sem.run_pure, run_sizeOf (C.types _ _ hTe)]
        rw [hparts, hf]
        rfl
      · cases hx
    · cases hx
  · cases hx

end
end Go.Proofs.YtilhjiopbbbgmaaDoor.Am

/- The abstract machine, part I: the operations that make or write memory; every operation. -/
namespace Go.Proofs.YtilhjiopbbbgmaaDoor.Am
open Go Go.RowKit
set_option linter.unusedVariables false
set_option linter.unusedSimpArgs false

section
variable {cx : Cx} {w0 : World} {G0 : Good} {N : Nat} {D : Nat → Prop} {w : World} {g : Gh} {a : Act} {s : AF} {o : Oper}

theorem run_resolve_builtin {P : Program} {ρ : Operand → Value} {b : Builtin} {args : Array Operand} {ts : Array TypeId} {o : Oper} (ho : o.op = .call ⟨.builtin b, args, ts⟩) (w : World)
    {v : Value} {w' : World} (h : (builtin b ts o.type (args.map fun | .const _ => true | _ => false) (args.map ρ)).run P w = .ok (.value v) w') : (execOp ρ o).run P w = .ok (.value v) w' := by
  simp only [execOp, ho, resolve, Sem.run_bind, Sem.run_pure, Result.andThen_ok, invoke]
  exact h

theorem args_one {args : Array Operand} {ev : Operand → SV} {x : SV} (h : args.toList.map ev = [x]) : ∃ p, args = #[p] ∧ ev p = x := by
  obtain ⟨l⟩ := args
  match l, h with
  | [p], h => simp at h; exact ⟨p, rfl, h⟩

theorem args_two {args : Array Operand} {ev : Operand → SV} {x y : SV} (h : args.toList.map ev = [x, y]) : ∃ p q, args = #[p, q] ∧ ev p = x ∧ ev q = y := by
  obtain ⟨l⟩ := args
  match l, h with
  | [p, q], h => simp at h; exact ⟨p, q, rfl, h.1, h.2⟩

theorem do_builtin (X : CxOk cx) (S : Sim cx.gl.dr w0 G0 N D g a w s) (hgl : GlOk cx.gl w g.G) {b : Builtin} {args : Array Operand} {ts : Array TypeId} (ho : o.op = .call ⟨.builtin b, args, ts⟩) {x : SV}
    (hx : abuiltin cx b ts (args.toList.map (cx.ev s)) s.ob = some (.val x)) : ∃ v, Does cx.P o a w v w ∧ RepS w g x v := by
  unfold abuiltin at hx
  split at hx
  · rename_i y hargs
    obtain ⟨p, rfl, hp⟩ := args_one hargs
    have hv := S.ev hgl p
    rw [hp] at hv
    split at hx
    · rename_i t ht
      split at hx
      · rename_i ti hT
        have hu := (X.types _ _ hT).under
        split at hx
        · rename_i e hd
          rw [hd] at hu
          simp only [Option.map_eq_some_iff, Eff.val.injEq] at hx
          obtain ⟨⟨n, cs⟩, hs, rfl⟩ := hx
          obtain ⟨ad, cap, e, _⟩ := RepC_sl (sl?_rep hv hs)
          exact ⟨_, .inl (run_resolve_builtin ho w (by simp [builtin, Builtin.len_, ht, run_underlying hu, e, goInt])), rfl, rfl⟩
        · rename_i hd
          rw [hd] at hu
          split at hx
          · rename_i st
            cases hx
            have e : a.eval p = .string st := hv.1
            exact ⟨_, .inl (run_resolve_builtin ho w (by simp [builtin, Builtin.len_, ht, run_underlying hu, e, goInt])), rfl, rfl⟩
          · cases hx
        · rename_i n e hd
          rw [hd] at hu
          cases hx
          exact ⟨_, .inl (run_resolve_builtin ho w (by simp [builtin, Builtin.len_, ht, run_underlying hu, goInt])), rfl, rfl⟩
        · cases hx
      · cases hx
    · cases hx
  · rename_i k n k' m hargs
    obtain ⟨p, q, rfl, hp, hq⟩ := args_two hargs
    have v1 := S.ev hgl p
    have v2 := S.ev hgl q
    rw [hp] at v1; rw [hq] at v2
    have e1 : a.eval p = .int k n := v1.1
    have e2 : a.eval q = .int k' m := v2.1
    split at hx
    · rename_i hk
      cases hx
      exact ⟨_, .inl (run_resolve_builtin ho w (by simp [builtin, Builtin.min_, Builtin.min2, e1, e2])), rfl, rfl⟩
    · cases hx
  · rename_i k n k' m hargs
    obtain ⟨p, q, rfl, hp, hq⟩ := args_two hargs
    have v1 := S.ev hgl p
    have v2 := S.ev hgl q
    rw [hp] at v1; rw [hq] at v2
    have e1 : a.eval p = .int k n := v1.1
    have e2 : a.eval q = .int k' m := v2.1
    split at hx
    · rename_i hk
      cases hx
      exact ⟨_, .inl (run_resolve_builtin ho w (by simp [builtin, Builtin.max_, Builtin.max2, e1, e2])), rfl, rfl⟩
    · cases hx
  · repeat' split at hx
    all_goals cases hx
  · cases hx

/-- All that hand over a value, and leave the world. -/
theorem do_val (X : CxOk cx) (S : Sim cx.gl.dr w0 G0 N D g a w s) (hgl : GlOk cx.gl w g.G) {x : SV} (hx : acomp cx o.op (cx.ev s) s.ob = some (.val x)) :
    ∃ v, Does cx.P o a w v w ∧ RepS w g x v := by
  cases hop : o.op with
  | move p => rw [hop] at hx; simp only [acomp, Option.some.injEq, Eff.val.injEq] at hx; subst hx; exact do_move S hgl (.inl hop)
  | assign p => rw [hop] at hx; simp only [acomp, Option.some.injEq, Eff.val.injEq] at hx; subst hx; exact do_move S hgl (.inr hop)
  | pick c p q =>
    rw [hop] at hx
    simp only [acomp] at hx
    split at hx
    · rename_i t hc
      cases hx
      exact do_pick S hgl hop hc
    · cases hx
  | load t p => exact do_load X S hgl hop hx
  | nilCheck p => exact do_nilCheck S hgl hop hx
  | unOp op t p => exact do_unOp S hgl hop hx
  | convert t u p => exact do_convert X S hgl hop hx
  | extract p i => exact do_extract S hgl hop hx
  | fieldAddr t p f => exact do_fieldAddr X S hgl hop hx
  | field t p f => exact do_field X S hgl hop hx
  | indexAddr t p q => exact do_indexAddr X S hgl hop hx
  | index t p q => exact do_index X S hgl hop hx
  | slice t p lo hi mx => exact do_slice X S hgl hop hx
  | binOp op t p q u => exact do_binOp X S hgl hop hx
  | build t ps => exact do_build X S hgl hop hx
  | call c =>
    obtain ⟨callee, args, ts⟩ := c
    cases callee with
    | builtin b => rw [hop] at hx; simp only [acomp] at hx; exact do_builtin X S hgl hop hx
    | value f => rw [hop] at hx; simp [acomp] at hx
    | invoke r m => rw [hop] at hx; simp [acomp] at hx
  | _ =>
    rw [hop] at hx
    simp only [acomp] at hx
    repeat' split at hx
    all_goals first | cases hx | (simp at hx; done)

theorem Does.alloc {P : Program} {elem : TypeId} {ti : TI} (h : TOk P elem ti) (ho : o.op = .alloc elem) (G : Good) :
    ∃ z : Value, Does P o a w (.pointer (some ⟨w.heap.size, 0, none⟩)) (w.alloc (.cells z.cells elem)) ∧ RepL w G ti.zero z.cells.toList := by
  obtain ⟨z, hz, hl, _⟩ := zero_rep h w G
  exact ⟨z, .inl (by simp [execOp, ho, Instr.alloc, hz, newVar, newRow]), hl⟩

theorem Does.box {P : Program} {elem : TypeId} {x : Operand} (ho : o.op = .box elem x) :
    Does P o a w (.pointer (some ⟨w.heap.size, 0, none⟩)) (w.alloc (.cells (a.eval x).cells elem)) :=
  .inl (by simp [execOp, ho, Instr.box, newVar, newRow])

/-- A box made. -/
theorem do_new (X : CxOk cx) (S : Sim cx.gl.dr w0 G0 N D g a w s) (hgl : GlOk cx.gl w g.G) {cs : List C} (hx : acomp cx o.op (cx.ev s) s.ob = some (.new cs)) :
    ∃ (ys : Array Value) (el : TypeId), Does cx.P o a w (.pointer (some ⟨w.heap.size, 0, none⟩)) (w.alloc (.cells ys el)) ∧ RepL w g.G cs ys.toList := by
  cases hop : o.op with
  | alloc t =>
    rw [hop] at hx
    simp only [acomp, Option.map_eq_some_iff, Eff.new.injEq] at hx
    obtain ⟨ti, hT, rfl⟩ := hx
    obtain ⟨z, h1, h2⟩ := Does.alloc (w := w) (a := a) (X.types _ _ hT) hop g.G
    exact ⟨_, _, h1, h2⟩
  | box t p =>
    rw [hop] at hx
    simp only [acomp] at hx
    split at hx
    · split at hx
      · rename_i vs hc
        cases hx
        exact ⟨_, _, Does.box hop, cells?_rep (S.ev hgl p) hc⟩
      · cases hx
    · cases hx
  | slice t p lo hi mx =>
    rw [hop] at hx
    cases mx with
    | some m => simp [acomp] at hx
    | none =>
      simp only [acomp] at hx
      repeat' split at hx
      all_goals first | cases hx | (simp at hx; done)
  | call c =>
    rw [hop] at hx
    simp only [acomp] at hx
    split at hx
    · rename_i b
      unfold abuiltin at hx
      repeat' split at hx
      all_goals first | cases hx | (simp at hx; done)
    · cases hx
  | _ =>
    rw [hop] at hx
    simp only [acomp] at hx
    repeat' split at hx
    all_goals first | cases hx | (simp at hx; done)

/-- A box written. -/
theorem do_set (X : CxOk cx) (S : Sim cx.gl.dr w0 G0 N D g a w s) (hgl : GlOk cx.gl w g.G) {d t : Nat} {cs : List C} (hx : acomp cx o.op (cx.ev s) s.ob = some (.set d t cs)) :
    ∃ (b : Nat) (zs ys : Array Value) (el : TypeId), Does cx.P o a w undef (w.setRow b ys) ∧ g.β d t = some b ∧ w.heap[b]? = some (.cells zs el (0, 0)) ∧ RepL w g.G cs ys.toList := by
  cases hop : o.op with
  | store ty p q =>
    rw [hop] at hx
    simp only [acomp] at hx
    have hp := S.ev hgl p
    have hq := S.ev hgl q
    split at hx
    · rename_i ti hT
      split at hx
      · rename_i d' t' off e
        rw [e] at hp
        obtain ⟨b, hb, hv⟩ := hp
        split at hx
        · rename_i cs0 hob
          split at hx
          · rename_i vs hc
            split at hx
            · rename_i hsz
              obtain ⟨h1, h2⟩ := hsz
              simp only [Option.some.injEq, Eff.set.injEq] at hx
              obtain ⟨rfl, rfl, rfl⟩ := hx
              obtain ⟨b', zs, el, hb', hy, hl⟩ := S.boxes _ _ _ hob
              rw [hb] at hb'; cases hb'
              have hu := cells?_rep hq hc
              have hlen := hu.length
              have hlz := hl.length
              have hst := run_storeCells_at cx.P b off el (a.eval q).cells.toList 0 zs w hy (by simp only [Array.length_toList] at hlz hlen ⊢; omega) hu.one
              simp only [Nat.add_zero] at hst
              refine ⟨b, zs, (zs.toList.take off ++ (a.eval q).cells.toList ++ zs.toList.drop (off + (a.eval q).cells.toList.length)).toArray, el, .inr ⟨?_, rfl⟩, hb, hy, ?_⟩
              rotate_left
              · have := (hl.take off).append (hu.append (hl.drop (off + vs.length)))
                rw [← hlen]
                simpa using this
              · have hsize : (a.eval q).cells.size = ti.size := by rw [← h1, hlen]; simp
                have hs1 := run_sizeOf (X.types _ _ hT) w
                simp only [execOp, hop, hv, Instr.storeAt, Instr.sureAddr, storeVar, Sem.run_bind, Sem.run_pure, Result.andThen_ok, hs1]
                rw [if_neg (by simp [hsize])]
                simp [hst]
            · cases hx
          · cases hx
        · cases hx
      · cases hx
    · cases hx
  | slice t p lo hi mx =>
    rw [hop] at hx
    cases mx with
    | some m => simp [acomp] at hx
    | none =>
      simp only [acomp] at hx
      repeat' split at hx
      all_goals first | cases hx | (simp at hx; done)
  | call c =>
    rw [hop] at hx
    simp only [acomp] at hx
    split at hx
    · rename_i b
      unfold abuiltin at hx
      repeat' split at hx
      all_goals first | cases hx | (simp at hx; done)
    · cases hx
  | _ =>
    rw [hop] at hx
    simp only [acomp] at hx
    repeat' split at hx
    all_goals first | cases hx | (simp at hx; done)

end
end Go.Proofs.YtilhjiopbbbgmaaDoor.Am

/- The abstract machine, part J: slices made and appended to; one operation, whichever. -/
namespace Go.Proofs.YtilhjiopbbbgmaaDoor.Am
open Go Go.RowKit
set_option linter.unusedVariables false
set_option linter.unusedSimpArgs false

theorem range_rep (l : List Value) (hl : 0 < l.length) : ∀ n, (List.range (n * l.length)).map (fun i => l[i % l.length]!) = (List.replicate n l).flatten
  | 0 => by simp
  | n + 1 => by
    rw [List.replicate_succ', List.flatten_append, ← range_rep l hl n, Nat.add_mul, Nat.one_mul, List.range_add, List.map_append]
    congr 1
    simp only [List.map_map, List.flatten_cons, List.flatten_nil, List.append_nil]
    apply List.ext_getElem?
    intro i
    by_cases hi : i < l.length
    · simp [hi, Nat.mod_eq_of_lt hi, Nat.add_mod, Nat.mul_mod_left]
    · simp [hi]

section
variable {cx : Cx} {w0 : World} {G0 : Good} {N : Nat} {D : Nat → Prop} {w : World} {g : Gh} {a : Act} {s : AF} {o : Oper}

theorem RepL.flatten {w : World} {G : Good} {cs : List C} {ys : List Value} (h : RepL w G cs ys) : ∀ n, RepL w G (List.replicate n cs).flatten (List.replicate n ys).flatten
  | 0 => by simp [RepL]
  | n + 1 => by simpa [List.replicate_succ] using h.append (RepL.flatten h n)

theorem do_buildSlice (X : CxOk cx) (S : Sim cx.gl.dr w0 G0 N D g a w s) (hgl : GlOk cx.gl w g.G) {t : TypeId} {len : Nat} {ps : Array (Nat × Operand)} (hop : o.op = .buildSlice t len ps)
    {old : Option (Nat × Nat)} {el sz n : Nat} {cs : List C} (hx : acomp cx o.op (cx.ev s) s.ob = some (.app old el sz n cs)) {d : Nat} (hd : D d) :
    ∃ (v : Value) (w' : World) (g' : Gh), Does cx.P o a w v w' ∧ Sim cx.gl.dr w0 G0 N (fun x => D x ∧ x ≠ d) g' a w' { s with ob := updO (kill s.ob old) d s.k (.live el sz) } ∧
      RepS w' g' (.tok d s.k n cs) v := by
  rw [hop] at hx
  simp only [acomp] at hx
  obtain ⟨p1, p2⟩ := parts_rep (cx := cx) S hgl ps
  split at hx
  · rename_i ti hT
    have hu := (X.types _ _ hT).under
    split at hx
    · rename_i e hde
      rw [hde] at hu
      split at hx
      · rename_i te hTe
        have hok := X.types _ _ hTe
        split at hx
        · rename_i hb
          obtain ⟨hb1, hb2⟩ := hb
          simp only [Option.map_eq_some_iff, Eff.app.injEq] at hx
          obtain ⟨cs', hcs, rfl, rfl, rfl, rfl, rfl⟩ := hx
          obtain ⟨z, hz, hzl, hzs, hzlen⟩ := zero_rep hok w g.G
          have hstart : ∃ q : Array Value, ((if len * te.size = 0 then pure #[] else (zeroValue e >>= fun z => pure z.cells)) : Sem (Array Value)).run cx.P w = .ok q w ∧
              RepL w g.G (List.replicate len te.zero).flatten ((Array.range (len * te.size)).map (fun i => q[i % q.size]!)).toList := by
            by_cases h0 : len * te.size = 0
            · refine ⟨#[], by simp [h0], ?_⟩
              have hnil : (List.replicate len te.zero).flatten = [] := List.eq_nil_of_length_eq_zero (by simp [hzlen, h0])
              rw [hnil, h0]; simp [RepL]
            · refine ⟨z.cells, by rw [if_neg h0]; simp only [Sem.run_bind, hz, Result.andThen_ok, Sem.run_pure], ?_⟩
              have hpos : 0 < te.size := Nat.pos_of_ne_zero (fun h => h0 (by simp [h]))
              have hr := range_rep z.cells.toList (by simp [hzs, hpos]) len
              have e1 : ((Array.range (len * te.size)).map (fun i => z.cells[i % z.cells.size]!)).toList = (List.replicate len z.cells.toList).flatten := by
                rw [← hr]
                simp [hzs]
                intro i _
                rw [getElem!_def]
                cases z.cells[i % te.size]? <;> rfl
              rw [e1]
              exact hzl.flatten len
          obtain ⟨q, hq, hyl⟩ := hstart
          obtain ⟨zs, hf, hl, hlen⟩ := fill_rep p1 p2 hyl hcs
          have hzsize : zs.size = len * te.size := by
            have h1 := hl.length
            rw [hlen] at h1
            simp [hzlen] at h1
            omega
          have hown : (w.alloc (.cells zs e)).ownsRow w0.heap.size e te.size (.slice (some ⟨w.heap.size, 0, none⟩) len len) len zs.toList :=
            ⟨by simpa using hzsize, .inr ⟨w.heap.size, len, zs, rfl, S.below.size, alloc_new w _, Nat.le_refl _, hb2, hzsize, by rw [← hzsize, ← Array.length_toList]; exact List.take_length⟩⟩
          obtain ⟨g', S', _, hr⟩ := S.newTok hd none (fun _ _ h => by cases h) (w' := w.alloc (.cells zs e)) none rfl rfl rfl (fun _ => Nat.le_refl _) (by simp) (fun b hb _ => alloc_old w _ hb)
            (fun _ h => by cases h) (fun _ h => by cases h) hown (fun b hb => .inl (by cases hb; exact Nat.le_refl _)) hl
          refine ⟨_, _, g', .inl ?_, S', hr⟩
          have hparts : (ps.map fun x => (x.1, a.eval x.2)).toList = ps.toList.map fun p => (p.1, a.eval p.2) := by simp
          have hnb : ¬ (len * te.size > 2 ^ 24) := by omega
          simp only [execOp, hop, Instr.buildSlice, Sem.run_bind, run_underlying hu, Result.andThen_ok, run_sizeOf hok, if_neg hnb, Sem.run_pure]
          by_cases h0 : len * te.size = 0
          · rw [if_pos h0] at hq
            cases hq
            rw [if_pos h0]
            simp only [Sem.run_bind, Sem.run_pure, Result.andThen_ok, hparts, hf]
            rfl
          · rw [if_neg h0] at hq
            simp only [Sem.run_bind, hz, Result.andThen_ok, Sem.run_pure] at hq
            cases hq
            rw [if_neg h0]
            simp only [Sem.run_bind, hz, Sem.run_pure, Result.andThen_ok, hparts, hf]
            rfl
        · cases hx
      · cases hx
    · cases hx
  · cases hx

theorem list_same {xs zs : List Value} (hlen : xs.length = zs.length) (h : ∀ (j : Nat) (u v : Value), xs[j]? = some u → zs[j]? = some v → u = v) : xs = zs := by
  apply List.ext_getElem?
  intro j
  by_cases hj : j < xs.length
  · rw [List.getElem?_eq_getElem hj, List.getElem?_eq_getElem (by omega)]
    congr 1
    exact h j _ _ (List.getElem?_eq_getElem hj) (List.getElem?_eq_getElem (by omega))
  · rw [List.getElem?_eq_none (by omega), List.getElem?_eq_none (by omega)]

theorem do_append (X : CxOk cx) (S : Sim cx.gl.dr w0 G0 N D g a w s) (hgl : GlOk cx.gl w g.G) {b : Builtin} {args : Array Operand} {ts : Array TypeId} (hop : o.op = .call ⟨.builtin b, args, ts⟩)
    {old : Option (Nat × Nat)} {el sz n : Nat} {cs : List C} (hx : abuiltin cx b ts (args.toList.map (cx.ev s)) s.ob = some (.app old el sz n cs)) {d : Nat} (hd : D d) :
    ∃ (v : Value) (w' : World) (g' : Gh), Does cx.P o a w v w' ∧ Sim cx.gl.dr w0 G0 N (fun x => D x ∧ x ≠ d) g' a w' { s with ob := updO (kill s.ob old) d s.k (.live el sz) } ∧
      RepS w' g' (.tok d s.k n cs) v := by
  unfold abuiltin at hx
  split at hx
  · repeat' split at hx
    all_goals first | cases hx | (simp at hx; done)
  · split at hx <;> cases hx
  · split at hx <;> cases hx
  · rename_i y x hargs
    obtain ⟨p, q, rfl, hp, hq⟩ := args_two hargs
    have v1 := S.ev hgl p
    have v2 := S.ev hgl q
    rw [hp] at v1; rw [hq] at v2
    split at hx
    · rename_i t u ht hu
      split at hx
      · rename_i ti ui hT hU
        have hut := (X.types _ _ hT).under
        have huu := (X.types _ _ hU).under
        split at hx
        · rename_i e e2 hd1 hd2
          rw [hd1] at hut; rw [hd2] at huu
          split at hx
          · rename_i te hTe
            have hok := X.types _ _ hTe
            obtain ⟨i, z, hi, hsz, hby, hz, _, hzs, _⟩ := hok.info
            split at hx
            · rename_i m ds hsl
              split at hx
              · rename_i hds
                obtain ⟨hdl, hpos⟩ := hds
                obtain ⟨ax, c, hv2, hmc, hm⟩ := RepC_sl (sl?_rep v2 hsl)
                have hnews : ∃ news : List Value, RepL w g.G ds news ∧ (m = 0 ∨ ∃ a, ax = some a ∧ ∀ j u, news[j]? = some u → w.cell? (a.add j) = some u) := by
                  rcases hm with rfl | ⟨b', o', rfl, hm⟩
                  · refine ⟨[], trivial, .inl ?_⟩
                    have h0 : m * te.size = 0 := by simpa using hdl.symm
                    rcases Nat.mul_eq_zero.1 h0 with h | h
                    · exact h
                    · omega
                  · obtain ⟨news, h1, h2⟩ := hm.vals
                    exact ⟨news, h1, .inr ⟨_, rfl, fun j u hj => by rw [add_plain]; exact h2 j u hj⟩⟩
                obtain ⟨news, hnl, hnews⟩ := hnews
                have hnlen : news.length = m * i.size := by rw [← hnl.length, hdl, hsz]
                -- the target
                have key : ∃ v0 n0 xs cs0, a.eval p = v0 ∧ w.ownsRow w0.heap.size e te.size v0 n0 xs ∧ RepL w g.G cs0 xs ∧ n = n0 + m ∧ cs = cs0 ++ ds ∧ el = e ∧ sz = te.size ∧
                    n0 + m ≤ maxLen ∧ (n0 + m) * te.bytes ≤ 140737488355328 ∧ (∀ i j, old = some (i, j) → ∃ el sz, s.ob i j = .live el sz) ∧
                    (∀ b, v0.ownBlock = some b → ∃ i, old = some i ∧ g.ω b = some i ∧ ∀ j, n0 * te.size ≤ j → ¬ g.G b j) := by
                  split at hx
                  · split at hx
                    · rename_i hb
                      simp only [Option.some.injEq, Eff.app.injEq] at hx
                      obtain ⟨rfl, rfl, rfl, rfl, rfl⟩ := hx
                      exact ⟨_, 0, [], [], v1, World.ownsRow_nil _ _ _ _, trivial, by simp, by simp, rfl, rfl, by omega, by simpa using hb.1, (fun _ _ h => by cases h), (fun _ h => by cases h)⟩
                    · cases hx
                  · rename_i d' t' n0 cs0
                    split at hx
                    · rename_i e' sz' hob
                      split at hx
                      · rename_i hb
                        obtain ⟨rfl, rfl, hcl, hb1, hb2⟩ := hb
                        simp only [Option.some.injEq, Eff.app.injEq] at hx
                        obtain ⟨rfl, rfl, rfl, rfl, rfl⟩ := hx
                        obtain ⟨hrep, hτ⟩ := v1
                        obtain ⟨v0, n1, xs, hτ', hown, hroom⟩ := S.toks _ _ _ _ hob
                        rw [hτ] at hτ'
                        cases hτ'
                        obtain ⟨ad, cap, hv, hnc, hcell⟩ := RepC_sl hrep
                        have hn : n1 = n0 := by
                          rcases hown.2 with ⟨h, rfl⟩ | ⟨gg, cap', cur, h, _⟩ <;> rw [hv] at h <;> cases h <;> rfl
                        subst hn
                        have hxs : RepL w g.G cs0 xs := by
                          rcases hcell with rfl | ⟨b', o', rfl, hm'⟩
                          · have : xs = [] := List.eq_nil_of_length_eq_zero (by rw [hown.1, ← hcl]; rfl)
                            subst this; trivial
                          · obtain ⟨zs, hz1, hz2⟩ := hm'.vals
                            have hb0 : o' = 0 := by
                              rcases hown.2 with ⟨h, _⟩ | ⟨gg, cap', cur, h, _⟩ <;> rw [hv] at h <;> cases h
                              rfl
                            subst hb0
                            have hcells := hown.cells (g := b') (by rw [hv]; rfl)
                            have : xs = zs := list_same (by rw [hown.1, ← hz1.length, hcl]) (fun j u u' h1 h2 => by
                              have := hcells j u h1
                              rw [add_plain] at this
                              rw [hz2 j u' h2] at this
                              exact (Option.some.inj this).symm)
                            rw [this]; exact hz1
                        exact ⟨_, n1, xs, cs0, rfl, hown, hxs, rfl, rfl, rfl, rfl, hb2, hb1, (fun i j h => by cases h; exact ⟨_, _, hob⟩),
                          fun b hb => ⟨_, rfl, (hroom b hb).1, (hroom b hb).2⟩⟩
                      · cases hx
                    · cases hx
                  · cases hx
                obtain ⟨v0, n0, xs, cs0, hv0, hown, hxl, rfl, rfl, rfl, rfl, hb63, hbb, hold, hroom⟩ := key
                rw [← hsz] at hown
                obtain ⟨v', w', hrun, hown', hkind⟩ := run_append2 (ty := o.type) hut huu hi hz (by rw [hzs, hsz]) hown ax m c news hnlen hnews hnl.one hb63 (by rw [hby]; exact hbb) S.below.size
                rw [hsz] at hown hown'
                have hl' : RepL w g.G (cs0 ++ ds) (xs ++ news) := hxl.append hnl
                have hdoes : Does cx.P o a w v' w' := .inl (run_resolve_builtin hop w (by
                  have hrun' : (Builtin.append_ ts o.type #[v0, .slice ax m c]).run cx.P w = .ok v' w' := by
                    rw [← hrun]
                    unfold Builtin.append_
                    simp [ht, hu]
                  simp only [builtin, List.map_toArray, List.map_cons, List.map_nil, Sem.run_bind, hv0, hv2, hrun', Result.andThen_ok, Sem.run_pure]))
                cases hkind with
                | inplace gb cap cur cs1 e1 e2 hg1 hw =>
                  subst hw
                  have hr0 := hroom gb (by rw [e1]; rfl)
                  obtain ⟨i0, ho0, hω0, hG0'⟩ := hr0
                  have hlt := (hown.lt gb (by rw [e1]; rfl))
                  obtain ⟨g', S', _, hr⟩ := S.newTok hd old hold (w' := w.setRow gb cs1) (some gb) rfl rfl rfl (fun _ => Nat.le_refl _) (by simp) (fun b hb hne => setRow_other w gb b _ (fun e => hne (by rw [e])))
                    (fun b hb => by
                      cases hb
                      refine ⟨i0, ho0, hω0, fun o' ho' => ?_, fun o' ho' => hG0' o' (Nat.le_trans (Nat.mul_le_mul_right _ (by omega)) ho')⟩
                      have hlt' : o' < n0 * te.size := Nat.lt_of_not_le (fun h => hG0' o' h ho')
                      have hlx : o' < xs.length := by rw [hown.1]; exact hlt'
                      have h1 := hown.cells (g := gb) (by rw [e1]; rfl) o' xs[o'] (by rw [List.getElem?_eq_getElem])
                      have h2 := hown'.cells (g := gb) (by rw [e2]; rfl) o' xs[o'] (by rw [List.getElem?_append_left hlx, List.getElem?_eq_getElem])
                      rw [add_plain, Nat.zero_add] at h1 h2
                      rw [h1, h2])
                    (fun b hb => by cases hb; exact hlt.1) hown' (fun b hb => .inr (by rw [e2] at hb; exact hb)) hl'
                  exact ⟨_, _, g', hdoes, S', hr⟩
                | same hm0 e1 hw =>
                  subst hw
                  subst e1
                  obtain ⟨g', S', _, hr⟩ := S.newTok hd old hold (w' := w') (v'.ownBlock) rfl rfl rfl (fun _ => Nat.le_refl _) (Nat.le_refl _) (fun b hb hne => rfl)
                    (fun b hb => by
                      obtain ⟨i0, ho0, hω0, hG0'⟩ := hroom b hb
                      exact ⟨i0, ho0, hω0, fun _ _ => rfl, fun o' ho' => hG0' o' (Nat.le_trans (Nat.mul_le_mul_right _ (by omega)) ho')⟩)
                    (fun b hb => (hown.lt b hb).1) hown' (fun b hb => .inr hb) hl'
                  exact ⟨_, _, g', hdoes, S', hr⟩
                | grown cells cap e1 hw =>
                  subst hw
                  obtain ⟨g', S', _, hr⟩ := S.newTok hd old hold (w' := w.drew.alloc (.cells cells el)) none rfl rfl rfl (fun _ => Nat.le_succ _) (by simp) (fun b hb _ => alloc_old w.drew _ hb)
                    (fun _ h => by cases h) (fun _ h => by cases h) hown' (fun b hb => .inl (by rw [e1] at hb; simp [Value.ownBlock] at hb; omega)) hl'
                  exact ⟨_, _, g', hdoes, S', hr⟩
              · cases hx
            · cases hx
          · cases hx
        · cases hx
      · cases hx
    · cases hx
  · cases hx

theorem comp_sound (X : CxOk cx) (S : Sim cx.gl.dr w0 G0 N D g a w s) (hgl : GlOk cx.gl w g.G) {e : Eff} {s' : AF} (hx : acomp cx o.op (cx.ev s) s.ob = some e) (he : e.to s o.dst = some s')
    (hd : ∀ d, o.dst = some d → D d ∧ d < N) :
    ∃ v w' g', Does cx.P o a w v w' ∧ Sim cx.gl.dr w0 G0 N (fun x => D x ∧ o.dst ≠ some x) g' (a.put o.dst v) w' s' := by
  have hN : ∀ d, o.dst = some d → d < N := fun d h => (hd d h).2
  cases e with
  | val x =>
    obtain ⟨v, h1, h2⟩ := do_val X S hgl hx
    simp only [Eff.to, Option.some.injEq] at he
    subst he
    exact ⟨v, w, g, h1, (S.put o.dst hN (fun _ _ => h2)).weaken (fun _ h => h.1)⟩
  | new cs =>
    obtain ⟨ys, el, h1, h2⟩ := do_new X S hgl hx
    cases hdst : o.dst with
    | none => rw [hdst] at he; cases he
    | some d =>
      rw [hdst] at he
      simp only [Eff.to, Option.some.injEq] at he
      subst he
      obtain ⟨g', S', _, _, hβ⟩ := S.newBox (hd d hdst).1 el h2
      refine ⟨_, _, g', h1, ?_⟩
      have := (S'.put (v := .pointer (some ⟨w.heap.size, 0, none⟩)) (x := .ref d s.k 0) (some d) (fun _ h => by cases h; exact hN _ hdst) (fun _ _ => ⟨_, hβ, rfl⟩))
      exact this.weaken (fun x h => ⟨h.1, fun e => h.2 (by rw [e])⟩)
  | set d t cs =>
    obtain ⟨b, zs, ys, el, h1, hb, hy, hl⟩ := do_set X S hgl hx
    simp only [Eff.to, Option.some.injEq] at he
    subst he
    exact ⟨_, _, g, h1, ((S.setBox hb hy hl).put (v := undef) (x := .und) o.dst hN (fun _ _ => rfl)).weaken (fun _ h => h.1)⟩
  | app old el sz n cs =>
    cases hdst : o.dst with
    | none => rw [hdst] at he; cases he
    | some d =>
      rw [hdst] at he
      simp only [Eff.to, Option.some.injEq] at he
      subst he
      have key : ∃ (v : Value) (w' : World) (g' : Gh), Does cx.P o a w v w' ∧ Sim cx.gl.dr w0 G0 N (fun x => D x ∧ x ≠ d) g' a w' { s with ob := updO (kill s.ob old) d s.k (.live el sz) } ∧
          RepS w' g' (.tok d s.k n cs) v := by
        cases hop : o.op with
        | buildSlice t len ps => exact do_buildSlice X S hgl hop hx (hd d hdst).1
        | call c =>
          obtain ⟨callee, args, ts⟩ := c
          cases callee with
          | builtin b => rw [hop] at hx; simp only [acomp] at hx; exact do_append X S hgl hop hx (hd d hdst).1
          | value f => rw [hop] at hx; simp [acomp] at hx
          | invoke r m => rw [hop] at hx; simp [acomp] at hx
        | slice t p lo hi mx =>
          rw [hop] at hx
          cases mx with
          | some m => simp [acomp] at hx
          | none =>
            simp only [acomp] at hx
            repeat' split at hx
            all_goals first | cases hx | (simp at hx; done)
        | _ =>
          rw [hop] at hx
          simp only [acomp] at hx
          repeat' split at hx
          all_goals first | cases hx | (simp at hx; done)
      obtain ⟨v, w', g', h1, S', hr⟩ := key
      refine ⟨v, w', g', h1, ?_⟩
      have := (S'.put (v := v) (x := .tok d s.k n cs) (some d) (fun _ h => by cases h; exact hN _ hdst) (fun _ _ => hr))
      exact this.weaken (fun x h => ⟨h.1, fun e => h.2 (by rw [e])⟩)

end
end Go.Proofs.YtilhjiopbbbgmaaDoor.Am

/- The abstract machine, part K: calls; rows of operations; regions that draw their order. -/
namespace Go.Proofs.YtilhjiopbbbgmaaDoor.Am
open Go Go.RowKit
set_option linter.unusedVariables false
set_option linter.unusedSimpArgs false

section
variable {cx : Cx} {w0 : World} {G0 : Good} {N : Nat} {D : Nat → Prop} {w : World} {g : Gh} {a : Act} {s : AF} {o : Oper}

theorem down_rep {x y : SV} {v : Value} (h : RepS w g x v) (hx : x.down = some y) : RepT w g.G y v := by
  cases x <;> simp [SV.down] at hx <;> subst hx
  · exact h
  · simp only [RepS] at h; subst h; exact RepC_nil
  · exact h.1
  · exact h

theorem downs_rep (S : Sim cx.gl.dr w0 G0 N D g a w s) (hgl : GlOk cx.gl w g.G) : ∀ (ps : List Operand) (xs : List SV), SV.downs (ps.map (cx.ev s)) = some xs → RepTL w g.G xs (ps.map a.eval)
  | [], xs, h => by simp [SV.downs] at h; subst h; trivial
  | p :: ps, xs, h => by
    simp only [List.map_cons, SV.downs] at h
    split at h
    · rename_i y ys h1 h2
      cases h
      exact ⟨down_rep (S.ev hgl p) h1, downs_rep S hgl ps ys h2⟩
    · cases h

theorem raw_rep {x y : SV} {v : Value} (h : RepS w g x v) (hx : x.raw = some y) : RepT w g.G y v := by
  cases x <;> simp [SV.raw] at hx <;> subst hx
  · exact h
  · exact h

theorem raws_rep (S : Sim cx.gl.dr w0 G0 N D g a w s) (hgl : GlOk cx.gl w g.G) : ∀ (ps : List Operand) (xs : List SV), SV.raws (ps.map (cx.ev s)) = some xs → RepTL w g.G xs (ps.map a.eval)
  | [], xs, h => by simp [SV.raws] at h; subst h; trivial
  | p :: ps, xs, h => by
    simp only [List.map_cons, SV.raws] at h
    split at h
    · rename_i y ys h1 h2
      cases h
      exact ⟨raw_rep (S.ev hgl p) h1, raws_rep S hgl ps ys h2⟩
    · cases h

/-- Behind a call. -/
theorem Sim.back (S : Sim cx.gl.dr w0 G0 N D g a w s) (hG0 : ∀ b o, G0 b o → b < w0.heap.size) {r : SV} {v : Value} {w' : World} {dst : Option Nat} (hd : ∀ d, dst = some d → D d ∧ d < N)
    (hb : Below w.heap.size w w') (hdr : cx.gl.dr → w.drawn ≤ w'.drawn) {G' : Good} (h1 : ∀ b o, g.G b o → G' b o) (h2 : ∀ b o, G' b o → g.G b o ∨ w.heap.size ≤ b) (h3 : ∀ b o, G' b o → b < w'.heap.size)
    (hr : RepR w' G' w.heap.size r v) : ∃ g', Sim cx.gl.dr w0 G0 N (fun x => D x ∧ dst ≠ some x) g' (a.put dst v) w' (s.ret dst r) := by
  have hblk : ∀ b, b < w.heap.size → w'.heap[b]? = w.heap[b]? := fun b h => hb.block b h
  -- the settled cells are more; nothing else turns
  have S1 : Sim cx.gl.dr w0 G0 N D { g with G := G' } a w' s := by
    have st : Settled w w' g.G G' := ⟨h1, fun b o h => cell_same (hblk b (S.glt b o h)) o, fun b h => frz_same (hblk b (S.glt b 0 (h 0)))⟩
    have le : g.le { g with G := G' } := ⟨fun _ _ _ h => h, fun _ _ _ h => h⟩
    exact {
      below := S.below.trans (hb.mono S.below.size)
      drawn := fun h => Nat.le_trans (S.drawn h) (hdr h)
      size := S.size, defers := S.defers
      g0 := fun b o h => h1 b o (S.g0 b o h)
      gnew := fun b o h => (h2 b o h).elim (S.gnew b o) (fun h => .inr (Nat.le_trans S.below.size h))
      glt := h3
      slots := fun i => RepS.mono (g' := { g with G := G' }) st le _ _ (S.slots i)
      boxes := fun d t cs h => by
        obtain ⟨b, ys, el, hb', hy, hl⟩ := S.boxes d t cs h
        exact ⟨b, ys, el, hb', by rw [hblk b (S.beta _ _ _ hb').2.2.1]; exact hy, RepL.mono st _ _ hl⟩
      beta := fun d t b h => by
        obtain ⟨k1, k2, k3, k4, k5⟩ := S.beta d t b h
        exact ⟨k1, k2, Nat.lt_of_lt_of_le k3 hb.size, fun o ho => (h2 b o ho).elim (k4 o) (fun h => by omega), k5⟩
      toks := fun d t el sz h => by
        obtain ⟨v, n, xs, k1, k2, k3⟩ := S.toks d t el sz h
        have hlt := fun b hb' => (k2.lt b hb').2
        refine ⟨v, n, xs, k1, ownsRow_block k2 (fun b hb' => hblk b (hlt b hb')), fun b hb' => ⟨(k3 b hb').1, fun j hj hG => ?_⟩⟩
        rcases h2 b j hG with h | h
        · exact (k3 b hb').2 j hj h
        · have := hlt b hb'; omega
      tau := S.tau
      owner := fun b i h => Nat.lt_of_lt_of_le (S.owner b i h) hb.size
      fresh := S.fresh, free := S.free }
  have hN : ∀ d, dst = some d → d < N := fun d h => (hd d h).2
  have plain : ∀ x : SV, s.ret dst r = s.put dst x → (∀ d, dst = some d → RepS w' { g with G := G' } x v) → ∃ g', Sim cx.gl.dr w0 G0 N (fun x => D x ∧ dst ≠ some x) g' (a.put dst v) w' (s.ret dst r) :=
    fun x e hx => ⟨_, by rw [e]; exact (S1.put dst hN hx).weaken (fun _ h => h.1)⟩
  cases r with
  | c x => exact plain _ rfl (fun _ _ => hr)
  | nil => exact plain _ rfl (fun _ _ => hr)
  | agg cs => exact plain _ rfl (fun _ _ => hr)
  | tup vs => exact plain _ rfl (fun _ _ => hr)
  | ref d t off => exact hr.elim
  | el cs => exact hr.elim
  | und => exact hr.elim
  | bad => exact hr.elim
  | tok el sz n cs =>
    cases dst with
    | none => exact ⟨_, S1.weaken (fun _ h => h.1)⟩
    | some d =>
      obtain ⟨hD, hlt⟩ := hd d rfl
      obtain ⟨xs, hown, hl, hG⟩ := hr
      have hown' : w'.ownsRow w0.heap.size el sz v n xs := by
        refine ⟨hown.1, hown.2.imp id ?_⟩
        rintro ⟨gb, cap, cur, k1, k2, k3⟩
        exact ⟨gb, cap, cur, k1, Nat.le_trans S.below.size k2, k3⟩
      have hnew : ∀ b, v.ownBlock = some b → w.heap.size ≤ b := fun b hb' => (hown.lt b hb').1
      -- the token, by hand: the block is new to the caller, and nobody's
      obtain ⟨hβ, hτ⟩ := S1.idle hD
      have h0 := S1.free d hD
      have noown : ∀ b i, g.ω b = some i → v.ownBlock ≠ some b := fun b i hω hb' => by
        have h1 := S.owner b i hω
        have h2 := hnew b hb'
        omega
      have st : Settled w' w' G' (fun b o => G' b o ∨ (v.ownBlock = some b ∧ o < n * sz)) := ⟨fun _ _ h => .inl h, fun _ _ _ => rfl, fun _ _ => rfl⟩
      have le : (({ g with G := G' } : Gh)).le (({ g with G := G' } : Gh).tok d s.k v (n * sz)) := ⟨fun _ _ _ h => h, fun i j v hv => upd2_le hτ i j v hv⟩
      have hlt' := fun b hb' => hown.lt b hb'
      have S2 : Sim cx.gl.dr w0 G0 N (fun x => D x ∧ x ≠ d) (({ g with G := G' } : Gh).tok d s.k v (n * sz)) a w' { s with ob := updO s.ob d s.k (.live el sz) } := {
        below := S1.below, drawn := S1.drawn, size := S1.size, defers := S1.defers
        g0 := fun b o h => .inl (S1.g0 b o h)
        gnew := fun b o h => by
          rcases h with h | h
          · exact S1.gnew b o h
          · exact .inr (Nat.le_trans S.below.size (hnew b h.1))
        glt := fun b o h => by
          rcases h with h | h
          · exact S1.glt b o h
          · exact (hlt' b h.1).2
        slots := fun i => RepS.mono (g' := ({ g with G := G' } : Gh).tok d s.k v (n * sz)) st le _ _ (S1.slots i)
        boxes := fun i j cs' h => by
          simp only [updO] at h
          split at h
          · cases h
          · obtain ⟨b, ys, el', hb', hy, hl'⟩ := S1.boxes i j cs' h
            exact ⟨b, ys, el', hb', hy, RepL.mono st _ _ hl'⟩
        beta := fun i j b h => by
          obtain ⟨⟨cs', k1⟩, k2, k3, k4, k5⟩ := S1.beta i j b h
          have hne : ¬ (i = d ∧ j = s.k) := fun e => by rw [e.1, e.2, h0] at k1; cases k1
          refine ⟨⟨cs', by simp only [updO, if_neg hne]; exact k1⟩, k2, k3, fun o ho' => ?_, ?_⟩
          · rcases ho' with ho' | ho'
            · exact k4 o ho'
            · exact noown b _ k5 ho'.1
          · simp only [Gh.tok]; rw [if_neg (noown b _ k5)]; exact k5
        toks := fun i j el' sz' h => by
          simp only [updO] at h
          split at h
          · rename_i e
            obtain ⟨rfl, rfl⟩ := e
            cases h
            refine ⟨v, n, xs, by simp [Gh.tok, upd2], hown', fun b hb' => ⟨by simp [Gh.tok, hb'], fun o ho' hG' => ?_⟩⟩
            rcases hG' with hG' | hG'
            · exact hG b hb' o ho' hG'
            · omega
          · obtain ⟨v', n', xs', k1, k2, k3⟩ := S1.toks i j el' sz' h
            refine ⟨v', n', xs', le.τ _ _ _ k1, k2, fun b hb' => ⟨?_, fun o ho' hG' => ?_⟩⟩
            · simp only [Gh.tok]; rw [if_neg (noown b _ (k3 b hb').1)]; exact (k3 b hb').1
            · rcases hG' with hG' | hG'
              · exact (k3 b hb').2 o ho' hG'
              · exact noown b _ (k3 b hb').1 hG'.1
        tau := fun i j v' h => by
          simp only [Gh.tok, upd2] at h
          simp only [updO]
          split
          · exact .inl ⟨el, sz, rfl⟩
          · rename_i e
            rw [if_neg e] at h
            exact S1.tau i j v' h
        owner := fun b i h => by
          simp only [Gh.tok] at h
          split at h
          · rename_i e; exact (hlt' b e).2
          · exact S1.owner b i h
        fresh := fun i j h => by
          simp only [updO]; rw [if_neg (by have h' : s.k < j := h; omega)]; exact S1.fresh i j h
        free := fun i hi => by
          simp only [updO]; rw [if_neg (fun e => hi.2 e.1)]; exact S1.free i hi.1 }
      refine ⟨_, ((S2.put (v := v) (x := .tok d s.k n cs) (some d) (fun _ h => by cases h; exact hlt) (fun _ _ => ⟨RepC_own hown (RepL.mono st _ _ hl) (fun b hb' o ho' => .inr ⟨hb', ho'⟩), by simp [Gh.tok, upd2]⟩)).weaken
        (fun x h => ⟨h.1, fun e => h.2 (by rw [e])⟩))⟩

/-- ONE OPERATION. -/
theorem aop_sound (X : CxOk cx) (S : Sim cx.gl.dr w0 G0 N D g a w s) (hG0 : ∀ b o, G0 b o → b < w0.heap.size) (hgl0 : GlOk cx.gl w0 G0) {K : AF → Prop} (h : AOp cx o K s)
    (hd : ∀ d, o.dst = some d → D d ∧ d < N) {Q : Exit → Act → World → Prop} :
    o.wp cx.P a w (fun a' w' => ∃ g' s', K s' ∧ Sim cx.gl.dr w0 G0 N (fun x => D x ∧ o.dst ≠ some x) g' a' w' s') Q := by
  have hgl := S.glOk hG0 hgl0
  have plain : (want (acomp cx o.op (cx.ev s) s.ob) fun e => want (e.to s o.dst) K) → o.wp cx.P a w (fun a' w' => ∃ g' s', K s' ∧ Sim cx.gl.dr w0 G0 N (fun x => D x ∧ o.dst ≠ some x) g' a' w' s') Q := by
    intro h
    obtain ⟨e, he, h⟩ := (want_iff _ _).1 h
    obtain ⟨s', hs, h⟩ := (want_iff _ _).1 h
    obtain ⟨v, w', g', h1, h2⟩ := comp_sound X S hgl he hs hd
    exact h1.wp ⟨g', s', h, h2⟩
  unfold AOp at h
  split at h
  · rename_i f args ts hop
    obtain ⟨⟨gi, xs⟩, hc, r, hret, _, hK⟩ := (want_iff _ _).1 h
    simp only at hret hK
    unfold acallee at hc
    split at hc
    · rename_i gi' hf
      split at hc
      · rename_i xs' hdn
        cases hc
        have hfv := S.ev hgl f
        rw [hf] at hfv
        have hf' : a.eval f = .func (.func gi) #[] #[] := hfv.1
        have hargs : RepTL w g.G xs (args.toList.map a.eval) := by
          split at hdn
          · exact raws_rep S hgl args.toList xs hdn
          · exact downs_rep S hgl args.toList xs hdn
        have hcalls := hret.2 w g.G (args.map a.eval) S.glt hgl (by simpa using hargs)
        unfold Oper.wp
        have hrun : (execOp a.eval o).run cx.P w = .ok (.enter gi (args.map a.eval)) w := by
          simp only [execOp, hop, resolve, hf', Deferred.ofValue, Sem.run_bind, Sem.run_pure, Result.andThen_ok, invoke]
          have := hret.1 (args.map a.eval) w
          simpa using this
        rw [hrun, Oper.upon_enter]
        refine hcalls.mono (fun e w' hb => ?_)
        obtain ⟨v, rfl, hbel, hdr, G', h1, h2, h3, hr⟩ := hb
        obtain ⟨g', S'⟩ := S.back hG0 hd hbel hdr h1 h2 h3 hr
        exact ⟨g', _, hK, S'⟩
      · cases hc
    · cases hc
  · exact plain h

end
end Go.Proofs.YtilhjiopbbbgmaaDoor.Am

/- The abstract machine, part L: two operations that have nothing to do with one another may change places. -/
namespace Go.Proofs.YtilhjiopbbbgmaaDoor.Am
open Go Go.RowKit
set_option linter.unusedVariables false
set_option linter.unusedSimpArgs false

def isStore : Op → Bool
  | .store .. => true
  | _ => false

def isLoad : Op → Bool
  | .load .. => true
  | _ => false

def isApp : Op → Bool
  | .call ⟨.builtin .append, _, _⟩ => true
  | _ => false

/-- Nothing to do with one another. -/
def indep (ops : Array Oper) (x y : Oper) : Bool :=
  x.apart ops y && y.apart ops x && !(isStore x.op && (isStore y.op || isLoad y.op)) && !(isStore y.op && (isStore x.op || isLoad x.op)) && !(isApp x.op && isApp y.op)

structure Dl where
  x : SV
  ups : List (Nat × Nat × Ob)

def applyUps (ob : Nat → Nat → Ob) : List (Nat × Nat × Ob) → Nat → Nat → Ob
  | [] => ob
  | (d, t, x) :: r => applyUps (updO ob d t x) r

def AF.dl (s : AF) (dst : Option Nat) (δ : Dl) : AF :=
  { t := (match dst with | some d => upd s.t d δ.x | none => s.t), ob := applyUps s.ob δ.ups, k := s.k }

def Eff.dl (e : Eff) (dst : Option Nat) (k : Nat) : Option Dl :=
  match e with
  | .val x => some ⟨x, []⟩
  | .new cs => dst.map fun d => ⟨.ref d k 0, [(d, k, .box cs)]⟩
  | .set d t cs => some ⟨.und, [(d, t, .box cs)]⟩
  | .app none el sz n cs => dst.map fun d => ⟨.tok d k n cs, [(d, k, .live el sz)]⟩
  | .app (some p) el sz n cs => dst.map fun d => ⟨.tok d k n cs, [(p.1, p.2, .dead), (d, k, .live el sz)]⟩

theorem to_dl (e : Eff) (s s' : AF) (dst : Option Nat) : e.to s dst = some s' ↔ ∃ δ, e.dl dst s.k = some δ ∧ s' = s.dl dst δ := by
  cases e with
  | val x =>
    constructor
    · intro h; cases dst <;> (cases h; exact ⟨_, rfl, rfl⟩)
    · rintro ⟨δ, h, rfl⟩; cases dst <;> (cases h; rfl)
  | new cs => cases dst <;> simp [Eff.to, Eff.dl, AF.put, AF.dl, applyUps, eq_comm]
  | set d t cs => cases dst <;> simp [Eff.to, Eff.dl, AF.put, AF.dl, applyUps, eq_comm]
  | app old el sz n cs => cases old <;> cases dst <;> simp [Eff.to, Eff.dl, AF.put, AF.dl, applyUps, kill, eq_comm]

def retDl (dst : Option Nat) (k : Nat) : SV → Dl
  | .tok el sz n cs => match dst with
    | some d => ⟨.tok d k n cs, [(d, k, .live el sz)]⟩
    | none => ⟨.und, []⟩
  | r => ⟨r, []⟩

theorem ret_dl (s : AF) (dst : Option Nat) (r : SV) : s.ret dst r = s.dl dst (retDl dst s.k r) := by
  cases r <;> cases dst <;> simp [AF.ret, retDl, AF.dl, AF.put, applyUps]

/-- What operation o gives at s. -/
def Gen (cx : Cx) (ops : Array Oper) (o : Oper) (s : AF) (δ : Dl) : Prop :=
  (awanted ops o s.t = some false ∧ δ = ⟨.und, []⟩) ∨
  (awanted ops o s.t = some true ∧
    ((∃ f args ts gi xs r, o.op = .call ⟨.value f, args, ts⟩ ∧ acallee (cx.ev s) f args = some (gi, xs) ∧ Ret cx.P cx.gl gi xs r ∧ r.okR = true ∧ δ = retDl o.dst s.k r) ∨
     (isCall o.op = false ∧ ∃ e, acomp cx o.op (cx.ev s) s.ob = some e ∧ e.dl o.dst s.k = some δ)))

theorem aop_plain {cx : Cx} {o : Oper} {K : AF → Prop} {s : AF} (h : isCall o.op = false) : AOp cx o K s ↔ (want (acomp cx o.op (cx.ev s) s.ob) fun e => want (e.to s o.dst) K) := by
  unfold AOp
  split
  · rename_i f args ts hop
    rw [hop] at h
    simp [isCall] at h
  · exact Iff.rfl

theorem astep_gen {cx : Cx} {ops : Array Oper} {o : Oper} {K : AF → Prop} {s : AF} : AStep cx ops o K s ↔ ∃ δ, Gen cx ops o s δ ∧ K (s.dl o.dst δ) := by
  have e0 : s.put o.dst .und = s.dl o.dst ⟨.und, []⟩ := by cases hd : o.dst <;> simp [AF.put, AF.dl, applyUps]
  unfold AStep Gen
  split
  · rename_i b hb
    rw [hb]
    cases b
    · simp only [Bool.false_eq_true, if_false, e0]
      constructor
      · intro h; exact ⟨_, .inl ⟨by trivial, rfl⟩, h⟩
      · rintro ⟨δ, h | h, hK⟩
        · rw [h.2] at hK; exact hK
        · cases h.1
    · simp only [if_true]
      cases hc : isCall o.op with
      | true =>
        have hop : ∃ f args ts, o.op = .call ⟨.value f, args, ts⟩ := by
          unfold isCall at hc
          split at hc
          · rename_i f args ts h; exact ⟨f, args, ts, h⟩
          · cases hc
        obtain ⟨f, args, ts, hop⟩ := hop
        unfold AOp
        simp only [hop]
        constructor
        · intro h
          obtain ⟨⟨gi, xs⟩, hca, r, h1, h2, h3⟩ := (want_iff _ _).1 h
          rw [ret_dl] at h3
          exact ⟨_, .inr ⟨trivial, .inl ⟨f, args, ts, gi, xs, r, rfl, hca, h1, h2, rfl⟩⟩, h3⟩
        · rintro ⟨δ, h | ⟨_, h | h⟩, hK⟩
          · cases h.1
          · obtain ⟨f', args', ts', gi, xs, r, e1, h1, h2, h3, rfl⟩ := h
            cases e1
            exact (want_iff _ _).2 ⟨_, h1, r, h2, h3, by rw [ret_dl]; exact hK⟩
          · cases h.1
      | false =>
        rw [aop_plain hc]
        constructor
        · intro h
          obtain ⟨e, he, h⟩ := (want_iff _ _).1 h
          obtain ⟨s', hs, h⟩ := (want_iff _ _).1 h
          obtain ⟨δ, h1, rfl⟩ := (to_dl _ _ _ _).1 hs
          exact ⟨δ, .inr ⟨by trivial, .inr ⟨by trivial, e, he, h1⟩⟩, h⟩
        · rintro ⟨δ, h | ⟨_, h | h⟩, hK⟩
          · cases h.1
          · obtain ⟨f', args', ts', gi, xs, r, e1, _⟩ := h
            rw [e1] at hc; simp [isCall] at hc
          · obtain ⟨_, e, he, h1⟩ := h
            exact (want_iff _ _).2 ⟨e, he, (want_iff _ _).2 ⟨_, (to_dl e s (s.dl o.dst δ) o.dst).2 ⟨δ, h1, rfl⟩, hK⟩⟩
  · rename_i hb
    rw [hb]
    simp

/-! ### what holds of a frame's names -/

def SV.wf (ob : Nat → Nat → Ob) : SV → Prop
  | .ref d t _ => ∃ cs, ob d t = .box cs
  | .tok d t _ _ => (∃ el sz, ob d t = .live el sz) ∨ ob d t = .dead
  | .tup vs => ∀ v ∈ vs, v.plain = true
  | _ => True

def AF.WF (s : AF) : Prop := ∀ i, (s.t i).wf s.ob

theorem ev_wf {cx : Cx} {s : AF} (h : s.WF) (x : Operand) : (cx.ev s x).wf s.ob := by
  cases x with
  | tmp t => exact h t
  | const v =>
    simp only [Cx.ev, constOf]
    split <;> first | trivial | (split <;> trivial)
  | global g => simp only [Cx.ev]; split <;> trivial
  | func f => trivial

theorem loaded_wf {ti : TI} {cs : List C} {x : SV} (ob : Nat → Nat → Ob) (h : loaded ti cs = some x) : x.wf ob := by
  unfold loaded at h
  split at h
  · split at h <;> cases h; trivial
  · split at h <;> cases h; trivial

theorem on_wf {x y : SV} {k : Nat} {ob : Nat → Nat → Ob} (h : x.wf ob) (hx : x.on k = some y) : y.wf ob := by
  cases x <;> simp [SV.on] at hx <;> subst hx
  · exact h
  · trivial

theorem abinOp_wf {cx : Cx} {op : BinOp} {t : TypeId} {x y z : SV} (ob : Nat → Nat → Ob) (h : abinOp cx op t x y = some z) : z.wf ob := by
  unfold abinOp at h
  repeat' split at h
  all_goals first | cases h; done | (cases h; trivial) | (simp only [Option.map_eq_some_iff] at h; obtain ⟨_, _, rfl⟩ := h; trivial)

theorem abuiltin_val_wf {cx : Cx} {b : Builtin} {ts : Array TypeId} {xs : List SV} {ob : Nat → Nat → Ob} {x : SV} (h : abuiltin cx b ts xs ob = some (.val x)) : x.wf ob := by
  unfold abuiltin at h
  repeat' split at h
  all_goals first | (cases h; done) | (cases h; trivial) | (simp only [Option.map_eq_some_iff, Eff.val.injEq] at h; obtain ⟨_, _, rfl⟩ := h; trivial) | (simp at h; done)

theorem acomp_val_wf {cx : Cx} {s : AF} {op : Op} {x : SV} (hw : s.WF) (h : acomp cx op (cx.ev s) s.ob = some (.val x)) : x.wf s.ob := by
  have key : ∀ (f : Option SV), f.map Eff.val = some (.val x) → (∀ y, f = some y → y.wf s.ob) → x.wf s.ob := by
    intro f hf hy
    simp only [Option.map_eq_some_iff, Eff.val.injEq, exists_eq_right] at hf
    exact hy x hf
  cases op with
  | move p => simp only [acomp, Option.some.injEq, Eff.val.injEq] at h; subst h; exact ev_wf hw p
  | assign p => simp only [acomp, Option.some.injEq, Eff.val.injEq] at h; subst h; exact ev_wf hw p
  | pick c p q =>
    simp only [acomp] at h
    split at h
    · cases h
      split
      · exact ev_wf hw p
      · exact ev_wf hw q
    · cases h
  | load t p =>
    simp only [acomp] at h
    repeat' split at h
    all_goals first | (cases h; done) | exact key _ h (fun y hy => loaded_wf _ hy)
  | nilCheck p =>
    have := ev_wf (cx := cx) hw p
    simp only [acomp] at h
    split at h
    · rename_i e; cases h; rw [e] at this; exact this
    · cases h; trivial
    · cases h
  | unOp op t p =>
    simp only [acomp] at h
    repeat' split at h
    all_goals first | (cases h; done) | (cases h; trivial)
  | convert t u p =>
    simp only [acomp] at h
    repeat' split at h
    all_goals first | (cases h; done) | (cases h; trivial)
  | extract p i =>
    have hp := ev_wf (cx := cx) hw p
    simp only [acomp] at h
    split at h
    · rename_i vs e
      rw [e] at hp
      refine key _ h (fun y hy => ?_)
      have := hp y (List.mem_of_getElem? hy)
      cases y <;> first | trivial | (simp [SV.plain] at this)
    · cases h
  | fieldAddr t p f =>
    simp only [acomp] at h
    repeat' split at h
    all_goals first | (cases h; done) | exact key _ h (fun y hy => on_wf (ev_wf hw p) hy)
  | field t p f =>
    simp only [acomp] at h
    repeat' split at h
    all_goals first | (cases h; done) | exact key _ h (fun y hy => loaded_wf _ hy)
  | indexAddr t p q =>
    simp only [acomp] at h
    repeat' split at h
    all_goals first | (cases h; done) | (cases h; trivial) | exact key _ h (fun y hy => on_wf (ev_wf hw p) hy)
  | index t p q =>
    simp only [acomp] at h
    repeat' split at h
    all_goals first | (cases h; done) | (cases h; trivial) | exact key _ h (fun y hy => loaded_wf _ hy)
  | slice t p lo hi mx =>
    cases mx with
    | some m => simp [acomp] at h
    | none =>
      simp only [acomp] at h
      repeat' split at h
      all_goals first | (cases h; done) | (cases h; trivial)
  | binOp op t p q u => simp only [acomp] at h; exact key _ h (fun y hy => abinOp_wf _ hy)
  | build t ps =>
    simp only [acomp] at h
    repeat' split at h
    all_goals first | (cases h; done) | (simp only [Option.map_eq_some_iff, Eff.val.injEq] at h; obtain ⟨_, _, rfl⟩ := h; trivial)
  | call c =>
    obtain ⟨callee, args, ts⟩ := c
    cases callee with
    | builtin b => simp only [acomp] at h; exact abuiltin_val_wf h
    | value f => simp [acomp] at h
    | invoke r m => simp [acomp] at h
  | _ =>
    simp only [acomp] at h
    repeat' split at h
    all_goals first | (cases h; done) | (simp at h; done)

end Go.Proofs.YtilhjiopbbbgmaaDoor.Am

/- The abstract machine, part M: the change of places. -/
namespace Go.Proofs.YtilhjiopbbbgmaaDoor.Am
open Go Go.RowKit
set_option linter.unusedVariables false
set_option linter.unusedSimpArgs false

theorem abuiltin_set {cx : Cx} {b : Builtin} {ts : Array TypeId} {xs : List SV} {ob : Nat → Nat → Ob} {d t : Nat} {cs : List C} (h : abuiltin cx b ts xs ob = some (.set d t cs)) : False := by
  unfold abuiltin at h
  repeat' split at h
  all_goals first | (cases h; done) | (simp at h; done)

theorem acomp_set {cx : Cx} {ev : Operand → SV} {ob : Nat → Nat → Ob} {op : Op} {d t : Nat} {cs : List C} (h : acomp cx op ev ob = some (.set d t cs)) : isStore op = true ∧ ∃ cs0, ob d t = .box cs0 := by
  cases op with
  | store ty p q =>
    simp only [acomp] at h
    split at h
    · split at h
      · split at h
        · rename_i cs0 hob
          split at h
          · split at h
            · cases h; exact ⟨rfl, cs0, hob⟩
            · cases h
          · cases h
        · cases h
      · cases h
    · cases h
  | slice ty p lo hi mx =>
    cases mx with
    | some m => simp [acomp] at h
    | none =>
      simp only [acomp] at h
      repeat' split at h
      all_goals first | (cases h; done) | (simp at h; done)
  | call c =>
    obtain ⟨callee, args, ts⟩ := c
    cases callee with
    | builtin b => simp only [acomp] at h; exact (abuiltin_set h).elim
    | value f => simp [acomp] at h
    | invoke r m => simp [acomp] at h
  | _ =>
    simp only [acomp] at h
    repeat' split at h
    all_goals first | (cases h; done) | (simp at h; done)

theorem acomp_app {cx : Cx} {ev : Operand → SV} {ob : Nat → Nat → Ob} {op : Op} {p : Nat × Nat} {el sz n : Nat} {cs : List C} (h : acomp cx op ev ob = some (.app (some p) el sz n cs)) :
    isApp op = true ∧ ∃ el sz, ob p.1 p.2 = .live el sz := by
  cases op with
  | slice ty p lo hi mx =>
    cases mx with
    | some m => simp [acomp] at h
    | none =>
      simp only [acomp] at h
      repeat' split at h
      all_goals first | (cases h; done) | (simp at h; done)
  | call c =>
    obtain ⟨callee, args, ts⟩ := c
    cases callee with
    | builtin b =>
      simp only [acomp] at h
      unfold abuiltin at h
      split at h
      · repeat' split at h
        all_goals first | (cases h; done) | (simp at h; done)
      · split at h <;> cases h
      · split at h <;> cases h
      · refine ⟨rfl, ?_⟩
        split at h
        · split at h
          · split at h
            · split at h
              · split at h
                · split at h
                  · split at h
                    · split at h <;> cases h
                    · split at h
                      · rename_i hob
                        split at h
                        · cases h; exact ⟨_, _, hob⟩
                        · cases h
                      · cases h
                    · cases h
                  · cases h
                · cases h
              · cases h
            · cases h
          · cases h
        · cases h
      · cases h
    | value f => simp [acomp] at h
    | invoke r m => simp [acomp] at h
  | _ =>
    simp only [acomp] at h
    repeat' split at h
    all_goals first | (cases h; done) | (simp at h; done)

def Touch (s : AF) (o : Oper) (d t : Nat) : Prop :=
  (o.dst = some d ∧ t = s.k) ∨ (isStore o.op = true ∧ ∃ cs, s.ob d t = .box cs) ∨ (isApp o.op = true ∧ ∃ el sz, s.ob d t = .live el sz)

theorem gen_ups {cx : Cx} {ops : Array Oper} {o : Oper} {s : AF} {δ : Dl} (h : Gen cx ops o s δ) : ∀ u ∈ δ.ups, Touch s o u.1 u.2.1 := by
  intro u hu
  rcases h with ⟨_, rfl⟩ | ⟨_, ⟨f, args, ts, gi, xs, r, _, _, _, _, rfl⟩ | ⟨_, e, he, hdl⟩⟩
  · simp at hu
  · cases r <;> cases hd : o.dst <;> simp [retDl, hd] at hu
    subst hu
    exact .inl ⟨hd, rfl⟩
  · cases e with
    | val x => simp only [Eff.dl, Option.some.injEq] at hdl; subst hdl; simp at hu
    | new cs =>
      cases hd : o.dst <;> simp [Eff.dl, hd] at hdl
      subst hdl
      simp at hu; subst hu
      exact .inl ⟨hd, rfl⟩
    | set d t cs =>
      simp only [Eff.dl, Option.some.injEq] at hdl; subst hdl
      simp at hu; subst hu
      obtain ⟨h1, h2⟩ := acomp_set he
      exact .inr (.inl ⟨h1, h2⟩)
    | app old el sz n cs =>
      cases old with
      | none =>
        cases hd : o.dst <;> simp [Eff.dl, hd] at hdl
        subst hdl
        simp at hu; subst hu
        exact .inl ⟨hd, rfl⟩
      | some p =>
        cases hd : o.dst <;> simp [Eff.dl, hd] at hdl
        subst hdl
        simp at hu
        rcases hu with rfl | rfl
        · obtain ⟨h1, h2⟩ := acomp_app he
          exact .inr (.inr ⟨h1, h2⟩)
        · exact .inl ⟨hd, rfl⟩

theorem applyUps_ne : ∀ (ups : List (Nat × Nat × Ob)) (ob : Nat → Nat → Ob) (d t : Nat), (∀ u ∈ ups, ¬ (d = u.1 ∧ t = u.2.1)) → applyUps ob ups d t = ob d t
  | [], _, _, _, _ => rfl
  | (i, j, x) :: r, ob, d, t, h => by
    simp only [applyUps]
    rw [applyUps_ne r _ d t (fun u hu => h u (by simp [hu])), updO_ne _ _ _ _ _ _ (h (i, j, x) (by simp))]

theorem applyUps_congr : ∀ (ups : List (Nat × Nat × Ob)) (ob ob' : Nat → Nat → Ob) (d t : Nat), (∃ u ∈ ups, d = u.1 ∧ t = u.2.1) → applyUps ob ups d t = applyUps ob' ups d t
  | [], _, _, _, _, h => by obtain ⟨u, hu, _⟩ := h; simp at hu
  | (i, j, x) :: r, ob, ob', d, t, h => by
    simp only [applyUps]
    by_cases hr : ∃ u ∈ r, d = u.1 ∧ t = u.2.1
    · exact applyUps_congr r _ _ d t hr
    · have hr' : ∀ u ∈ r, ¬ (d = u.1 ∧ t = u.2.1) := fun u hu he => hr ⟨u, hu, he⟩
      rw [applyUps_ne r _ d t hr', applyUps_ne r _ d t hr']
      obtain ⟨u, hu, he⟩ := h
      rcases List.mem_cons.1 hu with rfl | hu
      · simp only [updO, if_pos he]
      · exact absurd he (hr' u hu)

theorem applyUps_comm (ob : Nat → Nat → Ob) (u1 u2 : List (Nat × Nat × Ob)) (h : ∀ x ∈ u1, ∀ y ∈ u2, ¬ (x.1 = y.1 ∧ x.2.1 = y.2.1)) : applyUps (applyUps ob u1) u2 = applyUps (applyUps ob u2) u1 := by
  funext d t
  by_cases h1 : ∃ u ∈ u1, d = u.1 ∧ t = u.2.1
  · obtain ⟨x, hx, he⟩ := h1
    have h2 : ∀ y ∈ u2, ¬ (d = y.1 ∧ t = y.2.1) := fun y hy e => h x hx y hy ⟨he.1 ▸ e.1, he.2 ▸ e.2⟩
    rw [applyUps_ne u2 _ d t h2]
    exact applyUps_congr u1 _ _ d t ⟨x, hx, he⟩
  · have h1' : ∀ x ∈ u1, ¬ (d = x.1 ∧ t = x.2.1) := fun x hx e => h1 ⟨x, hx, e⟩
    rw [applyUps_ne u1 (applyUps ob u2) d t h1']
    by_cases h2 : ∃ u ∈ u2, d = u.1 ∧ t = u.2.1
    · exact applyUps_congr u2 _ _ d t h2
    · have h2' : ∀ y ∈ u2, ¬ (d = y.1 ∧ t = y.2.1) := fun y hy e => h2 ⟨y, hy, e⟩
      rw [applyUps_ne u2 _ d t h2', applyUps_ne u2 _ d t h2', applyUps_ne u1 _ d t h1']

/-! ### an operation sees its operands alone -/

theorem acomp_ev {cx : Cx} {op : Op} {ev ev' : Operand → SV} {ob : Nat → Nat → Ob} (h : ∀ x ∈ op.operands, ev x = ev' x) : acomp cx op ev ob = acomp cx op ev' ob := by
  have pairs : ∀ ps : Array (Nat × Operand), (∀ x ∈ (ps.toList.map (·.2)).toArray, ev x = ev' x) → (ps.toList.map fun p => (p.1, ev p.2)) = (ps.toList.map fun p => (p.1, ev' p.2)) := fun ps hp =>
    List.map_congr_left fun p hm => by rw [hp p.2 (by simp; exact ⟨p.1, by simpa using hm⟩)]
  cases op <;> simp only [Op.operands] at h
  case build t ps => simp only [acomp, pairs ps h]
  case buildSlice t n ps => simp only [acomp, pairs ps h]
  case call c =>
    obtain ⟨callee, args, ts⟩ := c
    cases callee with
    | builtin b =>
      have : args.toList.map ev = args.toList.map ev' := List.map_congr_left fun x hx => h x (by simp [Call.operands]; simpa using hx)
      simp only [acomp, this]
    | value f => rfl
    | invoke r m => rfl
  case slice t x lo hi mx =>
    have hx : ev x = ev' x := h x (by simp)
    have hlo : evOr ev lo 0 = evOr ev' lo 0 := by
      cases lo with
      | none => rfl
      | some l => exact h l (by simp)
    have hhi : ∀ n, evOr ev hi n = evOr ev' hi n := by
      intro n
      cases hi with
      | none => rfl
      | some l => exact h l (by simp)
    cases mx with
    | some m => rfl
    | none => simp only [acomp, hx, hlo, hhi]
  all_goals first | rfl | (simp only [List.mem_toArray, List.mem_cons, List.not_mem_nil, or_false, forall_eq_or_imp, forall_eq] at h; simp only [acomp, h])

theorem acallee_ev {ev ev' : Operand → SV} {f : Operand} {args : Array Operand} (hf : ev f = ev' f) (h : ∀ x ∈ args, ev x = ev' x) : acallee ev f args = acallee ev' f args := by
  have : args.toList.map ev = args.toList.map ev' := List.map_congr_left fun x hx => h x (by simpa using hx)
  unfold acallee
  rw [hf, this]

theorem acomp_ob {cx : Cx} {s : AF} {op : Op} {ob' : Nat → Nat → Ob} (hw : s.WF) (h1 : (isLoad op || isStore op) = true → ∀ d t cs, s.ob d t = .box cs → ob' d t = s.ob d t)
    (h2 : isApp op = true → ∀ d t, ((∃ el sz, s.ob d t = .live el sz) ∨ s.ob d t = .dead) → ob' d t = s.ob d t) : acomp cx op (cx.ev s) ob' = acomp cx op (cx.ev s) s.ob := by
  cases op with
  | load t p =>
    have hp := ev_wf (cx := cx) hw p
    simp only [acomp]
    split
    · split
      · rename_i d t off e
        rw [e] at hp
        obtain ⟨cs, hcs⟩ := hp
        rw [h1 rfl d t cs hcs]
      · rfl
      · rfl
    · rfl
  | store t p q =>
    have hp := ev_wf (cx := cx) hw p
    simp only [acomp]
    split
    · split
      · rename_i d t off e
        rw [e] at hp
        obtain ⟨cs, hcs⟩ := hp
        rw [h1 rfl d t cs hcs]
      · rfl
    · rfl
  | slice t x lo hi mx =>
    cases mx with
    | some m => rfl
    | none => rfl
  | call c =>
    obtain ⟨callee, args, ts⟩ := c
    cases callee with
    | builtin b =>
      simp only [acomp]
      unfold abuiltin
      split
      · rfl
      · rfl
      · rfl
      · rename_i y x hargs
        obtain ⟨p, q, rfl, hp, hq⟩ := args_two hargs
        have hpw := ev_wf (cx := cx) hw p
        rw [hp] at hpw
        split
        · split
          · split
            · split
              · split
                · split
                  · split
                    · rfl
                    · rename_i d t n cs
                      rw [h2 rfl d t hpw]
                    · rfl
                  · rfl
                · rfl
              · rfl
            · rfl
          · rfl
        · rfl
      · rfl
    | value f => rfl
    | invoke r m => rfl
  | _ => rfl

section
variable {cx : Cx} {ops : Array Oper} {s : AF} {o o' : Oper} {δ δ' : Dl}

theorem dl_t (s : AF) (dst : Option Nat) (δ : Dl) (t : Nat) (h : dst ≠ some t) : (s.dl dst δ).t t = s.t t := by
  cases dst with
  | none => rfl
  | some d => simp only [AF.dl]; rw [upd_ne]; intro e; exact h (by rw [e])

theorem dl_ev (s : AF) (dst : Option Nat) (δ : Dl) (x : Operand) (h : ∀ t, x = .tmp t → dst ≠ some t) : cx.ev (s.dl dst δ) x = cx.ev s x := by
  cases x with
  | tmp t => exact dl_t s dst δ t (h t rfl)
  | _ => rfl

theorem awanted_dl (h : ∀ d, o'.dst = some d → d ∉ o.looksAt ops) : awanted ops o (s.dl o'.dst δ').t = awanted ops o s.t := by
  unfold awanted
  split
  · rfl
  · rename_i j want hg
    split
    · rename_i d hd
      rw [dl_t]
      intro e
      exact h d e (by simp [Oper.looksAt, hg, hd])
    · rfl

/-- What o gives does not hang on o'. -/
theorem gen_indep (hw : s.WF) (hp : ∀ d, o'.dst = some d → s.ob d s.k = .none) (hg : Gen cx ops o' s δ') (hi : indep ops o' o = true) : Gen cx ops o (s.dl o'.dst δ') δ ↔ Gen cx ops o s δ := by
  simp only [indep, Bool.and_eq_true, Bool.not_eq_true', Bool.and_eq_false_iff, Bool.or_eq_false_iff] at hi
  obtain ⟨⟨⟨⟨a1, a2⟩, a3⟩, a4⟩, a5⟩ := hi
  obtain ⟨b1, b2, b3⟩ := Oper.apart_spec a1
  have hwant := awanted_dl (s := s) (δ' := δ') b1
  have hev : ∀ x ∈ o.op.operands, cx.ev (s.dl o'.dst δ') x = cx.ev s x := fun x hx => dl_ev s _ _ x (fun t e => by
    intro e'
    refine b1 t e' ?_
    subst e
    exact List.mem_append_left _ (List.mem_filterMap.2 ⟨.tmp t, by simpa using hx, rfl⟩))
  have hups := gen_ups hg
  have hob : acomp cx o.op (cx.ev (s.dl o'.dst δ')) (s.dl o'.dst δ').ob = acomp cx o.op (cx.ev s) s.ob := by
    rw [acomp_ev hev]
    refine acomp_ob hw (fun hk d t cs hcs => ?_) (fun hk d t hdt => ?_)
    · refine applyUps_ne _ _ _ _ (fun u hu he => ?_)
      rcases hups u hu with ⟨h1, h2⟩ | ⟨h1, h2⟩ | ⟨h1, el, sz, h2⟩
      · have := hp _ h1
        rw [← h2, ← he.1, ← he.2, hcs] at this
        cases this
      · simp only [h1, Bool.true_eq_false, false_or] at a3
        simp only [Bool.or_eq_true] at hk
        rcases hk with hk | hk <;> simp_all
      · rw [← he.1, ← he.2, hcs] at h2; cases h2
    · refine applyUps_ne _ _ _ _ (fun u hu he => ?_)
      rcases hups u hu with ⟨h1, h2⟩ | ⟨h1, cs, h2⟩ | ⟨h1, h2⟩
      · have := hp _ h1
        rw [← h2, ← he.1, ← he.2] at this
        rw [this] at hdt
        rcases hdt with ⟨_, _, h⟩ | h <;> cases h
      · rw [← he.1, ← he.2] at h2
        rw [h2] at hdt
        rcases hdt with ⟨_, _, h⟩ | h <;> cases h
      · simp_all
  unfold Gen
  rw [hwant, hob]
  have hcal : ∀ f args ts, o.op = .call ⟨.value f, args, ts⟩ → acallee (cx.ev (s.dl o'.dst δ')) f args = acallee (cx.ev s) f args := fun f args ts e =>
    acallee_ev (hev f (by rw [e]; simp [Op.operands, Call.operands])) (fun x hx => hev x (by rw [e]; simp [Op.operands, Call.operands, hx]))
  have hk : (s.dl o'.dst δ').k = s.k := rfl
  rw [hk]
  constructor
  · rintro (h | ⟨h0, ⟨f, args, ts, gi, xs, r, e, h1, h2⟩ | h⟩)
    · exact .inl h
    · rw [hcal f args ts e] at h1
      exact .inr ⟨h0, .inl ⟨f, args, ts, gi, xs, r, e, h1, h2⟩⟩
    · exact .inr ⟨h0, .inr h⟩
  · rintro (h | ⟨h0, ⟨f, args, ts, gi, xs, r, e, h1, h2⟩ | h⟩)
    · exact .inl h
    · rw [← hcal f args ts e] at h1
      exact .inr ⟨h0, .inl ⟨f, args, ts, gi, xs, r, e, h1, h2⟩⟩
    · exact .inr ⟨h0, .inr h⟩

theorem indep_symm (h : indep ops o o' = true) : indep ops o' o = true := by
  simp only [indep, Bool.and_eq_true, Bool.not_eq_true', Bool.and_eq_false_iff, Bool.or_eq_false_iff] at h ⊢
  obtain ⟨⟨⟨⟨a1, a2⟩, a3⟩, a4⟩, a5⟩ := h
  exact ⟨⟨⟨⟨a2, a1⟩, a4⟩, a3⟩, a5.symm⟩

theorem dl_comm (hp : ∀ d, o.dst = some d → s.ob d s.k = .none) (hp' : ∀ d, o'.dst = some d → s.ob d s.k = .none) (hg : Gen cx ops o s δ) (hg' : Gen cx ops o' s δ') (hi : indep ops o o' = true) :
    (s.dl o.dst δ).dl o'.dst δ' = (s.dl o'.dst δ').dl o.dst δ := by
  simp only [indep, Bool.and_eq_true, Bool.not_eq_true', Bool.and_eq_false_iff, Bool.or_eq_false_iff] at hi
  obtain ⟨⟨⟨⟨a1, a2⟩, a3⟩, a4⟩, a5⟩ := hi
  obtain ⟨b1, b2, b3⟩ := Oper.apart_spec a1
  have hob := applyUps_comm s.ob δ.ups δ'.ups (fun x hx y hy he => by
    rcases gen_ups hg x hx with ⟨h1, h2⟩ | ⟨h1, cs, h2⟩ | ⟨h1, el, sz, h2⟩ <;> rcases gen_ups hg' y hy with ⟨k1, k2⟩ | ⟨k1, cs', k2⟩ | ⟨k1, el', sz', k2⟩
    · exact b2 _ h1 (by rw [k1, he.1])
    · have := hp _ h1; rw [← h2, he.1, he.2, k2] at this; cases this
    · have := hp _ h1; rw [← h2, he.1, he.2, k2] at this; cases this
    · have := hp' _ k1; rw [← k2, ← he.1, ← he.2, h2] at this; cases this
    · simp_all
    · rw [he.1, he.2, k2] at h2; cases h2
    · have := hp' _ k1; rw [← k2, ← he.1, ← he.2, h2] at this; cases this
    · rw [he.1, he.2, k2] at h2; cases h2
    · simp_all)
  have ht : ∀ d d', o.dst = some d → o'.dst = some d' → upd (upd s.t d δ.x) d' δ'.x = upd (upd s.t d' δ'.x) d δ.x := fun d d' h h' => by
    funext i
    have hne : d ≠ d' := fun e => b2 d h (by rw [h', e])
    simp only [upd]
    by_cases h1 : i = d
    · by_cases h2 : i = d'
      · exact absurd (h1.symm.trans h2) hne
      · rw [if_neg h2, if_pos h1, if_pos h1]
    · by_cases h2 : i = d'
      · rw [if_pos h2, if_neg h1, if_pos h2]
      · rw [if_neg h2, if_neg h1, if_neg h1, if_neg h2]
  cases hd : o.dst <;> cases hd' : o'.dst <;> simp only [AF.dl, hob]
  rw [ht _ _ hd hd']

theorem gen_wf (hw : s.WF) (hp : ∀ d, o.dst = some d → s.ob d s.k = .none) (hg : Gen cx ops o s δ) : (s.dl o.dst δ).WF := by
  have hups := gen_ups hg
  -- the names that were there are still what they were
  have keepBox : ∀ d t cs, s.ob d t = .box cs → ∃ cs', (s.dl o.dst δ).ob d t = .box cs' := by
    intro d t cs hcs
    rcases hg with ⟨_, rfl⟩ | ⟨_, ⟨f, args, ts, gi, xs, r, _, _, _, _, rfl⟩ | ⟨_, e, he, hdl⟩⟩
    · exact ⟨cs, hcs⟩
    · refine ⟨cs, ?_⟩
      show applyUps s.ob _ d t = _
      rw [applyUps_ne _ _ _ _ (fun u hu e => ?_)]
      · exact hcs
      · rcases hups u hu with ⟨h1, h2⟩ | ⟨h1, cs', h2⟩ | ⟨h1, el, sz, h2⟩
        · have := hp _ h1; rw [← h2, ← e.1, ← e.2, hcs] at this; cases this
        · cases r <;> cases hd : o.dst <;> simp [retDl, hd] at hu
          subst hu
          have := hp _ hd
          simp only at e
          rw [← e.1, ← e.2, hcs] at this; cases this
        · rw [← e.1, ← e.2, hcs] at h2; cases h2
    · cases e with
      | val x => simp only [Eff.dl, Option.some.injEq] at hdl; subst hdl; exact ⟨cs, hcs⟩
      | new cs0 =>
        cases hd : o.dst <;> simp [Eff.dl, hd] at hdl
        subst hdl
        refine ⟨cs, ?_⟩
        show updO s.ob _ _ _ d t = _
        rw [updO_ne _ _ _ _ _ _ (fun e => by have := hp _ hd; rw [← e.1, ← e.2, hcs] at this; cases this)]
        exact hcs
      | set d' t' cs0 =>
        simp only [Eff.dl, Option.some.injEq] at hdl; subst hdl
        show ∃ cs', updO s.ob _ _ _ d t = _
        simp only [updO]
        split
        · exact ⟨_, rfl⟩
        · exact ⟨cs, hcs⟩
      | app old el sz n cs0 =>
        refine ⟨cs, ?_⟩
        show applyUps s.ob _ d t = _
        rw [applyUps_ne _ _ _ _ (fun u hu e => ?_)]
        · exact hcs
        · rcases hups u hu with ⟨h1, h2⟩ | ⟨h1, _⟩ | ⟨h1, el, sz, h2⟩
          · have := hp _ h1; rw [← h2, ← e.1, ← e.2, hcs] at this; cases this
          · cases hop : o.op <;> rw [hop] at h1 he <;> simp [isStore] at h1
            simp only [acomp] at he
            repeat' split at he
            all_goals first | (cases he; done) | (simp at he; done)
          · rw [← e.1, ← e.2, hcs] at h2; cases h2
  have keepTok : ∀ d t, ((∃ el sz, s.ob d t = .live el sz) ∨ s.ob d t = .dead) → ((∃ el sz, (s.dl o.dst δ).ob d t = .live el sz) ∨ (s.dl o.dst δ).ob d t = .dead) := by
    intro d t hdt
    rcases hg with ⟨_, rfl⟩ | ⟨_, ⟨f, args, ts, gi, xs, r, _, _, _, _, rfl⟩ | ⟨_, e, he, hdl⟩⟩
    · exact hdt
    · show (∃ el sz, applyUps s.ob _ d t = _) ∨ applyUps s.ob _ d t = _
      rw [applyUps_ne _ _ _ _ (fun u hu e => ?_)]
      · exact hdt
      · cases r <;> cases hd : o.dst <;> simp [retDl, hd] at hu
        subst hu
        have := hp _ hd
        simp only at e
        rw [← e.1, ← e.2] at this
        rw [this] at hdt
        rcases hdt with ⟨_, _, h⟩ | h <;> cases h
    · cases e with
      | val x => simp only [Eff.dl, Option.some.injEq] at hdl; subst hdl; exact hdt
      | new cs0 =>
        cases hd : o.dst <;> simp [Eff.dl, hd] at hdl
        subst hdl
        show (∃ el sz, updO s.ob _ _ _ d t = _) ∨ updO s.ob _ _ _ d t = _
        rw [updO_ne _ _ _ _ _ _ (fun e => by have := hp _ hd; rw [← e.1, ← e.2] at this; rw [this] at hdt; rcases hdt with ⟨_, _, h⟩ | h <;> cases h)]
        exact hdt
      | set d' t' cs0 =>
        simp only [Eff.dl, Option.some.injEq] at hdl; subst hdl
        obtain ⟨_, cs1, h1⟩ := acomp_set he
        show (∃ el sz, updO s.ob _ _ _ d t = _) ∨ updO s.ob _ _ _ d t = _
        rw [updO_ne _ _ _ _ _ _ (fun e => by rw [e.1, e.2, h1] at hdt; rcases hdt with ⟨_, _, h⟩ | h <;> cases h)]
        exact hdt
      | app old el sz n cs0 =>
        cases old with
        | none =>
          cases hd : o.dst <;> simp [Eff.dl, hd] at hdl
          subst hdl
          show (∃ el sz, updO s.ob _ _ _ d t = _) ∨ updO s.ob _ _ _ d t = _
          simp only [updO]
          split
          · exact .inl ⟨_, _, rfl⟩
          · exact hdt
        | some p =>
          cases hd : o.dst <;> simp [Eff.dl, hd] at hdl
          subst hdl
          show (∃ el sz, updO (updO s.ob _ _ _) _ _ _ d t = _) ∨ updO (updO s.ob _ _ _) _ _ _ d t = _
          simp only [updO]
          split
          · exact .inl ⟨_, _, rfl⟩
          · split
            · exact .inr rfl
            · exact hdt
  have up : ∀ x : SV, x.wf s.ob → x.wf (s.dl o.dst δ).ob := by
    intro x hx
    cases x <;> first | exact hx | skip
    · exact keepTok _ _ hx
    · obtain ⟨cs, hcs⟩ := hx; exact keepBox _ _ _ hcs
  -- what is put is well
  have put : ∀ d, o.dst = some d → δ.x.wf (s.dl o.dst δ).ob := by
    intro d hd
    rcases hg with ⟨_, rfl⟩ | ⟨_, ⟨f, args, ts, gi, xs, r, _, _, _, hr, rfl⟩ | ⟨_, e, he, hdl⟩⟩
    · trivial
    · cases r <;> simp only [retDl] <;> first | trivial | (simp [SV.okR] at hr; done) | skip
      · rw [hd]
        exact .inl ⟨_, _, by show updO s.ob _ _ _ d s.k = _; exact updO_same _ _ _ _⟩
      · simp only [SV.okR, List.all_eq_true] at hr; exact hr
    · cases e with
      | val x => simp only [Eff.dl, Option.some.injEq] at hdl; subst hdl; exact up _ (acomp_val_wf hw he)
      | new cs0 =>
        rw [hd] at hdl
        simp only [Eff.dl, Option.map_some, Option.some.injEq] at hdl
        subst hdl
        rw [hd]
        exact ⟨cs0, by show updO s.ob _ _ _ d s.k = _; exact updO_same _ _ _ _⟩
      | set d' t' cs0 => simp only [Eff.dl, Option.some.injEq] at hdl; subst hdl; trivial
      | app old el sz n cs0 =>
        rw [hd] at hdl
        cases old with
        | none =>
          simp only [Eff.dl, Option.map_some, Option.some.injEq] at hdl
          subst hdl
          rw [hd]
          exact .inl ⟨_, _, by show updO s.ob _ _ _ d s.k = _; exact updO_same _ _ _ _⟩
        | some p =>
          simp only [Eff.dl, Option.map_some, Option.some.injEq] at hdl
          subst hdl
          rw [hd]
          exact .inl ⟨_, _, by show updO (updO s.ob _ _ _) _ _ _ d s.k = _; exact updO_same _ _ _ _⟩
  intro i
  cases hd : o.dst with
  | none => rw [hd] at up; exact up _ (hw i)
  | some d =>
    by_cases hi : i = d
    · subst hi
      have := put i hd
      rw [hd] at this
      show (upd s.t i δ.x i).wf _
      rw [upd_same]; exact this
    · show (upd s.t d δ.x i).wf _
      rw [upd_ne _ _ _ _ hi]
      have := up _ (hw i)
      rw [hd] at this
      exact this

/-- TWO CHANGE PLACES. -/
theorem astep_swap {K : AF → Prop} (hw : s.WF) (hp : ∀ d, o.dst = some d → s.ob d s.k = .none) (hp' : ∀ d, o'.dst = some d → s.ob d s.k = .none) (hi : indep ops o o' = true)
    (h : AStep cx ops o (AStep cx ops o' K) s) : AStep cx ops o' (AStep cx ops o K) s := by
  obtain ⟨δ, hg, h⟩ := astep_gen.1 h
  obtain ⟨δ', hg', h⟩ := astep_gen.1 h
  have hg1 := (gen_indep hw hp hg hi).1 hg'
  have hg2 := (gen_indep hw hp' hg1 (indep_symm hi)).2 hg
  refine astep_gen.2 ⟨δ', hg1, astep_gen.2 ⟨δ, hg2, ?_⟩⟩
  rw [← dl_comm hp hp' hg hg1 hi]
  exact h

end
end Go.Proofs.YtilhjiopbbbgmaaDoor.Am

/- The abstract machine, part N: regions, whatever order they draw; code; functions. -/
namespace Go.Proofs.YtilhjiopbbbgmaaDoor.Am
open Go Go.RowKit
set_option linter.unusedVariables false
set_option linter.unusedSimpArgs false

def nodupB : List Nat → Bool
  | [] => true
  | x :: xs => !xs.contains x && nodupB xs

def dsts (ops : Array Oper) : List Nat := ops.toList.filterMap (·.dst)

def edgesOk (ops : Array Oper) : Bool := (List.range ops.size).all fun i => match ops[i]? with
  | some o => o.after.all fun e => !Region.binds .any e || decide (e.on < i)
  | none => true

def indepAll (ops : Array Oper) : Bool := (List.range ops.size).all fun i => match ops[i]? with
  | some o => (List.range i).all fun j => match ops[j]? with
    | some p => o.after.any (fun e => Region.binds .any e && e.on == j) || indep ops p o
    | none => true
  | none => true

def opsOk (N : Nat) (ops : Array Oper) (draw : Bool) : Bool :=
  (ops.all fun o => match o.dst with | some d => decide (d < N) | none => true) && nodupB (dsts ops) && (!draw || (edgesOk ops && indepAll ops))

inductive AX where
  | normal
  | exit (id : Nat)
  | ret

def AWp (cx : Cx) : Code → (AX → AF → Prop) → AF → Prop
  | .skip, Q, s => Q .normal s
  | .region _ ops draw, Q, s => opsOk cx.N ops draw = true ∧ AOps cx ops ops.toList (Q .normal) { t := s.t, ob := s.ob, k := s.k + 1 }
  | .seq x y, Q, s => AWp cx x (fun e s' => match e with | .normal => AWp cx y Q s' | .exit id => Q (.exit id) s' | .ret => Q .ret s') s
  | .cond c x y, Q, s => match cx.ev s c with
    | .c (.v (.bool t)) => if t = true then AWp cx x Q s else AWp cx y Q s
    | _ => False
  | .block id c, Q, s => AWp cx c (fun e s' => match e with | .normal => Q .normal s' | .exit id' => if id' = id then Q .normal s' else Q (.exit id') s' | .ret => Q .ret s') s
  | .loop c, Q, s => ∃ I : Nat → AF → Prop, (∃ n, I n s) ∧ ∀ n s, I n s → AWp cx c (fun e s' => match e with | .normal => ∃ n', n' < n ∧ I n' s' | .exit id => Q (.exit id) s' | .ret => Q .ret s') s
  | .exit id, Q, s => Q (.exit id) s
  | .ret, Q, s => Q .ret s
  | _, _, _ => False

section
variable {cx : Cx} {w0 : World} {G0 : Good} {D : Nat → Prop} {w : World} {g : Gh} {a : Act} {s : AF} {o : Oper} {ops : Array Oper}

theorem awanted_wanted {N : Nat} (S : Sim cx.gl.dr w0 G0 N D g a w s) {b : Bool} (h : awanted ops o s.t = some b) : Region.wanted o (yielded ops a.tmps) = b := by
  unfold awanted at h
  unfold Region.wanted
  split at h
  · rename_i hg; cases h; rw [hg]
  · rename_i j want hg
    rw [hg]
    simp only
    split at h
    · rename_i d hd
      have hs := S.slots d
      unfold yielded
      rw [hd]
      simp only [Option.bind_some]
      have hget : a.tmps.getD d undef = (a.tmps[d]?).getD undef := by simp [Array.getD_eq_getD_getElem?]
      rw [hget] at hs
      split at h
      · rename_i t ht
        cases h
        rw [ht] at hs
        have hv : (a.tmps[d]?).getD undef = .bool t := hs.1
        cases hq : a.tmps[d]? with
        | none => rw [hq] at hv; simp [undef] at hv
        | some v =>
          rw [hq] at hv
          simp only [Option.getD_some] at hv
          subst hv
          rfl
      · rename_i ht
        cases h
        rw [ht] at hs
        have hv : (a.tmps[d]?).getD undef = undef := hs
        cases hq : a.tmps[d]? with
        | none => rfl
        | some v =>
          rw [hq] at hv
          simp only [Option.getD_some] at hv
          subst hv
          rfl
      · cases h
    · rename_i hd
      cases h
      unfold yielded
      rw [hd]
      rfl

theorem astep_sound (X : CxOk cx) (S : Sim cx.gl.dr w0 G0 cx.N D g a w s) (hG0 : ∀ b o, G0 b o → b < w0.heap.size) (hgl0 : GlOk cx.gl w0 G0) {K : AF → Prop} (h : AStep cx ops o K s)
    (hd : ∀ d, o.dst = some d → D d ∧ d < cx.N) {i : Nat} (hi : ops[i]? = some o) {Q : Exit → Act → World → Prop} :
    wpOp cx.P ops Q i (fun a' w' => ∃ g' s', K s' ∧ Sim cx.gl.dr w0 G0 cx.N (fun x => D x ∧ o.dst ≠ some x) g' a' w' s') a w := by
  unfold AStep at h
  unfold wpOp
  rw [hi]
  simp only
  split at h
  · rename_i b hb
    rw [awanted_wanted S hb]
    cases b
    · simp only [Bool.false_eq_true, if_false] at h ⊢
      exact ⟨g, _, h, (S.put (v := undef) (x := .und) o.dst (fun d e => (hd d e).2) (fun _ _ => rfl)).weaken (fun _ h => h.1)⟩
    · simp only [if_true] at h ⊢
      exact .inl (aop_sound X S hG0 hgl0 h hd)
  · exact h.elim

def ARun (cx : Cx) (ops : Array Oper) : List Nat → (AF → Prop) → AF → Prop
  | [], Q, s => Q s
  | i :: r, Q, s => match ops[i]? with
    | some o => AStep cx ops o (ARun cx ops r Q) s
    | none => ARun cx ops r Q s

theorem arun_aops (Q : AF → Prop) : ∀ (l : List Oper) (k : Nat) (s : AF), (∀ j, l[j]? = ops[k + j]?) → AOps cx ops l Q s → ARun cx ops (List.range' k l.length) Q s
  | [], k, s, _, h => h
  | o :: l, k, s, hl, h => by
    have h0 : ops[k]? = some o := by simpa using (hl 0).symm
    simp only [List.length_cons, List.range'_succ, ARun, h0]
    simp only [AOps] at h
    obtain ⟨δ, hg, h⟩ := astep_gen.1 h
    exact astep_gen.2 ⟨δ, hg, arun_aops Q l (k + 1) _ (fun j => by have := hl (j + 1); simpa [Nat.add_assoc, Nat.add_comm 1 j] using this) h⟩

/-- The operations that are still to come have names of their own. -/
structure Todo (N : Nat) (ops : Array Oper) (l : List Nat) : Prop where
  lt : ∀ i ∈ l, i < ops.size
  sorted : l.Pairwise (· < ·)
  dst : ∀ (i : Nat) (o : Oper) (d : Nat), ops[i]? = some o → o.dst = some d → d < N
  inj : ∀ (i j : Nat) (o p : Oper) (d : Nat), ops[i]? = some o → ops[j]? = some p → o.dst = some d → p.dst = some d → i = j

def Pend (ops : Array Oper) (l : List Nat) (d : Nat) : Prop := ∃ i ∈ l, ∃ o, ops[i]? = some o ∧ o.dst = some d

theorem nodupB_spec : ∀ {l : List Nat}, nodupB l = true → l.Nodup
  | [], _ => List.nodup_nil
  | x :: xs, h => by
    simp only [nodupB, Bool.and_eq_true, Bool.not_eq_true'] at h
    refine List.nodup_cons.2 ⟨fun hm => ?_, nodupB_spec h.2⟩
    have := h.1
    simp [hm] at this

theorem filterMap_inj : ∀ (l : List Oper) (i j : Nat) (o p : Oper) (d : Nat), (l.filterMap (·.dst)).Nodup → l[i]? = some o → l[j]? = some p → o.dst = some d → p.dst = some d → i = j
  | [], i, j, o, p, d, _, h, _, _, _ => by simp at h
  | x :: l, i, j, o, p, d, hn, hi, hj, ho, hp => by
    have hmem : ∀ (k : Nat) (q : Oper), l[k]? = some q → q.dst = some d → d ∈ l.filterMap (·.dst) := fun k q hk hq => List.mem_filterMap.2 ⟨q, List.mem_of_getElem? hk, hq⟩
    cases hx : x.dst with
    | none =>
      rw [List.filterMap_cons_none hx] at hn
      cases i with
      | zero => simp at hi; subst hi; rw [hx] at ho; cases ho
      | succ i =>
        cases j with
        | zero => simp at hj; subst hj; rw [hx] at hp; cases hp
        | succ j => rw [filterMap_inj l i j o p d hn (by simpa using hi) (by simpa using hj) ho hp]
    | some e =>
      rw [List.filterMap_cons_some hx] at hn
      obtain ⟨h1, h2⟩ := List.nodup_cons.1 hn
      cases i with
      | zero =>
        simp at hi; subst hi
        rw [hx] at ho; cases ho
        cases j with
        | zero => rfl
        | succ j => exact absurd (hmem j p (by simpa using hj) hp) h1
      | succ i =>
        cases j with
        | zero =>
          simp at hj; subst hj
          rw [hx] at hp; cases hp
          exact absurd (hmem i o (by simpa using hi) ho) h1
        | succ j => rw [filterMap_inj l i j o p d h2 (by simpa using hi) (by simpa using hj) ho hp]

theorem opsOk_todo {N : Nat} {draw : Bool} (h : opsOk N ops draw = true) : Todo N ops (List.range ops.size) := by
  simp only [opsOk, Bool.and_eq_true] at h
  obtain ⟨⟨h1, h2⟩, _⟩ := h
  refine ⟨fun i hi => by simpa using hi, List.pairwise_lt_range, fun i o d hi hd => ?_, fun i j o p d hi hj ho hp => ?_⟩
  · have := Array.all_eq_true_iff_forall_mem.1 h1 o (Array.mem_of_getElem? hi)
    simpa [hd] using this
  · refine filterMap_inj ops.toList i j o p d (nodupB_spec h2) (by simpa using hi) (by simpa using hj) ho hp

theorem Todo.sub {N : Nat} {l r : List Nat} (h : Todo N ops l) (hs : r.Sublist l) : Todo N ops r :=
  ⟨fun i hi => h.lt i (hs.subset hi), h.sorted.sublist hs, h.dst, h.inj⟩

theorem sim_wf {N : Nat} (S : Sim cx.gl.dr w0 G0 N D g a w s) : s.WF := by
  intro i
  have h := S.slots i
  cases hx : s.t i <;> rw [hx] at h <;> first | trivial | skip
  · obtain ⟨_, hτ⟩ := h
    exact S.tau _ _ _ hτ
  · obtain ⟨ys, _, hl⟩ := h
    have : ∀ (vs : List SV) (ys : List Value), RepTL w g.G vs ys → ∀ v ∈ vs, v.plain = true := by
      intro vs
      induction vs with
      | nil => intro _ _ v hv; cases hv
      | cons x xs ih =>
        intro ys h v hv
        cases ys with
        | nil => exact h.elim
        | cons y ys =>
          rcases List.mem_cons.1 hv with rfl | hv
          · have := h.1
            cases v <;> first | rfl | exact this.elim
          · exact ih ys h.2 v hv
    exact this _ _ hl
  · obtain ⟨b, hb, _⟩ := h
    exact (S.beta _ _ _ hb).1

/-- A run goes through, in the order of the list. -/
theorem arun_sound (X : CxOk cx) (hG0 : ∀ b o, G0 b o → b < w0.heap.size) (hgl0 : GlOk cx.gl w0 G0) {Qf : AF → Prop} {Q : Exit → Act → World → Prop}
    (hQ : ∀ g a w s, Qf s → Sim cx.gl.dr w0 G0 cx.N (fun _ => False) g a w s → Q .normal a w) :
    ∀ (l : List Nat) (g : Gh) (a : Act) (w : World) (s : AF), Todo cx.N ops l → ARun cx ops l Qf s → Sim cx.gl.dr w0 G0 cx.N (Pend ops l) g a w s → wpOps cx.P ops Q l a w
  | [], g, a, w, s, _, h, S => hQ g a w s h (S.weaken (fun _ h => h.elim))
  | i :: l, g, a, w, s, T, h, S => by
    rw [wpOps_cons]
    have hi := T.lt i (by simp)
    have hoi : ops[i]? = some ops[i] := Array.getElem?_eq_getElem hi
    simp only [ARun, hoi] at h
    have hd : ∀ d, ops[i].dst = some d → Pend ops (i :: l) d ∧ d < cx.N := fun d e => ⟨⟨i, by simp, _, hoi, e⟩, T.dst i _ d hoi e⟩
    refine wpOp_mono ?_ (astep_sound X S hG0 hgl0 h hd hoi)
    rintro a' w' ⟨g', s', h', S'⟩
    refine arun_sound X hG0 hgl0 hQ l g' a' w' s' (T.sub (List.sublist_cons_self _ _)) h' (S'.weaken ?_)
    rintro d ⟨j, hj, p, hp, hpd⟩
    refine ⟨⟨j, by simp [hj], p, hp, hpd⟩, fun e => ?_⟩
    have := T.inj _ _ _ _ _ hoi hp e hpd
    subst this
    exact Nat.lt_irrefl _ ((List.pairwise_cons.1 T.sorted).1 _ hj)

theorem pend_dl {N : Nat} {l : List Nat} {i : Nat} {o : Oper} {δ : Dl} (T : Todo N ops (i :: l)) (hi : ops[i]? = some o) (hg : Gen cx ops o s δ) (hp : ∀ d, Pend ops (i :: l) d → s.ob d s.k = .none) :
    ∀ d, Pend ops l d → (s.dl o.dst δ).ob d (s.dl o.dst δ).k = .none := by
  rintro d ⟨j, hj, p, hpj, hpd⟩
  have h0 := hp d ⟨j, by simp [hj], p, hpj, hpd⟩
  show applyUps s.ob δ.ups d s.k = _
  rw [applyUps_ne _ _ _ _ (fun u hu e => ?_)]
  · exact h0
  · rcases gen_ups hg u hu with ⟨h1, h2⟩ | ⟨h1, cs, h2⟩ | ⟨h1, el, sz, h2⟩
    · rw [← e.1] at h1
      have := T.inj _ _ _ _ _ hi hpj h1 hpd
      subst this
      exact Nat.lt_irrefl _ ((List.pairwise_cons.1 T.sorted).1 _ hj)
    · rw [← e.1, ← e.2, h0] at h2; cases h2
    · rw [← e.1, ← e.2, h0] at h2; cases h2

/-- An operation that nothing ahead of it hangs on may come first. -/
theorem arun_front {N : Nat} {i : Nat} {oi : Oper} (hoi : ops[i]? = some oi) {r : List Nat} {Q : AF → Prop} : ∀ (l : List Nat) (s : AF), Todo N ops (l ++ i :: r) → s.WF → (∀ d, Pend ops (l ++ i :: r) d → s.ob d s.k = .none) →
    (∀ j ∈ l, ∀ p, ops[j]? = some p → indep ops p oi = true) → ARun cx ops (l ++ i :: r) Q s → AStep cx ops oi (ARun cx ops (l ++ r) Q) s
  | [], s, T, hw, hp, hi, h => by simpa only [List.nil_append, ARun, hoi] using h
  | j :: l, s, T, hw, hp, hi, h => by
    have hj := T.lt j (by simp)
    have hoj : ops[j]? = some ops[j] := Array.getElem?_eq_getElem hj
    simp only [List.cons_append, ARun, hoj] at h ⊢
    have hpj : ∀ d, ops[j].dst = some d → s.ob d s.k = .none := fun d e => hp d ⟨j, by simp, _, hoj, e⟩
    have hpi : ∀ d, oi.dst = some d → s.ob d s.k = .none := fun d e => hp d ⟨i, by simp, _, hoi, e⟩
    refine astep_swap hw hpj hpi (hi j (by simp) _ hoj) ?_
    obtain ⟨δ, hg, h⟩ := astep_gen.1 h
    refine astep_gen.2 ⟨δ, hg, ?_⟩
    exact arun_front hoi l _ (T.sub (List.sublist_cons_self _ _)) (gen_wf hw hpj hg) (pend_dl T hoj hg hp) (fun k hk => hi k (by simp [hk])) h

theorem drawn_sound (X : CxOk cx) (hG0 : ∀ b o, G0 b o → b < w0.heap.size) (hgl0 : GlOk cx.gl w0 G0) {Qf : AF → Prop} {Q : Exit → Act → World → Prop}
    (hQ : ∀ g a w s, Qf s → Sim cx.gl.dr w0 G0 cx.N (fun _ => False) g a w s → Q .normal a w) (he : edgesOk ops = true) (hind : indepAll ops = true) :
    ∀ (fuel : Nat) (listed : Array Bool) (l : List Nat) (g : Gh) (a : Act) (w : World) (s : AF), l.length = fuel → listed.size = ops.size → (∀ i, i ∈ l ↔ i < ops.size ∧ listed.getD i true = false) →
    Todo cx.N ops l → ARun cx ops l Qf s → Sim cx.gl.dr w0 G0 cx.N (Pend ops l) g a w s → wpAny cx.P .any ops Q fuel listed a w := by
  intro fuel
  induction fuel with
  | zero =>
    intro listed l g a w s hl hsz hm T h S
    have : l = [] := List.eq_nil_of_length_eq_zero hl
    subst this
    refine ⟨?_, hQ g a w s h (S.weaken (fun _ h => h.elim))⟩
    cases hr : Region.ready .any ops listed with
    | nil => rfl
    | cons i r =>
      have := mem_ready.1 (show i ∈ Region.ready .any ops listed by rw [hr]; simp)
      obtain ⟨h0, o, ho, _⟩ := this
      have := (hm i).2 ⟨(Array.getElem?_eq_some_iff.1 ho).1, h0⟩
      cases this
  | succ fuel ih =>
    intro listed l g a w s hl hsz hm T h S
    have listedOf : ∀ j, j < ops.size → j ∉ l → listed.getD j false = true := by
      intro j hj hn
      have h1 : listed.getD j true ≠ false := fun e => hn ((hm j).2 ⟨hj, e⟩)
      have hj' : j < listed.size := by omega
      simp only [Array.getD, hj', dif_pos] at h1 ⊢
      simpa using h1
    refine ⟨fun h0 => ?_, fun i hi => ?_⟩
    · exfalso
      cases l with
      | nil => simp at hl
      | cons i r =>
        have hi := T.lt i (by simp)
        have hoi : ops[i]? = some ops[i] := Array.getElem?_eq_getElem hi
        have : i ∈ Region.ready .any ops listed := mem_ready.2 ⟨((hm i).1 (by simp)).2, ops[i], hoi, fun e hee hb => by
          have h1 := List.all_eq_true.1 he i (by simpa using hi)
          rw [hoi] at h1
          have h2 := Array.all_eq_true_iff_forall_mem.1 h1 e hee
          simp only [hb, Bool.not_true, Bool.false_or, decide_eq_true_eq] at h2
          refine listedOf e.on (by omega) (fun hmem => ?_)
          rcases List.mem_cons.1 hmem with h3 | h3
          · omega
          · have := (List.pairwise_cons.1 T.sorted).1 _ h3; omega⟩
        rw [h0] at this
        cases this
    · obtain ⟨h0, oi, hoi, hall⟩ := mem_ready.1 hi
      have hisz := (Array.getElem?_eq_some_iff.1 hoi).1
      have hmem := (hm i).2 ⟨hisz, h0⟩
      obtain ⟨l1, l2, rfl⟩ := List.append_of_mem hmem
      have hsub : (l1 ++ l2).Sublist (l1 ++ i :: l2) := List.Sublist.append (List.Sublist.refl _) (List.sublist_cons_self _ _)
      have hsorted := List.pairwise_append.1 T.sorted
      have hfront := arun_front hoi l1 s T (sim_wf S) (fun d hd => S.free d hd) (fun j hj p hp => by
        have hjlt : j < i := hsorted.2.2 j hj i (by simp)
        have h1 := List.all_eq_true.1 hind i (by simpa using hisz)
        rw [hoi] at h1
        have h2 := List.all_eq_true.1 h1 j (by simpa using hjlt)
        rw [hp] at h2
        simp only [Bool.or_eq_true] at h2
        rcases h2 with h2 | h2
        · exfalso
          obtain ⟨e, hee, hb⟩ := Array.any_eq_true'.1 h2
          simp only [Bool.and_eq_true, beq_iff_eq] at hb
          have h3 := hall e hee hb.1
          rw [hb.2] at h3
          have h4 := ((hm j).1 (by simp [hj])).2
          have hj' : j < listed.size := by omega
          simp only [Array.getD, hj', dif_pos] at h3 h4
          rw [h3] at h4; cases h4
        · exact h2) h
      have hd : ∀ d, oi.dst = some d → Pend ops (l1 ++ i :: l2) d ∧ d < cx.N := fun d e => ⟨⟨i, by simp, _, hoi, e⟩, T.dst i _ d hoi e⟩
      refine wpOp_mono ?_ (astep_sound X S hG0 hgl0 hfront hd hoi)
      rintro a' w' ⟨g', s', h', S'⟩
      have hnotin : i ∉ l1 ++ l2 := by
        intro hmem'
        rcases List.mem_append.1 hmem' with h1 | h1
        · exact Nat.lt_irrefl _ (hsorted.2.2 i h1 i (by simp))
        · exact Nat.lt_irrefl _ ((List.pairwise_cons.1 hsorted.2.1).1 _ h1)
      refine ih (listed.setIfInBounds i true) (l1 ++ l2) g' a' w' s' (by simp at hl ⊢; omega) (by simpa using hsz) (fun j => ?_) (T.sub hsub) h' (S'.weaken ?_)
      · by_cases hji : j = i
        · subst hji
          refine ⟨fun h => absurd h hnotin, fun h => ?_⟩
          have hj' : j < listed.size := by omega
          simp [hj'] at h
        · rw [getD_set_ne true (Ne.symm hji), ← hm j]
          simp [hji]
      · rintro d ⟨j, hj, p, hp, hpd⟩
        refine ⟨⟨j, hsub.subset hj, p, hp, hpd⟩, fun e => ?_⟩
        have := T.inj _ _ _ _ _ hoi hp e hpd
        subst this
        exact hnotin hj

end
end Go.Proofs.YtilhjiopbbbgmaaDoor.Am

/- The abstract machine, part O: code; a function's contract out of its body. -/
namespace Go.Proofs.YtilhjiopbbbgmaaDoor.Am
open Go Go.RowKit
set_option linter.unusedVariables false
set_option linter.unusedSimpArgs false

section
variable {cx : Cx} {w0 : World} {G0 : Good}

/-- What an abstract end says of a concrete one. -/
def lift (w0 : World) (G0 : Good) (N : Nat) (Q : AX → AF → Prop) : Exit → Act → World → Prop
  | .normal, a, w => ∃ g s, Q .normal s ∧ Sim cx.gl.dr w0 G0 N (fun _ => False) g a w s
  | .exit id, a, w => ∃ g s, Q (.exit id) s ∧ Sim cx.gl.dr w0 G0 N (fun _ => False) g a w s
  | .ret, a, w => ∃ g s, Q .ret s ∧ Sim cx.gl.dr w0 G0 N (fun _ => False) g a w s
  | _, _, _ => False

theorem awp_sound (X : CxOk cx) (hG0 : ∀ b o, G0 b o → b < w0.heap.size) (hgl0 : GlOk cx.gl w0 G0) : ∀ (c : Code) (Q : AX → AF → Prop) (s : AF) (g : Gh) (a : Act) (w : World),
    AWp cx c Q s → Sim cx.gl.dr w0 G0 cx.N (fun _ => False) g a w s → c.wp cx.P (lift (cx := cx) w0 G0 cx.N Q) a w := by
  intro c
  induction c with
  | skip => intro Q s g a w h S; exact wp_skip ⟨g, s, h, S⟩
  | region id ops draw =>
    intro Q s g a w h S
    obtain ⟨hok, h⟩ := h
    have T := opsOk_todo hok
    have hrun := arun_aops (cx := cx) (ops := ops) (Q .normal) ops.toList 0 _ (by simp) h
    rw [← List.range_eq_range', Array.length_toList] at hrun
    have S' : Sim cx.gl.dr w0 G0 cx.N (Pend ops (List.range ops.size)) g a w { t := s.t, ob := s.ob, k := s.k + 1 } := S.tick.weaken (fun _ _ => trivial)
    have hQ : ∀ g a w s, Q .normal s → Sim cx.gl.dr w0 G0 cx.N (fun _ => False) g a w s → lift w0 G0 cx.N Q .normal a w := fun g a w s hq S => ⟨g, s, hq, S⟩
    cases draw with
    | false => exact wp_region (arun_sound X hG0 hgl0 hQ _ g a w _ T hrun S')
    | true =>
      simp only [opsOk, Bool.and_eq_true, Bool.not_true, Bool.false_or] at hok
      refine wp_region_any X.mixed ?_
      refine drawn_sound X hG0 hgl0 hQ hok.2.1 hok.2.2 ops.size _ (List.range ops.size) g a _ _ (by simp) (by simp) (fun i => ?_) T hrun (S'.world rfl rfl rfl rfl (fun _ => Nat.le_succ _))
      simp only [List.mem_range]
      constructor
      · intro hi
        refine ⟨hi, ?_⟩
        simp [Array.getD, hi]
      · exact fun h => h.1
  | seq x y ihx ihy =>
    intro Q s g a w h S
    refine wp_seq (wp_mono (ihx _ s g a w h S) (fun e a' w' hq => ?_))
    cases e with
    | normal => obtain ⟨g', s', hq, S'⟩ := hq; exact ihy Q s' g' a' w' hq S'
    | exit id => exact hq
    | ret => exact hq
    | goto l => exact hq.elim
    | panic ch => exact hq.elim
    | outgrown => exact hq.elim
  | cond c x y ihx ihy =>
    intro Q s g a w h S
    have hgl := S.glOk hG0 hgl0
    simp only [AWp] at h
    split at h
    · rename_i t hc
      have hv := S.ev hgl c
      rw [hc] at hv
      refine wp_cond (t := t) hv.1 ?_
      cases t
      · exact ihy Q s g a w h S
      · exact ihx Q s g a w h S
    · exact h.elim
  | block id c ih =>
    intro Q s g a w h S
    refine wp_block (wp_mono (ih _ s g a w h S) (fun e a' w' hq => ?_))
    cases e with
    | normal => exact hq
    | exit id' =>
      obtain ⟨g', s', hq, S'⟩ := hq
      simp only [Exit.inBlock]
      simp only at hq
      split at hq
      · rename_i e; rw [if_pos e]; exact ⟨g', s', hq, S'⟩
      · rename_i e; rw [if_neg e]; exact ⟨g', s', hq, S'⟩
    | ret => exact hq
    | goto l => exact hq.elim
    | panic ch => exact hq.elim
    | outgrown => exact hq.elim
  | loop c ih =>
    intro Q s g a w h S
    obtain ⟨I, ⟨n, h0⟩, hround⟩ := h
    refine wp_loop_ghost (fun n a w => ∃ g s, I n s ∧ Sim cx.gl.dr w0 G0 cx.N (fun _ => False) g a w s) n ⟨g, s, h0, S⟩ ?_
    rintro n a w ⟨g, s, hI, S⟩
    refine wp_mono (ih _ s g a w (hround n s hI) S) (fun e a' w' hq => ?_)
    cases e with
    | normal =>
      obtain ⟨g', s', ⟨n', hlt, hI'⟩, S'⟩ := hq
      exact ⟨n', hlt, g', s', hI', S'⟩
    | exit id => exact hq
    | ret => exact hq
    | goto l => exact hq.elim
    | panic ch => exact hq.elim
    | outgrown => exact hq.elim
  | exit id => intro Q s g a w h S; exact wp_exit ⟨g, s, h, S⟩
  | ret => intro Q s g a w h S; exact wp_ret ⟨g, s, h, S⟩
  | _ => intros; simp_all [AWp]

/-- What a frame hands back out of a slot. -/
def Exp (s : AF) (x r : SV) : Prop :=
  match x with
  | .c y => r = .c y
  | .nil => r = .nil ∨ r = .c (.sl 0 [])
  | .agg cs => r = .agg cs
  | .tok d t n cs => r = .c (.sl n cs) ∨ ∃ el sz, s.ob d t = .live el sz ∧ cs.length = n * sz ∧ r = .tok el sz n cs
  | _ => False

theorem exp_rep {N : Nat} {D : Nat → Prop} {g : Gh} {a : Act} {w : World} {s : AF} (S : Sim cx.gl.dr w0 G0 N D g a w s) {x r : SV} {v : Value} (hv : RepS w g x v) (h : Exp s x r) : RepR w g.G w0.heap.size r v := by
  cases x <;> simp only [Exp] at h
  · subst h; exact hv
  · simp only [RepS] at hv
    subst hv
    rcases h with rfl | rfl
    · rfl
    · exact RepC_nil
  · rename_i d t n cs
    obtain ⟨hr, hτ⟩ := hv
    rcases h with rfl | ⟨el, sz, hob, hcl, rfl⟩
    · exact hr
    · obtain ⟨v0, n1, xs, hτ', hown, hroom⟩ := S.toks _ _ _ _ hob
      rw [hτ] at hτ'
      cases hτ'
      obtain ⟨ad, cap, hv, hnc, hcell⟩ := RepC_sl hr
      have hn : n1 = n := by
        rcases hown.2 with ⟨h, rfl⟩ | ⟨gg, cap', cur, h, _⟩ <;> rw [hv] at h <;> cases h <;> rfl
      subst hn
      refine ⟨xs, hown, ?_, fun b hb => (hroom b hb).2⟩
      rcases hcell with rfl | ⟨b', o', rfl, hm'⟩
      · have : xs = [] := List.eq_nil_of_length_eq_zero (by rw [hown.1, ← hcl]; rfl)
        subst this; trivial
      · obtain ⟨zs, hz1, hz2⟩ := hm'.vals
        have hb0 : o' = 0 := by
          rcases hown.2 with ⟨h, _⟩ | ⟨gg, cap', cur, h, _⟩ <;> rw [hv] at h <;> cases h
          rfl
        subst hb0
        have hcells := hown.cells (g := b') (by rw [hv]; rfl)
        have : xs = zs := list_same (by rw [hown.1, ← hz1.length, hcl]) (fun j u u' h1 h2 => by
          have := hcells j u h1
          rw [add_plain] at this
          rw [hz2 j u' h2] at this
          exact (Option.some.inj this).symm)
        rw [this]; exact hz1
  · subst h; exact hv

def Exps (s : AF) : List Nat → List SV → Prop
  | [], [] => True
  | r :: rs, x :: xs => (s.t r).down = some x ∧ Exps s rs xs
  | _, _ => False

def ExpAll (s : AF) (rs : List Nat) (r : SV) : Prop :=
  match rs with
  | [x] => Exp s (s.t x) r
  | rs => ∃ xs, r = .tup xs ∧ Exps s rs xs

def initT : Nat → List SV → Nat → SV
  | _, [] => fun _ => .und
  | i, x :: xs => upd (initT (i + 1) xs) i x

theorem initT_get : ∀ (xs : List SV) (k i : Nat), initT k xs i = if i < k then .und else xs.getD (i - k) .und
  | [], k, i => by simp [initT]
  | x :: xs, k, i => by
    simp only [initT, upd]
    split
    · rename_i e; subst e; simp
    · rename_i e
      rw [initT_get xs (k + 1) i]
      by_cases h : i < k
      · rw [if_pos (by omega), if_pos h]
      · rw [if_neg (by omega), if_neg h]
        obtain ⟨m, rfl⟩ : ∃ m, i = k + (m + 1) := ⟨i - k - 1, by omega⟩
        rw [show k + (m + 1) - (k + 1) = m by omega, show k + (m + 1) - k = m + 1 by omega]
        rfl

def AF.init (args : List SV) : AF := { t := initT 0 args, ob := fun _ _ => .none, k := 0 }

theorem init_t (args : List SV) (i : Nat) : (AF.init args).t i = args.getD i .und := by
  show initT 0 args i = _
  rw [initT_get]; simp

theorem init_sim {dr : Prop} {N : Nat} {w : World} {G : Good} {args : List SV} {vs : Array Value} (hG : ∀ b o, G b o → b < w.heap.size) (h : RepTL w G args vs.toList) (hN : args.length ≤ N) :
    Sim dr w G N (fun _ => False) ⟨G, fun _ _ => none, fun _ _ => none, fun _ => none⟩ { tmps := vs ++ Array.replicate (N - vs.size) undef, defers := [] } w (AF.init args) := by
  have hlen : ∀ (xs : List SV) (ys : List Value), RepTL w G xs ys → xs.length = ys.length := by
    intro xs
    induction xs with
    | nil => intro ys h; cases ys with | nil => rfl | cons _ _ => exact h.elim
    | cons x xs ih => intro ys h; cases ys with | nil => exact h.elim | cons y ys => simp [ih ys h.2]
  have hl := hlen _ _ h
  simp only [Array.length_toList] at hl
  have hget : ∀ (xs : List SV) (ys : List Value) (i : Nat), RepTL w G xs ys → RepS w ⟨G, fun _ _ => none, fun _ _ => none, fun _ => none⟩ (xs.getD i .und) (ys.getD i undef) := by
    intro xs
    induction xs with
    | nil => intro ys i h; cases ys with | nil => rfl | cons _ _ => exact h.elim
    | cons x xs ih =>
      intro ys i h
      cases ys with
      | nil => exact h.elim
      | cons y ys =>
        cases i with
        | zero => have := h.1; cases x <;> first | exact this | exact this.elim
        | succ i => simpa using ih ys i h.2
  exact {
    below := Below.refl _ _
    drawn := fun _ => Nat.le_refl _
    size := by simp; omega
    defers := rfl
    g0 := fun _ _ h => h
    gnew := fun _ _ h => .inl h
    glt := hG
    slots := fun i => by
      have := hget args vs.toList i h
      have e : (vs ++ Array.replicate (N - vs.size) undef).getD i undef = vs.toList.getD i undef := by
        simp only [Array.getD_eq_getD_getElem?, List.getD, Array.getElem?_append, Array.getElem?_toList]
        by_cases hi : i < vs.size
        · simp [hi]
        · simp [hi]
          by_cases h2 : i - vs.size < N - vs.size
          · simp [h2]
          · simp [h2]
      rw [e, init_t]
      exact this
    boxes := fun _ _ _ h => by cases h
    beta := fun _ _ _ h => by cases h
    toks := fun _ _ _ _ h => by cases h
    tau := fun _ _ _ h => by cases h
    owner := fun _ _ h => by cases h
    fresh := fun _ _ _ => rfl
    free := fun _ h => h.elim }

theorem run_results {P : Program} {fn : Func} {rs : List Nat} (hr : fn.results = (rs.map ResultVar.tmp).toArray) (h2 : rs.length ≤ 2) (tmps : Array Value) (w : World) :
    (results fn tmps).run P w = .ok (match rs with | [x] => tmps.getD x undef | rs => .tuple (rs.map (tmps.getD · undef)).toArray) w := by
  match rs, hr, h2 with
  | [], hr, _ => exact results_none (by simpa using hr) tmps P w
  | [x], hr, _ => exact results_tmp (by simpa using hr) tmps P w
  | [x, y], hr, _ => exact results_tmp2 (by simpa using hr) tmps P w

theorem exps_rep {N : Nat} {D : Nat → Prop} {g : Gh} {a : Act} {w : World} {s : AF} (S : Sim cx.gl.dr w0 G0 N D g a w s) : ∀ (rs : List Nat) (xs : List SV), Exps s rs xs → RepTL w g.G xs (rs.map (a.tmps.getD · undef))
  | [], [], _ => trivial
  | [], _ :: _, h => h.elim
  | _ :: _, [], h => h.elim
  | r :: rs, x :: xs, h => ⟨down_rep (S.slots r) h.1, exps_rep S rs xs h.2⟩

/-- The same machine at a function of n slots. -/
def Cx.at (cx : Cx) (n : Nat) : Cx := { cx with N := n }

theorem CxOk.at (X : CxOk cx) (n : Nat) : CxOk (cx.at n) := ⟨X.types, X.eqs, X.mixed⟩

/-- A FUNCTION's CONTRACT OUT OF ITS BODY. -/
theorem ret_of (X : CxOk cx) {f : FuncId} {fn : Func} {code : Code} {n : Nat} {rs : List Nat} {args : List SV} {r : SV} (hf : cx.P.funcs[f]? = some fn) (hname : (fn.name == "runtime.NumGoroutine") = false)
    (hb : fn.body = some code) (hN : fn.ntmps = n) (hr : fn.results = (rs.map ResultVar.tmp).toArray) (h2 : rs.length ≤ 2) (hlen : args.length ≤ n)
    (h : AWp (cx.at n) code (fun e s => match e with | .exit _ => False | _ => ExpAll s rs r) (AF.init args)) : Ret cx.P cx.gl f args r := by
  refine ⟨fun vs w => ?_, fun w G vs hG hgl hrep => ?_⟩
  · have h1 : fn.name ≠ "runtime.NumGoroutine" := by simpa using hname
    simp [callFunc, hf, h1, hb, mark]
  · refine calls_of_wp hf hb ?_
    rw [hN]
    have S := init_sim (dr := cx.gl.dr) hG hrep hlen
    refine wp_mono (awp_sound (X.at n) hG hgl code _ _ _ _ _ h S) (fun e a' w' hq => ?_)
    have done : (∃ g s, ExpAll s rs r ∧ Sim cx.gl.dr w G n (fun _ => False) g a' w' s) → a'.defers = [] ∧ ∃ v, (results fn a'.tmps).run cx.P w' = .ok v w' ∧ Back cx.gl.dr w G r (.returned v) w' := by
      rintro ⟨g, s, he, S'⟩
      refine ⟨S'.defers, _, run_results hr h2 a'.tmps w', _, rfl, S'.below, S'.drawn, g.G, S'.g0, S'.gnew, S'.glt, ?_⟩
      match rs, he with
      | [], he => obtain ⟨xs, rfl, hx⟩ := he; exact ⟨_, rfl, by simpa using exps_rep S' _ _ hx⟩
      | [x], he => exact exp_rep S' (S'.slots x) he
      | x :: y :: rest, he => obtain ⟨xs, rfl, hx⟩ := he; exact ⟨_, rfl, by simpa using exps_rep S' _ _ hx⟩
    cases e with
    | normal => exact done hq
    | ret => exact done hq
    | exit id => obtain ⟨_, _, hq, _⟩ := hq; exact hq.elim
    | goto l => exact hq.elim
    | panic ch => exact hq.elim
    | outgrown => exact hq.elim

end

theorem awp_seq {cx : Cx} {x y : Code} {Q : AX → AF → Prop} {s : AF}
    (h : ∀ K : AF → Prop, (∀ s', AWp cx y Q s' → K s') → AWp cx x (fun e s' => match e with | .normal => K s' | .exit id => Q (.exit id) s' | .ret => Q .ret s') s) : AWp cx (.seq x y) Q s :=
  h _ fun _ h => h

theorem awp_region {cx : Cx} {id : Nat} {ops : Array Oper} {draw : Bool} {Q : AX → AF → Prop} {s : AF} (hok : opsOk cx.N ops draw = true)
    (h : AOps cx ops ops.toList (Q .normal) { t := s.t, ob := s.ob, k := s.k + 1 }) : AWp cx (.region id ops draw) Q s := ⟨hok, h⟩

theorem awp_skip {cx : Cx} {Q : AX → AF → Prop} {s : AF} (h : Q .normal s) : AWp cx .skip Q s := h
theorem awp_ret {cx : Cx} {Q : AX → AF → Prop} {s : AF} (h : Q .ret s) : AWp cx .ret Q s := h
theorem awp_exit {cx : Cx} {id : Nat} {Q : AX → AF → Prop} {s : AF} (h : Q (.exit id) s) : AWp cx (.exit id) Q s := h

theorem awp_block {cx : Cx} {id : Nat} {c : Code} {Q : AX → AF → Prop} {s : AF}
    (h : AWp cx c (fun e s' => match e with | .normal => Q .normal s' | .exit id' => if id' = id then Q .normal s' else Q (.exit id') s' | .ret => Q .ret s') s) : AWp cx (.block id c) Q s := h

theorem awp_loop {cx : Cx} {c : Code} {Q : AX → AF → Prop} {s : AF} (I : Nat → AF → Prop) (n : Nat) (h0 : I n s)
    (h : ∀ n s, I n s → AWp cx c (fun e s' => match e with | .normal => ∃ n', n' < n ∧ I n' s' | .exit id => Q (.exit id) s' | .ret => Q .ret s') s) : AWp cx (.loop c) Q s := ⟨I, ⟨n, h0⟩, h⟩

theorem awp_cond {cx : Cx} {c : Operand} {x y : Code} {Q : AX → AF → Prop} {s : AF} {t : Bool} (hc : cx.ev s c = .c (.v (.bool t))) (h1 : t = true → AWp cx x Q s) (h2 : t = false → AWp cx y Q s) :
    AWp cx (.cond c x y) Q s := by
  simp only [AWp, hc]
  cases t
  · exact h2 rfl
  · exact h1 rfl

theorem awp_mono {cx : Cx} : ∀ {c : Code} {Q Q' : AX → AF → Prop} {s : AF}, (∀ e s, Q e s → Q' e s) → AWp cx c Q s → AWp cx c Q' s := by
  have ops : ∀ (ops : Array Oper) (l : List Oper) (Q Q' : AF → Prop) (s : AF), (∀ s, Q s → Q' s) → AOps cx ops l Q s → AOps cx ops l Q' s := by
    intro ops l Q Q'
    induction l with
    | nil => intro s hq h; exact hq _ h
    | cons o l ih =>
      intro s hq h
      obtain ⟨δ, hg, h⟩ := astep_gen.1 h
      exact astep_gen.2 ⟨δ, hg, ih _ hq h⟩
  intro c
  induction c with
  | skip => intro Q Q' s hq h; exact hq _ _ h
  | region id os d => intro Q Q' s hq h; exact ⟨h.1, ops _ _ _ _ _ (fun s h => hq _ _ h) h.2⟩
  | seq x y ihx ihy =>
    intro Q Q' s hq h
    refine ihx (fun e s h => ?_) h
    cases e with
    | normal => exact ihy hq h
    | exit id => exact hq _ _ h
    | ret => exact hq _ _ h
  | cond c x y ihx ihy =>
    intro Q Q' s hq h
    simp only [AWp] at h ⊢
    split at h
    · split at h
      · rename_i e; rw [if_pos e]; exact ihx hq h
      · rename_i e; rw [if_neg e]; exact ihy hq h
    · exact h.elim
  | block id c ih =>
    intro Q Q' s hq h
    refine ih (fun e s h => ?_) h
    cases e with
    | normal => exact hq _ _ h
    | exit id' =>
      simp only at h ⊢
      split at h
      · rename_i e; rw [if_pos e]; exact hq _ _ h
      · rename_i e; rw [if_neg e]; exact hq _ _ h
    | ret => exact hq _ _ h
  | loop c ih =>
    intro Q Q' s hq h
    obtain ⟨I, h0, hr⟩ := h
    refine ⟨I, h0, fun n s hI => ih (fun e s h => ?_) (hr n s hI)⟩
    cases e with
    | normal => exact h
    | exit id => exact hq _ _ h
    | ret => exact hq _ _ h
  | exit id => intro Q Q' s hq h; exact hq _ _ h
  | ret => intro Q Q' s hq h; exact hq _ _ h
  | _ => intro Q Q' s hq h; exact h

/-- A cut: behind x it holds M; from M on y goes through. -/
theorem awp_cut {cx : Cx} {x y : Code} {Q : AX → AF → Prop} {s : AF} (M : AF → Prop) (h1 : AWp cx x (fun e s' => match e with | .normal => M s' | .exit id => Q (.exit id) s' | .ret => Q .ret s') s)
    (h2 : ∀ s', M s' → AWp cx y Q s') : AWp cx (.seq x y) Q s :=
  show AWp cx x _ s from awp_mono (fun e s' h => by cases e <;> first | exact h2 _ h | exact h) h1

theorem TOk.of {P : Program} {t : TypeId} {ti : TI} (h1 : P.underlying t = some ti.desc) (z : Value) (h2 : (P.info? t).map (fun i => (i.size, i.bytes, i.zero)) = some (ti.size, ti.bytes, some z))
    (hz : z.cells.toList.map cellOf = ti.zero) (hs : z.cells.size = ti.size) (ho : (z.cells.toList.all (·.oneCell')) = true)
    (ha : (match ti.desc with | .struct _ => true | .array _ _ => true | _ => false) = ti.agg) (hf : ∀ fs, ti.desc = .struct fs → ∀ f ∈ fs.toList, ∃ i, P.info? f.type = some i) : TOk P t ti := by
  simp only [Option.map_eq_some_iff, Prod.mk.injEq] at h2
  obtain ⟨i, hi, e1, e2, e3⟩ := h2
  exact ⟨h1, ⟨i, z, hi, e1, e2, e3, hz, hs, ho⟩, ha, hf⟩

theorem fieldsOf_ok {P : Program} {fs : Array Field} (h : (fs.toList.all fun f => (P.info? f.type).isSome) = true) : ∀ f ∈ fs.toList, ∃ i, P.info? f.type = some i := fun f hf =>
  Option.isSome_iff_exists.1 (List.all_eq_true.1 h f hf)

end Go.Proofs.YtilhjiopbbbgmaaDoor.Am

/- What the abstract machine knows of the program's types: printed by gen_table.py (own work) off the dump. -/
namespace Go.Proofs.YtilhjiopbbbgmaaDoor
open Go Go.RowKit Am
set_option linter.unusedVariables false
set_option linter.unusedSimpArgs false

def ti3 : TI := ⟨.int .i64, 1, 8, [.v (.int .i64 0)], false⟩
theorem tok3 : TOk Tryd.prog 3 ti3 := TOk.of Tryd.underlying3 (Value.int .i64 0) (by kernel_rfl) rfl rfl rfl rfl (by intro fs h; cases h)
def ti4 : TI := ⟨.bool, 1, 1, [.v (.bool false)], false⟩
theorem tok4 : TOk Tryd.prog 4 ti4 := TOk.of Tryd.underlying4 (Value.bool false) (by kernel_rfl) rfl rfl rfl rfl (by intro fs h; cases h)
def ti5 : TI := ⟨.int .u8, 1, 1, [.v (.int .u8 0)], false⟩
theorem tok5 : TOk Tryd.prog 5 ti5 := TOk.of Tryd.underlying5 (Value.int .u8 0) (by kernel_rfl) rfl rfl rfl rfl (by intro fs h; cases h)
def ti9 : TI := ⟨.string, 1, 16, [.v (.string ⟨#[]⟩)], false⟩
theorem tok9 : TOk Tryd.prog 9 ti9 := TOk.of Tryd.underlying9 (Value.string ⟨#[]⟩) (by kernel_rfl) rfl rfl rfl rfl (by intro fs h; cases h)
def ti22 : TI := ⟨.slice 54, 1, 24, [.sl 0 []], false⟩
theorem tok22 : TOk Tryd.prog 22 ti22 := TOk.of Tryd.underlying22 (Value.slice none 0 0) (by kernel_rfl) rfl rfl rfl rfl (by intro fs h; cases h)
def ti23 : TI := ⟨.struct #[{ name := "Nodes", type := 22, offset := 0, embedded := false, tag := "", pkgPath := "", byteOffset := 0 }], 1, 24, [.sl 0 []], true⟩
theorem tok23 : TOk Tryd.prog 23 ti23 := TOk.of Tryd.underlying23 (.agg #[Value.slice none 0 0]) (by kernel_rfl) rfl rfl rfl rfl (by intro fs h; cases h; exact fieldsOf_ok (by kernel_rfl))
def ti24 : TI := ⟨.struct #[{ name := "Nodes", type := 22, offset := 0, embedded := false, tag := "", pkgPath := "", byteOffset := 0 }], 1, 24, [.sl 0 []], true⟩
theorem tok24 : TOk Tryd.prog 24 ti24 := TOk.of Tryd.underlying24 (.agg #[Value.slice none 0 0]) (by kernel_rfl) rfl rfl rfl rfl (by intro fs h; cases h; exact fieldsOf_ok (by kernel_rfl))
def ti25 : TI := ⟨.slice 40, 1, 24, [.sl 0 []], false⟩
theorem tok25 : TOk Tryd.prog 25 ti25 := TOk.of Tryd.underlying25 (Value.slice none 0 0) (by kernel_rfl) rfl rfl rfl rfl (by intro fs h; cases h)
def ti26 : TI := ⟨.slice 40, 1, 24, [.sl 0 []], false⟩
theorem tok26 : TOk Tryd.prog 26 ti26 := TOk.of Tryd.underlying26 (Value.slice none 0 0) (by kernel_rfl) rfl rfl rfl rfl (by intro fs h; cases h)
def ti31 : TI := ⟨.slice 37, 1, 24, [.sl 0 []], false⟩
theorem tok31 : TOk Tryd.prog 31 ti31 := TOk.of Tryd.underlying31 (Value.slice none 0 0) (by kernel_rfl) rfl rfl rfl rfl (by intro fs h; cases h)
def ti33 : TI := ⟨.slice 26, 1, 24, [.sl 0 []], false⟩
theorem tok33 : TOk Tryd.prog 33 ti33 := TOk.of Tryd.underlying33 (Value.slice none 0 0) (by kernel_rfl) rfl rfl rfl rfl (by intro fs h; cases h)
def ti36 : TI := ⟨.struct #[{ name := "To", type := 26, offset := 0, embedded := false, tag := "", pkgPath := "", byteOffset := 0 }, { name := "Many", type := 3, offset := 1, embedded := false, tag := "", pkgPath := "", byteOffset := 24 }], 2, 32, [.sl 0 [], .v (.int .i64 0)], true⟩
theorem tok36 : TOk Tryd.prog 36 ti36 := TOk.of Tryd.underlying36 (.agg #[Value.slice none 0 0, Value.int .i64 0]) (by kernel_rfl) rfl rfl rfl rfl (by intro fs h; cases h; exact fieldsOf_ok (by kernel_rfl))
def ti37 : TI := ⟨.struct #[{ name := "To", type := 26, offset := 0, embedded := false, tag := "", pkgPath := "", byteOffset := 0 }, { name := "Many", type := 3, offset := 1, embedded := false, tag := "", pkgPath := "", byteOffset := 24 }], 2, 32, [.sl 0 [], .v (.int .i64 0)], true⟩
theorem tok37 : TOk Tryd.prog 37 ti37 := TOk.of Tryd.underlying37 (.agg #[Value.slice none 0 0, Value.int .i64 0]) (by kernel_rfl) rfl rfl rfl rfl (by intro fs h; cases h; exact fieldsOf_ok (by kernel_rfl))
def ti39 : TI := ⟨.struct #[{ name := "Kind", type := 3, offset := 0, embedded := false, tag := "", pkgPath := "", byteOffset := 0 }, { name := "Node", type := 3, offset := 1, embedded := false, tag := "", pkgPath := "", byteOffset := 8 }, { name := "Lo", type := 3, offset := 2, embedded := false, tag := "", pkgPath := "", byteOffset := 16 }, { name := "Hi", type := 3, offset := 3, embedded := false, tag := "", pkgPath := "", byteOffset := 24 }], 4, 32, [.v (.int .i64 0), .v (.int .i64 0), .v (.int .i64 0), .v (.int .i64 0)], true⟩
theorem tok39 : TOk Tryd.prog 39 ti39 := TOk.of Tryd.underlying39 (.agg #[Value.int .i64 0, Value.int .i64 0, Value.int .i64 0, Value.int .i64 0]) (by kernel_rfl) rfl rfl rfl rfl (by intro fs h; cases h; exact fieldsOf_ok (by kernel_rfl))
def ti40 : TI := ⟨.struct #[{ name := "Kind", type := 3, offset := 0, embedded := false, tag := "", pkgPath := "", byteOffset := 0 }, { name := "Node", type := 3, offset := 1, embedded := false, tag := "", pkgPath := "", byteOffset := 8 }, { name := "Lo", type := 3, offset := 2, embedded := false, tag := "", pkgPath := "", byteOffset := 16 }, { name := "Hi", type := 3, offset := 3, embedded := false, tag := "", pkgPath := "", byteOffset := 24 }], 4, 32, [.v (.int .i64 0), .v (.int .i64 0), .v (.int .i64 0), .v (.int .i64 0)], true⟩
theorem tok40 : TOk Tryd.prog 40 ti40 := TOk.of Tryd.underlying40 (.agg #[Value.int .i64 0, Value.int .i64 0, Value.int .i64 0, Value.int .i64 0]) (by kernel_rfl) rfl rfl rfl rfl (by intro fs h; cases h; exact fieldsOf_ok (by kernel_rfl))
def ti41 : TI := ⟨.slice 46, 1, 24, [.sl 0 []], false⟩
theorem tok41 : TOk Tryd.prog 41 ti41 := TOk.of Tryd.underlying41 (Value.slice none 0 0) (by kernel_rfl) rfl rfl rfl rfl (by intro fs h; cases h)
def ti44 : TI := ⟨.int .u64, 1, 8, [.v (.int .u64 0)], false⟩
theorem tok44 : TOk Tryd.prog 44 ti44 := TOk.of Tryd.underlying44 (Value.int .u64 0) (by kernel_rfl) rfl rfl rfl rfl (by intro fs h; cases h)
def ti45 : TI := ⟨.array 4 44, 4, 32, [.v (.int .u64 0), .v (.int .u64 0), .v (.int .u64 0), .v (.int .u64 0)], true⟩
theorem tok45 : TOk Tryd.prog 45 ti45 := TOk.of Tryd.underlying45 (.agg #[Value.int .u64 0, Value.int .u64 0, Value.int .u64 0, Value.int .u64 0]) (by kernel_rfl) rfl rfl rfl rfl (by intro fs h; cases h)
def ti46 : TI := ⟨.array 4 44, 4, 32, [.v (.int .u64 0), .v (.int .u64 0), .v (.int .u64 0), .v (.int .u64 0)], true⟩
theorem tok46 : TOk Tryd.prog 46 ti46 := TOk.of Tryd.underlying46 (.agg #[Value.int .u64 0, Value.int .u64 0, Value.int .u64 0, Value.int .u64 0]) (by kernel_rfl) rfl rfl rfl rfl (by intro fs h; cases h)
def ti53 : TI := ⟨.struct #[{ name := "Kind", type := 3, offset := 0, embedded := false, tag := "", pkgPath := "", byteOffset := 0 }, { name := "A", type := 3, offset := 1, embedded := false, tag := "", pkgPath := "", byteOffset := 8 }, { name := "B", type := 3, offset := 2, embedded := false, tag := "", pkgPath := "", byteOffset := 16 }, { name := "Lo", type := 3, offset := 3, embedded := false, tag := "", pkgPath := "", byteOffset := 24 }, { name := "Hi", type := 3, offset := 4, embedded := false, tag := "", pkgPath := "", byteOffset := 32 }, { name := "Class", type := 46, offset := 5, embedded := false, tag := "", pkgPath := "", byteOffset := 40 }, { name := "Text", type := 9, offset := 9, embedded := false, tag := "", pkgPath := "", byteOffset := 72 }], 10, 88, [.v (.int .i64 0), .v (.int .i64 0), .v (.int .i64 0), .v (.int .i64 0), .v (.int .i64 0), .v (.int .u64 0), .v (.int .u64 0), .v (.int .u64 0), .v (.int .u64 0), .v (.string ⟨#[]⟩)], true⟩
theorem tok53 : TOk Tryd.prog 53 ti53 := TOk.of Tryd.underlying53 (.agg #[Value.int .i64 0, Value.int .i64 0, Value.int .i64 0, Value.int .i64 0, Value.int .i64 0, Value.int .u64 0, Value.int .u64 0, Value.int .u64 0, Value.int .u64 0, Value.string ⟨#[]⟩]) (by kernel_rfl) rfl rfl rfl rfl (by intro fs h; cases h; exact fieldsOf_ok (by kernel_rfl))
def ti54 : TI := ⟨.struct #[{ name := "Kind", type := 3, offset := 0, embedded := false, tag := "", pkgPath := "", byteOffset := 0 }, { name := "A", type := 3, offset := 1, embedded := false, tag := "", pkgPath := "", byteOffset := 8 }, { name := "B", type := 3, offset := 2, embedded := false, tag := "", pkgPath := "", byteOffset := 16 }, { name := "Lo", type := 3, offset := 3, embedded := false, tag := "", pkgPath := "", byteOffset := 24 }, { name := "Hi", type := 3, offset := 4, embedded := false, tag := "", pkgPath := "", byteOffset := 32 }, { name := "Class", type := 46, offset := 5, embedded := false, tag := "", pkgPath := "", byteOffset := 40 }, { name := "Text", type := 9, offset := 9, embedded := false, tag := "", pkgPath := "", byteOffset := 72 }], 10, 88, [.v (.int .i64 0), .v (.int .i64 0), .v (.int .i64 0), .v (.int .i64 0), .v (.int .i64 0), .v (.int .u64 0), .v (.int .u64 0), .v (.int .u64 0), .v (.int .u64 0), .v (.string ⟨#[]⟩)], true⟩
theorem tok54 : TOk Tryd.prog 54 ti54 := TOk.of Tryd.underlying54 (.agg #[Value.int .i64 0, Value.int .i64 0, Value.int .i64 0, Value.int .i64 0, Value.int .i64 0, Value.int .u64 0, Value.int .u64 0, Value.int .u64 0, Value.int .u64 0, Value.string ⟨#[]⟩]) (by kernel_rfl) rfl rfl rfl rfl (by intro fs h; cases h; exact fieldsOf_ok (by kernel_rfl))
def ti61 : TI := ⟨.array 10 4, 10, 10, [.v (.bool false), .v (.bool false), .v (.bool false), .v (.bool false), .v (.bool false), .v (.bool false), .v (.bool false), .v (.bool false), .v (.bool false), .v (.bool false)], true⟩
theorem tok61 : TOk Tryd.prog 61 ti61 := TOk.of Tryd.underlying61 (.agg #[Value.bool false, Value.bool false, Value.bool false, Value.bool false, Value.bool false, Value.bool false, Value.bool false, Value.bool false, Value.bool false, Value.bool false]) (by kernel_rfl) rfl rfl rfl rfl (by intro fs h; cases h)
def ti80 : TI := ⟨.slice 3, 1, 24, [.sl 0 []], false⟩
theorem tok80 : TOk Tryd.prog 80 ti80 := TOk.of Tryd.underlying80 (Value.slice none 0 0) (by kernel_rfl) rfl rfl rfl rfl (by intro fs h; cases h)
def ti87 : TI := ⟨.struct #[{ name := "n", type := 54, offset := 0, embedded := false, tag := "", pkgPath := "scantling/next", byteOffset := 0 }, { name := "x", type := 40, offset := 10, embedded := false, tag := "", pkgPath := "scantling/next", byteOffset := 88 }, { name := "c", type := 5, offset := 14, embedded := false, tag := "", pkgPath := "scantling/next", byteOffset := 120 }], 15, 128, [.v (.int .i64 0), .v (.int .i64 0), .v (.int .i64 0), .v (.int .i64 0), .v (.int .i64 0), .v (.int .u64 0), .v (.int .u64 0), .v (.int .u64 0), .v (.int .u64 0), .v (.string ⟨#[]⟩), .v (.int .i64 0), .v (.int .i64 0), .v (.int .i64 0), .v (.int .i64 0), .v (.int .u8 0)], true⟩
theorem tok87 : TOk Tryd.prog 87 ti87 := TOk.of Tryd.underlying87 (.agg #[Value.int .i64 0, Value.int .i64 0, Value.int .i64 0, Value.int .i64 0, Value.int .i64 0, Value.int .u64 0, Value.int .u64 0, Value.int .u64 0, Value.int .u64 0, Value.string ⟨#[]⟩, Value.int .i64 0, Value.int .i64 0, Value.int .i64 0, Value.int .i64 0, Value.int .u8 0]) (by kernel_rfl) rfl rfl rfl rfl (by intro fs h; cases h; exact fieldsOf_ok (by kernel_rfl))
def ti88 : TI := ⟨.struct #[{ name := "n", type := 54, offset := 0, embedded := false, tag := "", pkgPath := "scantling/next", byteOffset := 0 }, { name := "x", type := 40, offset := 10, embedded := false, tag := "", pkgPath := "scantling/next", byteOffset := 88 }, { name := "c", type := 5, offset := 14, embedded := false, tag := "", pkgPath := "scantling/next", byteOffset := 120 }], 15, 128, [.v (.int .i64 0), .v (.int .i64 0), .v (.int .i64 0), .v (.int .i64 0), .v (.int .i64 0), .v (.int .u64 0), .v (.int .u64 0), .v (.int .u64 0), .v (.int .u64 0), .v (.string ⟨#[]⟩), .v (.int .i64 0), .v (.int .i64 0), .v (.int .i64 0), .v (.int .i64 0), .v (.int .u8 0)], true⟩
theorem tok88 : TOk Tryd.prog 88 ti88 := TOk.of Tryd.underlying88 (.agg #[Value.int .i64 0, Value.int .i64 0, Value.int .i64 0, Value.int .i64 0, Value.int .i64 0, Value.int .u64 0, Value.int .u64 0, Value.int .u64 0, Value.int .u64 0, Value.string ⟨#[]⟩, Value.int .i64 0, Value.int .i64 0, Value.int .i64 0, Value.int .i64 0, Value.int .u8 0]) (by kernel_rfl) rfl rfl rfl rfl (by intro fs h; cases h; exact fieldsOf_ok (by kernel_rfl))
def ti97 : TI := ⟨.int .u64, 1, 8, [.v (.int .u64 0)], false⟩
theorem tok97 : TOk Tryd.prog 97 ti97 := TOk.of Tryd.underlying97 (Value.int .u64 0) (by kernel_rfl) rfl rfl rfl rfl (by intro fs h; cases h)
def ti102 : TI := ⟨.slice 4, 1, 24, [.sl 0 []], false⟩
theorem tok102 : TOk Tryd.prog 102 ti102 := TOk.of Tryd.underlying102 (Value.slice none 0 0) (by kernel_rfl) rfl rfl rfl rfl (by intro fs h; cases h)
def ti106 : TI := ⟨.slice 5, 1, 24, [.sl 0 []], false⟩
theorem tok106 : TOk Tryd.prog 106 ti106 := TOk.of Tryd.underlying106 (Value.slice none 0 0) (by kernel_rfl) rfl rfl rfl rfl (by intro fs h; cases h)

def tab : TypeId → Option TI
  | 3 => some ti3
  | 4 => some ti4
  | 5 => some ti5
  | 9 => some ti9
  | 22 => some ti22
  | 23 => some ti23
  | 24 => some ti24
  | 25 => some ti25
  | 26 => some ti26
  | 31 => some ti31
  | 33 => some ti33
  | 36 => some ti36
  | 37 => some ti37
  | 39 => some ti39
  | 40 => some ti40
  | 41 => some ti41
  | 44 => some ti44
  | 45 => some ti45
  | 46 => some ti46
  | 53 => some ti53
  | 54 => some ti54
  | 61 => some ti61
  | 80 => some ti80
  | 87 => some ti87
  | 88 => some ti88
  | 97 => some ti97
  | 102 => some ti102
  | 106 => some ti106
  | _ => none

theorem tab3 : tab 3 = some ti3 := rfl
theorem tab4 : tab 4 = some ti4 := rfl
theorem tab5 : tab 5 = some ti5 := rfl
theorem tab9 : tab 9 = some ti9 := rfl
theorem tab22 : tab 22 = some ti22 := rfl
theorem tab23 : tab 23 = some ti23 := rfl
theorem tab24 : tab 24 = some ti24 := rfl
theorem tab25 : tab 25 = some ti25 := rfl
theorem tab26 : tab 26 = some ti26 := rfl
theorem tab31 : tab 31 = some ti31 := rfl
theorem tab33 : tab 33 = some ti33 := rfl
theorem tab36 : tab 36 = some ti36 := rfl
theorem tab37 : tab 37 = some ti37 := rfl
theorem tab39 : tab 39 = some ti39 := rfl
theorem tab40 : tab 40 = some ti40 := rfl
theorem tab41 : tab 41 = some ti41 := rfl
theorem tab44 : tab 44 = some ti44 := rfl
theorem tab45 : tab 45 = some ti45 := rfl
theorem tab46 : tab 46 = some ti46 := rfl
theorem tab53 : tab 53 = some ti53 := rfl
theorem tab54 : tab 54 = some ti54 := rfl
theorem tab61 : tab 61 = some ti61 := rfl
theorem tab80 : tab 80 = some ti80 := rfl
theorem tab87 : tab 87 = some ti87 := rfl
theorem tab88 : tab 88 = some ti88 := rfl
theorem tab97 : tab 97 = some ti97 := rfl
theorem tab102 : tab 102 = some ti102 := rfl
theorem tab106 : tab 106 = some ti106 := rfl
theorem tab_ok : ∀ t ti, tab t = some ti → TOk Tryd.prog t ti := by
  intro t ti h
  unfold tab at h
  split at h
  · cases h; exact tok3
  · cases h; exact tok4
  · cases h; exact tok5
  · cases h; exact tok9
  · cases h; exact tok22
  · cases h; exact tok23
  · cases h; exact tok24
  · cases h; exact tok25
  · cases h; exact tok26
  · cases h; exact tok31
  · cases h; exact tok33
  · cases h; exact tok36
  · cases h; exact tok37
  · cases h; exact tok39
  · cases h; exact tok40
  · cases h; exact tok41
  · cases h; exact tok44
  · cases h; exact tok45
  · cases h; exact tok46
  · cases h; exact tok53
  · cases h; exact tok54
  · cases h; exact tok61
  · cases h; exact tok80
  · cases h; exact tok87
  · cases h; exact tok88
  · cases h; exact tok97
  · cases h; exact tok102
  · cases h; exact tok106
  · cases h

end Go.Proofs.YtilhjiopbbbgmaaDoor

/- The abstract machine at this seat's program. -/
namespace Go.Proofs.YtilhjiopbbbgmaaDoor
open Go Go.RowKit Am
set_option linter.unusedVariables false
set_option linter.unusedSimpArgs false

def eqks : TypeId → Option (List EK)
  | 40 => some [.int .i64, .int .i64, .int .i64, .int .i64]
  | 46 => some [.int .u64, .int .u64, .int .u64, .int .u64]
  | 54 => some [.int .i64, .int .i64, .int .i64, .int .i64, .int .i64, .int .u64, .int .u64, .int .u64, .int .u64, .str]
  | _ => none
theorem eqks40 : eqks 40 = some [.int .i64, .int .i64, .int .i64, .int .i64] := rfl
theorem eqks46 : eqks 46 = some [.int .u64, .int .u64, .int .u64, .int .u64] := rfl
theorem eqks54 : eqks 54 = some [.int .i64, .int .i64, .int .i64, .int .i64, .int .i64, .int .u64, .int .u64, .int .u64, .int .u64, .str] := rfl

noncomputable def cxD (gl : Gl) (n : Nat) : Cx := ⟨Tryd.prog, tab, gl, eqks, n⟩

theorem wrap_i64 {n : Int} (h1 : -9223372036854775808 ≤ n) (h2 : n ≤ 9223372036854775807) : IntKind.i64.wrap n = n := by
  simp only [IntKind.wrap, IntKind.bits, IntKind.signed, Bool.true_and]
  split <;> rename_i h <;> simp at h <;> omega

/-- Values of these kinds, laid open. -/
theorem valsEq_int {k : IntKind} {ks : List EK} {ys zs : List Value} {r : Bool} (h : valsEq (.int k :: ks) ys zs = some r) :
    ∃ a b ys' zs' r', ys = .int k a :: ys' ∧ zs = .int k b :: zs' ∧ valsEq ks ys' zs' = some r' ∧ r = (a == b && r') := by
  cases ys with
  | nil => simp [valsEq] at h
  | cons y ys =>
    cases zs with
    | nil => cases y <;> simp [valsEq] at h
    | cons z zs =>
      cases hv : valsEq ks ys zs with
      | none => cases y <;> cases z <;> simp [valsEq, hv] at h
      | some r' =>
        cases y <;> cases z <;> simp [valsEq, hv] at h
        obtain ⟨⟨rfl, rfl⟩, h⟩ := h
        exact ⟨_, _, _, _, _, rfl, rfl, hv, h.symm⟩

theorem valsEq_str {ks : List EK} {ys zs : List Value} {r : Bool} (h : valsEq (.str :: ks) ys zs = some r) :
    ∃ a b ys' zs' r', ys = .string a :: ys' ∧ zs = .string b :: zs' ∧ valsEq ks ys' zs' = some r' ∧ r = (a == b && r') := by
  cases ys with
  | nil => simp [valsEq] at h
  | cons y ys =>
    cases zs with
    | nil => cases y <;> simp [valsEq] at h
    | cons z zs =>
      cases hv : valsEq ks ys zs with
      | none => cases y <;> cases z <;> simp [valsEq, hv] at h
      | some r' =>
        cases y <;> cases z <;> simp [valsEq, hv] at h
        exact ⟨_, _, _, _, _, rfl, rfl, hv, h.symm⟩

theorem valsEq_nil {ys zs : List Value} {r : Bool} (h : valsEq [] ys zs = some r) : ys = [] ∧ zs = [] ∧ r = true := by
  match ys, zs, h with
  | [], [], h => simp [valsEq] at h; exact ⟨rfl, rfl, h⟩

theorem eqFields_int {P : Program} {d : Nat} {f : Field} {fs : List Field} {xs ys : Array Value} {k : IntKind} {a b : Int} {r : Bool} {w : World} (hn : f.name ≠ "_") (hu : P.underlying f.type = some (.int k))
    (hx : xs[f.offset]? = some (.int k a)) (hy : ys[f.offset]? = some (.int k b)) (h : (Op.eqFields (d + 1) xs ys fs).run P w = .ok r w) :
    (Op.eqFields (d + 1) xs ys (f :: fs)).run P w = .ok (a == b && r) w := by
  have hp : ∀ (zs : Array Value) (c : Int), zs[f.offset]? = some (.int k c) → (part f.type zs f.offset).run P w = .ok (.int k c) w := fun zs c hz => by
    simp [part, isAgg, run_underlying hu, hz]
  have he := run_equalIn_int (P := P) w d f.type k k a b hu
  simp only [Op.eqFields, if_pos hn, Sem.run_bind, hp xs a hx, hp ys b hy, Result.andThen_ok, he]
  cases hab : (a == b)
  · simp [hab]
  · simp [hab, h]

theorem eqFields_str {P : Program} {d : Nat} {f : Field} {fs : List Field} {xs ys : Array Value} {a b : ByteArray} {r : Bool} {w : World} (hn : f.name ≠ "_") (hu : P.underlying f.type = some .string)
    (hx : xs[f.offset]? = some (.string a)) (hy : ys[f.offset]? = some (.string b)) (h : (Op.eqFields (d + 1) xs ys fs).run P w = .ok r w) :
    (Op.eqFields (d + 1) xs ys (f :: fs)).run P w = .ok (a == b && r) w := by
  have hp : ∀ (zs : Array Value) (c : ByteArray), zs[f.offset]? = some (.string c) → (part f.type zs f.offset).run P w = .ok (.string c) w := fun zs c hz => by
    simp [part, isAgg, run_underlying hu, hz]
  have he := run_equalIn_string (P := P) w d f.type a b hu
  rw [← beq_toListBytes] at he
  simp only [Op.eqFields, if_pos hn, Sem.run_bind, hp xs a hx, hp ys b hy, Result.andThen_ok, he]
  cases hab : (a == b)
  · simp
  · simp [h]

theorem eqFields_sub {P : Program} {d : Nat} {f : Field} {fs : List Field} {xs ys us vs : Array Value} {r q : Bool} {w : World} (hn : f.name ≠ "_")
    (hx : (part f.type xs f.offset).run P w = .ok (.agg us) w) (hy : (part f.type ys f.offset).run P w = .ok (.agg vs) w) (he : (Op.equalIn d f.type (.agg us) (.agg vs)).run P w = .ok q w)
    (h : (Op.eqFields d xs ys fs).run P w = .ok r w) : (Op.eqFields d xs ys (f :: fs)).run P w = .ok (q && r) w := by
  simp only [Op.eqFields, if_pos hn, Sem.run_bind, hx, hy, Result.andThen_ok, he]
  cases q
  · simp
  · simp [h]

theorem eqFields_nil {P : Program} {d : Nat} {xs ys : Array Value} {w : World} : (Op.eqFields d xs ys []).run P w = .ok true w := rfl

theorem eq40 (w : World) (a1 a2 a3 a4 b1 b2 b3 b4 : Int) : (Op.equalIn (9999 + 1) 40 (.agg #[.int .i64 a1, .int .i64 a2, .int .i64 a3, .int .i64 a4]) (.agg #[.int .i64 b1, .int .i64 b2, .int .i64 b3, .int .i64 b4])).run Tryd.prog w =
    .ok (a1 == b1 && (a2 == b2 && (a3 == b3 && (a4 == b4 && true)))) w := by
  have u3 := Tryd.underlying3
  have hS : Tryd.prog.underlying 40 = some (.struct (Tryd.prog.fieldsOf 40)) := by kernel_rfl
  have hp : Tryd.prog.stoodInHeld 40 = false := by kernel_rfl
  rw [run_equalIn_struct w 9999 40 _ _ hS hp]
  simp only [Program.fieldsOf, Tryd.underlying40]
  exact eqFields_int (d := 9998) (by decide) u3 rfl rfl (eqFields_int (by decide) u3 rfl rfl (eqFields_int (by decide) u3 rfl rfl (eqFields_int (by decide) u3 rfl rfl eqFields_nil)))

theorem eq46 (w : World) (d : Nat) (a1 a2 a3 a4 b1 b2 b3 b4 : Int) : (Op.equalIn (d + 2) 46 (.agg #[.int .u64 a1, .int .u64 a2, .int .u64 a3, .int .u64 a4]) (.agg #[.int .u64 b1, .int .u64 b2, .int .u64 b3, .int .u64 b4])).run Tryd.prog w =
    .ok (a1 == b1 && (a2 == b2 && (a3 == b3 && (a4 == b4)))) w := by
  have u44 := Tryd.underlying44
  have z44 := Tryd.sizeOf44
  have hp : ∀ (zs : Array Value) (i : Nat) (c : Int), zs[i]? = some (.int .u64 c) → (part 44 zs i).run Tryd.prog w = .ok (.int .u64 c) w := fun zs i c hz => by
    simp [part, isAgg, run_underlying u44, hz]
  have he := fun (a b : Int) => run_equalIn_int (P := Tryd.prog) w d 44 .u64 .u64 a b u44
  have pa0 := hp #[.int .u64 a1, .int .u64 a2, .int .u64 a3, .int .u64 a4] 0 a1 rfl
  have pa1 := hp #[.int .u64 a1, .int .u64 a2, .int .u64 a3, .int .u64 a4] 1 a2 rfl
  have pa2 := hp #[.int .u64 a1, .int .u64 a2, .int .u64 a3, .int .u64 a4] 2 a3 rfl
  have pa3 := hp #[.int .u64 a1, .int .u64 a2, .int .u64 a3, .int .u64 a4] 3 a4 rfl
  have pb0 := hp #[.int .u64 b1, .int .u64 b2, .int .u64 b3, .int .u64 b4] 0 b1 rfl
  have pb1 := hp #[.int .u64 b1, .int .u64 b2, .int .u64 b3, .int .u64 b4] 1 b2 rfl
  have pb2 := hp #[.int .u64 b1, .int .u64 b2, .int .u64 b3, .int .u64 b4] 2 b3 rfl
  have pb3 := hp #[.int .u64 b1, .int .u64 b2, .int .u64 b3, .int .u64 b4] 3 b4 rfl
  unfold Op.equalIn
  simp only [Sem.run_bind, run_underlying Tryd.underlying46, Result.andThen_ok, z44, Std.Legacy.Range.forIn_eq_forIn_range', Std.Legacy.Range.size, List.range', Nat.reduceSub, Nat.reduceAdd, Nat.reduceDiv, List.forIn_cons, List.forIn_nil,
    pa0, pb0, he, Nat.mul_one]
  cases h1 : (a1 == b1) <;> cases h2 : (a2 == b2) <;> cases h3 : (a3 == b3) <;> cases h4 : (a4 == b4) <;> simp [pa1, pb1, pa2, pb2, pa3, pb3, he, h2, h3, h4]

theorem eq54 (w : World) (a1 a2 a3 a4 a5 c1 c2 c3 c4 b1 b2 b3 b4 b5 d1 d2 d3 d4 : Int) (s t : ByteArray) :
    (Op.equalIn (9999 + 1) 54 (.agg #[.int .i64 a1, .int .i64 a2, .int .i64 a3, .int .i64 a4, .int .i64 a5, .int .u64 c1, .int .u64 c2, .int .u64 c3, .int .u64 c4, .string s])
      (.agg #[.int .i64 b1, .int .i64 b2, .int .i64 b3, .int .i64 b4, .int .i64 b5, .int .u64 d1, .int .u64 d2, .int .u64 d3, .int .u64 d4, .string t])).run Tryd.prog w =
    .ok (a1 == b1 && (a2 == b2 && (a3 == b3 && (a4 == b4 && (a5 == b5 && ((c1 == d1 && (c2 == d2 && (c3 == d3 && (c4 == d4)))) && (s == t && true))))))) w := by
  have u3 := Tryd.underlying3
  have hS : Tryd.prog.underlying 54 = some (.struct (Tryd.prog.fieldsOf 54)) := by kernel_rfl
  have hp : Tryd.prog.stoodInHeld 54 = false := by kernel_rfl
  rw [run_equalIn_struct w 9999 54 _ _ hS hp]
  simp only [Program.fieldsOf, Tryd.underlying54]
  have hpart : ∀ (zs : Array Value), (part 46 zs 5).run Tryd.prog w = .ok (.agg (zs.extract 5 9)) w := fun zs => by
    simp [part, isAgg, run_underlying Tryd.underlying46, Tryd.sizeOf46]
  refine eqFields_int (d := 9998) (by decide) u3 rfl rfl (eqFields_int (by decide) u3 rfl rfl (eqFields_int (by decide) u3 rfl rfl (eqFields_int (by decide) u3 rfl rfl (eqFields_int (by decide) u3 rfl rfl ?_))))
  exact eqFields_sub (by decide) (hpart _) (hpart _) (eq46 w 9997 c1 c2 c3 c4 d1 d2 d3 d4) (eqFields_str (by decide) Tryd.underlying9 rfl rfl eqFields_nil)

theorem cxD_ok (gl : Gl) (n : Nat) : CxOk (cxD gl n) where
  types := tab_ok
  mixed := by kernel_rfl
  eqs := by
    intro t ks h
    simp only [cxD, eqks] at h
    split at h
    · cases h
      refine ⟨by kernel_rfl, fun ys zs r w h => ?_⟩
      obtain ⟨a1, b1, ys1, zs1, r1, rfl, rfl, h1, rfl⟩ := valsEq_int h
      obtain ⟨a2, b2, ys2, zs2, r2, rfl, rfl, h2, rfl⟩ := valsEq_int h1
      obtain ⟨a3, b3, ys3, zs3, r3, rfl, rfl, h3, rfl⟩ := valsEq_int h2
      obtain ⟨a4, b4, ys4, zs4, r4, rfl, rfl, h4, rfl⟩ := valsEq_int h3
      obtain ⟨rfl, rfl, rfl⟩ := valsEq_nil h4
      exact eq40 w a1 a2 a3 a4 b1 b2 b3 b4
    · cases h
      refine ⟨by kernel_rfl, fun ys zs r w h => ?_⟩
      obtain ⟨a1, b1, ys1, zs1, r1, rfl, rfl, h1, rfl⟩ := valsEq_int h
      obtain ⟨a2, b2, ys2, zs2, r2, rfl, rfl, h2, rfl⟩ := valsEq_int h1
      obtain ⟨a3, b3, ys3, zs3, r3, rfl, rfl, h3, rfl⟩ := valsEq_int h2
      obtain ⟨a4, b4, ys4, zs4, r4, rfl, rfl, h4, rfl⟩ := valsEq_int h3
      obtain ⟨rfl, rfl, rfl⟩ := valsEq_nil h4
      refine (eq46 w 9998 a1 a2 a3 a4 b1 b2 b3 b4).trans ?_
      simp
    · cases h
      refine ⟨by kernel_rfl, fun ys zs r w h => ?_⟩
      obtain ⟨a1, b1, ys1, zs1, r1, rfl, rfl, h1, rfl⟩ := valsEq_int h
      obtain ⟨a2, b2, ys2, zs2, r2, rfl, rfl, h2, rfl⟩ := valsEq_int h1
      obtain ⟨a3, b3, ys3, zs3, r3, rfl, rfl, h3, rfl⟩ := valsEq_int h2
      obtain ⟨a4, b4, ys4, zs4, r4, rfl, rfl, h4, rfl⟩ := valsEq_int h3
      obtain ⟨a5, b5, ys5, zs5, r5, rfl, rfl, h5, rfl⟩ := valsEq_int h4
      obtain ⟨a6, b6, ys6, zs6, r6, rfl, rfl, h6, rfl⟩ := valsEq_int h5
      obtain ⟨a7, b7, ys7, zs7, r7, rfl, rfl, h7, rfl⟩ := valsEq_int h6
      obtain ⟨a8, b8, ys8, zs8, r8, rfl, rfl, h8, rfl⟩ := valsEq_int h7
      obtain ⟨a9, b9, ys9, zs9, r9, rfl, rfl, h9, rfl⟩ := valsEq_int h8
      obtain ⟨s, t, ys10, zs10, r10, rfl, rfl, h10, rfl⟩ := valsEq_str h9
      obtain ⟨rfl, rfl, rfl⟩ := valsEq_nil h10
      have := eq54 w a1 a2 a3 a4 a5 a6 a7 a8 a9 b1 b2 b3 b4 b5 b6 b7 b8 b9 s t
      refine this.trans ?_
      simp only [Bool.and_assoc]
    · cases h

theorem succ_beq (n : Nat) : (((n + 1 : Nat) : Int) == 0) = false := by simp; omega
theorem succ_pos' (n : Nat) : (0 : Int) < ((n + 1 : Nat) : Int) := by omega
theorem len4 (n : Nat) : (n + 1) * 4 ≤ n * 4 + 1 + 1 + 1 + 1 := by omega
theorem awp_condT {cx : Cx} {c : Operand} {x y : Code} {Q : AX → AF → Prop} {s : AF} (hc : cx.ev s c = .c (.v (.bool true))) (h : AWp cx x Q s) : AWp cx (.cond c x y) Q s :=
  awp_cond hc (fun _ => h) (fun e => by cases e)
theorem awp_condF {cx : Cx} {c : Operand} {x y : Code} {Q : AX → AF → Prop} {s : AF} (hc : cx.ev s c = .c (.v (.bool false))) (h : AWp cx y Q s) : AWp cx (.cond c x y) Q s :=
  awp_cond hc (fun e => by cases e) (fun _ => h)

/-- Ends kept shut while a part is walked. -/
theorem awq_seq {cx : Cx} {x y : Code} {Q : AX → AF → Prop} {s : AF}
    (h : ∀ Z : AX → AF → Prop, (∀ s', AWp cx y Q s' → Z .normal s') → (∀ id s', Q (.exit id) s' → Z (.exit id) s') → (∀ s', Q .ret s' → Z .ret s') → AWp cx x Z s) : AWp cx (.seq x y) Q s :=
  awp_seq fun K hK => h _ hK (fun _ _ h => h) (fun _ h => h)

theorem awq_cut {cx : Cx} {x y : Code} {Q : AX → AF → Prop} {s : AF} (M : AF → Prop)
    (h1 : ∀ Z : AX → AF → Prop, (∀ s', M s' → Z .normal s') → (∀ id s', Q (.exit id) s' → Z (.exit id) s') → (∀ s', Q .ret s' → Z .ret s') → AWp cx x Z s) (h2 : ∀ s', M s' → AWp cx y Q s') : AWp cx (.seq x y) Q s :=
  awp_cut M (h1 _ (fun _ h => h) (fun _ _ h => h) (fun _ h => h)) h2

theorem awq_block {cx : Cx} {id : Nat} {c : Code} {Q : AX → AF → Prop} {s : AF}
    (h : ∀ Z : AX → AF → Prop, (∀ s', Q .normal s' → Z .normal s') → (∀ id' s', (if id' = id then Q .normal s' else Q (.exit id') s') → Z (.exit id') s') → (∀ s', Q .ret s' → Z .ret s') → AWp cx c Z s) :
    AWp cx (.block id c) Q s :=
  awp_block (h _ (fun _ h => h) (fun _ _ h => h) (fun _ h => h))

theorem awq_region {cx : Cx} {id : Nat} {ops : Array Oper} {draw : Bool} {Q : AX → AF → Prop} {s : AF} (hok : opsOk cx.N ops draw = true)
    (h : ∀ K : AF → Prop, (∀ s', Q .normal s' → K s') → AOps cx ops ops.toList K { t := s.t, ob := s.ob, k := s.k + 1 }) : AWp cx (.region id ops draw) Q s :=
  awp_region hok (h _ fun _ h => h)

theorem awq_loop {cx : Cx} {c : Code} {Q : AX → AF → Prop} {s : AF} (I : Nat → AF → Prop) (n : Nat) (h0 : I n s)
    (h : ∀ (Z : AX → AF → Prop) (n : Nat) (s : AF), (∀ s', (∃ n', n' < n ∧ I n' s') → Z .normal s') → (∀ id s', Q (.exit id) s' → Z (.exit id) s') → (∀ s', Q .ret s' → Z .ret s') → I n s → AWp cx c Z s) :
    AWp cx (.loop c) Q s :=
  awp_loop I n h0 fun n s hI => h _ n s (fun _ h => h) (fun _ _ h => h) (fun _ h => h) hI

theorem retq {f : FuncId} {fn : Func} {code : Code} {gl : Gl} {rs : List Nat} {args : List SV} {r : SV} (n : Nat) (hf : Tryd.prog.funcs[f]? = some fn) (hname : (fn.name == "runtime.NumGoroutine") = false)
    (hb : fn.body = some code) (hN : fn.ntmps = n) (hr : fn.results = (rs.map ResultVar.tmp).toArray) (h2 : rs.length ≤ 2) (hlen : args.length ≤ n)
    (h : ∀ Z : AX → AF → Prop, (∀ s', ExpAll s' rs r → Z .normal s') → (∀ id s', False → Z (.exit id) s') → (∀ s', ExpAll s' rs r → Z .ret s') → AWp (cxD gl n) code Z (AF.init args)) : Ret Tryd.prog gl f args r :=
  ret_of (cx := cxD gl 0) (cxD_ok gl 0) hf hname hb hN hr h2 hlen (h _ (fun _ h => h) (fun _ _ h => h.elim) (fun _ h => h))

theorem aops_cons {cx : Cx} {ops : Array Oper} {o : Oper} {l : List Oper} {K : AF → Prop} {s : AF} (h : ∀ R : AF → Prop, (∀ s', AOps cx ops l K s' → R s') → AStep cx ops o R s) : AOps cx ops (o :: l) K s := h _ fun _ h => h
theorem aops_nil {cx : Cx} {ops : Array Oper} {K : AF → Prop} {s : AF} (h : K s) : AOps cx ops [] K s := h
theorem tk1 {t k : Nat} (h : t ≤ k) : (t = k + 1) = False := by simp only [eq_iff_iff, iff_false]; omega
theorem tk2 {t k : Nat} (h : t ≤ k) : (t = k + 1 + 1) = False := by simp only [eq_iff_iff, iff_false]; omega
theorem tk3 {t k : Nat} (h : t ≤ k) : (t = k + 1 + 1 + 1) = False := by simp only [eq_iff_iff, iff_false]; omega
theorem tk4 {t k : Nat} (h : t ≤ k) : (t = k + 1 + 1 + 1 + 1) = False := by simp only [eq_iff_iff, iff_false]; omega
theorem tk5 {t k : Nat} (h : t ≤ k) : (t = k + 1 + 1 + 1 + 1 + 1) = False := by simp only [eq_iff_iff, iff_false]; omega
theorem tk6 {t k : Nat} (h : t ≤ k) : (t = k + 1 + 1 + 1 + 1 + 1 + 1) = False := by simp only [eq_iff_iff, iff_false]; omega
theorem tk7 {t k : Nat} (h : t ≤ k) : (t = k + 1 + 1 + 1 + 1 + 1 + 1 + 1) = False := by simp only [eq_iff_iff, iff_false]; omega
theorem tk8 {t k : Nat} (h : t ≤ k) : (t = k + 1 + 1 + 1 + 1 + 1 + 1 + 1 + 1) = False := by simp only [eq_iff_iff, iff_false]; omega
theorem ite_t {c : Prop} [Decidable c] {a b : Prop} (hc : c) (h : a) : if c then a else b := by rw [if_pos hc]; exact h
theorem ite_f {c : Prop} [Decidable c] {a b : Prop} (hc : ¬ c) (h : b) : if c then a else b := by rw [if_neg hc]; exact h

end Go.Proofs.YtilhjiopbbbgmaaDoor
