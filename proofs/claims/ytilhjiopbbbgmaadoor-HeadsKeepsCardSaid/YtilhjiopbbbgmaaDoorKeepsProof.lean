/- Proved: HeadsKeeps of chapter 14, as a tied card: for every description and state the law's body answers true: what is handed in stays, what is answered is new memory. This is part 6 of 6 of that proof (first the abstract machine and its soundness, then the walks, the plain law, the card): no condition beyond the statement's own. -/
import Derived.Test.YtilhjiopbbbgmaaDoorKeeps5

/- HeadsKeeps: its row and its card. -/
namespace Go.Proofs.YtilhjiopbbbgmaaDoor
open Go Go.ChangeShapes Go.WideShapes Go.ChangeAt Go.WideMaps Go.WideElems Go.RowKit Am
set_option linter.unusedVariables false
set_option linter.unusedSimpArgs false

theorem keeps_ret (d : List Nd) (s : List It) (hl : d.length ≤ 140737488355328) (hs : ∀ n ∈ d, n.s.size ≤ 140737488355328) (hsl : s.length ≤ 140737488355328) : Ret Tryd.prog glD 5 [.agg (dC d), .c (stC s)] (bv true) := by
  refine ⟨callF Tryd.func5 (by kernel_rfl) rfl, fun w G vs hG hgl hrep => ?_⟩
  obtain ⟨vd, v, hvs, hvd, hv⟩ : ∃ vd v, vs = #[.agg #[vd], v] ∧ RepL w G (dC d) [vd] ∧ RepC w G (stC s) v := by
    obtain ⟨l⟩ := vs
    match l, hrep with
    | [a, b], ⟨⟨ys, e, h1⟩, h2, _⟩ =>
      obtain ⟨ys⟩ := ys
      match ys, h1 with
      | [y], h1 => exact ⟨y, b, by rw [e], h1, h2⟩
      | [], h1 => exact h1.elim
      | _ :: _ :: _, h1 => exact h1.2.elim
  subst hvs
  refine (keeps_c hl hs hsl hG hgl hvd hv).mono ?_
  rintro e w' ⟨rfl, hb⟩
  exact ⟨_, rfl, hb, fun h => h.elim, G, fun _ _ h => h, fun _ _ h => .inl h, fun b o h => Nat.lt_of_lt_of_le (hG b o h) hb.size, by simp only [RepR, RepC]; exact ⟨trivial, rfl⟩⟩

set_option maxRecDepth 100000 in
theorem keeps_lifted (os : Os) (started : os.Started) (H : Type) (enc : TypeId × Value → H) :
    ReturnsInHanded {} Tryd.checked os 5 .any (fun w args => (Rows.headsKeepsSpec.pre enc Tryd.prog Tryd.f5 [] false w args ∧ laidMetH Tryd.prog laidD w) ∧ sizedMet enc Tryd.prog Tryd.f5 (OpenSpec.ofChange Rows.headsKeepsSpec) false w args)
      (Rows.headsKeepsSpec.post enc Tryd.prog Tryd.f5 false true false false) := by
  refine returnsInHanded_of_change_and (C := Tryd.checked) (X := fun w _ => laidMetH Tryd.prog laidD w) (fun _ _ _ hh h => h.of_heap hh) own started (by kernel_rfl) Tryd.func5
    (ChangeSpec.witness_shaped (enc := enc) (C := Tryd.checked) (os := os) (X := fun w _ => laidMetH Tryd.prog laidD w) false (World.doorLaid Tryd.prog 400 os) #[.agg #[.slice none 0 0], .slice none 0 0] 8 rfl (World.shaped_of_RefB (by kernel_rfl) (by kernel_rfl)) (by kernel_rfl) (by kernel_rfl) (by kernel_rfl) (door_met os _)) ?_
  intro W base args ds gs before hval0 hW _ hsz hL _
  exact two_post (fun _ _ => rfl) (by rw [Tryd.params5]) (by kernel_rfl) (by kernel_rfl) rfl (fun j t v h1 h2 => ⟨_, _, hval0 j t v h1 h2⟩) hW hsz (glok_D hL) keeps_ret

set_option maxRecDepth 100000 in
theorem headsKeeps_row : Rows.HeadsKeepsSaid :=
  OpenClaim.holds_of_wide 5 Tryd.f5 rfl rfl rfl rfl rfl rfl rfl ⟨rfl, rfl, rfl, rfl, rfl⟩ rfl rfl rfl rfl rfl (by kernel_rfl) Tryd.func5 (by kernel_rfl)
    (of_decide_eq_true (by kernel_rfl)) (by unfold Func.isWrapper; first | (rw [if_pos (by decide +kernel)]; kernel_rfl) | (rw [if_neg (by decide +kernel)]; exact ⟨rfl, rfl⟩))
    (fun os started H enc _ => keeps_lifted os started H enc)

set_option maxRecDepth 100000 in
theorem headsKeeps_card : Rows.HeadsKeepsCardSaid :=
  Claim7.holds_tied_plain_at .later [] [.data, .data, .data, .data] true (true, "366c0e1967a74935e43f017601dd1a812d59ea06b7a6bab77289bfcb3cbae1b4") false
    headsKeeps_row (fun _ h => by cases h) (by kernel_rfl) (fun _ h => by cases h) headsKeeps_row_tie rfl ⟨rfl, rfl⟩ (by kernel_rfl) rfl
    (fun f fn hf hfn => by
      obtain rfl : f = 5 := Option.some.inj ((show Tryd.prog.funcNamed "scantling/scantlinglaw14.HeadsKeeps" = some 5 by kernel_rfl).symm.trans hf) |>.symm
      obtain rfl : fn = Tryd.f5 := (Option.some.inj (Tryd.func5.symm.trans hfn)).symm
      exact ⟨by kernel_rfl, fun j t ht => by
        rw [Tryd.params5] at ht
        have h3 : t = 24 ∨ t = 26 := by
          rcases j with _ | _ | j
          · exact .inl (by simpa using ht.symm)
          · exact .inr (by simpa using ht.symm)
          · simp at ht
        rcases h3 with rfl | rfl
        · exact (show Tryd.prog.wantsStandIn 24 = false by kernel_rfl)
        · exact (show Tryd.prog.wantsStandIn 26 = false by kernel_rfl)⟩)
    (by kernel_rfl)
#print axioms headsKeeps_card
end Go.Proofs.YtilhjiopbbbgmaaDoor
