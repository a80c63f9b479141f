/- Proved: NextClasses of chapter 15, as a tied card: for every description, state and two bytes the law's body answers true, and what was handed in reads as it did. This is part 7 of 7 of that proof (first the abstract machine and its soundness, then the walks, the plain law, the card): no condition beyond the statement's own. -/
import Derived.Test.YtilhjiopbbbgmaaDoorClasses6

/- NextClasses: its row and its card. -/
namespace Go.Proofs.YtilhjiopbbbgmaaDoor
open Go Go.ChangeShapes Go.WideShapes Go.ChangeAt Go.WideMaps Go.WideElems Go.RowKit Am
set_option linter.unusedVariables false
set_option linter.unusedSimpArgs false

set_option maxRecDepth 100000 in
theorem nextClasses_lifted (os : Os) (started : os.Started) (H : Type) (enc : TypeId × Value → H) :
    ReturnsInHanded {} Tryd.checked os 6 .any (fun w args => (Rows.nextClassesSpec.pre enc Tryd.prog Tryd.f6 [] false w args ∧ laidMetH Tryd.prog laidN w) ∧ sizedMet enc Tryd.prog Tryd.f6 (OpenSpec.ofChange Rows.nextClassesSpec) false w args)
      (Rows.nextClassesSpec.post enc Tryd.prog Tryd.f6 false true false false) := by
  refine returnsInHanded_of_change_and (C := Tryd.checked) (X := fun w _ => laidMetH Tryd.prog laidN w) (fun _ _ _ hh h => h.of_heap hh) ownN started (by kernel_rfl) Tryd.func6
    (ChangeSpec.witness_shaped (enc := enc) (C := Tryd.checked) (os := os) (X := fun w _ => laidMetH Tryd.prog laidN w) false (World.doorLaid Tryd.prog 400 os) #[.agg #[.slice none 0 0], .slice none 0 0, .int .u8 0, .int .u8 0] 8 rfl (World.shaped_of_RefB (by kernel_rfl) (by kernel_rfl)) (by kernel_rfl) (by kernel_rfl) (by kernel_rfl) (door_metN os _)) ?_
  intro W base args ds gs before hval0 hW _ hsz hL _
  exact four_post (fun _ _ _ _ => rfl) (by rw [Tryd.params6]) (by kernel_rfl) (by kernel_rfl) rfl (fun j t v h1 h2 => ⟨_, _, hval0 j t v h1 h2⟩) hW hsz (glok_N hL) (fun d s a b ha hb hl hs hsl hcw => classesLaw_ret d s a b ha hb hl hs hsl hcw)

set_option maxRecDepth 100000 in
theorem nextClasses_row : Rows.NextClassesSaid :=
  OpenClaim.holds_of_wide 6 Tryd.f6 rfl rfl rfl rfl rfl rfl rfl ⟨rfl, rfl, rfl, rfl, rfl⟩ rfl rfl rfl rfl rfl (by kernel_rfl) Tryd.func6 (by kernel_rfl)
    (of_decide_eq_true (by kernel_rfl)) (by unfold Func.isWrapper; first | (rw [if_pos (by decide +kernel)]; kernel_rfl) | (rw [if_neg (by decide +kernel)]; exact ⟨rfl, rfl⟩))
    (fun os started H enc _ => nextClasses_lifted os started H enc)

set_option maxRecDepth 100000 in
theorem nextClasses_card : Rows.NextClassesCardSaid :=
  Claim7.holds_tied_plain_at .later [] [.data, .data, .data, .data, .funcs] true (true, "366c0e1967a74935e43f017601dd1a812d59ea06b7a6bab77289bfcb3cbae1b4") false
    nextClasses_row (fun _ h => by cases h) (by kernel_rfl) (fun _ h => by cases h) nextClasses_row_tie rfl ⟨rfl, rfl⟩ (by kernel_rfl) rfl
    (fun f fn hf hfn => by
      obtain rfl : f = 6 := Option.some.inj ((show Tryd.prog.funcNamed "scantling/scantlinglaw15.NextClasses" = some 6 by kernel_rfl).symm.trans hf) |>.symm
      obtain rfl : fn = Tryd.f6 := (Option.some.inj (Tryd.func6.symm.trans hfn)).symm
      exact ⟨by kernel_rfl, fun j t ht => by
        rw [Tryd.params6] at ht
        have h3 : t = 24 ∨ t = 26 ∨ t = 5 := by
          rcases j with _ | _ | _ | _ | j
          · exact .inl (by simpa using ht.symm)
          · exact .inr (.inl (by simpa using ht.symm))
          · exact .inr (.inr ((by simpa using ht.symm)))
          · exact .inr (.inr ((by simpa using ht.symm)))
          · simp at ht
        rcases h3 with rfl | rfl | rfl
        · exact (show Tryd.prog.wantsStandIn 24 = false by kernel_rfl)
        · exact (show Tryd.prog.wantsStandIn 26 = false by kernel_rfl)
        · exact (show Tryd.prog.wantsStandIn 5 = false by kernel_rfl)⟩)
    (by kernel_rfl)
#print axioms nextClasses_card
end Go.Proofs.YtilhjiopbbbgmaaDoor
