/-
  DERIVED. GIVEN WITH THE SEED: THE CARDS: each row of YtilhjiopbbbgmaaGreatDoorRows.lean that lists a variable, with what it lists TIED to the program's text (the seventh form; the later family's looks); each row that meets fmt, with fmt's text TOLD by the authors' own Lean function (tested against real Go, not proved from fmt's source: count such statements apart). THE CARD IS WHAT COUNTS. Prove the row's statement (the work); the ties are given (YtilhjiopbbbgmaaGreatDoorTie.lean); close each card by the builder's one call (the guide's Derived/Test/ToyasCard.lean, 'card_holds'). Laid BY PROGRAM, IN A SANDBOX (cutbox-door.mjs). By AI agents, Wed Nov 11 2026. No macro, syntax, notation, axiom, sorry.
-/
import Derived.Test.YtilhjiopbbbgmaaGreatDoorRows
import GoSem.ClaimSeven
namespace Go.Proofs.YtilhjiopbbbgmaaGreatDoor
namespace Rows

/-- THE TIED CARD OF 'scantlinglaw15.NextTells'. -/
def nextTellsCard : Claim7 := { stood := { row := nextTellsRow, standIns := [], harness := (true, "285206a23a6d21c9a528f1bf68eaaf358a56844e7aca9f537cdbeb6fd3530494"), looks := false }, kinds := [], alts := [], laidByText := true, laidKinds := [.data, .data, .data, .data, .funcs], laidTests := true, laidLooks := .later }
def NextTellsCardSaid : Prop := Claim7.holds Tryz.pinned (.plain (OpenSpec.ofChange nextTellsSpec)) nextTellsCard

/-- THE TIED CARD OF 'scantlinglaw16.SetsTell'. -/
def setsTellCard : Claim7 := { stood := { row := setsTellRow, standIns := [], harness := (true, "285206a23a6d21c9a528f1bf68eaaf358a56844e7aca9f537cdbeb6fd3530494"), looks := false }, kinds := [], alts := [], laidByText := true, laidKinds := [.data, .data, .data, .data, .funcs], laidTests := true, laidLooks := .later }
def SetsTellCardSaid : Prop := Claim7.holds Tryz.pinned (.plain (OpenSpec.ofChange setsTellSpec)) setsTellCard

/-- THE TIED CARD OF 'scantlinglaw16.SetsBytes'. -/
def setsBytesCard : Claim7 := { stood := { row := setsBytesRow, standIns := [], harness := (true, "285206a23a6d21c9a528f1bf68eaaf358a56844e7aca9f537cdbeb6fd3530494"), looks := false }, kinds := [], alts := [], laidByText := true, laidKinds := [.data, .data, .data, .data, .funcs], laidTests := true, laidLooks := .later }
def SetsBytesCardSaid : Prop := Claim7.holds Tryz.pinned (.plain (OpenSpec.ofChange setsBytesSpec)) setsBytesCard

/-- THE TIED CARD OF 'scantlinglaw16.SetsParts'. -/
def setsPartsCard : Claim7 := { stood := { row := setsPartsRow, standIns := [], harness := (true, "285206a23a6d21c9a528f1bf68eaaf358a56844e7aca9f537cdbeb6fd3530494"), looks := false }, kinds := [], alts := [], laidByText := true, laidKinds := [.data, .data, .data, .data, .funcs], laidTests := true, laidLooks := .later }
def SetsPartsCardSaid : Prop := Claim7.holds Tryz.pinned (.plain (OpenSpec.ofChange setsPartsSpec)) setsPartsCard

/-- THE SECOND FORM's CARD OF 'scantlinglaw15.NextTells'. -/
def nextTellsUptoCard : Claim7 := { stood := { row := nextTellsUptoRow, standIns := [], harness := (true, "285206a23a6d21c9a528f1bf68eaaf358a56844e7aca9f537cdbeb6fd3530494"), looks := false }, kinds := [], alts := [], laidByText := true, laidKinds := [.data, .data, .data, .data, .funcs], laidTests := true, laidLooks := .later }
def NextTellsUptoCardSaid : Prop := Claim7.holds Tryz.pinned (.plain (OpenSpec.upto nextTellsSpec)) nextTellsUptoCard

/-- THE SECOND FORM's CARD OF 'scantlinglaw16.SetsTell'. -/
def setsTellUptoCard : Claim7 := { stood := { row := setsTellUptoRow, standIns := [], harness := (true, "285206a23a6d21c9a528f1bf68eaaf358a56844e7aca9f537cdbeb6fd3530494"), looks := false }, kinds := [], alts := [], laidByText := true, laidKinds := [.data, .data, .data, .data, .funcs], laidTests := true, laidLooks := .later }
def SetsTellUptoCardSaid : Prop := Claim7.holds Tryz.pinned (.plain (OpenSpec.upto setsTellSpec)) setsTellUptoCard

/-- THE SECOND FORM's CARD OF 'scantlinglaw16.SetsBytes'. -/
def setsBytesUptoCard : Claim7 := { stood := { row := setsBytesUptoRow, standIns := [], harness := (true, "285206a23a6d21c9a528f1bf68eaaf358a56844e7aca9f537cdbeb6fd3530494"), looks := false }, kinds := [], alts := [], laidByText := true, laidKinds := [.data, .data, .data, .data, .funcs], laidTests := true, laidLooks := .later }
def SetsBytesUptoCardSaid : Prop := Claim7.holds Tryz.pinned (.plain (OpenSpec.upto setsBytesSpec)) setsBytesUptoCard

/-- THE SECOND FORM's CARD OF 'scantlinglaw16.SetsParts'. -/
def setsPartsUptoCard : Claim7 := { stood := { row := setsPartsUptoRow, standIns := [], harness := (true, "285206a23a6d21c9a528f1bf68eaaf358a56844e7aca9f537cdbeb6fd3530494"), looks := false }, kinds := [], alts := [], laidByText := true, laidKinds := [.data, .data, .data, .data, .funcs], laidTests := true, laidLooks := .later }
def SetsPartsUptoCardSaid : Prop := Claim7.holds Tryz.pinned (.plain (OpenSpec.upto setsPartsSpec)) setsPartsUptoCard
end Rows
end Go.Proofs.YtilhjiopbbbgmaaGreatDoor
