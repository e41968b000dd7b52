/-
  DERIVED. GIVEN WITH THE SEED: THE CARDS: each row of YtiojnbhomjkkgaaGreatDoorRows.lean that lists a variable, with what it lists TIED to the program's text (the seventh form; the later family's looks); each row that meets fmt, with fmt's text TOLD by the authors' own Lean function (tested against real Go, not proved from fmt's source: count such statements apart). THE CARD IS WHAT COUNTS. Prove the row's statement (the work); the ties are given (YtiojnbhomjkkgaaGreatDoorTie.lean); close each card by the builder's one call (the guide's Derived/Test/ToyasCard.lean, 'card_holds'). Laid BY PROGRAM, IN A SANDBOX (cutbox-door.mjs). By AI agents, Wed Nov 11 2026. No macro, syntax, notation, axiom, sorry.
-/
import Derived.Test.YtiojnbhomjkkgaaGreatDoorRows
import GoSem.ClaimSeven
namespace Go.Proofs.YtiojnbhomjkkgaaGreatDoor
namespace Rows

/-- THE TIED CARD OF 'bringuplaw02.ExpressionAnswers'. -/
def expressionAnswersCard : Claim7 := { stood := { row := expressionAnswersRow, standIns := [], harness := (true, "8e54806a75669ff6e82e8c030ad609a59b280c7a6e701ce13cc98ac67505dcd4"), looks := false }, kinds := [], alts := [], laidByText := true, laidKinds := [.data, .data, .data], laidTests := true, laidLooks := .later }
def ExpressionAnswersCardSaid : Prop := Claim7.holds Tryz.pinned (.plain (OpenSpec.ofChange expressionAnswersSpec)) expressionAnswersCard

/-- THE TIED CARD OF 'bringuplaw13.OverlayTwice'. -/
def overlayTwiceCard : Claim7 := { stood := { row := overlayTwiceRow, standIns := [], harness := (true, "8e54806a75669ff6e82e8c030ad609a59b280c7a6e701ce13cc98ac67505dcd4"), looks := false }, kinds := [], alts := [], laidByText := true, laidKinds := [.data, .pinned], laidTests := true, laidLooks := .later }
def OverlayTwiceCardSaid : Prop := Claim7.holds Tryz.pinned (.plain (OpenSpec.ofChange overlayTwiceSpec)) overlayTwiceCard

/-- THE TIED CARD OF 'bringuplaw13.OverlayCommute'. -/
def overlayCommuteCard : Claim7 := { stood := { row := overlayCommuteRow, standIns := [], harness := (true, "8e54806a75669ff6e82e8c030ad609a59b280c7a6e701ce13cc98ac67505dcd4"), looks := false }, kinds := [], alts := [], laidByText := true, laidKinds := [.data, .pinned], laidTests := true, laidLooks := .later }
def OverlayCommuteCardSaid : Prop := Claim7.holds Tryz.pinned (.plain (OpenSpec.ofChange overlayCommuteSpec)) overlayCommuteCard

/-- THE TIED CARD OF 'bringuplaw13.OverlayNames'. -/
def overlayNamesCard : Claim7 := { stood := { row := overlayNamesRow, standIns := [], harness := (true, "8e54806a75669ff6e82e8c030ad609a59b280c7a6e701ce13cc98ac67505dcd4"), looks := false }, kinds := [], alts := [], laidByText := true, laidKinds := [.data, .pinned], laidTests := true, laidLooks := .later }
def OverlayNamesCardSaid : Prop := Claim7.holds Tryz.pinned (.plain (OpenSpec.ofChange overlayNamesSpec)) overlayNamesCard

/-- THE SECOND FORM's CARD OF 'bringuplaw02.ExpressionAnswers'. -/
def expressionAnswersUptoCard : Claim7 := { stood := { row := expressionAnswersUptoRow, standIns := [], harness := (true, "8e54806a75669ff6e82e8c030ad609a59b280c7a6e701ce13cc98ac67505dcd4"), looks := false }, kinds := [], alts := [], laidByText := true, laidKinds := [.data, .data, .data], laidTests := true, laidLooks := .later }
def ExpressionAnswersUptoCardSaid : Prop := Claim7.holds Tryz.pinned (.plain (OpenSpec.upto expressionAnswersSpec)) expressionAnswersUptoCard

/-- THE SECOND FORM's CARD OF 'bringuplaw13.OverlayTwice'. -/
def overlayTwiceUptoCard : Claim7 := { stood := { row := overlayTwiceUptoRow, standIns := [], harness := (true, "8e54806a75669ff6e82e8c030ad609a59b280c7a6e701ce13cc98ac67505dcd4"), looks := false }, kinds := [], alts := [], laidByText := true, laidKinds := [.data, .pinned], laidTests := true, laidLooks := .later }
def OverlayTwiceUptoCardSaid : Prop := Claim7.holds Tryz.pinned (.plain (OpenSpec.upto overlayTwiceSpec)) overlayTwiceUptoCard

/-- THE SECOND FORM's CARD OF 'bringuplaw13.OverlayCommute'. -/
def overlayCommuteUptoCard : Claim7 := { stood := { row := overlayCommuteUptoRow, standIns := [], harness := (true, "8e54806a75669ff6e82e8c030ad609a59b280c7a6e701ce13cc98ac67505dcd4"), looks := false }, kinds := [], alts := [], laidByText := true, laidKinds := [.data, .pinned], laidTests := true, laidLooks := .later }
def OverlayCommuteUptoCardSaid : Prop := Claim7.holds Tryz.pinned (.plain (OpenSpec.upto overlayCommuteSpec)) overlayCommuteUptoCard

/-- THE SECOND FORM's CARD OF 'bringuplaw13.OverlayNames'. -/
def overlayNamesUptoCard : Claim7 := { stood := { row := overlayNamesUptoRow, standIns := [], harness := (true, "8e54806a75669ff6e82e8c030ad609a59b280c7a6e701ce13cc98ac67505dcd4"), looks := false }, kinds := [], alts := [], laidByText := true, laidKinds := [.data, .pinned], laidTests := true, laidLooks := .later }
def OverlayNamesUptoCardSaid : Prop := Claim7.holds Tryz.pinned (.plain (OpenSpec.upto overlayNamesSpec)) overlayNamesUptoCard
end Rows
end Go.Proofs.YtiojnbhomjkkgaaGreatDoor
