/-
  DERIVED. GIVEN WITH THE SEED: THE CARDS: each row of YtgaboghigefgbaaGreatDoorRows.lean that lists a variable, with what it lists TIED to the program's text (the seventh form; the later family's looks); each row that meets fmt, with fmt's text TOLD by the authors' own Lean function (tested against real Go, not proved from fmt's source: count such statements apart). THE CARD IS WHAT COUNTS. Prove the row's statement (the work); the ties are given (YtgaboghigefgbaaGreatDoorTie.lean); close each card by the builder's one call (the guide's Derived/Test/ToyasCard.lean, 'card_holds'). Laid BY PROGRAM, IN A SANDBOX (cutbox-door.mjs). By AI agents, Wed Nov 11 2026. No macro, syntax, notation, axiom, sorry.
-/
import Derived.Test.YtgaboghigefgbaaGreatDoorRows
import GoSem.ClaimSeven
namespace Go.Proofs.YtgaboghigefgbaaGreatDoor
namespace Rows

/-- THE TIED CARD OF 'bringuplaw13.OverlayTwice'. -/
def overlayTwiceCard : Claim7 := { stood := { row := overlayTwiceRow, standIns := [], harness := (true, "a82293852100c7e3c824076add4aa70964aecafacbde85873568373541b9ef2a"), looks := false }, kinds := [], alts := [], laidByText := true, laidKinds := [.data, .pinned], laidTests := true, laidLooks := .later }
def OverlayTwiceCardSaid : Prop := Claim7.holds Tryz.pinned (.plain (OpenSpec.ofChange overlayTwiceSpec)) overlayTwiceCard

/-- THE TIED CARD OF 'bringuplaw13.OverlayCommute'. -/
def overlayCommuteCard : Claim7 := { stood := { row := overlayCommuteRow, standIns := [], harness := (true, "a82293852100c7e3c824076add4aa70964aecafacbde85873568373541b9ef2a"), looks := false }, kinds := [], alts := [], laidByText := true, laidKinds := [.data, .pinned], laidTests := true, laidLooks := .later }
def OverlayCommuteCardSaid : Prop := Claim7.holds Tryz.pinned (.plain (OpenSpec.ofChange overlayCommuteSpec)) overlayCommuteCard

/-- THE TIED CARD OF 'bringuplaw13.OverlayNames'. -/
def overlayNamesCard : Claim7 := { stood := { row := overlayNamesRow, standIns := [], harness := (true, "a82293852100c7e3c824076add4aa70964aecafacbde85873568373541b9ef2a"), looks := false }, kinds := [], alts := [], laidByText := true, laidKinds := [.data, .pinned], laidTests := true, laidLooks := .later }
def OverlayNamesCardSaid : Prop := Claim7.holds Tryz.pinned (.plain (OpenSpec.ofChange overlayNamesSpec)) overlayNamesCard

/-- THE TIED CARD OF 'bringuplaw13.OverlayAnswers'. -/
def overlayAnswersCard : Claim7 := { stood := { row := overlayAnswersRow, standIns := [], harness := (true, "a82293852100c7e3c824076add4aa70964aecafacbde85873568373541b9ef2a"), looks := false }, kinds := [], alts := [], laidByText := true, laidKinds := [.data, .pinned], laidTests := true, laidLooks := .later }
def OverlayAnswersCardSaid : Prop := Claim7.holds Tryz.pinned (.plain (OpenSpec.ofChange overlayAnswersSpec)) overlayAnswersCard

/-- THE SECOND FORM's CARD OF 'bringuplaw13.OverlayTwice'. -/
def overlayTwiceUptoCard : Claim7 := { stood := { row := overlayTwiceUptoRow, standIns := [], harness := (true, "a82293852100c7e3c824076add4aa70964aecafacbde85873568373541b9ef2a"), looks := false }, kinds := [], alts := [], laidByText := true, laidKinds := [.data, .pinned], laidTests := true, laidLooks := .later }
def OverlayTwiceUptoCardSaid : Prop := Claim7.holds Tryz.pinned (.plain (OpenSpec.upto overlayTwiceSpec)) overlayTwiceUptoCard

/-- THE SECOND FORM's CARD OF 'bringuplaw13.OverlayCommute'. -/
def overlayCommuteUptoCard : Claim7 := { stood := { row := overlayCommuteUptoRow, standIns := [], harness := (true, "a82293852100c7e3c824076add4aa70964aecafacbde85873568373541b9ef2a"), looks := false }, kinds := [], alts := [], laidByText := true, laidKinds := [.data, .pinned], laidTests := true, laidLooks := .later }
def OverlayCommuteUptoCardSaid : Prop := Claim7.holds Tryz.pinned (.plain (OpenSpec.upto overlayCommuteSpec)) overlayCommuteUptoCard

/-- THE SECOND FORM's CARD OF 'bringuplaw13.OverlayNames'. -/
def overlayNamesUptoCard : Claim7 := { stood := { row := overlayNamesUptoRow, standIns := [], harness := (true, "a82293852100c7e3c824076add4aa70964aecafacbde85873568373541b9ef2a"), looks := false }, kinds := [], alts := [], laidByText := true, laidKinds := [.data, .pinned], laidTests := true, laidLooks := .later }
def OverlayNamesUptoCardSaid : Prop := Claim7.holds Tryz.pinned (.plain (OpenSpec.upto overlayNamesSpec)) overlayNamesUptoCard

/-- THE SECOND FORM's CARD OF 'bringuplaw13.OverlayAnswers'. -/
def overlayAnswersUptoCard : Claim7 := { stood := { row := overlayAnswersUptoRow, standIns := [], harness := (true, "a82293852100c7e3c824076add4aa70964aecafacbde85873568373541b9ef2a"), looks := false }, kinds := [], alts := [], laidByText := true, laidKinds := [.data, .pinned], laidTests := true, laidLooks := .later }
def OverlayAnswersUptoCardSaid : Prop := Claim7.holds Tryz.pinned (.plain (OpenSpec.upto overlayAnswersSpec)) overlayAnswersUptoCard
end Rows
end Go.Proofs.YtgaboghigefgbaaGreatDoor
