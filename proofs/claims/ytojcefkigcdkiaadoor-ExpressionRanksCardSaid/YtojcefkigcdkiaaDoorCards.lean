/-
  DERIVED. GIVEN WITH THE SEED: THE CARDS: each row of YtojcefkigcdkiaaDoorRows.lean that lists a variable, with what it lists TIED to the program's text (the seventh form; the later family's looks); each row that meets fmt, with fmt's text TOLD by the authors' own Lean function (tested against real Go, not proved from fmt's source: count such statements apart). THE CARD IS WHAT COUNTS. Prove the row's statement (the work); the ties are given (YtojcefkigcdkiaaDoorTie.lean); close each card by the builder's one call (the guide's Derived/Test/ToyasCard.lean, 'card_holds'). Laid BY PROGRAM, IN A SANDBOX (cutbox-door.mjs). By AI agents, Wed Nov 11 2026. No macro, syntax, notation, axiom, sorry.
-/
import Derived.Test.YtojcefkigcdkiaaDoorRows
import GoSem.ClaimSeven
namespace Go.Proofs.YtojcefkigcdkiaaDoor
namespace Rows

/-- THE TIED CARD OF 'bringuplaw02.ExpressionValues'. -/
def expressionValuesCard : Claim7 := { stood := { row := expressionValuesRow, standIns := [], harness := (true, "c20d691bcb7b699db9a06a94eb89d893b202aaa329900aa06dcdbeb695726e4f"), looks := false }, kinds := [], alts := [], laidByText := true, laidKinds := [.data, .data, .data], laidTests := true, laidLooks := .later }
def ExpressionValuesCardSaid : Prop := Claim7.holds Tryd.pinned (.plain (OpenSpec.ofChange expressionValuesSpec)) expressionValuesCard

/-- THE TIED CARD OF 'bringuplaw02.ExpressionRanks'. -/
def expressionRanksCard : Claim7 := { stood := { row := expressionRanksRow, standIns := [], harness := (true, "c20d691bcb7b699db9a06a94eb89d893b202aaa329900aa06dcdbeb695726e4f"), looks := false }, kinds := [], alts := [], laidByText := true, laidKinds := [.data, .data, .data], laidTests := true, laidLooks := .later }
def ExpressionRanksCardSaid : Prop := Claim7.holds Tryd.pinned (.plain (OpenSpec.ofChange expressionRanksSpec)) expressionRanksCard

/-- THE TIED CARD OF 'bringuplaw02.ExpressionTexts'. -/
def expressionTextsCard : Claim7 := { stood := { row := expressionTextsRow, standIns := [], harness := (true, "c20d691bcb7b699db9a06a94eb89d893b202aaa329900aa06dcdbeb695726e4f"), looks := false }, kinds := [], alts := [], laidByText := true, laidKinds := [.data, .data, .data], laidTests := true, laidLooks := .later }
def ExpressionTextsCardSaid : Prop := Claim7.holds Tryd.pinned (.plain (OpenSpec.ofChange expressionTextsSpec)) expressionTextsCard

/-- THE TIED CARD OF 'bringuplaw02.ExpressionWraps'. -/
def expressionWrapsCard : Claim7 := { stood := { row := expressionWrapsRow, standIns := [], harness := (true, "c20d691bcb7b699db9a06a94eb89d893b202aaa329900aa06dcdbeb695726e4f"), looks := false }, kinds := [], alts := [], laidByText := true, laidKinds := [.data, .data, .data], laidTests := true, laidLooks := .later }
def ExpressionWrapsCardSaid : Prop := Claim7.holds Tryd.pinned (.plain (OpenSpec.ofChange expressionWrapsSpec)) expressionWrapsCard

/-- THE TIED CARD OF 'bringuplaw02.ExpressionChoices'. -/
def expressionChoicesCard : Claim7 := { stood := { row := expressionChoicesRow, standIns := [], harness := (true, "c20d691bcb7b699db9a06a94eb89d893b202aaa329900aa06dcdbeb695726e4f"), looks := false }, kinds := [], alts := [], laidByText := true, laidKinds := [.data, .data, .data], laidTests := true, laidLooks := .later }
def ExpressionChoicesCardSaid : Prop := Claim7.holds Tryd.pinned (.plain (OpenSpec.ofChange expressionChoicesSpec)) expressionChoicesCard

/-- THE SECOND FORM's CARD OF 'bringuplaw02.ExpressionValues'. -/
def expressionValuesUptoCard : Claim7 := { stood := { row := expressionValuesUptoRow, standIns := [], harness := (true, "c20d691bcb7b699db9a06a94eb89d893b202aaa329900aa06dcdbeb695726e4f"), looks := false }, kinds := [], alts := [], laidByText := true, laidKinds := [.data, .data, .data], laidTests := true, laidLooks := .later }
def ExpressionValuesUptoCardSaid : Prop := Claim7.holds Tryd.pinned (.plain (OpenSpec.upto expressionValuesSpec)) expressionValuesUptoCard

/-- THE SECOND FORM's CARD OF 'bringuplaw02.ExpressionRanks'. -/
def expressionRanksUptoCard : Claim7 := { stood := { row := expressionRanksUptoRow, standIns := [], harness := (true, "c20d691bcb7b699db9a06a94eb89d893b202aaa329900aa06dcdbeb695726e4f"), looks := false }, kinds := [], alts := [], laidByText := true, laidKinds := [.data, .data, .data], laidTests := true, laidLooks := .later }
def ExpressionRanksUptoCardSaid : Prop := Claim7.holds Tryd.pinned (.plain (OpenSpec.upto expressionRanksSpec)) expressionRanksUptoCard

/-- THE SECOND FORM's CARD OF 'bringuplaw02.ExpressionTexts'. -/
def expressionTextsUptoCard : Claim7 := { stood := { row := expressionTextsUptoRow, standIns := [], harness := (true, "c20d691bcb7b699db9a06a94eb89d893b202aaa329900aa06dcdbeb695726e4f"), looks := false }, kinds := [], alts := [], laidByText := true, laidKinds := [.data, .data, .data], laidTests := true, laidLooks := .later }
def ExpressionTextsUptoCardSaid : Prop := Claim7.holds Tryd.pinned (.plain (OpenSpec.upto expressionTextsSpec)) expressionTextsUptoCard

/-- THE SECOND FORM's CARD OF 'bringuplaw02.ExpressionWraps'. -/
def expressionWrapsUptoCard : Claim7 := { stood := { row := expressionWrapsUptoRow, standIns := [], harness := (true, "c20d691bcb7b699db9a06a94eb89d893b202aaa329900aa06dcdbeb695726e4f"), looks := false }, kinds := [], alts := [], laidByText := true, laidKinds := [.data, .data, .data], laidTests := true, laidLooks := .later }
def ExpressionWrapsUptoCardSaid : Prop := Claim7.holds Tryd.pinned (.plain (OpenSpec.upto expressionWrapsSpec)) expressionWrapsUptoCard

/-- THE SECOND FORM's CARD OF 'bringuplaw02.ExpressionChoices'. -/
def expressionChoicesUptoCard : Claim7 := { stood := { row := expressionChoicesUptoRow, standIns := [], harness := (true, "c20d691bcb7b699db9a06a94eb89d893b202aaa329900aa06dcdbeb695726e4f"), looks := false }, kinds := [], alts := [], laidByText := true, laidKinds := [.data, .data, .data], laidTests := true, laidLooks := .later }
def ExpressionChoicesUptoCardSaid : Prop := Claim7.holds Tryd.pinned (.plain (OpenSpec.upto expressionChoicesSpec)) expressionChoicesUptoCard
end Rows
end Go.Proofs.YtojcefkigcdkiaaDoor
