/-
  DERIVED. GIVEN WITH THE SEED: THE CARDS: each row of YtofhcgbihonckaaGreatDoorRows.lean that lists a variable, with what it lists TIED to the program's text (the seventh form; the later family's looks); each row that meets fmt, with fmt's text TOLD by the authors' own Lean function (tested against real Go, not proved from fmt's source: count such statements apart). THE CARD IS WHAT COUNTS. Prove the row's statement (the work); the ties are given (YtofhcgbihonckaaGreatDoorTie.lean); close each card by the builder's one call (the guide's Derived/Test/ToyasCard.lean, 'card_holds'). Laid BY PROGRAM, IN A SANDBOX (cutbox-door.mjs). By AI agents, Wed Nov 11 2026. No macro, syntax, notation, axiom, sorry.
-/
import Derived.Test.YtofhcgbihonckaaGreatDoorRows
import GoSem.ClaimSeven
namespace Go.Proofs.YtofhcgbihonckaaGreatDoor
namespace Rows

/-- THE TIED CARD OF 'bringuplaw08.BlobAnswers'. -/
def blobAnswersCard : Claim7 := { stood := { row := blobAnswersRow, standIns := [], harness := (true, "6f95569d2e662d99779acf523dab9a803c40130d97fb2a3fb2f60ec075f1eaa7"), looks := false }, kinds := [], alts := [], laidByText := true, laidKinds := [.data, .pinned], laidTests := true, laidLooks := .later }
def BlobAnswersCardSaid : Prop := Claim7.holds Tryz.pinned (.plain (OpenSpec.ofChange blobAnswersSpec)) blobAnswersCard

/-- THE TIED CARD OF 'bringuplaw08.BlobBack'. -/
def blobBackCard : Claim7 := { stood := { row := blobBackRow, standIns := [], harness := (true, "6f95569d2e662d99779acf523dab9a803c40130d97fb2a3fb2f60ec075f1eaa7"), looks := false }, kinds := [], alts := [], laidByText := true, laidKinds := [.data, .pinned], laidTests := true, laidLooks := .later }
def BlobBackCardSaid : Prop := Claim7.holds Tryz.pinned (.plain (OpenSpec.ofChange blobBackSpec)) blobBackCard

/-- THE TIED CARD OF 'bringuplaw08.BlobDamage'. -/
def blobDamageCard : Claim7 := { stood := { row := blobDamageRow, standIns := [], harness := (true, "6f95569d2e662d99779acf523dab9a803c40130d97fb2a3fb2f60ec075f1eaa7"), looks := false }, kinds := [], alts := [], laidByText := true, laidKinds := [.data, .pinned], laidTests := true, laidLooks := .later }
def BlobDamageCardSaid : Prop := Claim7.holds Tryz.pinned (.plain (OpenSpec.ofChange blobDamageSpec)) blobDamageCard

/-- THE TIED CARD OF 'bringuplaw08.BlobNames'. -/
def blobNamesCard : Claim7 := { stood := { row := blobNamesRow, standIns := [], harness := (true, "6f95569d2e662d99779acf523dab9a803c40130d97fb2a3fb2f60ec075f1eaa7"), looks := false }, kinds := [], alts := [], laidByText := true, laidKinds := [.data, .pinned], laidTests := true, laidLooks := .later }
def BlobNamesCardSaid : Prop := Claim7.holds Tryz.pinned (.plain (OpenSpec.ofChange blobNamesSpec)) blobNamesCard

/-- THE TIED CARD OF 'bringuplaw08.BlobSizes'. -/
def blobSizesCard : Claim7 := { stood := { row := blobSizesRow, standIns := [], harness := (true, "6f95569d2e662d99779acf523dab9a803c40130d97fb2a3fb2f60ec075f1eaa7"), looks := false }, kinds := [], alts := [], laidByText := true, laidKinds := [.data, .pinned], laidTests := true, laidLooks := .later }
def BlobSizesCardSaid : Prop := Claim7.holds Tryz.pinned (.plain (OpenSpec.ofChange blobSizesSpec)) blobSizesCard

/-- THE TIED CARD OF 'bringuplaw08.BlobDiffers'. -/
def blobDiffersCard : Claim7 := { stood := { row := blobDiffersRow, standIns := [], harness := (true, "6f95569d2e662d99779acf523dab9a803c40130d97fb2a3fb2f60ec075f1eaa7"), looks := false }, kinds := [], alts := [], laidByText := true, laidKinds := [.data, .pinned], laidTests := true, laidLooks := .later }
def BlobDiffersCardSaid : Prop := Claim7.holds Tryz.pinned (.plain (OpenSpec.ofChange blobDiffersSpec)) blobDiffersCard

/-- THE SECOND FORM's CARD OF 'bringuplaw08.BlobAnswers'. -/
def blobAnswersUptoCard : Claim7 := { stood := { row := blobAnswersUptoRow, standIns := [], harness := (true, "6f95569d2e662d99779acf523dab9a803c40130d97fb2a3fb2f60ec075f1eaa7"), looks := false }, kinds := [], alts := [], laidByText := true, laidKinds := [.data, .pinned], laidTests := true, laidLooks := .later }
def BlobAnswersUptoCardSaid : Prop := Claim7.holds Tryz.pinned (.plain (OpenSpec.upto blobAnswersSpec)) blobAnswersUptoCard

/-- THE SECOND FORM's CARD OF 'bringuplaw08.BlobBack'. -/
def blobBackUptoCard : Claim7 := { stood := { row := blobBackUptoRow, standIns := [], harness := (true, "6f95569d2e662d99779acf523dab9a803c40130d97fb2a3fb2f60ec075f1eaa7"), looks := false }, kinds := [], alts := [], laidByText := true, laidKinds := [.data, .pinned], laidTests := true, laidLooks := .later }
def BlobBackUptoCardSaid : Prop := Claim7.holds Tryz.pinned (.plain (OpenSpec.upto blobBackSpec)) blobBackUptoCard

/-- THE SECOND FORM's CARD OF 'bringuplaw08.BlobDamage'. -/
def blobDamageUptoCard : Claim7 := { stood := { row := blobDamageUptoRow, standIns := [], harness := (true, "6f95569d2e662d99779acf523dab9a803c40130d97fb2a3fb2f60ec075f1eaa7"), looks := false }, kinds := [], alts := [], laidByText := true, laidKinds := [.data, .pinned], laidTests := true, laidLooks := .later }
def BlobDamageUptoCardSaid : Prop := Claim7.holds Tryz.pinned (.plain (OpenSpec.upto blobDamageSpec)) blobDamageUptoCard

/-- THE SECOND FORM's CARD OF 'bringuplaw08.BlobNames'. -/
def blobNamesUptoCard : Claim7 := { stood := { row := blobNamesUptoRow, standIns := [], harness := (true, "6f95569d2e662d99779acf523dab9a803c40130d97fb2a3fb2f60ec075f1eaa7"), looks := false }, kinds := [], alts := [], laidByText := true, laidKinds := [.data, .pinned], laidTests := true, laidLooks := .later }
def BlobNamesUptoCardSaid : Prop := Claim7.holds Tryz.pinned (.plain (OpenSpec.upto blobNamesSpec)) blobNamesUptoCard

/-- THE SECOND FORM's CARD OF 'bringuplaw08.BlobSizes'. -/
def blobSizesUptoCard : Claim7 := { stood := { row := blobSizesUptoRow, standIns := [], harness := (true, "6f95569d2e662d99779acf523dab9a803c40130d97fb2a3fb2f60ec075f1eaa7"), looks := false }, kinds := [], alts := [], laidByText := true, laidKinds := [.data, .pinned], laidTests := true, laidLooks := .later }
def BlobSizesUptoCardSaid : Prop := Claim7.holds Tryz.pinned (.plain (OpenSpec.upto blobSizesSpec)) blobSizesUptoCard

/-- THE SECOND FORM's CARD OF 'bringuplaw08.BlobDiffers'. -/
def blobDiffersUptoCard : Claim7 := { stood := { row := blobDiffersUptoRow, standIns := [], harness := (true, "6f95569d2e662d99779acf523dab9a803c40130d97fb2a3fb2f60ec075f1eaa7"), looks := false }, kinds := [], alts := [], laidByText := true, laidKinds := [.data, .pinned], laidTests := true, laidLooks := .later }
def BlobDiffersUptoCardSaid : Prop := Claim7.holds Tryz.pinned (.plain (OpenSpec.upto blobDiffersSpec)) blobDiffersUptoCard
end Rows
end Go.Proofs.YtofhcgbihonckaaGreatDoor
