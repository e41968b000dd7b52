/-
  NARROWER THAN 'FOR EVERY INPUT', by the rows' own cells (each row's printed sentence says how): BlobAnswers: laid · BlobBack: laid · BlobDamage: laid · BlobNames: laid · BlobSizes: laid · BlobDiffers: laid.
  DERIVED. THE GIVEN ROWS OF THIS SEAT. 6 by the template 'for every input the law returns true; each argument reads behind the call as it read before'; 0 by the template 'total and deterministic' (their statements: YtofhcgbihonckaaGreatDoorTotals.lean).
  GIVEN WITH THE SEED: the statements are not yours to turn. If you find one false, say at which input.
  Laid BY PROGRAM, IN A SANDBOX (cutbox-rows.mjs): the forced cells as the released guide's own fill.sh prints them over the translation 3c733b17dde143d4… (all of the seat's roots in one cut). By AI agents, Wed Nov 11 2026. No macro, syntax, notation, axiom, sorry.
-/
import Derived.Test.YtofhcgbihonckaaGreatDoorChecked
import GoSem.PinnedTables
import GoSem.Claim
import GoSem.ClaimJoined
import GoSem.ClaimMapViews
import Derived.JoinedTies
import Derived.KernelRfl
namespace Go.Proofs.YtofhcgbihonckaaGreatDoor
/- THE CELL 'sum', in the pinned program and in every row, IS THE sha256 OF THE DUMP (.gsa) THAT YtofhcgbihonckaaGreatDoorProg.lean LOADS. Nothing in Lean hashes anything: it is a label: what it is worth is what the hold of that sum in a sandbox is worth. -/
noncomputable def Tryz.pinned : Pinned := { name := "ytofhcgbihonckaagreatdoor", sum := "3c733b17dde143d4e3e414701f42f86c38b6c3b0f61f0028674444d9d6dd3dd5", checked := Tryz.checked }
namespace Rows
def none {H : Type} : Left H := { results := [], args := [] }

/- WHAT THE LISTED PACKAGE-LEVEL VARIABLES READ AS WHEN THE CALL BEGINS. Each datum BY PROGRAM (the guide's laid-datum.mjs) off the statement by which the dump's own 'gosem.cut.vars' lays the variable. In a bare row this is a premise. The card (YtofhcgbihonckaaGreatDoorCards.lean) ties it to the program's text. -/
def laid_unicode_utf8_acceptRanges {H : Type} : DataW H := .agg [.agg [.lit (.int .u8 128), .lit (.int .u8 191)], .agg [.lit (.int .u8 160), .lit (.int .u8 191)], .agg [.lit (.int .u8 128), .lit (.int .u8 159)], .agg [.lit (.int .u8 144), .lit (.int .u8 191)], .agg [.lit (.int .u8 128), .lit (.int .u8 143)], .agg [.lit (.int .u8 0), .lit (.int .u8 0)], .agg [.lit (.int .u8 0), .lit (.int .u8 0)], .agg [.lit (.int .u8 0), .lit (.int .u8 0)], .agg [.lit (.int .u8 0), .lit (.int .u8 0)], .agg [.lit (.int .u8 0), .lit (.int .u8 0)], .agg [.lit (.int .u8 0), .lit (.int .u8 0)], .agg [.lit (.int .u8 0), .lit (.int .u8 0)], .agg [.lit (.int .u8 0), .lit (.int .u8 0)], .agg [.lit (.int .u8 0), .lit (.int .u8 0)], .agg [.lit (.int .u8 0), .lit (.int .u8 0)], .agg [.lit (.int .u8 0), .lit (.int .u8 0)]]
/-- One of Go's own tables, pinned by name: the form's constant. -/
def laid_unicode_utf8_first : DataW Unit := Go.Pinned.utf8First

/-- 'bringuplaw08.BlobAnswers': WHATEVER THE INPUT: true; the input reads as it did. -/
def blobAnswersSpec : ChangeSpec := { name := "blobAnswers", fn := fun _ => fun
  | [d1, d2, d3] => { results := [.lit (.bool true)], args := [d1, d2, d3] }
  | _ => none }
def blobAnswersRow : OpenClaim := { program := "ytofhcgbihonckaagreatdoor", sum := "3c733b17dde143d4e3e414701f42f86c38b6c3b0f61f0028674444d9d6dd3dd5", func := "bringup/bringuplaw08.BlobAnswers", spec := "blobAnswers", inPlace := ["internal/bytealg.IndexByteString", "internal/bytealg.IndexString", "internal/bytealg.IndexByte"], unfollowed := true, recurses := true, named := ["internal/bytealg.MaxLen", "unicode/utf8.first", "unicode/utf8.acceptRanges"], plainKeys := false, apart := false, laid := [("unicode/utf8.acceptRanges", laid_unicode_utf8_acceptRanges), ("unicode/utf8.first", laid_unicode_utf8_first)] }
def BlobAnswersSaid : Prop := blobAnswersRow.holds Tryz.pinned (OpenSpec.ofChange blobAnswersSpec)

/-- ITS FALSE NEIGHBOUR: 'it returns false'. Refute it at one input. -/
def blobAnswersWrong : ChangeSpec := { name := "blobAnswers", fn := fun _ => fun
  | [d1, d2, d3] => { results := [.lit (.bool false)], args := [d1, d2, d3] }
  | _ => none }
def BlobAnswersWrongFalsely : Prop := blobAnswersRow.holds Tryz.pinned (OpenSpec.ofChange blobAnswersWrong)

/-- 'bringuplaw08.BlobBack': WHATEVER THE INPUT: true; the input reads as it did. -/
def blobBackSpec : ChangeSpec := { name := "blobBack", fn := fun _ => fun
  | [d] => { results := [.lit (.bool true)], args := [d] }
  | _ => none }
def blobBackRow : OpenClaim := { program := "ytofhcgbihonckaagreatdoor", sum := "3c733b17dde143d4e3e414701f42f86c38b6c3b0f61f0028674444d9d6dd3dd5", func := "bringup/bringuplaw08.BlobBack", spec := "blobBack", inPlace := ["internal/bytealg.IndexByteString", "internal/bytealg.IndexString", "internal/bytealg.IndexByte"], unfollowed := true, recurses := true, named := ["internal/bytealg.MaxLen", "unicode/utf8.first", "unicode/utf8.acceptRanges"], plainKeys := false, apart := false, laid := [("unicode/utf8.acceptRanges", laid_unicode_utf8_acceptRanges), ("unicode/utf8.first", laid_unicode_utf8_first)] }
def BlobBackSaid : Prop := blobBackRow.holds Tryz.pinned (OpenSpec.ofChange blobBackSpec)

/-- ITS FALSE NEIGHBOUR: 'it returns false'. Refute it at one input. -/
def blobBackWrong : ChangeSpec := { name := "blobBack", fn := fun _ => fun
  | [d] => { results := [.lit (.bool false)], args := [d] }
  | _ => none }
def BlobBackWrongFalsely : Prop := blobBackRow.holds Tryz.pinned (OpenSpec.ofChange blobBackWrong)

/-- 'bringuplaw08.BlobDamage': WHATEVER THE INPUT: true; the input reads as it did. -/
def blobDamageSpec : ChangeSpec := { name := "blobDamage", fn := fun _ => fun
  | [d1, d2, d3] => { results := [.lit (.bool true)], args := [d1, d2, d3] }
  | _ => none }
def blobDamageRow : OpenClaim := { program := "ytofhcgbihonckaagreatdoor", sum := "3c733b17dde143d4e3e414701f42f86c38b6c3b0f61f0028674444d9d6dd3dd5", func := "bringup/bringuplaw08.BlobDamage", spec := "blobDamage", inPlace := ["internal/bytealg.IndexByteString", "internal/bytealg.IndexString", "internal/bytealg.IndexByte"], unfollowed := true, recurses := true, named := ["internal/bytealg.MaxLen", "unicode/utf8.first", "unicode/utf8.acceptRanges"], plainKeys := false, apart := false, laid := [("unicode/utf8.acceptRanges", laid_unicode_utf8_acceptRanges), ("unicode/utf8.first", laid_unicode_utf8_first)] }
def BlobDamageSaid : Prop := blobDamageRow.holds Tryz.pinned (OpenSpec.ofChange blobDamageSpec)

/-- ITS FALSE NEIGHBOUR: 'it returns false'. Refute it at one input. -/
def blobDamageWrong : ChangeSpec := { name := "blobDamage", fn := fun _ => fun
  | [d1, d2, d3] => { results := [.lit (.bool false)], args := [d1, d2, d3] }
  | _ => none }
def BlobDamageWrongFalsely : Prop := blobDamageRow.holds Tryz.pinned (OpenSpec.ofChange blobDamageWrong)

/-- 'bringuplaw08.BlobNames': WHATEVER THE INPUT: true; the input reads as it did. -/
def blobNamesSpec : ChangeSpec := { name := "blobNames", fn := fun _ => fun
  | [d] => { results := [.lit (.bool true)], args := [d] }
  | _ => none }
def blobNamesRow : OpenClaim := { program := "ytofhcgbihonckaagreatdoor", sum := "3c733b17dde143d4e3e414701f42f86c38b6c3b0f61f0028674444d9d6dd3dd5", func := "bringup/bringuplaw08.BlobNames", spec := "blobNames", inPlace := ["internal/bytealg.IndexByteString", "internal/bytealg.IndexString", "internal/bytealg.IndexByte"], unfollowed := true, recurses := true, named := ["internal/bytealg.MaxLen", "unicode/utf8.first", "unicode/utf8.acceptRanges"], plainKeys := false, apart := false, laid := [("unicode/utf8.acceptRanges", laid_unicode_utf8_acceptRanges), ("unicode/utf8.first", laid_unicode_utf8_first)] }
def BlobNamesSaid : Prop := blobNamesRow.holds Tryz.pinned (OpenSpec.ofChange blobNamesSpec)

/-- ITS FALSE NEIGHBOUR: 'it returns false'. Refute it at one input. -/
def blobNamesWrong : ChangeSpec := { name := "blobNames", fn := fun _ => fun
  | [d] => { results := [.lit (.bool false)], args := [d] }
  | _ => none }
def BlobNamesWrongFalsely : Prop := blobNamesRow.holds Tryz.pinned (OpenSpec.ofChange blobNamesWrong)

/-- 'bringuplaw08.BlobSizes': WHATEVER THE INPUT: true; the input reads as it did. -/
def blobSizesSpec : ChangeSpec := { name := "blobSizes", fn := fun _ => fun
  | [d] => { results := [.lit (.bool true)], args := [d] }
  | _ => none }
def blobSizesRow : OpenClaim := { program := "ytofhcgbihonckaagreatdoor", sum := "3c733b17dde143d4e3e414701f42f86c38b6c3b0f61f0028674444d9d6dd3dd5", func := "bringup/bringuplaw08.BlobSizes", spec := "blobSizes", inPlace := ["internal/bytealg.IndexByteString", "internal/bytealg.IndexString", "internal/bytealg.IndexByte"], unfollowed := true, recurses := true, named := ["internal/bytealg.MaxLen", "unicode/utf8.first", "unicode/utf8.acceptRanges"], plainKeys := false, apart := false, laid := [("unicode/utf8.acceptRanges", laid_unicode_utf8_acceptRanges), ("unicode/utf8.first", laid_unicode_utf8_first)] }
def BlobSizesSaid : Prop := blobSizesRow.holds Tryz.pinned (OpenSpec.ofChange blobSizesSpec)

/-- ITS FALSE NEIGHBOUR: 'it returns false'. Refute it at one input. -/
def blobSizesWrong : ChangeSpec := { name := "blobSizes", fn := fun _ => fun
  | [d] => { results := [.lit (.bool false)], args := [d] }
  | _ => none }
def BlobSizesWrongFalsely : Prop := blobSizesRow.holds Tryz.pinned (OpenSpec.ofChange blobSizesWrong)

/-- 'bringuplaw08.BlobDiffers': WHATEVER THE INPUT: true; the input reads as it did. -/
def blobDiffersSpec : ChangeSpec := { name := "blobDiffers", fn := fun _ => fun
  | [d] => { results := [.lit (.bool true)], args := [d] }
  | _ => none }
def blobDiffersRow : OpenClaim := { program := "ytofhcgbihonckaagreatdoor", sum := "3c733b17dde143d4e3e414701f42f86c38b6c3b0f61f0028674444d9d6dd3dd5", func := "bringup/bringuplaw08.BlobDiffers", spec := "blobDiffers", inPlace := ["internal/bytealg.IndexByteString", "internal/bytealg.IndexString", "internal/bytealg.IndexByte"], unfollowed := true, recurses := true, named := ["internal/bytealg.MaxLen", "unicode/utf8.first", "unicode/utf8.acceptRanges"], plainKeys := false, apart := false, laid := [("unicode/utf8.acceptRanges", laid_unicode_utf8_acceptRanges), ("unicode/utf8.first", laid_unicode_utf8_first)] }
def BlobDiffersSaid : Prop := blobDiffersRow.holds Tryz.pinned (OpenSpec.ofChange blobDiffersSpec)

/-- ITS FALSE NEIGHBOUR: 'it returns false'. Refute it at one input. -/
def blobDiffersWrong : ChangeSpec := { name := "blobDiffers", fn := fun _ => fun
  | [d] => { results := [.lit (.bool false)], args := [d] }
  | _ => none }
def BlobDiffersWrongFalsely : Prop := blobDiffersRow.holds Tryz.pinned (OpenSpec.ofChange blobDiffersWrong)

/- THE SECOND FORM. 'bulk': how many values and letters a reading holds, each counted each time it is reached (what is shared counts as often as it is met; a slice's spare places count too). A statement '..UptoSaid' is the law's where the arguments, and the package variables that the reading takes, are together of bulk at most 1048576: NARROWER than '..Said'. Prove '..Said' where nothing that the law and all that it calls make is longer than what came in: it says more and counts as full. Else prove '..UptoSaid'. A law counts once. -/
mutual
def uptoBulk {H : Type} : DataW H → Nat
  | .lit (.string bytes) => bytes.length + 1
  | .lit _ => 1
  | .nil => 1
  | .ptr d => uptoBulk d + 1
  | .slice elems spare => uptoBulkAll elems + uptoBulkAll spare + 1
  | .agg parts => uptoBulkAll parts + 1
  | .iface _ d => uptoBulk d + 1
  | .map entries => uptoBulkEntries entries + 1
  | .held _ => 1
def uptoBulkAll {H : Type} : List (DataW H) → Nat
  | [] => 0
  | d :: r => uptoBulk d + uptoBulkAll r
def uptoBulkEntries {H : Type} : List (Lit × DataW H) → Nat
  | [] => 0
  | x :: r => uptoBulkEntry x + uptoBulkEntries r
def uptoBulkEntry {H : Type} : Lit × DataW H → Nat
  | (.string bytes, d) => bytes.length + uptoBulk d + 1
  | (_, d) => uptoBulk d + 1
 end
def uptoSmall : (H : Type) → List (DataW H) → Bool := fun _ ds => decide (uptoBulkAll ds ≤ 1048576)
def OpenSpec.upto (s : _root_.Go.ChangeSpec) : _root_.Go.OpenSpec := { _root_.Go.OpenSpec.ofChange s with cond := some uptoSmall }

/-- 'bringuplaw08.BlobAnswers', WHERE WHAT IT READS IS OF BULK AT MOST 1048576: true; the input reads as it did. -/
def blobAnswersUptoRow : OpenClaim := { program := "ytofhcgbihonckaagreatdoor", sum := "3c733b17dde143d4e3e414701f42f86c38b6c3b0f61f0028674444d9d6dd3dd5", func := "bringup/bringuplaw08.BlobAnswers", spec := "blobAnswers", inPlace := ["internal/bytealg.IndexByteString", "internal/bytealg.IndexString", "internal/bytealg.IndexByte"], unfollowed := true, recurses := true, named := ["internal/bytealg.MaxLen", "unicode/utf8.first", "unicode/utf8.acceptRanges"], plainKeys := false, apart := false, laid := [("unicode/utf8.acceptRanges", laid_unicode_utf8_acceptRanges), ("unicode/utf8.first", laid_unicode_utf8_first)], narrowed := true }
def BlobAnswersUptoSaid : Prop := blobAnswersUptoRow.holds Tryz.pinned (OpenSpec.upto blobAnswersSpec)

/-- 'bringuplaw08.BlobBack', WHERE WHAT IT READS IS OF BULK AT MOST 1048576: true; the input reads as it did. -/
def blobBackUptoRow : OpenClaim := { program := "ytofhcgbihonckaagreatdoor", sum := "3c733b17dde143d4e3e414701f42f86c38b6c3b0f61f0028674444d9d6dd3dd5", func := "bringup/bringuplaw08.BlobBack", spec := "blobBack", inPlace := ["internal/bytealg.IndexByteString", "internal/bytealg.IndexString", "internal/bytealg.IndexByte"], unfollowed := true, recurses := true, named := ["internal/bytealg.MaxLen", "unicode/utf8.first", "unicode/utf8.acceptRanges"], plainKeys := false, apart := false, laid := [("unicode/utf8.acceptRanges", laid_unicode_utf8_acceptRanges), ("unicode/utf8.first", laid_unicode_utf8_first)], narrowed := true }
def BlobBackUptoSaid : Prop := blobBackUptoRow.holds Tryz.pinned (OpenSpec.upto blobBackSpec)

/-- 'bringuplaw08.BlobDamage', WHERE WHAT IT READS IS OF BULK AT MOST 1048576: true; the input reads as it did. -/
def blobDamageUptoRow : OpenClaim := { program := "ytofhcgbihonckaagreatdoor", sum := "3c733b17dde143d4e3e414701f42f86c38b6c3b0f61f0028674444d9d6dd3dd5", func := "bringup/bringuplaw08.BlobDamage", spec := "blobDamage", inPlace := ["internal/bytealg.IndexByteString", "internal/bytealg.IndexString", "internal/bytealg.IndexByte"], unfollowed := true, recurses := true, named := ["internal/bytealg.MaxLen", "unicode/utf8.first", "unicode/utf8.acceptRanges"], plainKeys := false, apart := false, laid := [("unicode/utf8.acceptRanges", laid_unicode_utf8_acceptRanges), ("unicode/utf8.first", laid_unicode_utf8_first)], narrowed := true }
def BlobDamageUptoSaid : Prop := blobDamageUptoRow.holds Tryz.pinned (OpenSpec.upto blobDamageSpec)

/-- 'bringuplaw08.BlobNames', WHERE WHAT IT READS IS OF BULK AT MOST 1048576: true; the input reads as it did. -/
def blobNamesUptoRow : OpenClaim := { program := "ytofhcgbihonckaagreatdoor", sum := "3c733b17dde143d4e3e414701f42f86c38b6c3b0f61f0028674444d9d6dd3dd5", func := "bringup/bringuplaw08.BlobNames", spec := "blobNames", inPlace := ["internal/bytealg.IndexByteString", "internal/bytealg.IndexString", "internal/bytealg.IndexByte"], unfollowed := true, recurses := true, named := ["internal/bytealg.MaxLen", "unicode/utf8.first", "unicode/utf8.acceptRanges"], plainKeys := false, apart := false, laid := [("unicode/utf8.acceptRanges", laid_unicode_utf8_acceptRanges), ("unicode/utf8.first", laid_unicode_utf8_first)], narrowed := true }
def BlobNamesUptoSaid : Prop := blobNamesUptoRow.holds Tryz.pinned (OpenSpec.upto blobNamesSpec)

/-- 'bringuplaw08.BlobSizes', WHERE WHAT IT READS IS OF BULK AT MOST 1048576: true; the input reads as it did. -/
def blobSizesUptoRow : OpenClaim := { program := "ytofhcgbihonckaagreatdoor", sum := "3c733b17dde143d4e3e414701f42f86c38b6c3b0f61f0028674444d9d6dd3dd5", func := "bringup/bringuplaw08.BlobSizes", spec := "blobSizes", inPlace := ["internal/bytealg.IndexByteString", "internal/bytealg.IndexString", "internal/bytealg.IndexByte"], unfollowed := true, recurses := true, named := ["internal/bytealg.MaxLen", "unicode/utf8.first", "unicode/utf8.acceptRanges"], plainKeys := false, apart := false, laid := [("unicode/utf8.acceptRanges", laid_unicode_utf8_acceptRanges), ("unicode/utf8.first", laid_unicode_utf8_first)], narrowed := true }
def BlobSizesUptoSaid : Prop := blobSizesUptoRow.holds Tryz.pinned (OpenSpec.upto blobSizesSpec)

/-- 'bringuplaw08.BlobDiffers', WHERE WHAT IT READS IS OF BULK AT MOST 1048576: true; the input reads as it did. -/
def blobDiffersUptoRow : OpenClaim := { program := "ytofhcgbihonckaagreatdoor", sum := "3c733b17dde143d4e3e414701f42f86c38b6c3b0f61f0028674444d9d6dd3dd5", func := "bringup/bringuplaw08.BlobDiffers", spec := "blobDiffers", inPlace := ["internal/bytealg.IndexByteString", "internal/bytealg.IndexString", "internal/bytealg.IndexByte"], unfollowed := true, recurses := true, named := ["internal/bytealg.MaxLen", "unicode/utf8.first", "unicode/utf8.acceptRanges"], plainKeys := false, apart := false, laid := [("unicode/utf8.acceptRanges", laid_unicode_utf8_acceptRanges), ("unicode/utf8.first", laid_unicode_utf8_first)], narrowed := true }
def BlobDiffersUptoSaid : Prop := blobDiffersUptoRow.holds Tryz.pinned (OpenSpec.upto blobDiffersSpec)

end Rows
end Go.Proofs.YtofhcgbihonckaaGreatDoor
