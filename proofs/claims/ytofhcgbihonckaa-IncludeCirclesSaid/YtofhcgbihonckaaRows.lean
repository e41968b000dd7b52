/-
  No cell of these rows narrows 'for every input' (looked for: loops, veiled, ifaces, maps, wideKeys, modest, calm, conditions, laid).
  DERIVED. THE GIVEN ROWS OF THIS SEAT. 3 by the template 'for every input the law returns true; each argument reads behind the call as it read before'; 0 by the template 'total and deterministic' (their statements: YtofhcgbihonckaaTotals.lean).
  GIVEN WITH THE SEED: the statements are not yours to turn. If you find one false, say at which input.
  Laid BY PROGRAM, IN A SANDBOX (cutbox-rows.mjs): the forced cells as the released guide's own fill.sh prints them over the translation b8cf7ff6864481c1… (all of the seat's roots in one cut). By AI agents, Wed Nov 11 2026. No macro, syntax, notation, axiom, sorry.
-/
import Derived.Test.YtofhcgbihonckaaChecked
import GoSem.Claim
import GoSem.ClaimJoined
import GoSem.ClaimMapViews
import Derived.JoinedTies
import Derived.KernelRfl
namespace Go.Proofs.Ytofhcgbihonckaa
/- THE CELL 'sum', in the pinned program and in every row, IS THE sha256 OF THE DUMP (.gsa) THAT YtofhcgbihonckaaProg.lean LOADS. Nothing in Lean hashes anything: it is a label: what it is worth is what the hold of that sum in a sandbox is worth. -/
noncomputable def Try.pinned : Pinned := { name := "ytofhcgbihonckaa", sum := "b8cf7ff6864481c1fe184e6d324a599b79e5e21850b7d90cac6c5abd617d8c03", checked := Try.checked }
namespace Rows
def none {H : Type} : Left H := { results := [], args := [] }

/-- 'bringuplaw04.SourceDepth': WHATEVER THE INPUT: true; the input reads as it did. -/
def sourceDepthSpec : ChangeSpec := { name := "sourceDepth", fn := fun _ => fun
  | [d] => { results := [.lit (.bool true)], args := [d] }
  | _ => none }
def sourceDepthRow : OpenClaim := { program := "ytofhcgbihonckaa", sum := "b8cf7ff6864481c1fe184e6d324a599b79e5e21850b7d90cac6c5abd617d8c03", func := "bringup/bringuplaw04.SourceDepth", spec := "sourceDepth", inPlace := ["internal/bytealg.IndexByteString", "internal/bytealg.IndexString", "internal/abi.NoEscape"], unfollowed := true, recurses := true, named := ["internal/bytealg.MaxLen"], apart := false }
def SourceDepthSaid : Prop := sourceDepthRow.holds Try.pinned (OpenSpec.ofChange sourceDepthSpec)

/-- ITS FALSE NEIGHBOUR: 'it returns false'. Refute it at one input. -/
def sourceDepthWrong : ChangeSpec := { name := "sourceDepth", fn := fun _ => fun
  | [d] => { results := [.lit (.bool false)], args := [d] }
  | _ => none }
def SourceDepthWrongFalsely : Prop := sourceDepthRow.holds Try.pinned (OpenSpec.ofChange sourceDepthWrong)

/-- 'bringuplaw04.SourceCells': WHATEVER THE INPUT: true; the input reads as it did. -/
def sourceCellsSpec : ChangeSpec := { name := "sourceCells", fn := fun _ => fun
  | [d] => { results := [.lit (.bool true)], args := [d] }
  | _ => none }
def sourceCellsRow : OpenClaim := { program := "ytofhcgbihonckaa", sum := "b8cf7ff6864481c1fe184e6d324a599b79e5e21850b7d90cac6c5abd617d8c03", func := "bringup/bringuplaw04.SourceCells", spec := "sourceCells", inPlace := ["internal/bytealg.IndexByteString", "internal/bytealg.IndexString", "internal/abi.NoEscape"], unfollowed := true, recurses := true, named := ["internal/bytealg.MaxLen"], apart := false }
def SourceCellsSaid : Prop := sourceCellsRow.holds Try.pinned (OpenSpec.ofChange sourceCellsSpec)

/-- ITS FALSE NEIGHBOUR: 'it returns false'. Refute it at one input. -/
def sourceCellsWrong : ChangeSpec := { name := "sourceCells", fn := fun _ => fun
  | [d] => { results := [.lit (.bool false)], args := [d] }
  | _ => none }
def SourceCellsWrongFalsely : Prop := sourceCellsRow.holds Try.pinned (OpenSpec.ofChange sourceCellsWrong)

/-- 'bringuplaw05.IncludeCircles': WHATEVER THE INPUT: true; the input reads as it did. -/
def includeCirclesSpec : ChangeSpec := { name := "includeCircles", fn := fun _ => fun
  | [d1, d2] => { results := [.lit (.bool true)], args := [d1, d2] }
  | _ => none }
def includeCirclesRow : OpenClaim := { program := "ytofhcgbihonckaa", sum := "b8cf7ff6864481c1fe184e6d324a599b79e5e21850b7d90cac6c5abd617d8c03", func := "bringup/bringuplaw05.IncludeCircles", spec := "includeCircles", inPlace := ["internal/bytealg.IndexByteString", "internal/bytealg.IndexString", "internal/abi.NoEscape"], unfollowed := true, recurses := true, named := ["internal/bytealg.MaxLen"], apart := false }
def IncludeCirclesSaid : Prop := includeCirclesRow.holds Try.pinned (OpenSpec.ofChange includeCirclesSpec)

/-- ITS FALSE NEIGHBOUR: 'it returns false'. Refute it at one input. -/
def includeCirclesWrong : ChangeSpec := { name := "includeCircles", fn := fun _ => fun
  | [d1, d2] => { results := [.lit (.bool false)], args := [d1, d2] }
  | _ => none }
def IncludeCirclesWrongFalsely : Prop := includeCirclesRow.holds Try.pinned (OpenSpec.ofChange includeCirclesWrong)

/- THE SECOND FORM. 'bulk': how many values and letters a reading holds, each counted each time it is reached (what is shared counts as often as it is met; a slice's spare places count too). A statement '..UptoSaid' is the law's where the arguments, and the package variables that the reading takes, are together of bulk at most 1048576: NARROWER than '..Said'. Prove '..Said' where nothing that the law and all that it calls make is longer than what came in: it says more and counts as full. Else prove '..UptoSaid'. A law counts once. -/
mutual
def uptoBulk {H : Type} : DataW H → Nat
  | .lit (.string bytes) => bytes.length + 1
  | .lit _ => 1
  | .nil => 1
  | .ptr d => uptoBulk d + 1
  | .slice elems spare => uptoBulkAll elems + uptoBulkAll spare + 1
  | .agg parts => uptoBulkAll parts + 1
  | .iface _ d => uptoBulk d + 1
  | .map entries => uptoBulkEntries entries + 1
  | .held _ => 1
def uptoBulkAll {H : Type} : List (DataW H) → Nat
  | [] => 0
  | d :: r => uptoBulk d + uptoBulkAll r
def uptoBulkEntries {H : Type} : List (Lit × DataW H) → Nat
  | [] => 0
  | x :: r => uptoBulkEntry x + uptoBulkEntries r
def uptoBulkEntry {H : Type} : Lit × DataW H → Nat
  | (.string bytes, d) => bytes.length + uptoBulk d + 1
  | (_, d) => uptoBulk d + 1
 end
def uptoSmall : (H : Type) → List (DataW H) → Bool := fun _ ds => decide (uptoBulkAll ds ≤ 1048576)
def OpenSpec.upto (s : _root_.Go.ChangeSpec) : _root_.Go.OpenSpec := { _root_.Go.OpenSpec.ofChange s with cond := some uptoSmall }

/-- 'bringuplaw04.SourceDepth', WHERE WHAT IT READS IS OF BULK AT MOST 1048576: true; the input reads as it did. -/
def sourceDepthUptoRow : OpenClaim := { program := "ytofhcgbihonckaa", sum := "b8cf7ff6864481c1fe184e6d324a599b79e5e21850b7d90cac6c5abd617d8c03", func := "bringup/bringuplaw04.SourceDepth", spec := "sourceDepth", inPlace := ["internal/bytealg.IndexByteString", "internal/bytealg.IndexString", "internal/abi.NoEscape"], unfollowed := true, recurses := true, named := ["internal/bytealg.MaxLen"], apart := false, narrowed := true }
def SourceDepthUptoSaid : Prop := sourceDepthUptoRow.holds Try.pinned (OpenSpec.upto sourceDepthSpec)

/-- 'bringuplaw04.SourceCells', WHERE WHAT IT READS IS OF BULK AT MOST 1048576: true; the input reads as it did. -/
def sourceCellsUptoRow : OpenClaim := { program := "ytofhcgbihonckaa", sum := "b8cf7ff6864481c1fe184e6d324a599b79e5e21850b7d90cac6c5abd617d8c03", func := "bringup/bringuplaw04.SourceCells", spec := "sourceCells", inPlace := ["internal/bytealg.IndexByteString", "internal/bytealg.IndexString", "internal/abi.NoEscape"], unfollowed := true, recurses := true, named := ["internal/bytealg.MaxLen"], apart := false, narrowed := true }
def SourceCellsUptoSaid : Prop := sourceCellsUptoRow.holds Try.pinned (OpenSpec.upto sourceCellsSpec)

/-- 'bringuplaw05.IncludeCircles', WHERE WHAT IT READS IS OF BULK AT MOST 1048576: true; the input reads as it did. -/
def includeCirclesUptoRow : OpenClaim := { program := "ytofhcgbihonckaa", sum := "b8cf7ff6864481c1fe184e6d324a599b79e5e21850b7d90cac6c5abd617d8c03", func := "bringup/bringuplaw05.IncludeCircles", spec := "includeCircles", inPlace := ["internal/bytealg.IndexByteString", "internal/bytealg.IndexString", "internal/abi.NoEscape"], unfollowed := true, recurses := true, named := ["internal/bytealg.MaxLen"], apart := false, narrowed := true }
def IncludeCirclesUptoSaid : Prop := includeCirclesUptoRow.holds Try.pinned (OpenSpec.upto includeCirclesSpec)

end Rows
end Go.Proofs.Ytofhcgbihonckaa
