/-
  No cell of these rows narrows 'for every input' (looked for: loops, veiled, ifaces, maps, wideKeys, modest, calm, conditions, laid).
  DERIVED. THE GIVEN ROWS OF THIS SEAT. 5 by the template 'for every input the law returns true; each argument reads behind the call as it read before'; 0 by the template 'total and deterministic' (their statements: YtofhcgbihonckaaGreatTotals.lean).
  GIVEN WITH THE SEED: the statements are not yours to turn. If you find one false, say at which input.
  Laid BY PROGRAM, IN A SANDBOX (cutbox-rows.mjs): the forced cells as the released guide's own fill.sh prints them over the translation fbd9d573a110be8b… (all of the seat's roots in one cut). By AI agents, Wed Nov 11 2026. No macro, syntax, notation, axiom, sorry.
-/
import Derived.Test.YtofhcgbihonckaaGreatChecked
import GoSem.Claim
import GoSem.ClaimJoined
import GoSem.ClaimMapViews
import Derived.JoinedTies
import Derived.KernelRfl
namespace Go.Proofs.YtofhcgbihonckaaGreat
/- THE CELL 'sum', in the pinned program and in every row, IS THE sha256 OF THE DUMP (.gsa) THAT YtofhcgbihonckaaGreatProg.lean LOADS. Nothing in Lean hashes anything: it is a label: what it is worth is what the hold of that sum in a sandbox is worth. -/
noncomputable def Tryz.pinned : Pinned := { name := "ytofhcgbihonckaagreat", sum := "fbd9d573a110be8b7942f1eae3411d3a819b3cfd3467eecc27165dfe82a69f76", checked := Tryz.checked }
namespace Rows
def none {H : Type} : Left H := { results := [], args := [] }

/-- 'bringuplaw04.SourcePairs': WHATEVER THE INPUT: true; the input reads as it did. -/
def sourcePairsSpec : ChangeSpec := { name := "sourcePairs", fn := fun _ => fun
  | [d] => { results := [.lit (.bool true)], args := [d] }
  | _ => none }
def sourcePairsRow : OpenClaim := { program := "ytofhcgbihonckaagreat", sum := "fbd9d573a110be8b7942f1eae3411d3a819b3cfd3467eecc27165dfe82a69f76", func := "bringup/bringuplaw04.SourcePairs", spec := "sourcePairs", inPlace := ["internal/bytealg.IndexByteString", "internal/bytealg.IndexString", "internal/abi.NoEscape"], unfollowed := true, recurses := true, named := ["internal/bytealg.MaxLen"], apart := false }
def SourcePairsSaid : Prop := sourcePairsRow.holds Tryz.pinned (OpenSpec.ofChange sourcePairsSpec)

/-- ITS FALSE NEIGHBOUR: 'it returns false'. Refute it at one input. -/
def sourcePairsWrong : ChangeSpec := { name := "sourcePairs", fn := fun _ => fun
  | [d] => { results := [.lit (.bool false)], args := [d] }
  | _ => none }
def SourcePairsWrongFalsely : Prop := sourcePairsRow.holds Tryz.pinned (OpenSpec.ofChange sourcePairsWrong)

/-- 'bringuplaw04.SourceReads': WHATEVER THE INPUT: true; the input reads as it did. -/
def sourceReadsSpec : ChangeSpec := { name := "sourceReads", fn := fun _ => fun
  | [d1, d2, d3, d4] => { results := [.lit (.bool true)], args := [d1, d2, d3, d4] }
  | _ => none }
def sourceReadsRow : OpenClaim := { program := "ytofhcgbihonckaagreat", sum := "fbd9d573a110be8b7942f1eae3411d3a819b3cfd3467eecc27165dfe82a69f76", func := "bringup/bringuplaw04.SourceReads", spec := "sourceReads", inPlace := ["internal/bytealg.IndexByteString", "internal/bytealg.IndexString", "internal/abi.NoEscape"], unfollowed := true, recurses := true, named := ["internal/bytealg.MaxLen"], apart := false }
def SourceReadsSaid : Prop := sourceReadsRow.holds Tryz.pinned (OpenSpec.ofChange sourceReadsSpec)

/-- ITS FALSE NEIGHBOUR: 'it returns false'. Refute it at one input. -/
def sourceReadsWrong : ChangeSpec := { name := "sourceReads", fn := fun _ => fun
  | [d1, d2, d3, d4] => { results := [.lit (.bool false)], args := [d1, d2, d3, d4] }
  | _ => none }
def SourceReadsWrongFalsely : Prop := sourceReadsRow.holds Tryz.pinned (OpenSpec.ofChange sourceReadsWrong)

/-- 'bringuplaw05.IncludeOthers': WHATEVER THE INPUT: true; the input reads as it did. -/
def includeOthersSpec : ChangeSpec := { name := "includeOthers", fn := fun _ => fun
  | [d] => { results := [.lit (.bool true)], args := [d] }
  | _ => none }
def includeOthersRow : OpenClaim := { program := "ytofhcgbihonckaagreat", sum := "fbd9d573a110be8b7942f1eae3411d3a819b3cfd3467eecc27165dfe82a69f76", func := "bringup/bringuplaw05.IncludeOthers", spec := "includeOthers", inPlace := ["internal/bytealg.IndexByteString", "internal/bytealg.IndexString", "internal/abi.NoEscape"], unfollowed := true, recurses := true, named := ["internal/bytealg.MaxLen"], apart := false }
def IncludeOthersSaid : Prop := includeOthersRow.holds Tryz.pinned (OpenSpec.ofChange includeOthersSpec)

/-- ITS FALSE NEIGHBOUR: 'it returns false'. Refute it at one input. -/
def includeOthersWrong : ChangeSpec := { name := "includeOthers", fn := fun _ => fun
  | [d] => { results := [.lit (.bool false)], args := [d] }
  | _ => none }
def IncludeOthersWrongFalsely : Prop := includeOthersRow.holds Tryz.pinned (OpenSpec.ofChange includeOthersWrong)

/-- 'bringuplaw05.IncludeLoads': WHATEVER THE INPUT: true; the input reads as it did. -/
def includeLoadsSpec : ChangeSpec := { name := "includeLoads", fn := fun _ => fun
  | [d1, d2, d3] => { results := [.lit (.bool true)], args := [d1, d2, d3] }
  | _ => none }
def includeLoadsRow : OpenClaim := { program := "ytofhcgbihonckaagreat", sum := "fbd9d573a110be8b7942f1eae3411d3a819b3cfd3467eecc27165dfe82a69f76", func := "bringup/bringuplaw05.IncludeLoads", spec := "includeLoads", inPlace := ["internal/bytealg.IndexByteString", "internal/bytealg.IndexString", "internal/abi.NoEscape"], unfollowed := true, recurses := true, named := ["internal/bytealg.MaxLen"], apart := false }
def IncludeLoadsSaid : Prop := includeLoadsRow.holds Tryz.pinned (OpenSpec.ofChange includeLoadsSpec)

/-- ITS FALSE NEIGHBOUR: 'it returns false'. Refute it at one input. -/
def includeLoadsWrong : ChangeSpec := { name := "includeLoads", fn := fun _ => fun
  | [d1, d2, d3] => { results := [.lit (.bool false)], args := [d1, d2, d3] }
  | _ => none }
def IncludeLoadsWrongFalsely : Prop := includeLoadsRow.holds Tryz.pinned (OpenSpec.ofChange includeLoadsWrong)

/-- 'bringuplaw05.IncludeAgain': WHATEVER THE INPUT: true; the input reads as it did. -/
def includeAgainSpec : ChangeSpec := { name := "includeAgain", fn := fun _ => fun
  | [d1, d2] => { results := [.lit (.bool true)], args := [d1, d2] }
  | _ => none }
def includeAgainRow : OpenClaim := { program := "ytofhcgbihonckaagreat", sum := "fbd9d573a110be8b7942f1eae3411d3a819b3cfd3467eecc27165dfe82a69f76", func := "bringup/bringuplaw05.IncludeAgain", spec := "includeAgain", inPlace := ["internal/bytealg.IndexByteString", "internal/bytealg.IndexString", "internal/abi.NoEscape"], unfollowed := true, recurses := true, named := ["internal/bytealg.MaxLen"], apart := false }
def IncludeAgainSaid : Prop := includeAgainRow.holds Tryz.pinned (OpenSpec.ofChange includeAgainSpec)

/-- ITS FALSE NEIGHBOUR: 'it returns false'. Refute it at one input. -/
def includeAgainWrong : ChangeSpec := { name := "includeAgain", fn := fun _ => fun
  | [d1, d2] => { results := [.lit (.bool false)], args := [d1, d2] }
  | _ => none }
def IncludeAgainWrongFalsely : Prop := includeAgainRow.holds Tryz.pinned (OpenSpec.ofChange includeAgainWrong)

/- THE SECOND FORM. 'bulk': how many values and letters a reading holds, each counted each time it is reached (what is shared counts as often as it is met; a slice's spare places count too). A statement '..UptoSaid' is the law's where the arguments, and the package variables that the reading takes, are together of bulk at most 1048576: NARROWER than '..Said'. Prove '..Said' where nothing that the law and all that it calls make is longer than what came in: it says more and counts as full. Else prove '..UptoSaid'. A law counts once. -/
mutual
def uptoBulk {H : Type} : DataW H → Nat
  | .lit (.string bytes) => bytes.length + 1
  | .lit _ => 1
  | .nil => 1
  | .ptr d => uptoBulk d + 1
  | .slice elems spare => uptoBulkAll elems + uptoBulkAll spare + 1
  | .agg parts => uptoBulkAll parts + 1
  | .iface _ d => uptoBulk d + 1
  | .map entries => uptoBulkEntries entries + 1
  | .held _ => 1
def uptoBulkAll {H : Type} : List (DataW H) → Nat
  | [] => 0
  | d :: r => uptoBulk d + uptoBulkAll r
def uptoBulkEntries {H : Type} : List (Lit × DataW H) → Nat
  | [] => 0
  | x :: r => uptoBulkEntry x + uptoBulkEntries r
def uptoBulkEntry {H : Type} : Lit × DataW H → Nat
  | (.string bytes, d) => bytes.length + uptoBulk d + 1
  | (_, d) => uptoBulk d + 1
 end
def uptoSmall : (H : Type) → List (DataW H) → Bool := fun _ ds => decide (uptoBulkAll ds ≤ 1048576)
def OpenSpec.upto (s : _root_.Go.ChangeSpec) : _root_.Go.OpenSpec := { _root_.Go.OpenSpec.ofChange s with cond := some uptoSmall }

/-- 'bringuplaw04.SourcePairs', WHERE WHAT IT READS IS OF BULK AT MOST 1048576: true; the input reads as it did. -/
def sourcePairsUptoRow : OpenClaim := { program := "ytofhcgbihonckaagreat", sum := "fbd9d573a110be8b7942f1eae3411d3a819b3cfd3467eecc27165dfe82a69f76", func := "bringup/bringuplaw04.SourcePairs", spec := "sourcePairs", inPlace := ["internal/bytealg.IndexByteString", "internal/bytealg.IndexString", "internal/abi.NoEscape"], unfollowed := true, recurses := true, named := ["internal/bytealg.MaxLen"], apart := false, narrowed := true }
def SourcePairsUptoSaid : Prop := sourcePairsUptoRow.holds Tryz.pinned (OpenSpec.upto sourcePairsSpec)

/-- 'bringuplaw04.SourceReads', WHERE WHAT IT READS IS OF BULK AT MOST 1048576: true; the input reads as it did. -/
def sourceReadsUptoRow : OpenClaim := { program := "ytofhcgbihonckaagreat", sum := "fbd9d573a110be8b7942f1eae3411d3a819b3cfd3467eecc27165dfe82a69f76", func := "bringup/bringuplaw04.SourceReads", spec := "sourceReads", inPlace := ["internal/bytealg.IndexByteString", "internal/bytealg.IndexString", "internal/abi.NoEscape"], unfollowed := true, recurses := true, named := ["internal/bytealg.MaxLen"], apart := false, narrowed := true }
def SourceReadsUptoSaid : Prop := sourceReadsUptoRow.holds Tryz.pinned (OpenSpec.upto sourceReadsSpec)

/-- 'bringuplaw05.IncludeOthers', WHERE WHAT IT READS IS OF BULK AT MOST 1048576: true; the input reads as it did. -/
def includeOthersUptoRow : OpenClaim := { program := "ytofhcgbihonckaagreat", sum := "fbd9d573a110be8b7942f1eae3411d3a819b3cfd3467eecc27165dfe82a69f76", func := "bringup/bringuplaw05.IncludeOthers", spec := "includeOthers", inPlace := ["internal/bytealg.IndexByteString", "internal/bytealg.IndexString", "internal/abi.NoEscape"], unfollowed := true, recurses := true, named := ["internal/bytealg.MaxLen"], apart := false, narrowed := true }
def IncludeOthersUptoSaid : Prop := includeOthersUptoRow.holds Tryz.pinned (OpenSpec.upto includeOthersSpec)

/-- 'bringuplaw05.IncludeLoads', WHERE WHAT IT READS IS OF BULK AT MOST 1048576: true; the input reads as it did. -/
def includeLoadsUptoRow : OpenClaim := { program := "ytofhcgbihonckaagreat", sum := "fbd9d573a110be8b7942f1eae3411d3a819b3cfd3467eecc27165dfe82a69f76", func := "bringup/bringuplaw05.IncludeLoads", spec := "includeLoads", inPlace := ["internal/bytealg.IndexByteString", "internal/bytealg.IndexString", "internal/abi.NoEscape"], unfollowed := true, recurses := true, named := ["internal/bytealg.MaxLen"], apart := false, narrowed := true }
def IncludeLoadsUptoSaid : Prop := includeLoadsUptoRow.holds Tryz.pinned (OpenSpec.upto includeLoadsSpec)

/-- 'bringuplaw05.IncludeAgain', WHERE WHAT IT READS IS OF BULK AT MOST 1048576: true; the input reads as it did. -/
def includeAgainUptoRow : OpenClaim := { program := "ytofhcgbihonckaagreat", sum := "fbd9d573a110be8b7942f1eae3411d3a819b3cfd3467eecc27165dfe82a69f76", func := "bringup/bringuplaw05.IncludeAgain", spec := "includeAgain", inPlace := ["internal/bytealg.IndexByteString", "internal/bytealg.IndexString", "internal/abi.NoEscape"], unfollowed := true, recurses := true, named := ["internal/bytealg.MaxLen"], apart := false, narrowed := true }
def IncludeAgainUptoSaid : Prop := includeAgainUptoRow.holds Tryz.pinned (OpenSpec.upto includeAgainSpec)

end Rows
end Go.Proofs.YtofhcgbihonckaaGreat
