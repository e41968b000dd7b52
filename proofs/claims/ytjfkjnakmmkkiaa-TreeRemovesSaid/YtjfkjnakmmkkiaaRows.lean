/-
  No cell of these rows narrows 'for every input' (looked for: loops, veiled, ifaces, maps, wideKeys, modest, calm, conditions, laid).
  DERIVED. THE GIVEN ROWS OF THIS SEAT. 8 by the template 'for every input the law returns true; each argument reads behind the call as it read before'; 0 by the template 'total and deterministic' (their statements: YtjfkjnakmmkkiaaTotals.lean).
  GIVEN WITH THE SEED: the statements are not yours to turn. If you find one false, say at which input.
  Laid BY PROGRAM, IN A SANDBOX (cutbox-rows.mjs): the forced cells as the released guide's own fill.sh prints them over the translation a02ab20ddde32047… (all of the seat's roots in one cut). By AI agents, Wed Nov 11 2026. No macro, syntax, notation, axiom, sorry.
-/
import Derived.Test.YtjfkjnakmmkkiaaChecked
import GoSem.Claim
import GoSem.ClaimJoined
import GoSem.ClaimMapViews
import Derived.JoinedTies
import Derived.KernelRfl
namespace Go.Proofs.Ytjfkjnakmmkkiaa
/- THE CELL 'sum', in the pinned program and in every row, IS THE sha256 OF THE DUMP (.gsa) THAT YtjfkjnakmmkkiaaProg.lean LOADS. Nothing in Lean hashes anything: it is a label: what it is worth is what the hold of that sum in a sandbox is worth. -/
noncomputable def Try.pinned : Pinned := { name := "ytjfkjnakmmkkiaa", sum := "a02ab20ddde320479d7e3886a4dc086ff53a4b1a839ad7ef51be178844645cd7", checked := Try.checked }
namespace Rows
def none {H : Type} : Left H := { results := [], args := [] }

/-- 'bringuplaw11.AddressMoves': WHATEVER THE INPUT: true; the input reads as it did. -/
def addressMovesSpec : ChangeSpec := { name := "addressMoves", fn := fun _ => fun
  | [d] => { results := [.lit (.bool true)], args := [d] }
  | _ => none }
def addressMovesRow : OpenClaim := { program := "ytjfkjnakmmkkiaa", sum := "a02ab20ddde320479d7e3886a4dc086ff53a4b1a839ad7ef51be178844645cd7", func := "bringup/bringuplaw11.AddressMoves", spec := "addressMoves", inPlace := ["internal/bytealg.IndexByteString", "internal/bytealg.IndexString"], unfollowed := true, recurses := true, named := ["internal/bytealg.MaxLen"], plainKeys := false, apart := false }
def AddressMovesSaid : Prop := addressMovesRow.holds Try.pinned (OpenSpec.ofChange addressMovesSpec)

/-- ITS FALSE NEIGHBOUR: 'it returns false'. Refute it at one input. -/
def addressMovesWrong : ChangeSpec := { name := "addressMoves", fn := fun _ => fun
  | [d] => { results := [.lit (.bool false)], args := [d] }
  | _ => none }
def AddressMovesWrongFalsely : Prop := addressMovesRow.holds Try.pinned (OpenSpec.ofChange addressMovesWrong)

/-- 'bringuplaw11.AddressFlat': WHATEVER THE INPUT: true; the input reads as it did. -/
def addressFlatSpec : ChangeSpec := { name := "addressFlat", fn := fun _ => fun
  | [d1, d2] => { results := [.lit (.bool true)], args := [d1, d2] }
  | _ => none }
def addressFlatRow : OpenClaim := { program := "ytjfkjnakmmkkiaa", sum := "a02ab20ddde320479d7e3886a4dc086ff53a4b1a839ad7ef51be178844645cd7", func := "bringup/bringuplaw11.AddressFlat", spec := "addressFlat", inPlace := ["internal/bytealg.IndexByteString", "internal/bytealg.IndexString"], unfollowed := true, recurses := true, named := ["internal/bytealg.MaxLen"], plainKeys := false, apart := false }
def AddressFlatSaid : Prop := addressFlatRow.holds Try.pinned (OpenSpec.ofChange addressFlatSpec)

/-- ITS FALSE NEIGHBOUR: 'it returns false'. Refute it at one input. -/
def addressFlatWrong : ChangeSpec := { name := "addressFlat", fn := fun _ => fun
  | [d1, d2] => { results := [.lit (.bool false)], args := [d1, d2] }
  | _ => none }
def AddressFlatWrongFalsely : Prop := addressFlatRow.holds Try.pinned (OpenSpec.ofChange addressFlatWrong)

/-- 'bringuplaw11.AddressComposes': WHATEVER THE INPUT: true; the input reads as it did. -/
def addressComposesSpec : ChangeSpec := { name := "addressComposes", fn := fun _ => fun
  | [d1, d2, d3, d4] => { results := [.lit (.bool true)], args := [d1, d2, d3, d4] }
  | _ => none }
def addressComposesRow : OpenClaim := { program := "ytjfkjnakmmkkiaa", sum := "a02ab20ddde320479d7e3886a4dc086ff53a4b1a839ad7ef51be178844645cd7", func := "bringup/bringuplaw11.AddressComposes", spec := "addressComposes", inPlace := ["internal/bytealg.IndexByteString", "internal/bytealg.IndexString"], unfollowed := true, recurses := true, named := ["internal/bytealg.MaxLen"], plainKeys := false, apart := false }
def AddressComposesSaid : Prop := addressComposesRow.holds Try.pinned (OpenSpec.ofChange addressComposesSpec)

/-- ITS FALSE NEIGHBOUR: 'it returns false'. Refute it at one input. -/
def addressComposesWrong : ChangeSpec := { name := "addressComposes", fn := fun _ => fun
  | [d1, d2, d3, d4] => { results := [.lit (.bool false)], args := [d1, d2, d3, d4] }
  | _ => none }
def AddressComposesWrongFalsely : Prop := addressComposesRow.holds Try.pinned (OpenSpec.ofChange addressComposesWrong)

/-- 'bringuplaw11.AddressReads': WHATEVER THE INPUT: true; the input reads as it did. -/
def addressReadsSpec : ChangeSpec := { name := "addressReads", fn := fun _ => fun
  | [d1, d2, d3, d4, d5] => { results := [.lit (.bool true)], args := [d1, d2, d3, d4, d5] }
  | _ => none }
def addressReadsRow : OpenClaim := { program := "ytjfkjnakmmkkiaa", sum := "a02ab20ddde320479d7e3886a4dc086ff53a4b1a839ad7ef51be178844645cd7", func := "bringup/bringuplaw11.AddressReads", spec := "addressReads", inPlace := ["internal/bytealg.IndexByteString", "internal/bytealg.IndexString"], unfollowed := true, recurses := true, named := ["internal/bytealg.MaxLen"], plainKeys := false, apart := false }
def AddressReadsSaid : Prop := addressReadsRow.holds Try.pinned (OpenSpec.ofChange addressReadsSpec)

/-- ITS FALSE NEIGHBOUR: 'it returns false'. Refute it at one input. -/
def addressReadsWrong : ChangeSpec := { name := "addressReads", fn := fun _ => fun
  | [d1, d2, d3, d4, d5] => { results := [.lit (.bool false)], args := [d1, d2, d3, d4, d5] }
  | _ => none }
def AddressReadsWrongFalsely : Prop := addressReadsRow.holds Try.pinned (OpenSpec.ofChange addressReadsWrong)

/-- 'bringuplaw11.AddressOverlaps': WHATEVER THE INPUT: true; the input reads as it did. -/
def addressOverlapsSpec : ChangeSpec := { name := "addressOverlaps", fn := fun _ => fun
  | [d] => { results := [.lit (.bool true)], args := [d] }
  | _ => none }
def addressOverlapsRow : OpenClaim := { program := "ytjfkjnakmmkkiaa", sum := "a02ab20ddde320479d7e3886a4dc086ff53a4b1a839ad7ef51be178844645cd7", func := "bringup/bringuplaw11.AddressOverlaps", spec := "addressOverlaps", inPlace := ["internal/bytealg.IndexByteString", "internal/bytealg.IndexString"], unfollowed := true, recurses := true, named := ["internal/bytealg.MaxLen"], plainKeys := false, apart := false }
def AddressOverlapsSaid : Prop := addressOverlapsRow.holds Try.pinned (OpenSpec.ofChange addressOverlapsSpec)

/-- ITS FALSE NEIGHBOUR: 'it returns false'. Refute it at one input. -/
def addressOverlapsWrong : ChangeSpec := { name := "addressOverlaps", fn := fun _ => fun
  | [d] => { results := [.lit (.bool false)], args := [d] }
  | _ => none }
def AddressOverlapsWrongFalsely : Prop := addressOverlapsRow.holds Try.pinned (OpenSpec.ofChange addressOverlapsWrong)

/-- 'bringuplaw03.TreeWalk': WHATEVER THE INPUT: true; the input reads as it did. -/
def treeWalkSpec : ChangeSpec := { name := "treeWalk", fn := fun _ => fun
  | [d] => { results := [.lit (.bool true)], args := [d] }
  | _ => none }
def treeWalkRow : OpenClaim := { program := "ytjfkjnakmmkkiaa", sum := "a02ab20ddde320479d7e3886a4dc086ff53a4b1a839ad7ef51be178844645cd7", func := "bringup/bringuplaw03.TreeWalk", spec := "treeWalk", inPlace := ["internal/bytealg.IndexByteString", "internal/bytealg.IndexString"], unfollowed := true, recurses := true, named := ["internal/bytealg.MaxLen"], plainKeys := false, apart := false }
def TreeWalkSaid : Prop := treeWalkRow.holds Try.pinned (OpenSpec.ofChange treeWalkSpec)

/-- ITS FALSE NEIGHBOUR: 'it returns false'. Refute it at one input. -/
def treeWalkWrong : ChangeSpec := { name := "treeWalk", fn := fun _ => fun
  | [d] => { results := [.lit (.bool false)], args := [d] }
  | _ => none }
def TreeWalkWrongFalsely : Prop := treeWalkRow.holds Try.pinned (OpenSpec.ofChange treeWalkWrong)

/-- 'bringuplaw03.TreeRemoves': WHATEVER THE INPUT: true; the input reads as it did. -/
def treeRemovesSpec : ChangeSpec := { name := "treeRemoves", fn := fun _ => fun
  | [d] => { results := [.lit (.bool true)], args := [d] }
  | _ => none }
def treeRemovesRow : OpenClaim := { program := "ytjfkjnakmmkkiaa", sum := "a02ab20ddde320479d7e3886a4dc086ff53a4b1a839ad7ef51be178844645cd7", func := "bringup/bringuplaw03.TreeRemoves", spec := "treeRemoves", inPlace := ["internal/bytealg.IndexByteString", "internal/bytealg.IndexString"], unfollowed := true, recurses := true, named := ["internal/bytealg.MaxLen"], plainKeys := false, apart := false }
def TreeRemovesSaid : Prop := treeRemovesRow.holds Try.pinned (OpenSpec.ofChange treeRemovesSpec)

/-- ITS FALSE NEIGHBOUR: 'it returns false'. Refute it at one input. -/
def treeRemovesWrong : ChangeSpec := { name := "treeRemoves", fn := fun _ => fun
  | [d] => { results := [.lit (.bool false)], args := [d] }
  | _ => none }
def TreeRemovesWrongFalsely : Prop := treeRemovesRow.holds Try.pinned (OpenSpec.ofChange treeRemovesWrong)

/-- 'bringuplaw03.TreeLimits': WHATEVER THE INPUT: true; the input reads as it did. -/
def treeLimitsSpec : ChangeSpec := { name := "treeLimits", fn := fun _ => fun
  | [d] => { results := [.lit (.bool true)], args := [d] }
  | _ => none }
def treeLimitsRow : OpenClaim := { program := "ytjfkjnakmmkkiaa", sum := "a02ab20ddde320479d7e3886a4dc086ff53a4b1a839ad7ef51be178844645cd7", func := "bringup/bringuplaw03.TreeLimits", spec := "treeLimits", inPlace := ["internal/bytealg.IndexByteString", "internal/bytealg.IndexString", "slices.overlaps[bringup/api.Property]"], unfollowed := true, recurses := true, named := ["internal/bytealg.MaxLen"], plainKeys := false, apart := false }
def TreeLimitsSaid : Prop := treeLimitsRow.holds Try.pinned (OpenSpec.ofChange treeLimitsSpec)

/-- ITS FALSE NEIGHBOUR: 'it returns false'. Refute it at one input. -/
def treeLimitsWrong : ChangeSpec := { name := "treeLimits", fn := fun _ => fun
  | [d] => { results := [.lit (.bool false)], args := [d] }
  | _ => none }
def TreeLimitsWrongFalsely : Prop := treeLimitsRow.holds Try.pinned (OpenSpec.ofChange treeLimitsWrong)

/- THE SECOND FORM. 'bulk': how many values and letters a reading holds, each counted each time it is reached (what is shared counts as often as it is met; a slice's spare places count too). A statement '..UptoSaid' is the law's where the arguments, and the package variables that the reading takes, are together of bulk at most 1048576: NARROWER than '..Said'. Prove '..Said' where nothing that the law and all that it calls make is longer than what came in: it says more and counts as full. Else prove '..UptoSaid'. A law counts once. -/
mutual
def uptoBulk {H : Type} : DataW H → Nat
  | .lit (.string bytes) => bytes.length + 1
  | .lit _ => 1
  | .nil => 1
  | .ptr d => uptoBulk d + 1
  | .slice elems spare => uptoBulkAll elems + uptoBulkAll spare + 1
  | .agg parts => uptoBulkAll parts + 1
  | .iface _ d => uptoBulk d + 1
  | .map entries => uptoBulkEntries entries + 1
  | .held _ => 1
def uptoBulkAll {H : Type} : List (DataW H) → Nat
  | [] => 0
  | d :: r => uptoBulk d + uptoBulkAll r
def uptoBulkEntries {H : Type} : List (Lit × DataW H) → Nat
  | [] => 0
  | x :: r => uptoBulkEntry x + uptoBulkEntries r
def uptoBulkEntry {H : Type} : Lit × DataW H → Nat
  | (.string bytes, d) => bytes.length + uptoBulk d + 1
  | (_, d) => uptoBulk d + 1
 end
def uptoSmall : (H : Type) → List (DataW H) → Bool := fun _ ds => decide (uptoBulkAll ds ≤ 1048576)
def OpenSpec.upto (s : _root_.Go.ChangeSpec) : _root_.Go.OpenSpec := { _root_.Go.OpenSpec.ofChange s with cond := some uptoSmall }

/-- 'bringuplaw11.AddressMoves', WHERE WHAT IT READS IS OF BULK AT MOST 1048576: true; the input reads as it did. -/
def addressMovesUptoRow : OpenClaim := { program := "ytjfkjnakmmkkiaa", sum := "a02ab20ddde320479d7e3886a4dc086ff53a4b1a839ad7ef51be178844645cd7", func := "bringup/bringuplaw11.AddressMoves", spec := "addressMoves", inPlace := ["internal/bytealg.IndexByteString", "internal/bytealg.IndexString"], unfollowed := true, recurses := true, named := ["internal/bytealg.MaxLen"], plainKeys := false, apart := false, narrowed := true }
def AddressMovesUptoSaid : Prop := addressMovesUptoRow.holds Try.pinned (OpenSpec.upto addressMovesSpec)

/-- 'bringuplaw11.AddressFlat', WHERE WHAT IT READS IS OF BULK AT MOST 1048576: true; the input reads as it did. -/
def addressFlatUptoRow : OpenClaim := { program := "ytjfkjnakmmkkiaa", sum := "a02ab20ddde320479d7e3886a4dc086ff53a4b1a839ad7ef51be178844645cd7", func := "bringup/bringuplaw11.AddressFlat", spec := "addressFlat", inPlace := ["internal/bytealg.IndexByteString", "internal/bytealg.IndexString"], unfollowed := true, recurses := true, named := ["internal/bytealg.MaxLen"], plainKeys := false, apart := false, narrowed := true }
def AddressFlatUptoSaid : Prop := addressFlatUptoRow.holds Try.pinned (OpenSpec.upto addressFlatSpec)

/-- 'bringuplaw11.AddressComposes', WHERE WHAT IT READS IS OF BULK AT MOST 1048576: true; the input reads as it did. -/
def addressComposesUptoRow : OpenClaim := { program := "ytjfkjnakmmkkiaa", sum := "a02ab20ddde320479d7e3886a4dc086ff53a4b1a839ad7ef51be178844645cd7", func := "bringup/bringuplaw11.AddressComposes", spec := "addressComposes", inPlace := ["internal/bytealg.IndexByteString", "internal/bytealg.IndexString"], unfollowed := true, recurses := true, named := ["internal/bytealg.MaxLen"], plainKeys := false, apart := false, narrowed := true }
def AddressComposesUptoSaid : Prop := addressComposesUptoRow.holds Try.pinned (OpenSpec.upto addressComposesSpec)

/-- 'bringuplaw11.AddressReads', WHERE WHAT IT READS IS OF BULK AT MOST 1048576: true; the input reads as it did. -/
def addressReadsUptoRow : OpenClaim := { program := "ytjfkjnakmmkkiaa", sum := "a02ab20ddde320479d7e3886a4dc086ff53a4b1a839ad7ef51be178844645cd7", func := "bringup/bringuplaw11.AddressReads", spec := "addressReads", inPlace := ["internal/bytealg.IndexByteString", "internal/bytealg.IndexString"], unfollowed := true, recurses := true, named := ["internal/bytealg.MaxLen"], plainKeys := false, apart := false, narrowed := true }
def AddressReadsUptoSaid : Prop := addressReadsUptoRow.holds Try.pinned (OpenSpec.upto addressReadsSpec)

/-- 'bringuplaw11.AddressOverlaps', WHERE WHAT IT READS IS OF BULK AT MOST 1048576: true; the input reads as it did. -/
def addressOverlapsUptoRow : OpenClaim := { program := "ytjfkjnakmmkkiaa", sum := "a02ab20ddde320479d7e3886a4dc086ff53a4b1a839ad7ef51be178844645cd7", func := "bringup/bringuplaw11.AddressOverlaps", spec := "addressOverlaps", inPlace := ["internal/bytealg.IndexByteString", "internal/bytealg.IndexString"], unfollowed := true, recurses := true, named := ["internal/bytealg.MaxLen"], plainKeys := false, apart := false, narrowed := true }
def AddressOverlapsUptoSaid : Prop := addressOverlapsUptoRow.holds Try.pinned (OpenSpec.upto addressOverlapsSpec)

/-- 'bringuplaw03.TreeWalk', WHERE WHAT IT READS IS OF BULK AT MOST 1048576: true; the input reads as it did. -/
def treeWalkUptoRow : OpenClaim := { program := "ytjfkjnakmmkkiaa", sum := "a02ab20ddde320479d7e3886a4dc086ff53a4b1a839ad7ef51be178844645cd7", func := "bringup/bringuplaw03.TreeWalk", spec := "treeWalk", inPlace := ["internal/bytealg.IndexByteString", "internal/bytealg.IndexString"], unfollowed := true, recurses := true, named := ["internal/bytealg.MaxLen"], plainKeys := false, apart := false, narrowed := true }
def TreeWalkUptoSaid : Prop := treeWalkUptoRow.holds Try.pinned (OpenSpec.upto treeWalkSpec)

/-- 'bringuplaw03.TreeRemoves', WHERE WHAT IT READS IS OF BULK AT MOST 1048576: true; the input reads as it did. -/
def treeRemovesUptoRow : OpenClaim := { program := "ytjfkjnakmmkkiaa", sum := "a02ab20ddde320479d7e3886a4dc086ff53a4b1a839ad7ef51be178844645cd7", func := "bringup/bringuplaw03.TreeRemoves", spec := "treeRemoves", inPlace := ["internal/bytealg.IndexByteString", "internal/bytealg.IndexString"], unfollowed := true, recurses := true, named := ["internal/bytealg.MaxLen"], plainKeys := false, apart := false, narrowed := true }
def TreeRemovesUptoSaid : Prop := treeRemovesUptoRow.holds Try.pinned (OpenSpec.upto treeRemovesSpec)

/-- 'bringuplaw03.TreeLimits', WHERE WHAT IT READS IS OF BULK AT MOST 1048576: true; the input reads as it did. -/
def treeLimitsUptoRow : OpenClaim := { program := "ytjfkjnakmmkkiaa", sum := "a02ab20ddde320479d7e3886a4dc086ff53a4b1a839ad7ef51be178844645cd7", func := "bringup/bringuplaw03.TreeLimits", spec := "treeLimits", inPlace := ["internal/bytealg.IndexByteString", "internal/bytealg.IndexString", "slices.overlaps[bringup/api.Property]"], unfollowed := true, recurses := true, named := ["internal/bytealg.MaxLen"], plainKeys := false, apart := false, narrowed := true }
def TreeLimitsUptoSaid : Prop := treeLimitsUptoRow.holds Try.pinned (OpenSpec.upto treeLimitsSpec)

end Rows
end Go.Proofs.Ytjfkjnakmmkkiaa
