/- Lemmas on the way to the law; no conditions. -/
import Derived.Test.YtgaboghigefgbaaGreatDoorZ10
import Derived.LaidMore
import Derived.MakeChecks
import Derived.Handed
import Derived.PinnedBridge
set_option linter.all false
namespace Go
variable{H:Type}{enc:TypeId × Value→H}
end Go
namespace Go.Proofs.YtgaboghigefgbaaGreatDoor
noncomputable def Q9s(os:Os):World:=
 let w0:=World.holding Tryz.prog os ⟨#[],#[],[]⟩
 let put (h:Array Obj) (g:Nat) (cs:Array Value):Array Obj:=h.modify g fun
  | .cells _ t frozen=>.cells cs t frozen
  | o=>o
 let h1:=put w0.heap 1 (Lib.firstTab.map fun z=>Value.int .u8 z).toArray
 let h2:=put h1 2 ((List.range 16).flatMap fun i=>[Value.int .u8 (Lib.accLo i),Value.int .u8 (Lib.accHi i)]).toArray
 { w0 with heap:=h2 }
end Go.Proofs.YtgaboghigefgbaaGreatDoor
