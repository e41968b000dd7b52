/- Contracts of print: the numbers of a value. | Contracts of address: count, cells. | address.rows: rows of numbers. | The contract of rows of address. -/
import Derived.Test.YtgaboghigefgbaaGreatDoorZ25
import Derived.Test.YtgaboghigefgbaaGreatDoorZ30
import Derived.Deep.RegionLaw
import Derived.Deep.AppendLies
import Derived.Deep.RegionHeld3
set_option linter.all false
namespace Go.Proofs.YtgaboghigefgbaaGreatDoor
open Go.RowKit
def Q6e(l:List Int):List Value:=l.map (Value.int .i64)
theorem QTs:(Tryz.prog.info? 3).map (fun i=>(i.zero,i.size,i.bytes))=some (some (.int .i64 0),1,8):=by kernel_rfl
def Q6r(G:Nat)(w:World)(v:Value)(l:List Int):Prop:=
 ∃(a:Option Addr) (cap:Nat),v = .slice a l.length cap∧l.length≤cap∧cap≤9223372036854775807∧
  (0<l.length→∃g o,a=some ⟨g,o,none⟩∧g<G∧∀(i:Nat) (h:i<l.length),w.cell? ⟨g,o+i,none⟩=some (.int .i64 l[i]))
end Go.Proofs.YtgaboghigefgbaaGreatDoor
