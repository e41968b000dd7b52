/- Lemmas on the way to the law; no conditions. -/
import Derived.Test.YtgaboghigefgbaaGreatDoorZ15
import Derived.Test.YtgaboghigefgbaaGreatDoorZ42
import Derived.Deep.RegionLaw
import Derived.Deep.AppendLies
import Derived.Deep.RegionHeld3
set_option linter.all false
namespace Go.Proofs.YtgaboghigefgbaaGreatDoor
open Go.RowKit
def QPe(l:List Int):List Value:=l.map (Value.int .i64)
theorem Qgt:(Tryz.prog.info? 3).map (fun i=>(i.zero,i.size,i.bytes))=some (some (.int .i64 0),1,8):=by kernel_rfl
def Qys(G:Nat)(w:World)(v:Value)(l:List Int):Prop:=
 ∃(a:Option Addr) (cap:Nat),v=.slice a l.length cap∧l.length≤cap∧cap≤9223372036854775807∧
  (0<l.length→∃g o,a=some ⟨g,o,none⟩∧g<G∧∀(i:Nat) (h:i<l.length),w.cell? ⟨g,o+i,none⟩=some (.int .i64 l[i]))
end Go.Proofs.YtgaboghigefgbaaGreatDoor
