/- Contracts of bringupref03: Value, Find. -/
import Derived.Test.YtgaboghigefgbaaGreatDoorZ35
import Derived.Test.YtgaboghigefgbaaGreatDoorZ40
import Derived.Test.YtgaboghigefgbaaGreatDoorZ33
import Derived.Test.YtgaboghigefgbaaGreatDoorZ20
set_option linter.all false
set_option maxHeartbeats 8000000
namespace Go.Proofs.YtgaboghigefgbaaGreatDoor
open Go.Lib (hid)
open Go.RowKit
theorem QSk(R:Nat→Prop)(v:Value)(T:List Qba)(s:ByteArray)(w:World)(hT:Qpa R w v T) :
 Calls Tryz.prog 13 #[.agg #[v],.string s] w fun e w'=>e = .returned (.tuple #[.int .i64 (Qpb T s).1,.bool (Qpb T s).2])∧Below w.heap.size w w':=by
 obtain⟨a,cap,rfl,gM,gB⟩:=hT.shape
 have HT:=hid hT;clear hT
 have gy:=fun wx hx=>QEg R (.slice a T.length cap) T wx hx
 have He:Below w.heap.size w (w.alloc (.cells #[.slice a T.length cap] 27)):=(Below.refl _ _).alloc (Nat.le_refl _) _
 have ke:=Holds.new w #[.slice a T.length cap] 27
 by_cases hz:Qfa T=0
 ·have Hv:=Q0b hz
  have Ge:=(Qeb (QPa hz)).2
  have mn:=hid (fun wx hx=>QTk R (.slice a T.length cap) T s wx hx Hv Ge)
  have hX:=hid (show Qpb T s=QCd T s from by unfold Qpb;rw[if_neg (by simp[hz])])
  rw[hz]at gy
  have kF:=hid gy
  clear gy hz Hv
  go_enter Tryz.func13,Tryz.ntmps13
  go_wp2_with fail
  refine(kF.out _ (by exact HT.out.new He)).mono ?_
  rintro e w1 ⟨rfl,Hb⟩
  have GS:=ke.keeps (Qaa.of_fresh Hb (fun _=>False)) (fun e=>e)
  have bx:=GS.cell 0
  have bl:=GS.lt
  have Hc:=He.trans (Hb.mono (by simp))
  go_wp2_with fail
  refine(mn.out _ (by exact HT.out.new Hc)).mono ?_
  rintro e w2 ⟨rfl,Hi⟩
  have aE:=hid (show QCd T s=if 0≤Q2b T s then(Q2b T s,true)else(0,false)from rfl)
  have gw:-1≤Q2b T s:=by rcases QZf T s with h|⟨i,_,h,_⟩ <;> omega
  generalize Q2b T s=x at *
  by_cases hx:0≤x
  ·have hF:=hid (show QCd T s=(x,true)from by rw[aE.out,if_pos hx])
   go_wp2_with fail
   go_ret2
   have C9:max x 0=x:=by omega
   exact⟨by rw[hX.out,hF.out];show Ending.returned (.tuple #[.int .i64 (max x 0),.bool true])=_;rw[C9],Hc.trans (Hi.mono Hc.size)⟩
  ·have hF:=hid (show QCd T s=(0,false)from by rw[aE.out,if_neg hx])
   obtain rfl:x = -1:=by omega
   go_wp2_with fail
   go_ret2
   exact⟨by rw[hX.out,hF.out];rfl,Hc.trans (Hi.mono Hc.size)⟩
 ·have hz':(Qfa T != 0)=true:=by simpa using hz
  have hX:=hid (show Qpb T s=(0,false)from by unfold Qpb;rw[if_pos hz])
  have kF:=hid gy
  clear gy hz
  generalize Qfa T=c at *
  go_enter Tryz.func13,Tryz.ntmps13
  go_wp2_with fail
  refine(kF.out _ (by exact HT.out.new He)).mono ?_
  rintro e w1 ⟨rfl,Hb⟩
  go_wp2_with fail
  go_ret2
  exact⟨by rw[hX.out];rfl,He.trans (Hb.mono (by simp))⟩
end Go.Proofs.YtgaboghigefgbaaGreatDoor
