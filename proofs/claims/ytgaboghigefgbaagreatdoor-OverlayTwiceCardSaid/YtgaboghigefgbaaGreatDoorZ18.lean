/- Texts put together. -/
import Derived.Test.YtgaboghigefgbaaGreatDoorZ6
import Derived.WalkKit
set_option linter.all false
namespace Go.Proofs.YtgaboghigefgbaaGreatDoor
open Go.RowKit
theorem Qnt(x:List UInt8)(y:List UInt8):(⟨x.toArray⟩:ByteArray)++⟨y.toArray⟩=⟨(x++y).toArray⟩:=ByteArray.mk_append_mk x y
def QKo(a b c:ByteArray):Prop:=∀wx:World,(Op.stringOp .add a b).run Tryz.prog wx = .ok (.string c) wx
theorem Qvh(x y:List UInt8)(h:x.length+y.length≤9223372036854775807):QKo ⟨x.toArray⟩ ⟨y.toArray⟩ ⟨(x++y).toArray⟩:=by
 intro wx
 rw[run_string_add_sum wx _ _ (by simpa[ByteArray.size]using h),Qnt]
theorem QCk(s:ByteArray):(⟨s.data.toList.toArray⟩:ByteArray)=s:=by apply ByteArray.ext;simp
theorem QTq(a b:ByteArray)(h:a.size+b.size≤9223372036854775807):QKo a b ⟨(a.data.toList++b.data.toList).toArray⟩:=by
 have:=Qvh a.data.toList b.data.toList (by simpa using h)
 rwa [QCk,QCk]at this
theorem Qkt(l:List UInt8):(⟨l.toArray⟩:ByteArray).size=l.length:=by show l.toArray.size=_;simp
theorem Qrl(a b:ByteArray)(h:a.size+b.size≤9223372036854775807):∃c,QKo a b c∧c.size=a.size+b.size∧c.data.toList=a.data.toList++b.data.toList:=
 ⟨_,QTq a b h,by rw[Qkt];simp,rfl⟩
end Go.Proofs.YtgaboghigefgbaaGreatDoor
