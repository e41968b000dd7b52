/- Lemmas on the way to the law; no conditions. -/
import Derived.Test.YtgaboghigefgbaaGreatDoorZ8
import Derived.WalkKit
set_option linter.all false
namespace Go.Proofs.YtgaboghigefgbaaGreatDoor
open Go.RowKit
theorem QHt(x:List UInt8)(y:List UInt8):(⟨x.toArray⟩:ByteArray)++⟨y.toArray⟩=⟨(x++y).toArray⟩:=ByteArray.mk_append_mk x y
def Q7q(a b c:ByteArray):Prop:=∀wx:World,(Op.stringOp .add a b).run Tryz.prog wx=.ok (.string c) wx
theorem Qoj(x y:List UInt8)(h:x.length+y.length≤9223372036854775807):Q7q ⟨x.toArray⟩ ⟨y.toArray⟩ ⟨(x++y).toArray⟩:=by
 intro wx;rw[run_string_add_sum wx _ _ (by simpa[ByteArray.size]using h),QHt]
theorem QNk(s:ByteArray):(⟨s.data.toList.toArray⟩:ByteArray)=s:=by apply ByteArray.ext;simp
theorem Qmr(a b:ByteArray)(h:a.size+b.size≤9223372036854775807):Q7q a b ⟨(a.data.toList++b.data.toList).toArray⟩:=by
 have:=Qoj a.data.toList b.data.toList (by simpa using h);rwa [QNk,QNk]at this
theorem QEt(l:List UInt8):(⟨l.toArray⟩:ByteArray).size=l.length:=by show l.toArray.size=_;simp
theorem QCl(a b:ByteArray)(h:a.size+b.size≤9223372036854775807):∃c,Q7q a b c∧c.size=a.size+b.size∧c.data.toList=a.data.toList++b.data.toList:=
 ⟨_,Qmr a b h,by rw[QEt];simp,rfl⟩
end Go.Proofs.YtgaboghigefgbaaGreatDoor
