/- Texts put together. -/
import Derived.Test.YtofhcgbihonckaaGreatY6
import Derived.WalkKit
set_option linter.all false
namespace Go.Proofs.YtofhcgbihonckaaGreat
open Go.RowKit
theorem Q8o(x:List UInt8)(y:List UInt8):(⟨x.toArray⟩:ByteArray)++⟨y.toArray⟩=⟨(x++y).toArray⟩:=ByteArray.mk_append_mk x y
def QYd(a b c:ByteArray):Prop:=∀wx:World,(Op.stringOp .add a b).run Tryz.prog wx = .ok (.string c) wx
theorem Qpa(x y:List UInt8)(h:x.length+y.length≤9223372036854775807):QYd ⟨x.toArray⟩ ⟨y.toArray⟩ ⟨(x++y).toArray⟩:=by
 intro wx
 rw[run_string_add_sum wx _ _ (by simpa[ByteArray.size]using h),Q8o]
theorem Qgi(s:ByteArray):(⟨s.data.toList.toArray⟩:ByteArray)=s:=by apply ByteArray.ext;simp
theorem Qzm(a b:ByteArray)(h:a.size+b.size≤9223372036854775807):QYd a b ⟨(a.data.toList++b.data.toList).toArray⟩:=by
 have:=Qpa a.data.toList b.data.toList (by simpa using h)
 rwa [Qgi,Qgi]at this
theorem Q3o(l:List UInt8):(⟨l.toArray⟩:ByteArray).size=l.length:=by show l.toArray.size=_;simp
theorem QFf(a b:ByteArray)(h:a.size+b.size≤9223372036854775807):∃c,QYd a b c∧c.size=a.size+b.size∧c.data.toList=a.data.toList++b.data.toList:=
 ⟨_,Qzm a b h,by rw[Q3o];simp,rfl⟩
end Go.Proofs.YtofhcgbihonckaaGreat
