/- Texts put together. -/
import Derived.Test.YtofhcgbihonckaaGreatZ5
import Derived.WalkKit
set_option linter.all false
namespace Go.Proofs.YtofhcgbihonckaaGreat
open Go.RowKit
theorem Qkq(x:List UInt8)(y:List UInt8):(⟨x.toArray⟩:ByteArray)++⟨y.toArray⟩=⟨(x++y).toArray⟩:=ByteArray.mk_append_mk x y
def QSc(a b c:ByteArray):Prop:=∀wx:World,(Op.stringOp .add a b).run Tryz.prog wx = .ok (.string c) wx
theorem Qta(x y:List UInt8)(h:x.length+y.length≤9223372036854775807):QSc ⟨x.toArray⟩ ⟨y.toArray⟩ ⟨(x++y).toArray⟩:=by
 intro wx
 rw[run_string_add_sum wx _ _ (by simpa[ByteArray.size]using h),Qkq]
theorem QTi(s:ByteArray):(⟨s.data.toList.toArray⟩:ByteArray)=s:=by apply ByteArray.ext;simp
theorem Qyn(a b:ByteArray)(h:a.size+b.size≤9223372036854775807):QSc a b ⟨(a.data.toList++b.data.toList).toArray⟩:=by
 have:=Qta a.data.toList b.data.toList (by simpa using h)
 rwa [QTi,QTi]at this
theorem Qgq(l:List UInt8):(⟨l.toArray⟩:ByteArray).size=l.length:=by show l.toArray.size=_;simp
theorem QKb(a b:ByteArray)(h:a.size+b.size≤9223372036854775807):∃c,QSc a b c∧c.size=a.size+b.size∧c.data.toList=a.data.toList++b.data.toList:=
 ⟨_,Qyn a b h,by rw[Qgq];simp,rfl⟩
end Go.Proofs.YtofhcgbihonckaaGreat
