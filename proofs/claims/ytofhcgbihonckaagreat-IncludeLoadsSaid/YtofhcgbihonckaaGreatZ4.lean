/- What the functions of token compute, in plain Lean: bytes. | Trees, and what Check of tree computes, in plain Lean. -/
import Derived.Test.YtofhcgbihonckaaGreatRows
import Derived.Lib.IndexMore
import Derived.Lib.IndexAny
import Derived.Lib.Strings
import Derived.Lib.Bytes2
import Derived.Laws.Strings
open Go
set_option linter.all false
namespace Go.Proofs.YtofhcgbihonckaaGreat
def Qka(c:Int):Bool:=decide (97≤c∧c≤122∨65≤c∧c≤90)
def QSa(c:Int):Bool:=decide (48≤c∧c≤57)
def QPa(c:Int):Bool:=Qka c || QSa c || decide (c=95)
def QYd(l:List UInt8)(c:Int):Bool:=l.any fun x=>decide ((x.toNat:Int)=c)
def QLm(c:Int):Bool:=QYd [44,46,43,45,63,35,64] c
def Q9a(c:Int):Bool:=QPa c || QLm c
def QYa(c:Int):Bool:=decide (97≤c∧c≤122∨c=45)
def Qwc(c:Int):Int:=if 48≤c∧c≤57 then c-48 else if 97≤c∧c≤102 then c-87 else if 65≤c∧c≤70 then c-55 else -1
def QQf(p:Int→Bool)(l:List UInt8):Bool:=l.all fun x=>p x.toNat
def QWa(p:Int→Bool)(l:List UInt8):Nat:=(l.takeWhile fun x=>p x.toNat).length
theorem QBa(s:ByteArray)(k:Nat)(h:k<s.size):s.data.toList.drop k=s[k]::s.data.toList.drop (k+1):=by
 have h':k<s.data.toList.length:=by simpa using h
 rw[List.drop_eq_getElem_cons h'];rfl
theorem Qdb(s:ByteArray)(k:Nat)(h:s.size≤k):s.data.toList.drop k=[]:=
 List.drop_eq_nil_of_le (by simpa using h)
theorem QYb(b:UInt8):(b.toNat:Int)≤255:=by have:=b.toNat_lt;omega
theorem QUc(p:Int→Bool)(x:UInt8)(l:List UInt8):QQf p (x::l)=(p x.toNat && QQf p l):=by simp[QQf]
theorem QPb(p:Int→Bool)(x:UInt8)(l:List UInt8):QWa p (x::l)=if p x.toNat=true then QWa p l+1 else 0:=by
 unfold QWa;by_cases h:p x.toNat=true <;> simp[h]
theorem QGc(p:Int→Bool)(l:List UInt8):QWa p l≤l.length:=(List.takeWhile_sublist _).length_le
def adv:List UInt8→Int × Int→Int × Int
 | [],p=>p
 | x::l,p=>adv l (if x.toNat=10 then(p.1+1,1)else(p.1,p.2+1))
theorem Qzn(l:List UInt8)(x:UInt8):∀p,adv (l++[x]) p=if x.toNat=10 then((adv l p).1+1,1)else((adv l p).1,(adv l p).2+1):=by
 induction l with
 | nil=>intro p;simp[adv]
 | cons y l ih=>intro p;simp only[List.cons_append,adv];rw[ih]
theorem Qch(l m:List UInt8):∀p,adv (l++m) p=adv m (adv l p):=by
 induction l with
 | nil=>intro p;simp[adv]
 | cons y l ih=>intro p;simp only[List.cons_append,adv];rw[ih]
theorem Qdh(l:List UInt8):∀p:Int × Int,1≤p.1→1≤p.2→1≤(adv l p).1∧1≤(adv l p).2∧(adv l p).1≤p.1+l.length∧(adv l p).2≤p.2+l.length:=by
 induction l with
 | nil=>intro p h1 h2;simp[adv];omega
 | cons y l ih=>
  intro p h1 h2
  simp only[adv,List.length_cons]
  split
  ·have:=ih (p.1+1,1) (by simp;omega) (by simp);simp at this ⊢;omega
  ·have:=ih (p.1,p.2+1) (by simpa using h1) (by simp;omega);simp at this ⊢;omega
theorem QFj(l:List UInt8)(c:Int)(h0:0≤c)(h1:c≤255):decide (0≤Lib.indexByte l c.toNat.toUInt8)=QYd l c:=by
 rw[←Lib.contains_iff_indexByte,Bool.eq_iff_iff]
 simp only[List.contains_iff_mem,QYd,List.any_eq_true,decide_eq_true_eq]
 have e:c.toNat.toUInt8.toNat=c.toNat:=by simp[Nat.toUInt8];omega
 constructor
 ·intro h;exact⟨_,h,by rw[e];omega⟩
 ·rintro ⟨x,hx,hxc⟩
  have:x=c.toNat.toUInt8:=by apply UInt8.toNat_inj.1;rw[e];omega
  exact this ▸ hx
theorem QTe(l:List UInt8)(b:UInt8):decide (0≤Lib.indexByte l b)=QYd l b.toNat:=by
 rw[←QFj l b.toNat (by omega) (QYb _)];simp
theorem Qpp{l:List UInt8}{b:UInt8}(h:0≤Lib.indexByte l b):QYd l b.toNat=true:=by rw[←QTe];simpa using h
theorem QIq{l:List UInt8}{b:UInt8}(h:Lib.indexByte l b<0):QYd l b.toNat=false:=by rw[←QTe];simpa using h
def Q1a(l:List UInt8):Bool:=decide (1≤l.length∧l.length≤31) && (Qka (l.headD 0).toNat || decide (((l.headD 0).toNat:Int)=95)) && QQf Q9a l
def Qra(l:List UInt8):Bool:=decide (1≤l.length∧l.length≤31) && !QSa (l.headD 0).toNat && QQf QPa l
theorem Qnc(s:ByteArray)(h:0<s.size):s.data.toList.headD 0=s[0]:=by
 have:=QBa s 0 h
 rw[List.drop_zero]at this
 rw[this];rfl
def Qqj(c:Int):Bool:=QYd [32,9,13,10] c
def Qzb(c:Int):Bool:=decide (c≠10)
end Go.Proofs.YtofhcgbihonckaaGreat
open Go
namespace Go.Proofs.YtofhcgbihonckaaGreat
structure Qor where
 name:ByteArray
 value:ByteArray
 deriving DecidableEq
structure Qnr where
 parent:Int
 name:ByteArray
 props:List Qor
 deriving DecidableEq
instance:Inhabited Qnr:=⟨⟨-1,ByteArray.empty,[]⟩⟩
def Q5b(l:List UInt8):Bool:=
 if Lib.hasPrefix l [35]=true then Q1a (95::l.drop 1) && !QYd (95::l.drop 1) 64 else Q1a l && !QYd l 64
def Q6e(s:ByteArray):Bool:=Q5b s.data.toList
end Go.Proofs.YtofhcgbihonckaaGreat
