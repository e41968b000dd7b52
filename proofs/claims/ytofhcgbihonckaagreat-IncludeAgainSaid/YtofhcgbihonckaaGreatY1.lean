/- What the functions of token compute, in plain Lean: bytes. | Trees, and what Check of tree computes, in plain Lean. -/
import Derived.Test.YtofhcgbihonckaaGreatRows
import Derived.Lib.IndexMore
import Derived.Lib.IndexAny
import Derived.Lib.Strings
import Derived.Lib.Bytes2
import Derived.Laws.Strings
open Go
set_option linter.all false
namespace Go.Proofs.YtofhcgbihonckaaGreat
def Qja(c:Int):Bool:=decide (97≤c∧c≤122∨65≤c∧c≤90)
def QOa(c:Int):Bool:=decide (48≤c∧c≤57)
def QIa(c:Int):Bool:=Qja c || QOa c || decide (c=95)
def Qyd(l:List UInt8)(c:Int):Bool:=l.any fun x=>decide ((x.toNat:Int)=c)
def QMl(c:Int):Bool:=Qyd [44,46,43,45,63,35,64] c
def Q2a(c:Int):Bool:=QIa c || QMl c
def QQa(c:Int):Bool:=decide (97≤c∧c≤122∨c=45)
def Qjc(c:Int):Int:=if 48≤c∧c≤57 then c-48 else if 97≤c∧c≤102 then c-87 else if 65≤c∧c≤70 then c-55 else -1
def Qaf(p:Int→Bool)(l:List UInt8):Bool:=l.all fun x=>p x.toNat
def QSa(p:Int→Bool)(l:List UInt8):Nat:=(l.takeWhile fun x=>p x.toNat).length
theorem Qxa(s:ByteArray)(k:Nat)(h:k<s.size):s.data.toList.drop k=s[k]::s.data.toList.drop (k+1):=by
 have h':k<s.data.toList.length:=by simpa using h
 rw[List.drop_eq_getElem_cons h'];rfl
theorem Q9a(s:ByteArray)(k:Nat)(h:s.size≤k):s.data.toList.drop k=[]:=
 List.drop_eq_nil_of_le (by simpa using h)
theorem QLb(b:UInt8):(b.toNat:Int)≤255:=by have:=b.toNat_lt;omega
theorem Qzc(p:Int→Bool)(x:UInt8)(l:List UInt8):Qaf p (x::l)=(p x.toNat && Qaf p l):=by simp[Qaf]
theorem QEb(p:Int→Bool)(x:UInt8)(l:List UInt8):QSa p (x::l)=if p x.toNat=true then QSa p l+1 else 0:=by
 unfold QSa;by_cases h:p x.toNat=true <;> simp[h]
theorem Qnc(p:Int→Bool)(l:List UInt8):QSa p l≤l.length:=(List.takeWhile_sublist _).length_le
def adv:List UInt8→Int × Int→Int × Int
 | [],p=>p
 | x::l,p=>adv l (if x.toNat=10 then(p.1+1,1)else(p.1,p.2+1))
theorem QAm(l:List UInt8)(x:UInt8):∀p,adv (l++[x]) p=if x.toNat=10 then((adv l p).1+1,1)else((adv l p).1,(adv l p).2+1):=by
 induction l with
 | nil=>intro p;simp[adv]
 | cons y l ih=>intro p;simp only[List.cons_append,adv];rw[ih]
theorem Qyg(l m:List UInt8):∀p,adv (l++m) p=adv m (adv l p):=by
 induction l with
 | nil=>intro p;simp[adv]
 | cons y l ih=>intro p;simp only[List.cons_append,adv];rw[ih]
theorem Qzg(l:List UInt8):∀p:Int × Int,1≤p.1→1≤p.2→1≤(adv l p).1∧1≤(adv l p).2∧(adv l p).1≤p.1+l.length∧(adv l p).2≤p.2+l.length:=by
 induction l with
 | nil=>intro p h1 h2;simp[adv];omega
 | cons y l ih=>
  intro p h1 h2
  simp only[adv,List.length_cons]
  split
  ·have:=ih (p.1+1,1) (by simp;omega) (by simp);simp at this ⊢;omega
  ·have:=ih (p.1,p.2+1) (by simpa using h1) (by simp;omega);simp at this ⊢;omega
theorem QZi(l:List UInt8)(c:Int)(h0:0≤c)(h1:c≤255):decide (0≤Lib.indexByte l c.toNat.toUInt8)=Qyd l c:=by
 rw[←Lib.contains_iff_indexByte,Bool.eq_iff_iff]
 simp only[List.contains_iff_mem,Qyd,List.any_eq_true,decide_eq_true_eq]
 have e:c.toNat.toUInt8.toNat=c.toNat:=by simp[Nat.toUInt8];omega
 constructor
 ·intro h;exact⟨_,h,by rw[e];omega⟩
 ·rintro ⟨x,hx,hxc⟩
  have:x=c.toNat.toUInt8:=by apply UInt8.toNat_inj.1;rw[e];omega
  exact this ▸ hx
theorem Qre(l:List UInt8)(b:UInt8):decide (0≤Lib.indexByte l b)=Qyd l b.toNat:=by
 rw[←QZi l b.toNat (by omega) (QLb _)];simp
theorem Qmo{l:List UInt8}{b:UInt8}(h:0≤Lib.indexByte l b):Qyd l b.toNat=true:=by rw[←Qre];simpa using h
theorem Qzp{l:List UInt8}{b:UInt8}(h:Lib.indexByte l b<0):Qyd l b.toNat=false:=by rw[←Qre];simpa using h
def QUa(l:List UInt8):Bool:=decide (1≤l.length∧l.length≤31) && (Qja (l.headD 0).toNat || decide (((l.headD 0).toNat:Int)=95)) && Qaf Q2a l
def Qna(l:List UInt8):Bool:=decide (1≤l.length∧l.length≤31) && !QOa (l.headD 0).toNat && Qaf QIa l
theorem Q9b(s:ByteArray)(h:0<s.size):s.data.toList.headD 0=s[0]:=by
 have:=Qxa s 0 h
 rw[List.drop_zero]at this
 rw[this];rfl
def QIi(c:Int):Bool:=Qyd [32,9,13,10] c
def Qrb(c:Int):Bool:=decide (c≠10)
end Go.Proofs.YtofhcgbihonckaaGreat
open Go
namespace Go.Proofs.YtofhcgbihonckaaGreat
structure Q8p where
 name:ByteArray
 value:ByteArray
 deriving DecidableEq
structure Q7p where
 parent:Int
 name:ByteArray
 props:List Q8p
 deriving DecidableEq
instance:Inhabited Q7p:=⟨⟨-1,ByteArray.empty,[]⟩⟩
def QQb(l:List UInt8):Bool:=
 if Lib.hasPrefix l [35]=true then QUa (95::l.drop 1) && !Qyd (95::l.drop 1) 64 else QUa l && !Qyd l 64
def QFe(s:ByteArray):Bool:=QQb s.data.toList
end Go.Proofs.YtofhcgbihonckaaGreat
