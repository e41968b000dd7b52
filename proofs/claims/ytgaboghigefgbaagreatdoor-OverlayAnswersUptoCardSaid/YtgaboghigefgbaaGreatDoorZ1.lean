/- Lemmas on the way to the law; no conditions. -/
import Derived.Test.YtgaboghigefgbaaGreatDoorRows
import Derived.Lib.IndexMore
import Derived.Lib.IndexAny
import Derived.Lib.Strings
import Derived.Lib.Bytes2
import Derived.Laws.Strings
open Go
set_option linter.all false
namespace Go.Proofs.YtgaboghigefgbaaGreatDoor
def QIa(c:Int):Bool:=decide (97≤c∧c≤122∨65≤c∧c≤90)
def QKc(c:Int):Bool:=decide (48≤c∧c≤57)
def Q7b(c:Int):Bool:=QIa c||QKc c||decide (c=95)
def Qef(l:List UInt8)(c:Int):Bool:=l.any fun x=>decide ((x.toNat:Int)=c)
def Qrq(c:Int):Bool:=Qef [44,46,43,45,63,35,64] c
def QYb(c:Int):Bool:=Q7b c||Qrq c
def Qhd(c:Int):Bool:=decide (97≤c∧c≤122∨c=45)
def Qrg(c:Int):Int:=if 48≤c∧c≤57 then c-48 else if 97≤c∧c≤102 then c-87 else if 65≤c∧c≤70 then c-55 else -1
def Q1j(p:Int→Bool)(l:List UInt8):Bool:=l.all fun x=>p x.toNat
def Qwc(p:Int→Bool)(l:List UInt8):Nat:=(l.takeWhile fun x=>p x.toNat).length
theorem Qdb(s:ByteArray)(k:Nat)(h:k<s.size):s.data.toList.drop k=s[k]::s.data.toList.drop (k+1):=by
 have h':k<s.data.toList.length:=by simpa using h
 rw[List.drop_eq_getElem_cons h'];rfl
theorem QFc(s:ByteArray)(k:Nat)(h:s.size≤k):s.data.toList.drop k=[]:=
 List.drop_eq_nil_of_le (by simpa using h)
theorem QRc(b:UInt8):(b.toNat:Int)≤255:=by have:=b.toNat_lt;omega
theorem Que(p:Int→Bool)(x:UInt8)(l:List UInt8):Q1j p (x::l)=(p x.toNat&&Q1j p l):=by simp[Q1j]
theorem Qfg(p:Int→Bool)(x:UInt8)(l:List UInt8):Qwc p (x::l)=if p x.toNat=true then Qwc p l+1 else 0:=by
 unfold Qwc;by_cases h:p x.toNat=true <;> simp[h]
theorem Qfe(p:Int→Bool)(l:List UInt8):Qwc p l≤l.length:=(List.takeWhile_sublist _).length_le
def adv:List UInt8→Int × Int→Int × Int
 | [],p=>p
 | x::l,p=>adv l (if x.toNat=10 then(p.1+1,1)else(p.1,p.2+1))
theorem Qor(l:List UInt8)(x:UInt8):∀p,adv (l++[x]) p=if x.toNat=10 then((adv l p).1+1,1)else((adv l p).1,(adv l p).2+1):=by
 induction l with
 | nil=>intro p;simp[adv]
 | cons y l ih=>intro p;simp only[List.cons_append,adv];rw[ih]
theorem Qwn(l m:List UInt8):∀p,adv (l++m) p=adv m (adv l p):=by
 induction l with
 | nil=>intro p;simp[adv]
 | cons y l ih=>intro p;simp only[List.cons_append,adv];rw[ih]
theorem QWo(l:List UInt8):∀p:Int × Int,1≤p.1→1≤p.2→1≤(adv l p).1∧1≤(adv l p).2∧(adv l p).1≤p.1+l.length∧(adv l p).2≤p.2+l.length:=by
 induction l with
 | nil=>intro p h1 h2;simp[adv];omega
 | cons y l ih=>
  intro p h1 h2;simp only[adv,List.length_cons];split
  ·have:=ih (p.1+1,1) (by simp;omega) (by simp);simp at this ⊢;omega
  have:=ih (p.1,p.2+1) (by simpa using h1) (by simp;omega);simp at this ⊢;omega
theorem QWl(l:List UInt8)(c:Int)(h0:0≤c)(h1:c≤255):decide (0≤Lib.indexByte l c.toNat.toUInt8)=Qef l c:=by
 rw[←Lib.contains_iff_indexByte,Bool.eq_iff_iff];simp only[List.contains_iff_mem,Qef,List.any_eq_true,decide_eq_true_eq];have e:c.toNat.toUInt8.toNat=c.toNat:=by simp[Nat.toUInt8];omega
 constructor
 ·intro h;exact⟨_,h,by rw[e];omega⟩
 rintro⟨x,hx,hxc⟩;have:x=c.toNat.toUInt8:=by apply UInt8.toNat_inj.1;rw[e];omega
 exact this ▸ hx
theorem QWf(l:List UInt8)(b:UInt8):decide (0≤Lib.indexByte l b)=Qef l b.toNat:=by
 rw[←QWl l b.toNat (by omega) (QRc _)];simp
theorem Qet{l:List UInt8}{b:UInt8}(h:0≤Lib.indexByte l b):Qef l b.toNat=true:=by rw[←QWf];simpa using h
theorem Q2t{l:List UInt8}{b:UInt8}(h:Lib.indexByte l b<0):Qef l b.toNat=false:=by rw[←QWf];simpa using h
def QTa(l:List UInt8):Bool:=decide (1≤l.length∧l.length≤31)&&(QIa (l.headD 0).toNat||decide (((l.headD 0).toNat:Int)=95))&&Q1j QYb l
def QTi(l:List UInt8):Bool:=decide (1≤l.length∧l.length≤31) && !QKc (l.headD 0).toNat&&Q1j Q7b l
theorem QId(s:ByteArray)(h:0<s.size):s.data.toList.headD 0=s[0]:=by
 have:=Qdb s 0 h;rw[List.drop_zero]at this;rw[this];rfl
def Qar(c:Int):Bool:=Qef [32,9,13,10] c
def Qcd(c:Int):Bool:=decide (c≠10)
end Go.Proofs.YtgaboghigefgbaaGreatDoor
open Go
namespace Go.Proofs.YtgaboghigefgbaaGreatDoor
structure Qqa where
 name:ByteArray
 value:ByteArray
 deriving DecidableEq
structure Qba where
 parent:Int
 name:ByteArray
 props:List Qqa
 deriving DecidableEq
instance:Inhabited Qba:=⟨⟨-1,ByteArray.empty,[]⟩⟩
def ltS(a b:ByteArray):Bool:=Op.bytesLess a.toList b.toList
def eqS(a b:ByteArray):Bool:=a.toList==b.toList
def QWa(T:List Qba)(i:Nat):Int:=match T[i]? with
 | some n=>n.parent
 | none => -1
theorem Qxa{T:List Qba}{i:Nat}(h:i<T.length):QWa T i=T[i].parent:=by
 unfold QWa;rw[List.getElem?_eq_getElem h]
def QXe(l:List UInt8):Bool:=
 if Lib.hasPrefix l [35]=true then QTa (95::l.drop 1) && !Qef (95::l.drop 1) 64 else QTa l && !Qef l 64
def Q6a(s:ByteArray):Bool:=QXe s.data.toList
def Qbf(n:Qba):Bool:=decide (n.props.length≤24)&&n.props.all fun p=>decide (p.value.size≤256)
def Qza(T:List Qba):Bool:=decide (1≤T.length∧T.length≤120)&&T.all Qbf
def QHd(i:Nat)(n:Qba):Bool:=
 if i=0 then decide (n.parent = -1)&&eqS n.name ByteArray.empty else decide (0≤n.parent∧n.parent<i)&&QTa n.name.data.toList
def Qsd:Nat→List Qba→Bool
 | _,[]=>true
 | i,n::r=>QHd i n&&(n.props.all fun p=>Q6a p.name)&&Qsd (i+1) r
def Q3a(T:List Qba):Bool:=Qsd 0 T
def Qjd:List Qqa→Bool
 | []=>true
 | [_]=>true
 | a::b::r=>ltS a.name b.name&&Qjd (b::r)
def QHg(T:List Qba)(p:Int):Nat→Int→Int
 | 0,u=>u
 | f+1,u=>if u<0∨u=p then u else QHg T p f (QWa T u.toNat)
def QQb(T:List Qba):Nat→List ByteArray→List Qba→Bool
 | _,_,[]=>true
 | i,last,n::r=>Qjd n.props&&(if i=0 then QQb T 1 last r else
  let u:=QHg T n.parent (i+1) (i-1)
  decide (0≤u) && !ltS n.name (last.getD u.toNat ByteArray.empty)&&QQb T (i+1) (last.set u.toNat n.name) r)
def Qxb(T:List Qba):Bool:=QQb T 0 (List.replicate T.length ByteArray.empty) T
def QEi:Nat→List (ByteArray × Int)→List Qba→Bool
 | _,_,[]=>false
 | i,seen,n::r=>(decide (0<i)&&seen.any (fun x=>eqS x.1 n.name&&decide (x.2=n.parent)))||QEi (i+1) (seen++[(n.name,n.parent)]) r
def QFi(T:List Qba):Bool:=QEi 0 [] T
def Q8b(T:List Qba):Nat→Int→Nat
 | 0,_=>0
 | f+1,u=>if 0<u then Q8b T f (QWa T u.toNat)+1 else 0
def Q8s(T:List Qba)(i:Nat):Nat:=Q8b T T.length i
def QEd(T:List Qba):Bool:=(List.range T.length).any fun i=>decide (8<Q8s T i)
def Qia(T:List Qba):Int:=
 if Qza T=false then 3 else if Q3a T=false then 1 else if Qxb T=false then 12 else if QFi T=true then 5 else if QEd T=true then 2 else 0
theorem QCf{i:Nat}{n:Qba}{r:List Qba}:Qsd i (n::r)=(QHd i n&&(n.props.all fun p=>Q6a p.name)&&Qsd (i+1) r):=rfl
theorem Qtd:∀(T:List Qba) (i:Nat),Qsd i T=true→∀k (h:k<T.length),QHd (i+k) T[k]=true∧T[k].props.all (fun p=>Q6a p.name)=true:=by
 intro T
 induction T with
 | nil=>intro i _ k h;simp at h
 | cons n r ih=>
  intro i h k hk;rw[QCf,Bool.and_eq_true,Bool.and_eq_true]at h;cases k with
  | zero=>exact⟨h.1.1,h.1.2⟩
  | succ k=>
   have:=ih (i+1) h.2 k (by simpa using hk);rw[show i+1+k=i+(k+1)from by omega]at this;exact this
theorem Quc{T:List Qba}(h:Q3a T=true)(k:Nat)(hk:k<T.length):(k=0→T[k].parent = -1)∧(0<k→0≤T[k].parent∧T[k].parent<k):=by
 have:=(Qtd T 0 h k hk).1;rw[Nat.zero_add]at this;unfold QHd at this;constructor
 ·intro h0;rw[if_pos h0]at this;simp at this;exact this.1
 intro h0;rw[if_neg (by omega)]at this;simp at this;exact⟨this.1.1,this.1.2⟩
theorem Qok{T:List Qba}(h:Q3a T=true):∀(n:Nat) (u:Int),u.toNat≤n→u<T.length→∀f g,u.toNat≤f→u.toNat≤g→Q8b T f u=Q8b T g u:=by
 intro n
 induction n with
 | zero=>
  intro u hu _ f g _ _;have:¬0<u:=by omega
  cases f <;> cases g <;> simp[Q8b,this]
 | succ n ih=>
  intro u hu hl f g hf hg;by_cases h0:0<u
  ·obtain⟨f,rfl⟩:∃f',f=f'+1:=⟨f-1,by omega⟩;obtain⟨g,rfl⟩:∃f',g=f'+1:=⟨g-1,by omega⟩;have hk:u.toNat<T.length:=by omega
   have hp:=(Quc h u.toNat hk).2 (by omega);have GC:=Qxa hk;simp only[Q8b];rw[if_pos h0,if_pos h0,ih _ (by omega) (by omega) f g (by omega) (by omega)]
  cases f <;> cases g <;> simp[Q8b,h0]
end Go.Proofs.YtgaboghigefgbaaGreatDoor
namespace Go.Proofs.YtgaboghigefgbaaGreatDoor
theorem Q3f(x y:UInt8)(a b:List UInt8):Op.bytesLess (x::a) (y::b)=true↔x.toNat<y.toNat∨x=y∧Op.bytesLess a b=true:=by
 rw[Op.bytesLess];simp[UInt8.lt_iff_toNat_lt]
theorem QWn:∀(a b c:List UInt8),Op.bytesLess a b=true→Op.bytesLess b c=true→Op.bytesLess a c=true:=by
 intro a
 induction a with
 | nil=>intro b c h1 h2;cases b <;> cases c <;> simp[Op.bytesLess]at *
 | cons x a ih=>
  intro b c h1 h2;cases b with
  | nil=>simp[Op.bytesLess]at h1
  | cons y b=>
   cases c with
   | nil=>simp[Op.bytesLess]at h2
   | cons z c=>
    rw[Q3f]at *
    rcases h1 with h1|⟨rfl,h1⟩
    ·rcases h2 with h2|⟨rfl,h2⟩
     ·left;omega
     left;exact h1
    rcases h2 with h2|⟨rfl,h2⟩
    ·left;exact h2
    right;exact⟨rfl,ih _ _ h1 h2⟩
theorem Q6l:∀a:List UInt8,Op.bytesLess a a=false:=by
 intro a
 induction a with
 | nil=>rfl
 | cons x a ih=>
  rw[Bool.eq_false_iff,Ne,Q3f];rintro(h|⟨_,h⟩)
  ·omega
  rw[ih]at h;cases h
theorem QVn:∀a b:List UInt8,Op.bytesLess a b=false→a=b∨Op.bytesLess b a=true:=by
 intro a
 induction a with
 | nil=>intro b h;cases b <;> simp[Op.bytesLess]at *
 | cons x a ih=>
  intro b h;cases b with
  | nil=>right;rfl
  | cons y b=>
   rw[Bool.eq_false_iff,Ne,Q3f]at h;rw[Q3f];by_cases e:x=y
   ·subst e;have h2:Op.bytesLess a b=false:=by rw[Bool.eq_false_iff];intro hc;exact h (.inr ⟨rfl,hc⟩)
    rcases ih b h2 with rfl|h3
    ·exact .inl rfl
    exact .inr (.inr ⟨rfl,h3⟩)
   right;left;have:x.toNat≠y.toNat:=fun e2=>e (UInt8.toNat_inj.1 e2);omega
theorem Q5b{a b c:ByteArray}(h1:ltS a b=true)(h2:ltS b c=true):ltS a c=true:=QWn _ _ _ h1 h2
theorem Qqb(a:ByteArray):ltS a a=false:=Q6l _
theorem QCa(a b:ByteArray):eqS a b=true↔a=b:=by
 unfold eqS;rw[ByteArray.toList_eq,ByteArray.toList_eq];simp only[beq_iff_eq];constructor
 ·intro h;apply ByteArray.ext;exact Array.toList_inj.1 h
 rintro rfl;rfl
theorem Qad{a b:ByteArray}(h:ltS a b=false):a=b∨ltS b a=true:=by
 rcases QVn _ _ h with h|h
 ·left;exact(QCa a b).1 (by unfold eqS;rw[h];simp)
 exact .inr h
def Qbc(a b:ByteArray):Int:=if ltS a b=true then -1 else if eqS a b=true then 0 else 1
def Qmb(ps:List Qqa)(x:ByteArray):Nat:=(ps.takeWhile fun p=>ltS p.name x).length
def Qtc(ps:List Qqa)(x:ByteArray):Bool:=match ps[Qmb ps x]? with
 | some p=>eqS p.name x
 | none=>false
theorem Qkl{α:Type}(p:α→Bool):∀(l:List α) (i:Nat),i≤l.length→(∀k (h:k<l.length),k<i→p l[k]=true)→(∀h:i<l.length,p l[i]=false)→(l.takeWhile p).length=i:=by
 intro l
 induction l with
 | nil=>intro i h _ _;simp at h;simp[h]
 | cons x l ih=>
  intro i hi h1 h2;cases i with
  | zero=>have:=h2 (by simp);simp at this;simp[this]
  | succ i=>
   have hx:=h1 0 (by simp) (by omega);simp at hx;rw[List.takeWhile_cons,if_pos hx,List.length_cons,ih i (by simpa using hi)]
   ·intro k hk Mg;have:=h1 (k+1) (by simpa using hk) (by omega);simpa using this
   intro h;have:=h2 (by simpa using h);simpa using this
theorem QOm:∀(l:List Qqa),Qjd l=true→∀i j (hi:i<l.length) (hj:j<l.length),i<j→ltS l[i].name l[j].name=true:=by
 intro l
 induction l with
 | nil=>intro _ i j hi;simp at hi
 | cons a l ih=>
  intro h i j hi hj kV;cases l with
  | nil=>simp at hj;omega
  | cons b r=>
   simp only[Qjd,Bool.and_eq_true]at h;have ih2:=ih h.2;cases j with
   | zero=>omega
   | succ j=>
    cases i with
    | zero=>
     cases j with
     | zero=>exact h.1
     | succ j=>
      have:=ih2 0 (j+1) (by simp) (by simpa using hj) (by omega);exact Q5b h.1 this
    | succ i=>exact ih2 i j (by simpa using hi) (by simpa using hj) (by omega)
theorem QHm(T:List Qba):∀(r:List Qba) (i:Nat) (last:List ByteArray),QQb T i last r=true→∀n∈r,Qjd n.props=true:=by
 intro r
 induction r with
 | nil=>intro i last _ n hn;simp at hn
 | cons m r ih=>
  intro i last h n hn;simp only[QQb,Bool.and_eq_true]at h;rcases List.mem_cons.1 hn with rfl|hn
  ·exact h.1
  by_cases h0:i=0
  ·rw[if_pos h0]at h;exact ih _ _ h.2 n hn
  rw[if_neg h0]at h;simp only[Bool.and_eq_true]at h;exact ih _ _ h.2.2 n hn
theorem Qve{T:List Qba}(h:Qia T=0):∀n∈T,Qjd n.props=true:=by
 have hw:Qxb T=true:=by
  unfold Qia at h;cases hw:Qxb T with
  | true=>rfl
  | false=>exfalso;revert h;cases Qza T <;> cases Q3a T <;> simp[hw]
 exact QHm T T 0 _ hw
theorem Q3b{T:List Qba}(h:Qia T=0):Q3a T=true:=by
 unfold Qia at h;cases hw:Q3a T with
 | true=>rfl
 | false=>exfalso;revert h;cases Qza T <;> simp[hw]
theorem QQa{T:List Qba}(h:Qia T=0):Qza T=true:=by
 unfold Qia at h;cases hw:Qza T with
 | true=>rfl
 | false=>exfalso;revert h;simp[hw]
theorem Qlb{T:List Qba}(h:Qza T=true):1≤T.length∧T.length≤120:=by
 unfold Qza at h;simp at h;exact h.1
end Go.Proofs.YtgaboghigefgbaaGreatDoor
open Go
namespace Go.Proofs.YtgaboghigefgbaaGreatDoor
structure Qga where
 kind:Int
 path:ByteArray
 name:ByteArray
 value:ByteArray
 deriving DecidableEq
instance:Inhabited Qga:=⟨⟨0,⟨#[]⟩,⟨#[]⟩,⟨#[]⟩⟩⟩
def Qvb:List UInt8→List (List UInt8)
 | []=>[[]]
 | c::r=>if c=47 then []::Qvb r else match Qvb r with
  | []=>[[c]]
  | s::t=>(c::s)::t
def Qpc(s:ByteArray):Bool:=match s.data.toList with
 | []=>false
 | c::r=>decide (c=47)&&(r.isEmpty||(Qvb r).all QTa)
def Qoe(l:List UInt8):List UInt8:=(l.reverse.takeWhile fun c=>decide (c≠47)).reverse
def QPg(l:List UInt8):List UInt8:=l.take (l.length-(Qoe l).length-1)
def Qzb(s:ByteArray):ByteArray:=if (QPg s.data.toList).isEmpty=true then⟨#[47]⟩else⟨(QPg s.data.toList).toArray⟩
def Qbd(s:ByteArray):ByteArray:=⟨(Qoe s.data.toList).toArray⟩
def Qsc(s:ByteArray):Bool:=eqS s ⟨#[]⟩
def Q8h(s:ByteArray):Bool:=eqS s ⟨#[47]⟩
def Qwb(x:Qga):Bool:=
 if Qpc x.path=false∨256<x.value.size then false
 else if x.kind=1 then Qsc x.name&&Qsc x.value && !Q8h x.path
 else if x.kind=2∨(x.kind=3∧Qsc x.value=true)then Q6a x.name
 else false
def ltE(a b:Qga):Bool:=ltS a.path b.path||(eqS a.path b.path&&ltS a.name b.name)
def Qck:List Qga→Bool
 | []=>true
 | [_]=>true
 | a::b::r=>ltE a b&&Qck (b::r)
def Qva(name:ByteArray)(l:List Qga):Int:=
 if 40<l.length∨l.any (fun x=>decide (256<x.value.size))=true then 3
 else if QTa name.data.toList=false∨l.any (fun x=>!Qwb x)=true then 1
 else if Qck l=false then 12 else 0
def Q2a(x y:Qga):Bool:=eqS x.path y.path&&eqS x.name y.name && !Qsc x.name && !decide (x=y)
def Qwe(na:ByteArray)(a:List Qga)(nb:ByteArray)(b:List Qga):ByteArray × ByteArray × Bool:=
 if Qva na a≠0∨Qva nb b≠0 then(⟨#[]⟩,⟨#[]⟩,false)else match a.find? (fun x=>b.any (Q2a x))with
  | some x=>(x.path,x.name,true)
  | none=>(⟨#[]⟩,⟨#[]⟩,false)
theorem QNg{name:ByteArray}{l:List Qga}(h:Qva name l=0):l.length≤40∧(∀x∈l,x.value.size≤256)∧QTa name.data.toList=true∧(∀x∈l,Qwb x=true)∧Qck l=true:=by
 unfold Qva at h;split at h
 ·cases h
 rename_i h1;split at h
 ·cases h
 rename_i h2;split at h
 ·cases h
 rename_i h3;have a1:¬40<l.length:=fun e=>h1 (.inl e);have a2:¬l.any (fun x=>decide (256<x.value.size))=true:=fun e=>h1 (.inr e);have a3:¬QTa name.data.toList=false:=fun e=>h2 (.inl e);have a4:¬l.any (fun x=>!Qwb x)=true:=fun e=>h2 (.inr e);refine⟨by omega,fun x hx=>?_,by simpa using a3,fun x hx=>?_,by simpa using h3⟩
 ·rcases Nat.lt_or_ge 256 x.value.size with e|e
  ·exact absurd (List.any_eq_true.2 ⟨x,hx,by simpa using e⟩) a2
  exact e
 cases e:Qwb x with
 | true=>rfl
 | false=>exact absurd (List.any_eq_true.2 ⟨x,hx,by rw[e];rfl⟩) a4
theorem QKk{a b c:Qga}(h:ltE a b=true)(k:ltE b c=true):ltE a c=true:=by
 unfold ltE at *
 rw[Bool.or_eq_true,Bool.and_eq_true,QCa]at *
 rcases h with h|⟨h1,h2⟩
 ·rcases k with k|⟨k1,k2⟩
  ·exact .inl (Q5b h k)
  exact .inl (by rw[←k1];exact h)
 rcases k with k|⟨k1,k2⟩
 ·exact .inl (by rw[h1];exact k)
 exact .inr ⟨h1.trans k1,Q5b h2 k2⟩
theorem QTp{a b:Qga}(h:ltE a b=true):¬(a.path=b.path∧a.name=b.name):=by
 rintro⟨e1,e2⟩;unfold ltE at h;rw[e1,e2,Qqb,Qqb]at h;simp at h
theorem Qqh:∀l:List Qga,Qck l=true→l.Pairwise fun a b=>ltE a b=true
 | [],_=>.nil
 | [a],_=>by simp
 | a::b::r,h=>by
  simp only[Qck,Bool.and_eq_true]at h;have ih:=Qqh (b::r) h.2;refine List.pairwise_cons.2 ⟨fun x hx=>?_,ih⟩;rcases List.mem_cons.1 hx with rfl|hx
  ·exact h.1
  exact QKk h.1 ((List.pairwise_cons.1 ih).1 x hx)
end Go.Proofs.YtgaboghigefgbaaGreatDoor
open Go
namespace Go.Proofs.YtgaboghigefgbaaGreatDoor
abbrev Q0e:=ByteArray × Nat
def ltC(a b:Q0e):Prop:=ltS a.1 b.1=true∨(a.1=b.1∧a.2<b.2)
def ltP:List Q0e→List Q0e→Prop
 | [],[]=>False
 | [],_::_=>True
 | _::_,[]=>False
 | a::p,b::q=>ltC a b∨(a=b∧ltP p q)
theorem Q4c(a:Q0e):¬ltC a a:=by
 rintro(h|⟨_,h⟩)
 ·rw[Qqb]at h;cases h
 omega
theorem QPh{a b c:Q0e}(h:ltC a b)(k:ltC b c):ltC a c:=by
 rcases h with h|⟨h,h2⟩ <;> rcases k with k|⟨k,k2⟩
 ·exact .inl (Q5b h k)
 ·exact .inl (by rw[←k];exact h)
 ·exact .inl (by rw[h];exact k)
 exact .inr ⟨h.trans k,by omega⟩
theorem QSp{a b:Q0e}(h:ltC a b)(k:ltC b a):False:=Q4c a (QPh h k)
theorem QRe:∀p:List Q0e,¬ltP p p
 | [],h=>h
 | a::p,h=>by
  rcases h with h|⟨_,h⟩
  ·exact Q4c a h
  exact QRe p h
theorem Q5f:∀{p q r:List Q0e},ltP p q→ltP q r→ltP p r
 | [],[],_,h,_=>h.elim
 | [],_::_,[],_,k=>k.elim
 | [],_::_,_::_,_,_=>trivial
 | _::_,[],_,h,_=>h.elim
 | _::_,_::_,[],_,k=>k.elim
 | a::p,b::q,c::r,h,k=>by
  rcases h with h|⟨rfl,h⟩
  ·rcases k with k|⟨rfl,k⟩
   ·exact .inl (QPh h k)
   exact .inl h
  rcases k with k|⟨rfl,k⟩
  ·exact .inl k
  exact .inr ⟨rfl,Q5f h k⟩
theorem QQh{p q:List Q0e}(h:ltP p q)(k:ltP q p):False:=QRe p (Q5f h k)
theorem QSe:∀(p:List Q0e) (x:Q0e) (q:List Q0e),ltP p (p++x::q)
 | [],_,_=>trivial
 | _::p,x,q=>.inr ⟨rfl,QSe p x q⟩
theorem Q4f:∀(p:List Q0e) {x y:Q0e} (q r:List Q0e),ltC x y→ltP (p++x::q) (p++y::r)
 | [],_,_,_,_,h=>.inl h
 | _::p,_,_,q,r,h=>.inr ⟨rfl,Q4f p q r h⟩
theorem QHj:∀(p:List Q0e) {x y:Q0e},ltP (p++[x]) (p++[y])→ltC x y
 | [],_,_,h=>by
  rcases h with h|⟨_,h⟩
  ·exact h
  exact h.elim
 | a::p,_,_,h=>by
  rcases h with h|⟨_,h⟩
  ·exact(Q4c a h).elim
  exact QHj p h
theorem QRh:∀(p m:List Q0e) (x:Q0e),ltP p m→ltP m (p++[x])→∃y q,m=p++y::q∧ltC y x
 | [],[],_,h,_=>h.elim
 | [],y::q,x,_,k=>by
  rcases k with k|⟨rfl,k⟩
  ·exact⟨y,q,rfl,k⟩
  cases q <;> exact k.elim
 | _::_,[],_,h,_=>h.elim
 | a::p,b::m,x,h,k=>by
  rcases h with h|⟨rfl,h⟩
  ·rcases k with k|⟨rfl,_⟩
   ·exact(QSp h k).elim
   exact(Q4c _ h).elim
  rcases k with k|⟨_,k⟩
  ·exact(Q4c _ k).elim
  obtain⟨y,q,rfl,hy⟩:=QRh p m x h k;exact⟨y,q,rfl,hy⟩
def Qya(T:List Qba)(i:Nat):ByteArray:=match T[i]? with
 | some n=>n.name
 | none=>ByteArray.empty
def QZb(T:List Qba)(i:Nat):List Qqa:=match T[i]? with
 | some n=>n.props
 | none=>[]
theorem QHa{T:List Qba}{i:Nat}(h:i<T.length):Qya T i=T[i].name:=by unfold Qya;rw[List.getElem?_eq_getElem h]
theorem Qfb{T:List Qba}{i:Nat}(h:i<T.length):QZb T i=T[i].props:=by unfold QZb;rw[List.getElem?_eq_getElem h]
def Par(T:List Qba):Prop:=∀i,0<i→i<T.length→0≤QWa T i∧QWa T i<i
theorem QBa{T:List Qba}(h:Q3a T=true):Par T:=by
 intro i h0 hi;have:=(Quc h i hi).2 h0;rw[Qxa hi];exact this
def QGb(T:List Qba)(i:Nat):Nat:=(QWa T i).toNat
theorem Qib{T:List Qba}(h:Par T){i:Nat}(h0:0<i)(hi:i<T.length):QGb T i<i∧(QGb T i:Int)=QWa T i:=by
 have:=h i h0 hi;unfold QGb;omega
def QZh(T:List Qba):Nat→Nat→List Q0e
 | 0,_=>[]
 | f+1,i=>if i=0 then []else QZh T f (QGb T i)++[(Qya T i,i)]
def pc(T:List Qba)(i:Nat):List Q0e:=QZh T i i
theorem Qmo{T:List Qba}(h:Par T):∀(n i f:Nat),i≤n→i<T.length→i≤f→QZh T f i=pc T i:=by
 intro n
 induction n with
 | zero=>
  intro i f hi _ _;have:i=0:=by omega
  subst this;cases f <;> simp[QZh,pc]
 | succ n ih=>
  intro i f hi hl hf;by_cases h0:i=0
  ·subst h0;cases f <;> simp[QZh,pc]
  obtain⟨f,rfl⟩:∃g,f=g+1:=⟨f-1,by omega⟩;obtain⟨i,rfl⟩:∃j,i=j+1:=⟨i-1,by omega⟩;have hp:=Qib h (by omega:0<i+1) hl;unfold pc;simp only[QZh];rw[if_neg h0,if_neg h0,ih (QGb T (i+1)) f (by omega) (by omega) (by omega),ih (QGb T (i+1)) i (by omega) (by omega) (by omega)]
theorem Qbe(T:List Qba):pc T 0=[]:=rfl
theorem Qtb{T:List Qba}(h:Par T){i:Nat}(h0:0<i)(hi:i<T.length):pc T i=pc T (QGb T i)++[(Qya T i,i)]:=by
 obtain⟨i,rfl⟩:∃j,i=j+1:=⟨i-1,by omega⟩;have hp:=Qib h h0 hi;show QZh T (i+1) (i+1)=_;simp only[QZh];rw[if_neg (by omega),Qmo h _ _ _ (Nat.le_refl _) (by omega) (by omega)]
theorem QLs{T:List Qba}(h:Par T){i j:Nat}(hi:i<T.length)(hj:j<T.length)(e:pc T i=pc T j):i=j:=by
 by_cases h0:i=0 <;> by_cases h1:j=0
 ·omega
 ·subst h0;rw[Qbe,Qtb h (by omega) hj]at e;have:=congrArg List.length e;simp at this
 ·subst h1;rw[Qbe,Qtb h (by omega) hi]at e;have:=congrArg List.length e;simp at this
 rw[Qtb h (by omega) hi,Qtb h (by omega) hj]at e;have:=List.append_inj_right' e rfl;simp at this;exact this.2
def Und(T:List Qba)(u v:Nat):Prop:=pc T u <+: pc T v
theorem Qkg(T:List Qba)(u:Nat):Und T u u:=List.prefix_refl _
theorem Qus(T:List Qba)(v:Nat):Und T 0 v:=List.nil_prefix
theorem QFm{T:List Qba}(h:Par T){v:Nat}(h0:0<v)(hv:v<T.length):Und T (QGb T v) v:=by
 unfold Und;rw[Qtb h h0 hv];exact List.prefix_append _ _
theorem Qii{T:List Qba}{u v x:Nat}(h:Und T u v)(k:Und T v x):Und T u x:=List.IsPrefix.trans h k
theorem QYj{T:List Qba}(h:Par T){u v:Nat}(hu:u<T.length)(h0:0<v)(hv:v<T.length):Und T u v↔u=v∨Und T u (QGb T v):=by
 constructor
 ·intro k;unfold Und at k;rw[Qtb h h0 hv,List.prefix_concat_iff]at k;rcases k with k|k
  ·exact .inl (QLs h hu hv (by rw[k,Qtb h h0 hv]))
  exact .inr k
 rintro(rfl|k)
 ·exact Qkg _ _
 exact Qii k (QFm h h0 hv)
theorem Qsn{T:List Qba}(h:Par T){u:Nat}(hu:u<T.length):∀(n v:Nat),v≤n→v<T.length→Und T u v→u≤v:=by
 intro n
 induction n with
 | zero=>
  intro v hv hl k;have:v=0:=by omega
  subst this;by_cases h0:u=0
  ·omega
  unfold Und at k;rw[Qbe,Qtb h (by omega) hu]at k;have:=k.length_le;simp at this
 | succ n ih=>
  intro v hv hl k;by_cases h0:v=0
  ·subst h0;exact ih 0 (by omega) hl k
  rcases(QYj h hu (by omega) hl).1 k with rfl|k
  ·exact Nat.le_refl _
  have hp:=Qib h (by omega:0<v) hl;have:=ih (QGb T v) (by omega) (by omega) k;omega
theorem Q2q{T:List Qba}(h:Par T){u:Nat}(hu:u<T.length):∀(n v:Nat),v≤n→v<T.length→Und T u v→u≠v→∃c,0<c∧c<T.length∧QGb T c=u∧Und T c v∧c≤v:=by
 intro n
 induction n with
 | zero=>
  intro v hv hl k Hl;have:=Qsn h hu v v (Nat.le_refl _) hl k;omega
 | succ n ih=>
  intro v hv hl k Hl;have h0:0<v:=by have:=Qsn h hu v v (Nat.le_refl _) hl k;omega
  have hp:=Qib h h0 hl;rcases(QYj h hu h0 hl).1 k with e|k
  ·exact absurd e Hl
  by_cases e:u=QGb T v
  ·exact⟨v,h0,hl,e.symm,Qkg _ _,Nat.le_refl _⟩
  obtain⟨c,c0,c1,c2,c3,c4⟩:=ih (QGb T v) (by omega) (by omega) k e;exact⟨c,c0,c1,c2,Qii c3 (QFm h h0 hl),by omega⟩
theorem Qjh{T:List Qba}(h:Par T){c v:Nat}(c0:0<c)(hc:c<T.length)(k:Und T c v):∃q,pc T v=pc T (QGb T c)++(Qya T c,c)::q:=by
 obtain⟨q,hq⟩:=k;rw[Qtb h c0 hc]at hq;exact⟨q,by rw[←hq];simp⟩
end Go.Proofs.YtgaboghigefgbaaGreatDoor
open Go
namespace Go.Proofs.YtgaboghigefgbaaGreatDoor
def QBi(T:List Qba)(i:Nat)(l:List Nat):Nat:=(l.takeWhile fun c=>!ltS (Qya T i) (Qya T c)).length
def QLp(T:List Qba)(i:Nat)(l:List Nat):List Nat:=l.take (QBi T i l)++i::l.drop (QBi T i l)
theorem Q2m(T:List Qba)(i:Nat):QLp T i []=[i]:=rfl
theorem QBk(T:List Qba)(i c:Nat)(l:List Nat):QLp T i (c::l)=if ltS (Qya T i) (Qya T c)=true then i::c::l else c::QLp T i l:=by
 unfold QLp QBi;by_cases h:ltS (Qya T i) (Qya T c)=true
 ·simp[h]
 simp[h]
def Qkd(T:List Qba)(u:Nat):Nat→List Nat
 | 0=>[]
 | k+1=>if k≠0∧QWa T k=(u:Int)then QLp T k (Qkd T u k)else Qkd T u k
def QEa(T:List Qba)(u:Nat):List Nat:=Qkd T u T.length
def Qip(T:List Qba)(i:Nat):Q0e:=(Qya T i,i)
theorem Q1m(T:List Qba)(i:Nat):∀(l:List Nat) (x:Nat),x∈QLp T i l↔x=i∨x∈l:=by
 intro l
 induction l with
 | nil=>intro x;simp[Q2m]
 | cons c l ih=>
  intro x;rw[QBk];split
  ·simp
  simp only[List.mem_cons,ih];constructor
  ·rintro(h|h|h) <;> simp[h]
  rintro(h|h|h) <;> simp[h]
theorem Q0f(T:List Qba)(i:Nat)(l:List Nat):(QLp T i l).length=l.length+1:=by
 unfold QLp;simp[List.length_take,List.length_drop];have:QBi T i l≤l.length:=(List.takeWhile_sublist _).length_le;omega
theorem QYl(T:List Qba)(i:Nat):∀(l:List Nat),(∀c∈l,c<i)→l.Pairwise (fun a b=>ltC (Qip T a) (Qip T b))→(QLp T i l).Pairwise (fun a b=>ltC (Qip T a) (Qip T b)):=by
 intro l
 induction l with
 | nil=>intro _ _;rw[Q2m];exact List.pairwise_singleton _ _
 | cons c l ih=>
  intro hl hp;rw[List.pairwise_cons]at hp;rw[QBk];split
  ·rename_i h;rw[List.pairwise_cons];refine⟨?_,List.pairwise_cons.2 hp⟩;intro x hx;have GB:ltC (Qip T i) (Qip T c):=.inl h;rcases List.mem_cons.1 hx with rfl|hx
   ·exact GB
   exact QPh GB (hp.1 x hx)
  rename_i h;rw[List.pairwise_cons];refine⟨?_,ih (fun x hx=>hl x (by simp[hx])) hp.2⟩;intro x hx;rcases(Q1m T i l x).1 hx with rfl|hx
  ·have Hh:=hl c (by simp);rcases Qad (Bool.eq_false_iff.2 h)with e|e
   ·exact .inr ⟨e.symm,Hh⟩
   exact .inl e
  exact hp.1 x hx
theorem QTd(T:List Qba)(u:Nat):∀k,(∀c,c∈Qkd T u k↔c<k∧0<c∧QWa T c=(u:Int))∧(Qkd T u k).Pairwise (fun a b=>ltC (Qip T a) (Qip T b)):=by
 intro k
 induction k with
 | zero=>exact⟨fun c=>by simp[Qkd],List.Pairwise.nil⟩
 | succ k ih=>
  obtain⟨h1,h2⟩:=ih;simp only[Qkd];split
  ·rename_i hk;refine⟨fun c=>?_,QYl T k _ (fun c hc=>((h1 c).1 hc).1) h2⟩;rw[Q1m,h1];constructor
   ·rintro(rfl|⟨a,b,d⟩)
    ·exact⟨by omega,by omega,hk.2⟩
    exact⟨by omega,b,d⟩
   rintro⟨a,b,d⟩;by_cases e:c=k
   ·exact .inl e
   exact .inr ⟨by omega,b,d⟩
  rename_i hk;refine⟨fun c=>?_,h2⟩;rw[h1];constructor
  ·rintro⟨a,b,d⟩;exact⟨by omega,b,d⟩
  rintro⟨a,b,d⟩;refine⟨?_,b,d⟩;by_cases e:c=k
  ·subst e;exact absurd ⟨by omega,d⟩ hk
  omega
theorem QNh(T:List Qba)(u:Nat):∀k,(Qkd T u k).length≤k:=by
 intro k
 induction k with
 | zero=>simp[Qkd]
 | succ k ih=>
  simp only[Qkd];split
  ·rw[Q0f];omega
  omega
theorem QHc(T:List Qba)(u c:Nat):c∈QEa T u↔c<T.length∧0<c∧QWa T c=(u:Int):=(QTd T u T.length).1 c
def QZa(T:List Qba):Nat→Nat→List Nat
 | 0,u=>[u]
 | f+1,u=>u::(QEa T u).flatMap (QZa T f)
def ltI(T:List Qba)(a b:Nat):Prop:=ltP (pc T a) (pc T b)
theorem QGj{T:List Qba}{u c:Nat}(hc:QWa T c=(u:Int)):QGb T c=u:=by unfold QGb;rw[hc];simp
theorem QIg{T:List Qba}(h:Par T):∀(f u:Nat),u<T.length→T.length≤u+f→(∀v,v∈QZa T f u↔v<T.length∧Und T u v)∧(QZa T f u).Pairwise (ltI T):=by
 intro f
 induction f with
 | zero=>intro u hu hf;omega
 | succ f ih=>
  intro u hu hf;have hk:∀c,c∈QEa T u→c<T.length∧0<c∧QGb T c=u∧u<c:=by
   intro c hc;obtain⟨h1,h2,h3⟩:=(QHc T u c).1 hc;have:=(h c h2 h1).2;exact⟨h1,h2,QGj h3,by omega⟩
  have hi:=fun c hc=>ih c (hk c hc).1 (by have:=(hk c hc).2.2.2;omega);have KF:∀v,v∈QZa T (f+1) u↔v<T.length∧Und T u v:=by
   intro v;simp only[QZa,List.mem_cons,List.mem_flatMap];constructor
   ·rintro(rfl|⟨c,hc,hv⟩)
    ·exact⟨hu,Qkg _ _⟩
    obtain⟨a,b⟩:=((hi c hc).1 v).1 hv;obtain⟨c1,c2,c3,c4⟩:=hk c hc;exact⟨a,Qii (by rw[←c3];exact QFm h c2 c1) b⟩
   rintro⟨hv,rB⟩;by_cases e:u=v
   ·exact .inl e.symm
   obtain⟨c,c0,c1,c2,c3,c4⟩:=Q2q h hu v v (Nat.le_refl _) hv rB e;have hc:c∈QEa T u:=(QHc T u c).2 ⟨c1,c0,by have:=(Qib h c0 c1).2;omega⟩;exact .inr ⟨c,hc,((hi c hc).1 v).2 ⟨hv,c3⟩⟩
  refine⟨KF,?_⟩;simp only[QZa];rw[List.pairwise_cons];refine⟨?_,?_⟩
  ·intro v hv;obtain⟨c,hc,hv⟩:=List.mem_flatMap.1 hv;obtain⟨c1,c2,c3,c4⟩:=hk c hc;obtain⟨q,hq⟩:=Qjh h c2 c1 (((hi c hc).1 v).1 hv).2;unfold ltI;rw[hq,c3];exact QSe _ _ _
  rw[List.pairwise_flatMap];refine⟨fun c hc=>(hi c hc).2,?_⟩;have hp:(QEa T u).Pairwise (fun a b=>a∈QEa T u∧b∈QEa T u∧ltC (Qip T a) (Qip T b)):=by
   have h2:=(QTd T u T.length).2;exact List.Pairwise.and_mem.1 h2
  refine hp.imp ?_;rintro a b ⟨ha,hb,KN⟩ x hx y hy;obtain⟨a1,a2,a3,a4⟩:=hk a ha;obtain⟨b1,b2,b3,b4⟩:=hk b hb;obtain⟨q,hq⟩:=Qjh h a2 a1 (((hi a ha).1 x).1 hx).2;obtain⟨r,hr⟩:=Qjh h b2 b1 (((hi b hb).1 y).1 hy).2;unfold ltI;rw[hq,hr,a3,b3];exact Q4f _ _ _ KN
theorem QMc{T:List Qba}{l:List Nat}(h:l.Pairwise (ltI T)):l.Nodup:=h.imp (fun {a b} KN e=>by subst e;exact QRe _ KN)
theorem Qsl{T:List Qba}(h:Par T)(f u:Nat)(hu:u<T.length)(hf:T.length≤u+f):(QZa T f u).length≤T.length:=by
 obtain⟨h1,h2⟩:=QIg h f u hu hf;have:=(QMc h2).length_le_of_subset (l₂:=List.range T.length) (fun v hv=>List.mem_range.2 ((h1 v).1 hv).1);simpa using this
def Qgb(T:List Qba):List Nat:=QZa T T.length 0
theorem Qec{T:List Qba}(h:Par T)(h0:0<T.length):(∀v,v∈Qgb T↔v<T.length)∧(Qgb T).Pairwise (ltI T):=by
 obtain⟨h1,h2⟩:=QIg h T.length 0 h0 (by omega);exact⟨fun v=>by rw[show Qgb T=QZa T T.length 0 from rfl,h1];exact⟨fun k=>k.1,fun k=>⟨k,Qus T v⟩⟩,h2⟩
theorem Qce{l1 l2:List Nat}(h1:l1.Nodup)(h2:l2.Nodup)(h:∀v,v∈l1↔v∈l2):l1.Perm l2:=(List.perm_ext_iff_of_nodup h1 h2).2 h
theorem Qbq{T:List Qba}(h:Par T)(h0:0<T.length):(Qgb T).Perm (List.range T.length):=by
 obtain⟨h1,h2⟩:=Qec h h0;exact Qce (QMc h2) List.nodup_range (fun v=>by rw[h1,List.mem_range])
theorem QYc{T:List Qba}(h:Par T)(h0:0<T.length):(Qgb T).length=T.length:=by
 have:=(Qbq h h0).length_eq;simpa using this
theorem Qfm{T:List Qba}(h:Par T)(h0:0<T.length){l:List Nat}(hl:l.Pairwise (ltI T))(hm:∀v,v∈l↔v<T.length):l=Qgb T:=by
 obtain⟨h1,h2⟩:=Qec h h0;exact List.Perm.eq_of_pairwise (le:=ltI T) (fun a b _ _ KN hba=>(QQh KN hba).elim) hl h2 (Qce (QMc hl) (QMc h2) (fun v=>by rw[hm,h1]))
theorem Qio{T:List Qba}(h:Par T)(h0:0<T.length):Qgb T=List.range T.length↔(List.range T.length).Pairwise (ltI T):=by
 constructor
 ·intro e;rw[←e];exact(Qec h h0).2
 intro k;exact(Qfm h h0 k (fun v=>List.mem_range)).symm
end Go.Proofs.YtgaboghigefgbaaGreatDoor
open Go
namespace Go.Proofs.YtgaboghigefgbaaGreatDoor
theorem QVp(x:ByteArray):ltS x ByteArray.empty=false:=by
 unfold ltS;have:ByteArray.empty.toList=[]:=by rw[ByteArray.toList_eq];rfl
 rw[this];cases x.toList <;> rfl
theorem QLk{a b:ByteArray}(h:ltS a b=true):ltS b a=false:=by
 cases k:ltS b a with
 | false=>rfl
 | true=>have:=Q5b h k;rw[Qqb]at this;cases this
def Q7g(T:List Qba)(u:Nat):Nat→ByteArray
 | 0=>ByteArray.empty
 | k+1=>if k≠0∧QWa T k=(u:Int)then Qya T k else Q7g T u k
theorem Q3l(T:List Qba)(u:Nat):∀k,Q7g T u k=ByteArray.empty∨∃c,c<k∧0<c∧QWa T c=(u:Int)∧Q7g T u k=Qya T c:=by
 intro k
 induction k with
 | zero=>exact .inl rfl
 | succ k ih=>
  simp only[Q7g];split
  ·rename_i h;exact .inr ⟨k,by omega,by omega,h.2,rfl⟩
  rcases ih with e|⟨c,h1,h2,h3,h4⟩
  ·exact .inl e
  exact .inr ⟨c,by omega,h2,h3,h4⟩
theorem QQp(T:List Qba)(u c:Nat)(c0:0<c)(hc:QWa T c=(u:Int)):∀k,c<k→(∀d,c<d→d<k→QWa T d≠(u:Int))→Q7g T u k=Qya T c:=by
 intro k
 induction k with
 | zero=>intro h;omega
 | succ k ih=>
  intro h hd;simp only[Q7g];by_cases e:c=k
  ·subst e;rw[if_pos ⟨by omega,hc⟩]
  rw[if_neg (fun x=>hd k (by omega) (by omega) x.2)];exact ih (by omega) (fun d h1 h2=>hd d h1 (by omega))
def Qbu(T:List Qba)(i:Nat):Prop:=Und T (QGb T i) (i-1)∧ltS (Qya T i) (Q7g T (QGb T i) i)=false
theorem Q3q{T:List Qba}(h:Par T)(hr:QWa T 0 = -1){p:Nat}(hp:p<T.length):∀(f v:Nat),v<T.length→v+1≤f→(Und T p v→QHg T p f v=p)∧(¬Und T p v→QHg T p f v = -1):=by
 intro f
 induction f with
 | zero=>intro v _ hf;omega
 | succ f ih=>
  intro v hv hf;simp only[QHg];by_cases e:v=p
  ·subst e;rw[if_pos (.inr rfl)];exact⟨fun _=>rfl,fun k=>absurd (Qkg _ _) k⟩
  rw[if_neg (by omega),Int.toNat_natCast];by_cases h0:v=0
  ·subst h0;rw[hr];have hn:¬Und T p 0:=fun k=>by have:=Qsn h hp 0 0 (Nat.le_refl _) hv k;omega
   have hu:QHg T p f (-1) = -1:=by cases f with
    | zero=>rfl
    | succ f=>simp only[QHg];rw[if_pos (.inl (by omega))]
   exact⟨fun k=>absurd k hn,fun _=>hu⟩
  have gz:=Qib h (by omega:0<v) hv;have:=ih (QGb T v) (by omega) (by omega);rw[gz.2]at this;rw[QYj h hp (by omega) hv];exact⟨fun k=>this.1 (k.resolve_left (fun x=>e x.symm)),fun k=>this.2 (fun x=>k (.inr x))⟩
theorem QIm{T:List Qba}(h:Par T)(hr:QWa T 0 = -1):∀(k i:Nat) (last:List ByteArray),i+k=T.length→last.length=T.length→(∀u,u<T.length→last.getD u ByteArray.empty=Q7g T u i)→
 (QQb T i last (T.drop i)=true↔(∀j,i≤j→j<T.length→Qjd (QZb T j)=true)∧∀j,i≤j→0<j→j<T.length→Qbu T j):=by
 intro k
 induction k with
 | zero=>
  intro i last hi _ _;rw[List.drop_eq_nil_of_le (by omega)];simp only[QQb,true_iff];exact⟨fun j h1 h2=>by omega,fun j h1 _ h2=>by omega⟩
 | succ k ih=>
  intro i last hi hl dw;have Hh:i<T.length:=by omega
  rw[List.drop_eq_getElem_cons Hh];simp only[QQb];rw[Bool.and_eq_true,←Qfb Hh];by_cases h0:i=0
  ·subst h0;rw[if_pos rfl,ih 1 last (by omega) hl (fun u hu=>by rw[dw u hu];rfl)];constructor
   ·rintro⟨a,b,c⟩;exact⟨fun j h1 h2=>by
     by_cases e:j=0
     ·subst e;exact a
     exact b j (by omega) h2,fun j _ h1 h2=>c j (by omega) h1 h2⟩
   rintro⟨a,b⟩;exact⟨a 0 (by omega) Hh,fun j h1 h2=>a j (by omega) h2,fun j _ h1 h2=>b j (by omega) h1 h2⟩
  rw[if_neg h0];have gz:=Qib h (by omega:0<i) Hh;have qi:=Q3q h hr (p:=QGb T i) (by omega) (i+1) (i-1) (by omega) (by omega);rw[gz.2,Qxa Hh,show((i-1:Nat):Int)=(i:Int)-1 from by omega]at qi;have kr:(decide (0≤QHg T T[i].parent (i+1) ((i:Int)-1)) && !ltS T[i].name (last.getD (QHg T T[i].parent (i+1) ((i:Int)-1)).toNat ByteArray.empty))=true↔Qbu T i:=by
   unfold Qbu;by_cases hu:Und T (QGb T i) (i-1)
   ·rw[qi.1 hu];rw[show((T[i].parent).toNat)=QGb T i from by unfold QGb;rw[Qxa Hh],dw _ (by omega),←QHa Hh];have:(0:Int)≤T[i].parent:=by rw[←Qxa Hh];omega
    simp[this,hu]
   rw[qi.2 hu];simp[hu]
  rw[Bool.and_eq_true,kr];constructor
  ·rintro⟨a,b,c⟩;have hu:=qi.1 b.1;rw[hu,show((T[i].parent).toNat)=QGb T i from by unfold QGb;rw[Qxa Hh]]at c;rw[ih (i+1) _ (by omega) (by simpa using hl) (by
    intro u hu;simp only[Q7g];rw[List.getD_eq_getElem?_getD,List.getElem?_set];by_cases e:QGb T i=u
    ·subst e;rw[if_pos rfl,if_pos (by omega),if_pos ⟨h0,gz.2.symm⟩,QHa Hh];rfl
    rw[if_neg e,if_neg (fun x=>e (by have:=x.2;omega)),←dw u hu,List.getD_eq_getElem?_getD])]at c
   exact⟨fun j h1 h2=>by
    by_cases e:j=i
    ·subst e;exact a
    ·exact c.1 j (by omega) h2,fun j h1 h2 h3=>by
    by_cases e:j=i
    ·subst e;exact b
    exact c.2 j (by omega) h2 h3⟩
  rintro⟨a,b⟩;have bi:=b i (Nat.le_refl _) (by omega) Hh;have hu:=qi.1 bi.1;rw[hu,show((T[i].parent).toNat)=QGb T i from by unfold QGb;rw[Qxa Hh]];rw[ih (i+1) _ (by omega) (by simpa using hl) (by
   intro u hu;simp only[Q7g];rw[List.getD_eq_getElem?_getD,List.getElem?_set];by_cases e:QGb T i=u
   ·subst e;rw[if_pos rfl,if_pos (by omega),if_pos ⟨h0,gz.2.symm⟩,QHa Hh];rfl
   rw[if_neg e,if_neg (fun x=>e (by have:=x.2;omega)),←dw u hu,List.getD_eq_getElem?_getD])]
  exact⟨a i (Nat.le_refl _) Hh,bi,fun j h1 h2=>a j (by omega) h2,fun j h1 h2 h3=>b j (by omega) h2 h3⟩
def Asc(T:List Qba):Prop:=∀i,0<i→i<T.length→ltI T (i-1) i
theorem QFl{T:List Qba}(h:Asc T):∀(j i:Nat),i<j→j<T.length→ltI T i j:=by
 intro j
 induction j with
 | zero=>intro i h;omega
 | succ j ih=>
  intro i hi hj;have hs:=h (j+1) (by omega) hj;rw[Nat.add_sub_cancel]at hs;by_cases e:i=j
  ·subst e;exact hs
  exact Q5f (ih i (by omega) (by omega)) hs
theorem Q0o{T:List Qba}:(List.range T.length).Pairwise (ltI T)↔Asc T:=by
 rw[List.pairwise_iff_getElem];constructor
 ·intro h i h0 hi;have:=h (i-1) i (by simp;omega) (by simpa using hi) (by omega);simpa using this
 intro h i j hi hj kV;simp only[List.getElem_range];exact QFl h j i kV (by simpa using hj)
theorem Qcu{T:List Qba}(h:Par T)(kr:∀i,0<i→i<T.length→Qbu T i):∀(n i:Nat),i≤n→0<i→i<T.length→ltI T (i-1) i:=by
 intro n
 induction n with
 | zero=>intro i h1 h2;omega
 | succ n ih=>
  intro i hn h0 hi;by_cases Mo:i≤n
  ·exact ih i Mo h0 hi
  have Ha:∀(b a:Nat),a<b→b<i→ltI T a b:=by
   intro b
   induction b with
   | zero=>intro a h;omega
   | succ b ihb=>
    intro a KN fY;have hs:=ih (b+1) (by omega) (by omega) (by omega);rw[Nat.add_sub_cancel]at hs;by_cases e:a=b
    ·subst e;exact hs
    exact Q5f (ihb a (by omega) (by omega)) hs
  obtain⟨hu,mg⟩:=kr i h0 hi;have gz:=Qib h h0 hi;unfold ltI;rw[Qtb h h0 hi];by_cases e:QGb T i=i-1
  ·rw[e];exact QSe _ _ _
  obtain⟨c,c0,c1,c2,c3,c4⟩:=Q2q h (by omega) (i-1) (i-1) (Nat.le_refl _) (by omega) hu e;have kU:=(Qib h c0 c1).2;rw[c2]at kU;obtain⟨q,hq⟩:=Qjh h c0 c1 c3;rw[c2]at hq;have pw:Q7g T (QGb T i) i=Qya T c:=QQp T _ c c0 kU.symm i (by omega) (by
   intro d Gy aG MI;have eB:=Qib h (by omega:0<d) (by omega);have lr:QGb T d=QGb T i:=by have:=eB.2;omega
   have c9:=Ha d c Gy aG;unfold ltI at c9;rw[Qtb h c0 c1,Qtb h (by omega:0<d) (by omega),c2,lr]at c9;have Hh:=QHj _ c9;have mc:ltP (pc T (i-1)) (pc T d):=by
    rw[hq,Qtb h (by omega:0<d) (by omega),lr];exact Q4f _ _ _ Hh
   by_cases e2:d=i-1
   ·rw[e2]at mc;exact QRe _ mc
   exact QQh mc (Ha (i-1) d (by omega) (by omega)))
  rw[pw]at mg;rw[hq];refine Q4f _ _ _ ?_;rcases Qad mg with e2|e2
  ·exact .inr ⟨e2.symm,by show c<i;omega⟩
  exact .inl e2
theorem QVt{T:List Qba}(h:Par T)(ha:Asc T)(i:Nat)(h0:0<i)(hi:i<T.length):Qbu T i:=by
 have gz:=Qib h h0 hi;have Hk:=ha i h0 hi;refine⟨?_,?_⟩
 ·by_cases e:QGb T i=i-1
  ·rw[e];exact Qkg _ _
  have h1:ltP (pc T (QGb T i)) (pc T (i-1)):=QFl ha (i-1) (QGb T i) (by omega) (by omega);unfold ltI at Hk;rw[Qtb h h0 hi]at Hk;obtain⟨y,q,hq,_⟩:=QRh _ _ _ h1 Hk;exact⟨y::q,hq.symm⟩
 rcases Q3l T (QGb T i) i with e|⟨c,h1,h2,h3,h4⟩
 ·rw[e];exact QVp _
 rw[h4];have hc:=QFl ha i c h1 hi;unfold ltI at hc;rw[Qtb h h2 (by omega),Qtb h h0 hi,QGj h3]at hc;rcases QHj _ hc with k|⟨k,_⟩
 ·exact QLk k
 have k:Qya T c=Qya T i:=k;rw[k];exact Qqb _
theorem QJg{T:List Qba}(h:Par T)(hr:QWa T 0 = -1):Qxb T=true↔(∀j,j<T.length→Qjd (QZb T j)=true)∧Asc T:=by
 unfold Qxb;have:=QIm h hr T.length 0 (List.replicate T.length ByteArray.empty) (by omega) (by simp) (by
  intro u hu;simp[Q7g,List.getD_eq_getElem?_getD,hu])
 rw[List.drop_zero]at this;rw[this];constructor
 ·rintro⟨a,b⟩;exact⟨fun j hj=>a j (by omega) hj,fun i h0 hi=>Qcu h (fun j hj0 hj=>b j (by omega) hj0 hj) i i (Nat.le_refl _) h0 hi⟩
 rintro⟨a,b⟩;exact⟨fun j _ hj=>a j hj,fun j _ h0 hj=>QVt h b j h0 hj⟩
end Go.Proofs.YtgaboghigefgbaaGreatDoor
open Go
namespace Go.Proofs.YtgaboghigefgbaaGreatDoor
theorem QTb{T:List Qba}(h:Q3a T=true)(h0:0<T.length):QWa T 0 = -1:=by
 rw[Qxa h0];exact(Quc h 0 h0).1 rfl
theorem Qhj{T:List Qba}(h:Q3a T=true)(h0:0<T.length):Qxb T=(decide (Qgb T=List.range T.length)&&T.all fun n=>Qjd n.props):=by
 have hp:=QBa h;rw[Bool.eq_iff_iff,QJg hp (QTb h h0),Bool.and_eq_true,decide_eq_true_iff,Qio hp h0,Q0o,List.all_eq_true];constructor
 ·rintro⟨a,b⟩;refine⟨b,fun n hn=>?_⟩;obtain⟨k,hk,rfl⟩:=List.mem_iff_getElem.1 hn;have:=a k hk;rwa [Qfb hk]at this
 rintro⟨a,b⟩;exact⟨fun j hj=>by rw[Qfb hj];exact b _ (List.getElem_mem hj),a⟩
def QUm(T:List Qba)(i:Nat):Nat→Bool
 | 0=>false
 | k+1=>QUm T i k||(decide (0<k)&&decide (QWa T k=QWa T i)&&eqS (Qya T k) (Qya T i))
theorem Qdh(T:List Qba)(i:Nat):∀k,QUm T i k=true↔∃c,0<c∧c<k∧QWa T c=QWa T i∧Qya T c=Qya T i:=by
 intro k
 induction k with
 | zero=>simp[QUm]
 | succ k ih=>
  simp only[QUm,Bool.or_eq_true,ih,Bool.and_eq_true,decide_eq_true_iff,QCa];constructor
  ·rintro(⟨c,h1,h2,h3⟩|⟨⟨h1,h2⟩,h3⟩)
   ·exact⟨c,h1,by omega,h3⟩
   exact⟨k,h1,by omega,h2,h3⟩
  rintro⟨c,h1,h2,h3,h4⟩;by_cases e:c=k
  ·subst e;exact .inr ⟨⟨h1,h3⟩,h4⟩
  exact .inl ⟨c,h1,by omega,h3,h4⟩
def Q5e(T:List Qba):Bool:=(List.range T.length).any fun i=>QUm T i i
theorem Q1q{T:List Qba}(h:Q3a T=true){i:Nat}(hi:i<T.length) :
 (decide (0<i)&&((T.take i).map fun n=>(n.name,n.parent)).any (fun x=>eqS x.1 T[i].name&&decide (x.2=T[i].parent)))=QUm T i i:=by
 rw[Bool.eq_iff_iff,Qdh,Bool.and_eq_true,decide_eq_true_iff,List.any_eq_true];constructor
 ·rintro⟨h0,x,hx,hx2⟩;obtain⟨n,hn,rfl⟩:=List.mem_map.1 hx;obtain⟨c,hc,rfl⟩:=List.mem_iff_getElem.1 hn;have KY:c<i:=by simp at hc;omega
  have gG:c<T.length:=by omega
  rw[List.getElem_take]at hx2;rw[Bool.and_eq_true,QCa,decide_eq_true_iff]at hx2;refine⟨c,?_,KY,by rw[Qxa gG,Qxa hi];exact hx2.2,by rw[QHa gG,QHa hi];exact hx2.1⟩;by_cases e:c=0
  ·subst e;have h1:=(Quc h 0 gG).1 rfl;have h2:=(Quc h i hi).2 h0;have:=hx2.2;omega
  omega
 rintro⟨c,h1,h2,h3,h4⟩;have gG:c<T.length:=by omega
 refine⟨by omega,(T[c].name,T[c].parent),List.mem_map.2 ⟨T[c],?_,rfl⟩,?_⟩
 ·exact List.mem_iff_getElem.2 ⟨c,by simp;omega,by simp⟩
 rw[Bool.and_eq_true,QCa,decide_eq_true_iff];rw[Qxa gG,Qxa hi]at h3;rw[QHa gG,QHa hi]at h4;exact⟨h4,h3⟩
theorem QZq{T:List Qba}(h:Q3a T=true):∀(k i:Nat),i+k=T.length→QEi i ((T.take i).map fun n=>(n.name,n.parent)) (T.drop i)=(List.range' i k).any fun j=>QUm T j j:=by
 intro k
 induction k with
 | zero=>intro i hi;rw[List.drop_eq_nil_of_le (by omega)];rfl
 | succ k ih=>
  intro i hi;have Hh:i<T.length:=by omega
  rw[List.drop_eq_getElem_cons Hh,List.range'_succ];simp only[QEi,List.any_cons];rw[Q1q h Hh,←ih (i+1) (by omega)];rw[List.take_succ_eq_append_getElem Hh,List.map_append]
  rfl
theorem QXj{T:List Qba}(h:Q3a T=true):QFi T=Q5e T:=by
 unfold QFi Q5e;have:=QZq h T.length 0 (by omega);rw[List.drop_zero]at this;rw[List.range_eq_range',←this]
 rfl
end Go.Proofs.YtgaboghigefgbaaGreatDoor
open Go
namespace Go.Proofs.YtgaboghigefgbaaGreatDoor
def QUu(c:Q0e):List UInt8:=47::c.1.data.toList
def Q5d(p:List Q0e):List UInt8:=p.flatMap QUu
def Qab(T:List Qba)(k:Nat):ByteArray:=if k=0 then⟨#[47]⟩else⟨(Q5d (pc T k)).toArray⟩
theorem Qog(p:List Q0e)(c:Q0e):Q5d (p++[c])=Q5d p++(47::c.1.data.toList):=by simp[Q5d,QUu]
theorem QTh{T:List Qba}(h:Q3a T=true)(k:Nat)(hk:k<T.length):T[k].name.size≤31:=by
 have h1:=(Qtd T 0 h k hk).1;rw[Nat.zero_add]at h1;unfold QHd at h1;by_cases h0:k=0
 ·subst h0;rw[if_pos rfl,Bool.and_eq_true]at h1;have:=(QCa _ _).1 h1.2;rw[this];decide
 rw[if_neg h0,Bool.and_eq_true]at h1;have:=h1.2;unfold QTa at this;rw[Bool.and_eq_true,Bool.and_eq_true,decide_eq_true_iff]at this;have:=this.1.1.2;simpa using this
theorem QJh{T:List Qba}(h:Q3a T=true):∀(n k:Nat),k≤n→k<T.length→(Q5d (pc T k)).length≤32*k:=by
 intro n
 induction n with
 | zero=>intro k hk _;have:k=0:=by omega
         subst this;simp[Qbe,Q5d]
 | succ n ih=>
  intro k hk hl;by_cases h0:k=0
  ·subst h0;simp[Qbe,Q5d]
  have hp:=Qib (QBa h) (by omega:0<k) hl;rw[Qtb (QBa h) (by omega) hl,Qog,List.length_append];have h1:=ih (QGb T k) (by omega) (by omega);have h2:=QTh h k hl;rw[QHa hl];simp;omega
def QAe(T:List Qba)(s:ByteArray)(i:Nat):Bool:=eqS (Qab T i) s
def QSb(T:List Qba)(s:ByteArray):Int:=match (List.range T.length).find? (QAe T s)with
 | some i=>i
 | none => -1
theorem QHh{T:List Qba}{s:ByteArray}{i:Nat}(hi:i<T.length)(h:eqS (Qab T i) s=true)(hn:∀q:Nat,q<i→eqS (Qab T q) s=false):QSb T s=i:=by
 unfold QSb;have:(List.range T.length).find? (QAe T s)=some i:=by
  rw[List.find?_range_eq_some];exact⟨h,List.mem_range.2 hi,fun j hj=>by show(!QAe T s j)=true;unfold QAe;rw[hn j hj];rfl⟩
 rw[this]
theorem Q0m{T:List Qba}{s:ByteArray}(hn:∀q:Nat,q<T.length→eqS (Qab T q) s=false):QSb T s = -1:=by
 unfold QSb;have:(List.range T.length).find? (QAe T s)=none:=by
  rw[List.find?_range_eq_none];intro j hj;show(!QAe T s j)=true;unfold QAe;rw[hn j hj];rfl
 rw[this]
theorem QSf(T:List Qba)(s:ByteArray):QSb T s = -1∨∃i:Nat,i<T.length∧QSb T s=i∧Qab T i=s:=by
 unfold QSb;cases h:(List.range T.length).find? (QAe T s)with
 | none=>exact .inl rfl
 | some i=>
  have:=List.find?_range_eq_some.1 h;exact .inr ⟨i,List.mem_range.1 this.2.1,rfl,(QCa _ _).1 this.1⟩
def Qua(T:List Qba)(s:ByteArray):Int × Int:=if Qia T≠0 then(0,Qia T)else if 0≤QSb T s then(QSb T s,0)else(0,4)
def QXk(T:List Qba)(node:Int):ByteArray:=if Qia T≠0∨node<0∨T.length≤node then ByteArray.empty else Qab T node.toNat
end Go.Proofs.YtgaboghigefgbaaGreatDoor
open Go
namespace Go.Proofs.YtgaboghigefgbaaGreatDoor
def Q6b(L:List Qba)(k:Nat):Qba:=⟨if k=0 then QWa L 0 else(((Qgb L).idxOf (QGb L k):Nat):Int),Qya L k,QZb L k⟩
def Qta(L:List Qba):List Qba:=(Qgb L).map (Q6b L)
theorem QDs{l:List Nat}(h:l.Nodup)(i:Nat)(hi:i<l.length):l.idxOf l[i]=i:=by
 have h1:l.idxOf l[i]<l.length:=List.idxOf_lt_length_iff.2 (List.getElem_mem hi);have h2:l[l.idxOf l[i]]=l[i]:=List.getElem_idxOf h1;exact(List.getElem_inj h).1 h2
theorem QEj{l:List Nat}{x:Nat}(h:x∈l):∃hi:l.idxOf x<l.length,l[l.idxOf x]=x:=⟨List.idxOf_lt_length_iff.2 h,List.getElem_idxOf _⟩
end Go.Proofs.YtgaboghigefgbaaGreatDoor
open Go
namespace Go.Proofs.YtgaboghigefgbaaGreatDoor
def QRa(k:Int)(s:ByteArray)(n:Qba):Bool:=decide (n.parent=k)&&eqS n.name s
def QQc(T:List Qba)(s name:ByteArray):List Qba × Int:=
 if (Qua T s).2≠0 then([],(Qua T s).2)else
  if QTa name.data.toList=false then([],1)else
   if T.any (QRa (Qua T s).1 name)=true then([],5)else
    if 8≤Q8b T T.length (Qua T s).1 then([],2)else
     if 120≤T.length then([],3)else(Qta (T++[⟨(Qua T s).1,name,[]⟩]),0)
theorem Qkb(T:List Qba)(s:ByteArray):((Qua T s).2≠0∧(Qua T s).1=0)∨(Qia T=0∧∃k:Nat,k<T.length∧Qua T s=((k:Int),0)∧Qab T k=s):=by
 unfold Qua;by_cases h:Qia T=0
 ·rw[if_neg (by simp[h])];rcases QSf T s with e|⟨k,hk,e,hp⟩
  ·rw[e];left;simp
  rw[e];right;refine⟨h,k,hk,?_,hp⟩;rw[if_pos (by omega)]
 rw[if_pos h];left;exact⟨h,rfl⟩
theorem Qbn{T:List Qba}(h:Par T){n:Qba}{k:Nat}(hn:n.parent=(k:Int))(hk:k<T.length):Par (T++[n]):=by
 intro i h0 hi;have hlen:(T++[n]).length=T.length+1:=by simp
 by_cases e:i<T.length
 ·have:=h i h0 e;rw[Qxa hi,List.getElem_append_left e,←Qxa e];exact this
 have e2:i=T.length:=by omega
 subst e2;rw[Qxa hi,List.getElem_append_right (Nat.le_refl _)];simp[hn];omega
end Go.Proofs.YtgaboghigefgbaaGreatDoor
open Go
namespace Go.Proofs.YtgaboghigefgbaaGreatDoor
def QYe(l:List Qqa)(x:ByteArray):Nat:=Qmb l x+if Qtc l x=true then 1 else 0
def QOc(l:List Qqa)(p:Qqa):List Qqa:=l.take (Qmb l p.name)++p::l.drop (QYe l p.name)
theorem QJk(l:List Qqa)(x:ByteArray):Qmb l x≤l.length:=(List.takeWhile_sublist _).length_le
theorem Qpm(l:List Qqa)(x:ByteArray):Qmb l x≤QYe l x∧QYe l x≤l.length∧QYe l x≤Qmb l x+1:=by
 have h1:=QJk l x;unfold QYe;split
 ·rename_i h;have:Qmb l x<l.length:=by
   unfold Qtc at h;by_cases e:Qmb l x<l.length
   ·exact e
   rw[List.getElem?_eq_none (by omega)]at h;cases h
  omega
 omega
theorem Q1r(l:List Qqa)(x:ByteArray)(k:Nat)(hk:k<l.length):(l.drop k).takeWhile (fun p=>ltS p.name x)=if ltS l[k].name x=true then l[k]::(l.drop (k+1)).takeWhile (fun p=>ltS p.name x)else []:=by
 rw[List.drop_eq_getElem_cons hk,List.takeWhile_cons]
theorem Qyk{l:List Qqa}{x:ByteArray}(hk:Qmb l x<l.length):Qtc l x=eqS l[Qmb l x].name x:=by
 unfold Qtc;rw[List.getElem?_eq_getElem hk]
theorem QUf{l:List Qqa}{x:ByteArray}(hk:l.length≤Qmb l x):Qtc l x=false:=by
 unfold Qtc;rw[List.getElem?_eq_none hk]
def Qge(n:Qba)(p:Qqa):Qba:=⟨n.parent,n.name,QOc n.props p⟩
def QJb(T:List Qba)(k:Nat)(p:Qqa):List Qba:=match T[k]? with
 | some n=>T.set k (Qge n p)
 | none=>T
def Qid(T:List Qba)(s name value:ByteArray):List Qba × Int:=
 if (Qua T s).2≠0 then([],(Qua T s).2)else
  if Q6a name=false then([],1)else
   if Qza (QJb T (Qua T s).1.toNat ⟨name,value⟩)=false then([],3)else(QJb T (Qua T s).1.toNat ⟨name,value⟩,0)
end Go.Proofs.YtgaboghigefgbaaGreatDoor
open Go
namespace Go.Proofs.YtgaboghigefgbaaGreatDoor
def QUc(T:List Qba):Prop:=0<T.length∧Par T∧QWa T 0 = -1
theorem Q3r{L:List Qba}(h0:0<L.length):(Qgb L)[0]? = some 0:=by
 unfold Qgb;obtain⟨n,hn⟩:∃n,L.length=n+1:=⟨L.length-1,by omega⟩;rw[hn];simp[QZa]
theorem QWb{L:List Qba}(h:Par L)(h0:0<L.length):(Qta L).length=L.length:=by unfold Qta;rw[List.length_map];exact QYc h h0
theorem QIe{L:List Qba}(i:Nat)(hi:i<(Qgb L).length):(Qta L)[i]'(by unfold Qta;simpa using hi)=Q6b L (Qgb L)[i]:=by simp[Qta]
theorem QLj{L:List Qba}(h0:0<L.length)(hi:0<(Qgb L).length):(Qgb L)[0]=0:=by
 have:=Q3r h0;rw[List.getElem?_eq_getElem hi]at this;exact Option.some.inj this
theorem Qcq{L:List Qba}(h:Par L)(h0:0<L.length){i:Nat}(mf:0<i)(hi:i<(Qgb L).length):(Qgb L)[i]≠0∧(Qgb L).idxOf (QGb L (Qgb L)[i])<i:=by
 obtain⟨h1,h2⟩:=Qec h h0;have ja:=QMc h2;have hz:(Qgb L)[i]≠0:=by
  intro e;have h3:=QLj h0 (show 0<(Qgb L).length by omega);have:i=0:=(List.getElem_inj ja).1 (by rw[e,h3]);omega
 refine⟨hz,?_⟩;have hk:=(h1 _).1 (List.getElem_mem hi);have gz:=Qib h (by omega:0<(Qgb L)[i]) hk;obtain⟨hq,rt⟩:=QEj ((h1 (QGb L (Qgb L)[i])).2 (by omega));by_cases Hh:(Qgb L).idxOf (QGb L (Qgb L)[i])<i
 ·exact Hh
 exfalso;have Hl:i≠(Qgb L).idxOf (QGb L (Qgb L)[i]):=by
  intro e;have:(Qgb L)[i]=QGb L (Qgb L)[i]:=by
   have h4:(Qgb L)[i]? = (Qgb L)[(Qgb L).idxOf (QGb L (Qgb L)[i])]?:=by rw[←e]
   rw[List.getElem?_eq_getElem hi,List.getElem?_eq_getElem hq,rt]at h4;exact Option.some.inj h4
  omega
 have hp:=(List.pairwise_iff_getElem.1 h2) i _ hi hq (by omega);rw[rt]at hp;unfold ltI at hp;rw[Qtb h (by omega) hk]at hp;exact QQh hp (QSe _ _ _)
theorem QHe{L:List Qba}(h:QUc L):QUc (Qta L):=by
 obtain⟨h0,hp,hr⟩:=h;have hl:=QWb hp h0;have KG:=QYc hp h0;refine⟨by omega,?_,?_⟩
 ·intro i mf hi;have mS:i<(Qgb L).length:=by omega
  obtain⟨hz,Hh⟩:=Qcq hp h0 mf mS;rw[Qxa hi,QIe i mS];unfold Q6b;simp only;rw[if_neg hz];omega
 have hi:0<(Qta L).length:=by omega
 rw[Qxa hi,QIe 0 (by omega),QLj h0 (by omega)];show(if (0:Nat)=0 then QWa L 0 else(((Qgb L).idxOf (QGb L 0):Nat):Int)) = -1;rw[if_pos rfl];exact hr
theorem QYd{T:List Qba}(h:QUc T){n:Qba}{k:Nat}(hn:n.parent=(k:Int))(hk:k<T.length):QUc (T++[n]):=by
 refine⟨by simp,Qbn h.2.1 hn hk,?_⟩;have h0:=h.1;have e:QWa (T++[n]) 0=QWa T 0:=by
  rw[Qxa (by simp),Qxa h0,List.getElem_append_left h0]
 rw[e];exact h.2.2
end Go.Proofs.YtgaboghigefgbaaGreatDoor
open Go
namespace Go.Proofs.YtgaboghigefgbaaGreatDoor
def sk(n:Qba):Int × ByteArray:=(n.parent,n.name)
theorem Qiq{T U:List Qba}(h:T.map sk=U.map sk)(i:Nat):QWa T i=QWa U i:=by
 have e:∀L:List Qba,QWa L i=((L.map sk)[i]?.map Prod.fst).getD (-1):=by
  intro L;unfold QWa;rw[List.getElem?_map];cases L[i]? <;> rfl
 rw[e,e,h]
theorem QHk{T U:List Qba}(h:T.map sk=U.map sk):T.length=U.length:=by simpa using congrArg List.length h
theorem QYt{T U:List Qba}(h:T.map sk=U.map sk):∀(f:Nat) (u:Int),Q8b T f u=Q8b U f u:=by
 intro f
 induction f with
 | zero=>intro u;rfl
 | succ f ih=>intro u;unfold Q8b;rw[Qiq h,ih]
theorem Qkp{T U:List Qba}(h:T.map sk=U.map sk):QEd T=QEd U:=by
 unfold QEd Q8s;rw[QHk h];simp only[QYt h]
theorem Q0q:∀(T U:List Qba) (i:Nat) (seen:List (ByteArray × Int)),T.map sk=U.map sk→QEi i seen T=QEi i seen U:=by
 intro T
 induction T with
 | nil=>intro U i seen h;cases U with
  | nil=>rfl
  | cons u U=>simp at h
 | cons n T ih=>intro U i seen h;cases U with
  | nil=>simp at h
  | cons u U=>
   simp only[List.map_cons,List.cons.injEq,sk,Prod.mk.injEq]at h;obtain⟨⟨h1,h2⟩,h3⟩:=h;unfold QEi;rw[h1,h2,ih U _ _ h3]
theorem QVu{T U:List Qba}(h:T.map sk=U.map sk)(p:Int):∀(f:Nat) (u:Int),QHg T p f u=QHg U p f u:=by
 intro f
 induction f with
 | zero=>intro u;rfl
 | succ f ih=>intro u;unfold QHg;rw[Qiq h,ih]
theorem Qvl{T U:List Qba}(h:T.map sk=U.map sk):∀(L M:List Qba) (i:Nat) (last:List ByteArray),L.map sk=M.map sk→(∀n∈M,Qjd n.props=true)→QQb T i last L=true→QQb U i last M=true:=by
 intro L
 induction L with
 | nil=>intro M i last hm ha hw;cases M with
  | nil=>rfl
  | cons u U=>simp at hm
 | cons n L ih=>intro M i last hm ha hw;cases M with
  | nil=>simp at hm
  | cons m M=>
   simp only[List.map_cons,List.cons.injEq,sk,Prod.mk.injEq]at hm;obtain⟨⟨h1,h2⟩,h3⟩:=hm;have hM:∀n∈M,Qjd n.props=true:=fun n hn=>ha n (List.mem_cons_of_mem _ hn);unfold QQb at hw ⊢;rw[Bool.and_eq_true]at hw ⊢;refine⟨ha m (List.mem_cons_self ..),?_⟩;by_cases h0:i=0
   ·rw[if_pos h0]at hw ⊢;exact ih M _ _ h3 hM hw.2
   rw[if_neg h0]at hw ⊢;simp only[Bool.and_eq_true]at hw ⊢;rw[←h2,←h1,←QVu h];exact⟨hw.2.1,ih M _ _ h3 hM hw.2.2⟩
theorem Q9m:∀(L M:List Qba) (i:Nat),L.map sk=M.map sk→(∀n∈M,n.props.all (fun p=>Q6a p.name)=true)→Qsd i L=true→Qsd i M=true:=by
 intro L
 induction L with
 | nil=>intro M i hm ha hw;cases M with
  | nil=>rfl
  | cons u U=>simp at hm
 | cons n L ih=>intro M i hm ha hw;cases M with
  | nil=>simp at hm
  | cons m M=>
   simp only[List.map_cons,List.cons.injEq,sk,Prod.mk.injEq]at hm;obtain⟨⟨h1,h2⟩,h3⟩:=hm;rw[QCf]at hw ⊢;simp only[Bool.and_eq_true]at hw ⊢;refine⟨⟨?_,ha m (List.mem_cons_self ..)⟩,ih M _ h3 (fun n hn=>ha n (List.mem_cons_of_mem _ hn)) hw.2⟩;have:=hw.1.1;unfold QHd at this ⊢;rw[←h1,←h2];exact this
theorem Qxt{l:List Qqa}{p q:Qqa}(h:q∈QOc l p):q=p∨q∈l:=by
 unfold QOc at h;rcases List.mem_append.1 h with h|h
 ·exact .inr (List.mem_of_mem_take h)
 rcases List.mem_cons.1 h with h|h
 ·exact .inl h
 exact .inr (List.mem_of_mem_drop h)
theorem Qtq(p:Qqa):QOc [] p=[p]:=rfl
theorem QOj{a p:Qqa}{r:List Qqa}(h:ltS a.name p.name=true):QOc (a::r) p=a::QOc r p:=by
 have e:Qmb (a::r) p.name=Qmb r p.name+1:=by unfold Qmb;rw[List.takeWhile_cons,if_pos h];rfl
 have e2:Qtc (a::r) p.name=Qtc r p.name:=by unfold Qtc;rw[e];rfl
 unfold QOc QYe;rw[e,e2,show Qmb r p.name+1+(if Qtc r p.name=true then 1 else 0)=(Qmb r p.name+if Qtc r p.name=true then 1 else 0)+1 from by omega]
 rfl
theorem QNj{a p:Qqa}{r:List Qqa}(h:ltS a.name p.name=false):QOc (a::r) p=p::(if a.name=p.name then r else a::r):=by
 have e:Qmb (a::r) p.name=0:=by unfold Qmb;rw[List.takeWhile_cons,if_neg (by simp[h])];rfl
 unfold QOc QYe Qtc;rw[e];by_cases he:a.name=p.name
 ·rw[if_pos he];simp[(QCa _ _).2 he]
 rw[if_neg he];have:eqS a.name p.name=false:=by
  cases h':eqS a.name p.name with
  | false=>rfl
  | true=>exact absurd ((QCa _ _).1 h') he
 simp[this]
theorem QOe{a:Qqa}{l:List Qqa}:Qjd (a::l)=true↔(∀b,l.head? = some b→ltS a.name b.name=true)∧Qjd l=true:=by
 cases l with
 | nil=>simp[Qjd]
 | cons b r=>simp[Qjd]
theorem Q0s:∀(l:List Qqa) (p:Qqa),Qjd l=true→Qjd (QOc l p)=true:=by
 intro l p
 induction l with
 | nil=>intro _;rfl
 | cons a r ih=>
  intro h;rw[QOe]at h;cases hl:ltS a.name p.name with
  | true=>
   rw[QOj hl,QOe];refine⟨fun b hb=>?_,ih h.2⟩;cases r with
   | nil=>rw[Qtq]at hb;cases hb;exact hl
   | cons c r=>
    cases h2:ltS c.name p.name with
    | true=>rw[QOj h2]at hb;cases hb;exact h.1 _ rfl
    | false=>rw[QNj h2]at hb;cases hb;exact hl
  | false=>
   rw[QNj hl];by_cases he:a.name=p.name
   ·rw[if_pos he,QOe];exact⟨fun b hb=>by rw[←he];exact h.1 b hb,h.2⟩
   rw[if_neg he,QOe];refine⟨fun b hb=>?_,QOe.2 h⟩;cases hb;rcases Qad hl with e|e
   ·exact absurd e he
   exact e
theorem QOa{T:List Qba}(h:Qia T=0):Qza T=true∧Q3a T=true∧Qxb T=true∧QFi T=false∧QEd T=false:=by
 unfold Qia at h;by_cases h1:Qza T=false
 ·rw[if_pos h1]at h;cases h
 rw[if_neg h1]at h;by_cases h2:Q3a T=false
 ·rw[if_pos h2]at h;cases h
 rw[if_neg h2]at h;by_cases h3:Qxb T=false
 ·rw[if_pos h3]at h;cases h
 rw[if_neg h3]at h;by_cases h4:QFi T=true
 ·rw[if_pos h4]at h;cases h
 rw[if_neg h4]at h;by_cases h5:QEd T=true
 ·rw[if_pos h5]at h;cases h
 exact⟨by simpa using h1,by simpa using h2,by simpa using h3,by simpa using h4,by simpa using h5⟩
theorem Qvj{T:List Qba}(h:Qza T=true∧Q3a T=true∧Qxb T=true∧QFi T=false∧QEd T=false):Qia T=0:=by
 unfold Qia;rw[if_neg (by simp[h.1]),if_neg (by simp[h.2.1]),if_neg (by simp[h.2.2.1]),if_neg (by simp[h.2.2.2.1]),if_neg (by simp[h.2.2.2.2])]
theorem QUj(T:List Qba)(k:Nat)(p:Qqa):T.map sk=(QJb T k p).map sk:=by
 unfold QJb;by_cases hk:k<T.length
 ·rw[List.getElem?_eq_getElem hk];simp only[List.map_set];rw[show sk (Qge T[k] p)=(T.map sk)[k]'(by simpa using hk)from by simp[sk,Qge],List.set_getElem_self]
 rw[List.getElem?_eq_none (by omega)]
theorem Qcl{T:List Qba}{k:Nat}{p:Qqa}{n:Qba}(h:n∈QJb T k p):n∈T∨∃m∈T,n=Qge m p:=by
 unfold QJb at h;by_cases hk:k<T.length
 ·rw[List.getElem?_eq_getElem hk]at h;rcases List.mem_or_eq_of_mem_set h with h|h
  ·exact .inl h
  exact .inr ⟨T[k],List.getElem_mem hk,h⟩
 rw[List.getElem?_eq_none (by omega)]at h;exact .inl h
theorem Qrm{T:List Qba}{k:Nat}{p:Qqa}(h:Qia T=0)(hp:Q6a p.name=true)(hl:Qza (QJb T k p)=true):Qia (QJb T k p)=0:=by
 have hs:=QUj T k p;have ha:=Qve h;obtain⟨h1,h2,h3,h4,h5⟩:=QOa h;have Gm:∀n∈T,n.props.all (fun p=>Q6a p.name)=true:=by
  intro n hn;obtain⟨i,hi,rfl⟩:=List.getElem_of_mem hn;exact(Qtd T 0 h2 i hi).2
 refine Qvj ⟨hl,?_,?_,?_,?_⟩
 ·refine Q9m T _ 0 hs (fun n hn=>?_) h2;rcases Qcl hn with h|⟨m,hm,rfl⟩
  ·exact Gm n h
  rw[List.all_eq_true];intro q hq;rcases Qxt hq with e|e
  ·rw[e];exact hp
  exact List.all_eq_true.1 (Gm m hm) q e
 ·unfold Qxb;rw[←QHk hs];refine Qvl hs T _ 0 _ hs (fun n hn=>?_) h3;rcases Qcl hn with h|⟨m,hm,rfl⟩
  ·exact ha n h
  exact Q0s _ _ (ha m hm)
 ·rw[←h4];exact(Q0q _ _ 0 [] hs).symm
 rw[←h5];exact(Qkp hs).symm
theorem Qel{T:List Qba}{s name value:ByteArray}(he:(Qid T s name value).2=0):Qia (Qid T s name value).1=0∧(Qid T s name value).1.length=T.length:=by
 unfold Qid at he ⊢;rcases Qkb T s with⟨hb,_⟩|⟨hc,k,hk,hb,_⟩
 ·rw[if_pos hb]at he;exact absurd he hb
 rw[hb]at he ⊢;rw[if_neg (by simp)]at he ⊢;by_cases h1:Q6a name=false
 ·rw[if_pos h1]at he;simp at he
 rw[if_neg h1]at he ⊢;by_cases h2:Qza (QJb T ((k:Int),(0:Int)).1.toNat ⟨name,value⟩)=false
 ·rw[if_pos h2]at he;simp at he
 rw[if_neg h2];exact⟨Qrm hc (by simpa using h1) (by simpa using h2),(QHk (QUj _ _ _)).symm⟩
end Go.Proofs.YtgaboghigefgbaaGreatDoor
