/- What the functions of token compute, in plain Lean: bytes. | Trees, and what Check of tree computes, in plain Lean. | The order of texts is whole; what a search finds. | Overlays, in plain Lean: what Check, Clash compute. | Paths of nodes, and their order, in plain Lean: a component is a name and an index. | The order of a walk, in plain Lean: what walk of bringupref03 computes, and that it is the order of the paths. | A list of nodes is walked just if its paths ascend, in plain Lean. | The checks of the reference of tree and those of tree are the same, in plain Lean: order, and twins. | Paths as texts, and the node with a path, in plain Lean. | A list of nodes in the order of its walk, in plain Lean. | What Add of the reference of tree computes, in plain Lean. | What Put and Set of the reference of tree compute, in plain Lean. | The shape of trees that Add and Set give, in plain Lean. | Set keeps a valid tree valid, in plain Lean. -/
import Derived.Test.YtgaboghigefgbaaGreatDoorRows
import Derived.Lib.IndexMore
import Derived.Lib.IndexAny
import Derived.Lib.Strings
import Derived.Lib.Bytes2
import Derived.Laws.Strings
open Go
set_option linter.all false
namespace Go.Proofs.YtgaboghigefgbaaGreatDoor
def QHa(c:Int):Bool:=decide (97≤c∧c≤122∨65≤c∧c≤90)
def Qvc(c:Int):Bool:=decide (48≤c∧c≤57)
def QWb(c:Int):Bool:=QHa c || Qvc c || decide (c=95)
def Qpf(l:List UInt8)(c:Int):Bool:=l.any fun x=>decide ((x.toNat:Int)=c)
def Q6p(c:Int):Bool:=Qpf [44,46,43,45,63,35,64] c
def QYb(c:Int):Bool:=QWb c || Q6p c
def Qqd(c:Int):Bool:=decide (97≤c∧c≤122∨c=45)
def Qwg(c:Int):Int:=if 48≤c∧c≤57 then c-48 else if 97≤c∧c≤102 then c-87 else if 65≤c∧c≤70 then c-55 else -1
def Qej(p:Int→Bool)(l:List UInt8):Bool:=l.all fun x=>p x.toNat
def QFc(p:Int→Bool)(l:List UInt8):Nat:=(l.takeWhile fun x=>p x.toNat).length
theorem QCb(s:ByteArray)(k:Nat)(h:k<s.size):s.data.toList.drop k=s[k]::s.data.toList.drop (k+1):=by
 have h':k<s.data.toList.length:=by simpa using h
 rw[List.drop_eq_getElem_cons h'];rfl
theorem QOc(s:ByteArray)(k:Nat)(h:s.size≤k):s.data.toList.drop k=[]:=
 List.drop_eq_nil_of_le (by simpa using h)
theorem Q0c(b:UInt8):(b.toNat:Int)≤255:=by have:=b.toNat_lt;omega
theorem QIe(p:Int→Bool)(x:UInt8)(l:List UInt8):Qej p (x::l)=(p x.toNat && Qej p l):=by simp[Qej]
theorem Qig(p:Int→Bool)(x:UInt8)(l:List UInt8):QFc p (x::l)=if p x.toNat=true then QFc p l+1 else 0:=by
 unfold QFc;by_cases h:p x.toNat=true <;> simp[h]
theorem Qxe(p:Int→Bool)(l:List UInt8):QFc p l≤l.length:=(List.takeWhile_sublist _).length_le
def adv:List UInt8→Int × Int→Int × Int
 | [],p=>p
 | x::l,p=>adv l (if x.toNat=10 then(p.1+1,1)else(p.1,p.2+1))
theorem QVq(l:List UInt8)(x:UInt8):∀p,adv (l++[x]) p=if x.toNat=10 then((adv l p).1+1,1)else((adv l p).1,(adv l p).2+1):=by
 induction l with
 | nil=>intro p;simp[adv]
 | cons y l ih=>intro p;simp only[List.cons_append,adv];rw[ih]
theorem Qjn(l m:List UInt8):∀p,adv (l++m) p=adv m (adv l p):=by
 induction l with
 | nil=>intro p;simp[adv]
 | cons y l ih=>intro p;simp only[List.cons_append,adv];rw[ih]
theorem QPo(l:List UInt8):∀p:Int × Int,1≤p.1→1≤p.2→1≤(adv l p).1∧1≤(adv l p).2∧(adv l p).1≤p.1+l.length∧(adv l p).2≤p.2+l.length:=by
 induction l with
 | nil=>intro p h1 h2;simp[adv];omega
 | cons y l ih=>
  intro p h1 h2
  simp only[adv,List.length_cons]
  split
  ·have:=ih (p.1+1,1) (by simp;omega) (by simp);simp at this ⊢;omega
  ·have:=ih (p.1,p.2+1) (by simpa using h1) (by simp;omega);simp at this ⊢;omega
theorem QOl(l:List UInt8)(c:Int)(h0:0≤c)(h1:c≤255):decide (0≤Lib.indexByte l c.toNat.toUInt8)=Qpf l c:=by
 rw[←Lib.contains_iff_indexByte,Bool.eq_iff_iff]
 simp only[List.contains_iff_mem,Qpf,List.any_eq_true,decide_eq_true_eq]
 have e:c.toNat.toUInt8.toNat=c.toNat:=by simp[Nat.toUInt8];omega
 constructor
 ·intro h;exact⟨_,h,by rw[e];omega⟩
 ·rintro ⟨x,hx,hxc⟩
  have:x=c.toNat.toUInt8:=by apply UInt8.toNat_inj.1;rw[e];omega
  exact this ▸ hx
theorem Q3f(l:List UInt8)(b:UInt8):decide (0≤Lib.indexByte l b)=Qpf l b.toNat:=by
 rw[←QOl l b.toNat (by omega) (Q0c _)];simp
theorem QRs{l:List UInt8}{b:UInt8}(h:0≤Lib.indexByte l b):Qpf l b.toNat=true:=by rw[←Q3f];simpa using h
theorem QPt{l:List UInt8}{b:UInt8}(h:Lib.indexByte l b<0):Qpf l b.toNat=false:=by rw[←Q3f];simpa using h
def Q0a(l:List UInt8):Bool:=decide (1≤l.length∧l.length≤31) && (QHa (l.headD 0).toNat || decide (((l.headD 0).toNat:Int)=95)) && Qej QYb l
def Qtb(l:List UInt8):Bool:=decide (1≤l.length∧l.length≤31) && !Qvc (l.headD 0).toNat && Qej QWb l
theorem Qid(s:ByteArray)(h:0<s.size):s.data.toList.headD 0=s[0]:=by
 have:=QCb s 0 h
 rw[List.drop_zero]at this
 rw[this];rfl
def QJq(c:Int):Bool:=Qpf [32,9,13,10] c
def Qkd(c:Int):Bool:=decide (c≠10)
end Go.Proofs.YtgaboghigefgbaaGreatDoor
open Go
namespace Go.Proofs.YtgaboghigefgbaaGreatDoor
structure Qla where
 name:ByteArray
 value:ByteArray
 deriving DecidableEq
structure Qba where
 parent:Int
 name:ByteArray
 props:List Qla
 deriving DecidableEq
instance:Inhabited Qba:=⟨⟨-1,ByteArray.empty,[]⟩⟩
def ltS(a b:ByteArray):Bool:=Op.bytesLess a.toList b.toList
def eqS(a b:ByteArray):Bool:=a.toList == b.toList
def QTa(T:List Qba)(i:Nat):Int:=match T[i]? with
 | some n=>n.parent
 | none => -1
theorem Qsa{T:List Qba}{i:Nat}(h:i<T.length):QTa T i=T[i].parent:=by
 unfold QTa;rw[List.getElem?_eq_getElem h]
def Qef(l:List UInt8):Bool:=
 if Lib.hasPrefix l [35]=true then Q0a (95::l.drop 1) && !Qpf (95::l.drop 1) 64 else Q0a l && !Qpf l 64
def Q6a(s:ByteArray):Bool:=Qef s.data.toList
def QGf(n:Qba):Bool:=decide (n.props.length≤24) && n.props.all fun p=>decide (p.value.size≤256)
def Qza(T:List Qba):Bool:=decide (1≤T.length∧T.length≤120) && T.all QGf
def Qud(i:Nat)(n:Qba):Bool:=
 if i=0 then decide (n.parent = -1) && eqS n.name ByteArray.empty else decide (0≤n.parent∧n.parent<i) && Q0a n.name.data.toList
def QEd:Nat→List Qba→Bool
 | _,[]=>true
 | i,n::r=>Qud i n && (n.props.all fun p=>Q6a p.name) && QEd (i+1) r
def QWa(T:List Qba):Bool:=QEd 0 T
def Qtd:List Qla→Bool
 | []=>true
 | [_]=>true
 | a::b::r=>ltS a.name b.name && Qtd (b::r)
def QNg(T:List Qba)(p:Int):Nat→Int→Int
 | 0,u=>u
 | f+1,u=>if u<0∨u=p then u else QNg T p f (QTa T u.toNat)
def QTb(T:List Qba):Nat→List ByteArray→List Qba→Bool
 | _,_,[]=>true
 | i,last,n::r=>Qtd n.props && (if i=0 then QTb T 1 last r else
  let u:=QNg T n.parent (i+1) (i-1)
  decide (0≤u) && !ltS n.name (last.getD u.toNat ByteArray.empty) && QTb T (i+1) (last.set u.toNat n.name) r)
def Qub(T:List Qba):Bool:=QTb T 0 (List.replicate T.length ByteArray.empty) T
def QHi:Nat→List (ByteArray × Int)→List Qba→Bool
 | _,_,[]=>false
 | i,seen,n::r=>(decide (0<i) && seen.any (fun x=>eqS x.1 n.name && decide (x.2=n.parent))) || QHi (i+1) (seen++[(n.name,n.parent)]) r
def QIi(T:List Qba):Bool:=QHi 0 [] T
def Q6b(T:List Qba):Nat→Int→Nat
 | 0,_=>0
 | f+1,u=>if 0<u then Q6b T f (QTa T u.toNat)+1 else 0
def QAs(T:List Qba)(i:Nat):Nat:=Q6b T T.length i
def QPd(T:List Qba):Bool:=(List.range T.length).any fun i=>decide (8<QAs T i)
def Qfa(T:List Qba):Int:=
 if Qza T=false then 3 else if QWa T=false then 1 else if Qub T=false then 12 else if QIi T=true then 5 else if QPd T=true then 2 else 0
theorem QJf{i:Nat}{n:Qba}{r:List Qba}:QEd i (n::r)=(Qud i n && (n.props.all fun p=>Q6a p.name) && QEd (i+1) r):=rfl
theorem QRc:∀(T:List Qba) (i:Nat),QEd i T=true→∀k (h:k<T.length),Qud (i+k) T[k]=true∧T[k].props.all (fun p=>Q6a p.name)=true:=by
 intro T
 induction T with
 | nil=>intro i _ k h;simp at h
 | cons n r ih=>
  intro i h k hk
  rw[QJf,Bool.and_eq_true,Bool.and_eq_true]at h
  cases k with
  | zero=>exact⟨h.1.1,h.1.2⟩
  | succ k=>
   have:=ih (i+1) h.2 k (by simpa using hk)
   rw[show i+1+k=i+(k+1)from by omega]at this
   exact this
theorem QBc{T:List Qba}(h:QWa T=true)(k:Nat)(hk:k<T.length):(k=0→T[k].parent = -1)∧(0<k→0≤T[k].parent∧T[k].parent<k):=by
 have:=(QRc T 0 h k hk).1
 rw[Nat.zero_add]at this
 unfold Qud at this
 constructor
 ·intro h0;rw[if_pos h0]at this;simp at this;exact this.1
 ·intro h0;rw[if_neg (by omega)]at this;simp at this;exact⟨this.1.1,this.1.2⟩
theorem Qbk{T:List Qba}(h:QWa T=true):∀(n:Nat) (u:Int),u.toNat≤n→u<T.length→∀f g,u.toNat≤f→u.toNat≤g→Q6b T f u=Q6b T g u:=by
 intro n
 induction n with
 | zero=>
  intro u hu _ f g _ _
  have:¬0<u:=by omega
  cases f <;> cases g <;> simp[Q6b,this]
 | succ n ih=>
  intro u hu hl f g hf hg
  by_cases h0:0<u
  ·obtain⟨f,rfl⟩:∃f',f=f'+1:=⟨f-1,by omega⟩
   obtain⟨g,rfl⟩:∃f',g=f'+1:=⟨g-1,by omega⟩
   have hk:u.toNat<T.length:=by omega
   have hp:=(QBc h u.toNat hk).2 (by omega)
   have GP:=Qsa hk
   simp only[Q6b]
   rw[if_pos h0,if_pos h0,ih _ (by omega) (by omega) f g (by omega) (by omega)]
  ·cases f <;> cases g <;> simp[Q6b,h0]
end Go.Proofs.YtgaboghigefgbaaGreatDoor
namespace Go.Proofs.YtgaboghigefgbaaGreatDoor
theorem Q9f(x y:UInt8)(a b:List UInt8):Op.bytesLess (x::a) (y::b)=true↔x.toNat<y.toNat∨x=y∧Op.bytesLess a b=true:=by
 rw[Op.bytesLess]
 simp[UInt8.lt_iff_toNat_lt]
theorem QNn:∀(a b c:List UInt8),Op.bytesLess a b=true→Op.bytesLess b c=true→Op.bytesLess a c=true:=by
 intro a
 induction a with
 | nil=>intro b c h1 h2;cases b <;> cases c <;> simp[Op.bytesLess]at *
 | cons x a ih=>
  intro b c h1 h2
  cases b with
  | nil=>simp[Op.bytesLess]at h1
  | cons y b=>
   cases c with
   | nil=>simp[Op.bytesLess]at h2
   | cons z c=>
    rw[Q9f]at *
    rcases h1 with h1|⟨rfl,h1⟩
    ·rcases h2 with h2|⟨rfl,h2⟩
     ·left;omega
     ·left;exact h1
    ·rcases h2 with h2|⟨rfl,h2⟩
     ·left;exact h2
     ·right;exact⟨rfl,ih _ _ h1 h2⟩
theorem QVl:∀a:List UInt8,Op.bytesLess a a=false:=by
 intro a
 induction a with
 | nil=>rfl
 | cons x a ih=>
  rw[Bool.eq_false_iff,Ne,Q9f]
  rintro (h|⟨_,h⟩)
  ·omega
  ·rw[ih]at h;cases h
theorem QMn:∀a b:List UInt8,Op.bytesLess a b=false→a=b∨Op.bytesLess b a=true:=by
 intro a
 induction a with
 | nil=>intro b h;cases b <;> simp[Op.bytesLess]at *
 | cons x a ih=>
  intro b h
  cases b with
  | nil=>right;rfl
  | cons y b=>
   rw[Bool.eq_false_iff,Ne,Q9f]at h
   rw[Q9f]
   by_cases e:x=y
   ·subst e
    have h2:Op.bytesLess a b=false:=by rw[Bool.eq_false_iff];intro hc;exact h (.inr ⟨rfl,hc⟩)
    rcases ih b h2 with rfl|h3
    ·exact .inl rfl
    ·exact .inr (.inr ⟨rfl,h3⟩)
   ·right;left
    have:x.toNat≠y.toNat:=fun e2=>e (UInt8.toNat_inj.1 e2)
    omega
theorem Q3b{a b c:ByteArray}(h1:ltS a b=true)(h2:ltS b c=true):ltS a c=true:=QNn _ _ _ h1 h2
theorem Q4a(a:ByteArray):ltS a a=false:=QVl _
theorem Qxa(a b:ByteArray):eqS a b=true↔a=b:=by
 unfold eqS
 rw[ByteArray.toList_eq,ByteArray.toList_eq]
 simp only[beq_iff_eq]
 constructor
 ·intro h;apply ByteArray.ext;exact Array.toList_inj.1 h
 ·rintro rfl;rfl
theorem Qjd{a b:ByteArray}(h:ltS a b=false):a=b∨ltS b a=true:=by
 rcases QMn _ _ h with h|h
 ·left;exact(Qxa a b).1 (by unfold eqS;rw[h];simp)
 ·exact .inr h
def Qdc(a b:ByteArray):Int:=if ltS a b=true then -1 else if eqS a b=true then 0 else 1
def Qfb(ps:List Qla)(x:ByteArray):Nat:=(ps.takeWhile fun p=>ltS p.name x).length
def QKc(ps:List Qla)(x:ByteArray):Bool:=match ps[Qfb ps x]? with
 | some p=>eqS p.name x
 | none=>false
theorem Q8k{α:Type}(p:α→Bool):∀(l:List α) (i:Nat),i≤l.length→(∀k (h:k<l.length),k<i→p l[k]=true)→(∀h:i<l.length,p l[i]=false)→(l.takeWhile p).length=i:=by
 intro l
 induction l with
 | nil=>intro i h _ _;simp at h;simp[h]
 | cons x l ih=>
  intro i hi h1 h2
  cases i with
  | zero=>have:=h2 (by simp);simp at this;simp[this]
  | succ i=>
   have hx:=h1 0 (by simp) (by omega)
   simp at hx
   rw[List.takeWhile_cons,if_pos hx,List.length_cons,ih i (by simpa using hi)]
   ·intro k hk MX
    have:=h1 (k+1) (by simpa using hk) (by omega)
    simpa using this
   ·intro h
    have:=h2 (by simpa using h)
    simpa using this
theorem QEm:∀(l:List Qla),Qtd l=true→∀i j (hi:i<l.length) (hj:j<l.length),i<j→ltS l[i].name l[j].name=true:=by
 intro l
 induction l with
 | nil=>intro _ i j hi;simp at hi
 | cons a l ih=>
  intro h i j hi hj kt
  cases l with
  | nil=>simp at hj;omega
  | cons b r=>
   simp only[Qtd,Bool.and_eq_true]at h
   have ih2:=ih h.2
   cases j with
   | zero=>omega
   | succ j=>
    cases i with
    | zero=>
     cases j with
     | zero=>exact h.1
     | succ j=>
      have:=ih2 0 (j+1) (by simp) (by simpa using hj) (by omega)
      exact Q3b h.1 this
    | succ i=>exact ih2 i j (by simpa using hi) (by simpa using hj) (by omega)
theorem QBm(T:List Qba):∀(r:List Qba) (i:Nat) (last:List ByteArray),QTb T i last r=true→∀n∈r,Qtd n.props=true:=by
 intro r
 induction r with
 | nil=>intro i last _ n hn;simp at hn
 | cons m r ih=>
  intro i last h n hn
  simp only[QTb,Bool.and_eq_true]at h
  rcases List.mem_cons.1 hn with rfl|hn
  ·exact h.1
  ·by_cases h0:i=0
   ·rw[if_pos h0]at h;exact ih _ _ h.2 n hn
   ·rw[if_neg h0]at h
    simp only[Bool.and_eq_true]at h
    exact ih _ _ h.2.2 n hn
theorem Qfc{T:List Qba}(h:Qfa T=0):∀n∈T,Qtd n.props=true:=by
 have hw:Qub T=true:=by
  unfold Qfa at h
  cases hw:Qub T with
  | true=>rfl
  | false=>exfalso;revert h;cases Qza T <;> cases QWa T <;> simp[hw]
 exact QBm T T 0 _ hw
theorem Q0b{T:List Qba}(h:Qfa T=0):QWa T=true:=by
 unfold Qfa at h
 cases hw:QWa T with
 | true=>rfl
 | false=>exfalso;revert h;cases Qza T <;> simp[hw]
theorem QPa{T:List Qba}(h:Qfa T=0):Qza T=true:=by
 unfold Qfa at h
 cases hw:Qza T with
 | true=>rfl
 | false=>exfalso;revert h;simp[hw]
theorem Qeb{T:List Qba}(h:Qza T=true):1≤T.length∧T.length≤120:=by
 unfold Qza at h;simp at h;exact h.1
end Go.Proofs.YtgaboghigefgbaaGreatDoor
open Go
namespace Go.Proofs.YtgaboghigefgbaaGreatDoor
structure Qja where
 kind:Int
 path:ByteArray
 name:ByteArray
 value:ByteArray
 deriving DecidableEq
instance:Inhabited Qja:=⟨⟨0,⟨#[]⟩,⟨#[]⟩,⟨#[]⟩⟩⟩
def Qcc:List UInt8→List (List UInt8)
 | []=>[[]]
 | c::r=>if c=47 then []::Qcc r else match Qcc r with
  | []=>[[c]]
  | s::t=>(c::s)::t
def QPe(s:ByteArray):Bool:=match s.data.toList with
 | []=>false
 | c::r=>decide (c=47) && (r.isEmpty || (Qcc r).all Q0a)
def QMe(l:List UInt8):List UInt8:=(l.reverse.takeWhile fun c=>decide (c≠47)).reverse
def QVg(l:List UInt8):List UInt8:=l.take (l.length-(QMe l).length-1)
def QEc(s:ByteArray):ByteArray:=if (QVg s.data.toList).isEmpty=true then⟨#[47]⟩else⟨(QVg s.data.toList).toArray⟩
def Q9g(s:ByteArray):ByteArray:=⟨(QMe s.data.toList).toArray⟩
def Qic(s:ByteArray):Bool:=eqS s ⟨#[]⟩
def QFi(s:ByteArray):Bool:=eqS s ⟨#[47]⟩
def Qnc(x:Qja):Bool:=
 if QPe x.path=false∨256<x.value.size then false
 else if x.kind=1 then Qic x.name && Qic x.value && !QFi x.path
 else if x.kind=2∨(x.kind=3∧Qic x.value=true)then Q6a x.name
 else false
def ltE(a b:Qja):Bool:=ltS a.path b.path || (eqS a.path b.path && ltS a.name b.name)
def Q2j:List Qja→Bool
 | []=>true
 | [_]=>true
 | a::b::r=>ltE a b && Q2j (b::r)
def QCa(name:ByteArray)(l:List Qja):Int:=
 if 40<l.length∨l.any (fun x=>decide (256<x.value.size))=true then 3
 else if Q0a name.data.toList=false∨l.any (fun x=>!Qnc x)=true then 1
 else if Q2j l=false then 12 else 0
def Qgb(x y:Qja):Bool:=eqS x.path y.path && eqS x.name y.name && !Qic x.name && !decide (x=y)
def Qgc(na:ByteArray)(a:List Qja)(nb:ByteArray)(b:List Qja):ByteArray × ByteArray × Bool:=
 if QCa na a≠0∨QCa nb b≠0 then(⟨#[]⟩,⟨#[]⟩,false)else match a.find? (fun x=>b.any (Qgb x))with
  | some x=>(x.path,x.name,true)
  | none=>(⟨#[]⟩,⟨#[]⟩,false)
theorem QLb{name:ByteArray}{l:List Qja}(h:QCa name l=0):l.length≤40∧(∀x∈l,x.value.size≤256)∧Q0a name.data.toList=true∧(∀x∈l,Qnc x=true)∧Q2j l=true:=by
 unfold QCa at h
 split at h
 ·cases h
 ·rename_i h1
  split at h
  ·cases h
  ·rename_i h2
   split at h
   ·cases h
   ·rename_i h3
    have a1:¬40<l.length:=fun e=>h1 (.inl e)
    have a2:¬l.any (fun x=>decide (256<x.value.size))=true:=fun e=>h1 (.inr e)
    have a3:¬Q0a name.data.toList=false:=fun e=>h2 (.inl e)
    have a4:¬l.any (fun x=>!Qnc x)=true:=fun e=>h2 (.inr e)
    refine⟨by omega,fun x hx=>?_,by simpa using a3,fun x hx=>?_,by simpa using h3⟩
    ·rcases Nat.lt_or_ge 256 x.value.size with e|e
     ·exact absurd (List.any_eq_true.2 ⟨x,hx,by simpa using e⟩) a2
     ·exact e
    ·cases e:Qnc x with
     | true=>rfl
     | false=>exact absurd (List.any_eq_true.2 ⟨x,hx,by rw[e];rfl⟩) a4
theorem Qyl{n m:ByteArray}{l:List Qja}(h:Q0a n.data.toList=true)(k:Q0a m.data.toList=true):QCa n l=QCa m l:=by unfold QCa;rw[h,k]
theorem QAk{a b c:Qja}(h:ltE a b=true)(k:ltE b c=true):ltE a c=true:=by
 unfold ltE at *
 rw[Bool.or_eq_true,Bool.and_eq_true,Qxa]at *
 rcases h with h|⟨h1,h2⟩
 ·rcases k with k|⟨k1,k2⟩
  ·exact .inl (Q3b h k)
  ·exact .inl (by rw[←k1];exact h)
 ·rcases k with k|⟨k1,k2⟩
  ·exact .inl (by rw[h1];exact k)
  ·exact .inr ⟨h1.trans k1,Q3b h2 k2⟩
theorem QVh{a b:Qja}(h:ltE a b=true):¬(a.path=b.path∧a.name=b.name):=by
 rintro ⟨e1,e2⟩
 unfold ltE at h
 rw[e1,e2,Q4a,Q4a]at h
 simp at h
theorem QJe:∀l:List Qja,Q2j l=true→l.Pairwise fun a b=>ltE a b=true
 | [],_=>.nil
 | [a],_=>by simp
 | a::b::r,h=>by
  simp only[Q2j,Bool.and_eq_true]at h
  have ih:=QJe (b::r) h.2
  refine List.pairwise_cons.2 ⟨fun x hx=>?_,ih⟩
  rcases List.mem_cons.1 hx with rfl|hx
  ·exact h.1
  ·exact QAk h.1 ((List.pairwise_cons.1 ih).1 x hx)
theorem Qhj:∀{l:List Qja},(l.Pairwise fun a b=>ltE a b=true)→∀x∈l,∀y∈l,x.path=y.path→x.name=y.name→x=y
 | [],_,x,hx,_,_,_,_=>by cases hx
 | a::r,h,x,hx,y,hy,e1,e2=>by
  obtain⟨h1,h2⟩:=List.pairwise_cons.1 h
  rcases List.mem_cons.1 hx with ex|hxr
  ·rcases List.mem_cons.1 hy with ey|hyr
   ·rw[ex,ey]
   ·exact absurd ⟨by rw[←ex];exact e1,by rw[←ex];exact e2⟩ (QVh (h1 y hyr))
  ·rcases List.mem_cons.1 hy with ey|hyr
   ·exact absurd ⟨by rw[←ey];exact e1.symm,by rw[←ey];exact e2.symm⟩ (QVh (h1 x hxr))
   ·exact Qhj h2 x hxr y hyr e1 e2
theorem Qxn(na nb:ByteArray)(l:List Qja):Qgc na l nb l=(⟨#[]⟩,⟨#[]⟩,false):=by
 unfold Qgc
 split
 ·rfl
 ·rename_i h
  have h1:QCa na l=0:=by
   rcases Decidable.em (QCa na l=0)with e|e
   ·exact e
   ·exact absurd (.inl e) h
  have hp:=QJe _ (QLb h1).2.2.2.2
  have:l.find? (fun x=>l.any (Qgb x))=none:=by
   rw[List.find?_eq_none]
   intro x hx hc
   obtain⟨y,hy,hc⟩:=List.any_eq_true.1 hc
   simp only[Qgb,Bool.and_eq_true,Qxa,Bool.not_eq_true',decide_eq_false_iff_not]at hc
   exact hc.2 (Qhj hp x hx y hy hc.1.1.1 hc.1.1.2)
  rw[this]
end Go.Proofs.YtgaboghigefgbaaGreatDoor
open Go
namespace Go.Proofs.YtgaboghigefgbaaGreatDoor
abbrev Qcf:=ByteArray × Nat
def ltC(a b:Qcf):Prop:=ltS a.1 b.1=true∨(a.1=b.1∧a.2<b.2)
def ltP:List Qcf→List Qcf→Prop
 | [],[]=>False
 | [],_::_=>True
 | _::_,[]=>False
 | a::p,b::q=>ltC a b∨(a=b∧ltP p q)
theorem Q9c(a:Qcf):¬ltC a a:=by
 rintro (h|⟨_,h⟩)
 ·rw[Q4a]at h;cases h
 ·omega
theorem QUh{a b c:Qcf}(h:ltC a b)(k:ltC b c):ltC a c:=by
 rcases h with h|⟨h,h2⟩ <;> rcases k with k|⟨k,k2⟩
 ·exact .inl (Q3b h k)
 ·exact .inl (by rw[←k];exact h)
 ·exact .inl (by rw[h];exact k)
 ·exact .inr ⟨h.trans k,by omega⟩
theorem QCp{a b:Qcf}(h:ltC a b)(k:ltC b a):False:=Q9c a (QUh h k)
theorem Q4d:∀p:List Qcf,¬ltP p p
 | [],h=>h
 | a::p,h=>by
  rcases h with h|⟨_,h⟩
  ·exact Q9c a h
  ·exact Q4d p h
theorem Qcg:∀{p q r:List Qcf},ltP p q→ltP q r→ltP p r
 | [],[],_,h,_=>h.elim
 | [],_::_,[],_,k=>k.elim
 | [],_::_,_::_,_,_=>trivial
 | _::_,[],_,h,_=>h.elim
 | _::_,_::_,[],_,k=>k.elim
 | a::p,b::q,c::r,h,k=>by
  rcases h with h|⟨rfl,h⟩
  ·rcases k with k|⟨rfl,k⟩
   ·exact .inl (QUh h k)
   ·exact .inl h
  ·rcases k with k|⟨rfl,k⟩
   ·exact .inl k
   ·exact .inr ⟨rfl,Qcg h k⟩
theorem Qag{p q:List Qcf}(h:ltP p q)(k:ltP q p):False:=Q4d p (Qcg h k)
theorem Q7e:∀(p:List Qcf) (x:Qcf) (q:List Qcf),ltP p (p++x::q)
 | [],_,_=>trivial
 | _::p,x,q=>.inr ⟨rfl,Q7e p x q⟩
theorem Qbg:∀(p:List Qcf) {x y:Qcf} (q r:List Qcf),ltC x y→ltP (p++x::q) (p++y::r)
 | [],_,_,_,_,h=>.inl h
 | _::p,_,_,q,r,h=>.inr ⟨rfl,Qbg p q r h⟩
theorem Qwj:∀(p:List Qcf) {x y:Qcf},ltP (p++[x]) (p++[y])→ltC x y
 | [],_,_,h=>by
  rcases h with h|⟨_,h⟩
  ·exact h
  ·exact h.elim
 | a::p,_,_,h=>by
  rcases h with h|⟨_,h⟩
  ·exact(Q9c a h).elim
  ·exact Qwj p h
theorem QWh:∀(p m:List Qcf) (x:Qcf),ltP p m→ltP m (p++[x])→∃y q,m=p++y::q∧ltC y x
 | [],[],_,h,_=>h.elim
 | [],y::q,x,_,k=>by
  rcases k with k|⟨rfl,k⟩
  ·exact⟨y,q,rfl,k⟩
  ·cases q <;> exact k.elim
 | _::_,[],_,h,_=>h.elim
 | a::p,b::m,x,h,k=>by
  rcases h with h|⟨rfl,h⟩
  ·rcases k with k|⟨rfl,_⟩
   ·exact(QCp h k).elim
   ·exact(Q9c _ h).elim
  ·rcases k with k|⟨_,k⟩
   ·exact(Q9c _ k).elim
   ·obtain⟨y,q,rfl,hy⟩:=QWh p m x h k
    exact⟨y,q,rfl,hy⟩
def Qwa(T:List Qba)(i:Nat):ByteArray:=match T[i]? with
 | some n=>n.name
 | none=>ByteArray.empty
def Qmb(T:List Qba)(i:Nat):List Qla:=match T[i]? with
 | some n=>n.props
 | none=>[]
theorem QEa{T:List Qba}{i:Nat}(h:i<T.length):Qwa T i=T[i].name:=by unfold Qwa;rw[List.getElem?_eq_getElem h]
theorem QOa{T:List Qba}{i:Nat}(h:i<T.length):Qmb T i=T[i].props:=by unfold Qmb;rw[List.getElem?_eq_getElem h]
def Par(T:List Qba):Prop:=∀i,0<i→i<T.length→0≤QTa T i∧QTa T i<i
theorem Qua{T:List Qba}(h:QWa T=true):Par T:=by
 intro i h0 hi
 have:=(QBc h i hi).2 h0
 rw[Qsa hi];exact this
def Qwb(T:List Qba)(i:Nat):Nat:=(QTa T i).toNat
theorem Q3a{T:List Qba}(h:Par T){i:Nat}(h0:0<i)(hi:i<T.length):Qwb T i<i∧(Qwb T i:Int)=QTa T i:=by
 have:=h i h0 hi;unfold Qwb;omega
def Q5h(T:List Qba):Nat→Nat→List Qcf
 | 0,_=>[]
 | f+1,i=>if i=0 then []else Q5h T f (Qwb T i)++[(Qwa T i,i)]
def pc(T:List Qba)(i:Nat):List Qcf:=Q5h T i i
theorem Qco{T:List Qba}(h:Par T):∀(n i f:Nat),i≤n→i<T.length→i≤f→Q5h T f i=pc T i:=by
 intro n
 induction n with
 | zero=>
  intro i f hi _ _
  have:i=0:=by omega
  subst this
  cases f <;> simp[Q5h,pc]
 | succ n ih=>
  intro i f hi hl hf
  by_cases h0:i=0
  ·subst h0;cases f <;> simp[Q5h,pc]
  ·obtain⟨f,rfl⟩:∃g,f=g+1:=⟨f-1,by omega⟩
   obtain⟨i,rfl⟩:∃j,i=j+1:=⟨i-1,by omega⟩
   have hp:=Q3a h (by omega:0<i+1) hl
   unfold pc
   simp only[Q5h]
   rw[if_neg h0,if_neg h0,ih (Qwb T (i+1)) f (by omega) (by omega) (by omega),ih (Qwb T (i+1)) i (by omega) (by omega) (by omega)]
theorem Qte(T:List Qba):pc T 0=[]:=rfl
theorem Qlb{T:List Qba}(h:Par T){i:Nat}(h0:0<i)(hi:i<T.length):pc T i=pc T (Qwb T i)++[(Qwa T i,i)]:=by
 obtain⟨i,rfl⟩:∃j,i=j+1:=⟨i-1,by omega⟩
 have hp:=Q3a h h0 hi
 show Q5h T (i+1) (i+1)=_
 simp only[Q5h]
 rw[if_neg (by omega),Qco h _ _ _ (Nat.le_refl _) (by omega) (by omega)]
theorem Q1p{T:List Qba}(h:Par T){i j:Nat}(hi:i<T.length)(hj:j<T.length)(e:pc T i=pc T j):i=j:=by
 by_cases h0:i=0 <;> by_cases h1:j=0
 ·omega
 ·subst h0
  rw[Qte,Qlb h (by omega) hj]at e
  have:=congrArg List.length e;simp at this
 ·subst h1
  rw[Qte,Qlb h (by omega) hi]at e
  have:=congrArg List.length e;simp at this
 ·rw[Qlb h (by omega) hi,Qlb h (by omega) hj]at e
  have:=List.append_inj_right' e rfl
  simp at this
  exact this.2
def Und(T:List Qba)(u v:Nat):Prop:=pc T u <+: pc T v
theorem Qng(T:List Qba)(u:Nat):Und T u u:=List.prefix_refl _
theorem Q2r(T:List Qba)(v:Nat):Und T 0 v:=List.nil_prefix
theorem Qzm{T:List Qba}(h:Par T){v:Nat}(h0:0<v)(hv:v<T.length):Und T (Qwb T v) v:=by
 unfold Und;rw[Qlb h h0 hv];exact List.prefix_append _ _
theorem Qmi{T:List Qba}{u v x:Nat}(h:Und T u v)(k:Und T v x):Und T u x:=List.IsPrefix.trans h k
theorem QQj{T:List Qba}(h:Par T){u v:Nat}(hu:u<T.length)(h0:0<v)(hv:v<T.length):Und T u v↔u=v∨Und T u (Qwb T v):=by
 constructor
 ·intro k
  unfold Und at k
  rw[Qlb h h0 hv,List.prefix_concat_iff]at k
  rcases k with k|k
  ·exact .inl (Q1p h hu hv (by rw[k,Qlb h h0 hv]))
  ·exact .inr k
 ·rintro (rfl|k)
  ·exact Qng _ _
  ·exact Qmi k (Qzm h h0 hv)
theorem Qfn{T:List Qba}(h:Par T){u:Nat}(hu:u<T.length):∀(n v:Nat),v≤n→v<T.length→Und T u v→u≤v:=by
 intro n
 induction n with
 | zero=>
  intro v hv hl k
  have:v=0:=by omega
  subst this
  by_cases h0:u=0
  ·omega
  ·unfold Und at k
   rw[Qte,Qlb h (by omega) hu]at k
   have:=k.length_le;simp at this
 | succ n ih=>
  intro v hv hl k
  by_cases h0:v=0
  ·subst h0;exact ih 0 (by omega) hl k
  ·rcases (QQj h hu (by omega) hl).1 k with rfl|k
   ·exact Nat.le_refl _
   ·have hp:=Q3a h (by omega:0<v) hl
    have:=ih (Qwb T v) (by omega) (by omega) k
    omega
theorem QCq{T:List Qba}(h:Par T){u:Nat}(hu:u<T.length):∀(n v:Nat),v≤n→v<T.length→Und T u v→u≠v→∃c,0<c∧c<T.length∧Qwb T c=u∧Und T c v∧c≤v:=by
 intro n
 induction n with
 | zero=>
  intro v hv hl k Hm
  have:=Qfn h hu v v (Nat.le_refl _) hl k
  omega
 | succ n ih=>
  intro v hv hl k Hm
  have h0:0<v:=by have:=Qfn h hu v v (Nat.le_refl _) hl k;omega
  have hp:=Q3a h h0 hl
  rcases (QQj h hu h0 hl).1 k with e|k
  ·exact absurd e Hm
  ·by_cases e:u=Qwb T v
   ·exact⟨v,h0,hl,e.symm,Qng _ _,Nat.le_refl _⟩
   ·obtain⟨c,c0,c1,c2,c3,c4⟩:=ih (Qwb T v) (by omega) (by omega) k e
    exact⟨c,c0,c1,c2,Qmi c3 (Qzm h h0 hl),by omega⟩
theorem Qmh{T:List Qba}(h:Par T){c v:Nat}(c0:0<c)(hc:c<T.length)(k:Und T c v):∃q,pc T v=pc T (Qwb T c)++(Qwa T c,c)::q:=by
 obtain⟨q,hq⟩:=k
 rw[Qlb h c0 hc]at hq
 exact⟨q,by rw[←hq];simp⟩
end Go.Proofs.YtgaboghigefgbaaGreatDoor
open Go
namespace Go.Proofs.YtgaboghigefgbaaGreatDoor
def QEi(T:List Qba)(i:Nat)(l:List Nat):Nat:=(l.takeWhile fun c=>!ltS (Qwa T i) (Qwa T c)).length
def Qup(T:List Qba)(i:Nat)(l:List Nat):List Nat:=l.take (QEi T i l)++i::l.drop (QEi T i l)
theorem QSm(T:List Qba)(i:Nat):Qup T i []=[i]:=rfl
theorem Qrk(T:List Qba)(i c:Nat)(l:List Nat):Qup T i (c::l)=if ltS (Qwa T i) (Qwa T c)=true then i::c::l else c::Qup T i l:=by
 unfold Qup QEi
 by_cases h:ltS (Qwa T i) (Qwa T c)=true
 ·simp[h]
 ·simp[h]
def Qvd(T:List Qba)(u:Nat):Nat→List Nat
 | 0=>[]
 | k+1=>if k≠0∧QTa T k=(u:Int)then Qup T k (Qvd T u k)else Qvd T u k
def QDa(T:List Qba)(u:Nat):List Nat:=Qvd T u T.length
def Q8o(T:List Qba)(i:Nat):Qcf:=(Qwa T i,i)
theorem QRm(T:List Qba)(i:Nat):∀(l:List Nat) (x:Nat),x∈Qup T i l↔x=i∨x∈l:=by
 intro l
 induction l with
 | nil=>intro x;simp[QSm]
 | cons c l ih=>
  intro x
  rw[Qrk]
  split
  ·simp
  ·simp only[List.mem_cons,ih]
   constructor
   ·rintro (h|h|h) <;> simp[h]
   ·rintro (h|h|h) <;> simp[h]
theorem Q7f(T:List Qba)(i:Nat)(l:List Nat):(Qup T i l).length=l.length+1:=by
 unfold Qup;simp[List.length_take,List.length_drop]
 have:QEi T i l≤l.length:=(List.takeWhile_sublist _).length_le
 omega
theorem QPl(T:List Qba)(i:Nat):∀(l:List Nat),(∀c∈l,c<i)→l.Pairwise (fun a b=>ltC (Q8o T a) (Q8o T b))→(Qup T i l).Pairwise (fun a b=>ltC (Q8o T a) (Q8o T b)):=by
 intro l
 induction l with
 | nil=>intro _ _;rw[QSm];exact List.pairwise_singleton _ _
 | cons c l ih=>
  intro hl hp
  rw[List.pairwise_cons]at hp
  rw[Qrk]
  split
  ·rename_i h
   rw[List.pairwise_cons]
   refine⟨?_,List.pairwise_cons.2 hp⟩
   intro x hx
   have GV:ltC (Q8o T i) (Q8o T c):=.inl h
   rcases List.mem_cons.1 hx with rfl|hx
   ·exact GV
   ·exact QUh GV (hp.1 x hx)
  ·rename_i h
   rw[List.pairwise_cons]
   refine⟨?_,ih (fun x hx=>hl x (by simp[hx])) hp.2⟩
   intro x hx
   rcases (QRm T i l x).1 hx with rfl|hx
   ·have Hh:=hl c (by simp)
    rcases Qjd (Bool.eq_false_iff.2 h)with e|e
    ·exact .inr ⟨e.symm,Hh⟩
    ·exact .inl e
   ·exact hp.1 x hx
theorem Q1d(T:List Qba)(u:Nat):∀k,(∀c,c∈Qvd T u k↔c<k∧0<c∧QTa T c=(u:Int))∧(Qvd T u k).Pairwise (fun a b=>ltC (Q8o T a) (Q8o T b)):=by
 intro k
 induction k with
 | zero=>exact⟨fun c=>by simp[Qvd],List.Pairwise.nil⟩
 | succ k ih=>
  obtain⟨h1,h2⟩:=ih
  simp only[Qvd]
  split
  ·rename_i hk
   refine⟨fun c=>?_,QPl T k _ (fun c hc=>((h1 c).1 hc).1) h2⟩
   rw[QRm,h1]
   constructor
   ·rintro (rfl|⟨a,b,d⟩)
    ·exact⟨by omega,by omega,hk.2⟩
    ·exact⟨by omega,b,d⟩
   ·rintro ⟨a,b,d⟩
    by_cases e:c=k
    ·exact .inl e
    ·exact .inr ⟨by omega,b,d⟩
  ·rename_i hk
   refine⟨fun c=>?_,h2⟩
   rw[h1]
   constructor
   ·rintro ⟨a,b,d⟩;exact⟨by omega,b,d⟩
   ·rintro ⟨a,b,d⟩
    refine⟨?_,b,d⟩
    by_cases e:c=k
    ·subst e;exact absurd ⟨by omega,d⟩ hk
    ·omega
theorem QSh(T:List Qba)(u:Nat):∀k,(Qvd T u k).length≤k:=by
 intro k
 induction k with
 | zero=>simp[Qvd]
 | succ k ih=>
  simp only[Qvd]
  split
  ·rw[Q7f];omega
  ·omega
theorem QQc(T:List Qba)(u c:Nat):c∈QDa T u↔c<T.length∧0<c∧QTa T c=(u:Int):=(Q1d T u T.length).1 c
def QYa(T:List Qba):Nat→Nat→List Nat
 | 0,u=>[u]
 | f+1,u=>u::(QDa T u).flatMap (QYa T f)
def ltI(T:List Qba)(a b:Nat):Prop:=ltP (pc T a) (pc T b)
theorem Qvj{T:List Qba}{u c:Nat}(hc:QTa T c=(u:Int)):Qwb T c=u:=by unfold Qwb;rw[hc];simp
theorem QOg{T:List Qba}(h:Par T):∀(f u:Nat),u<T.length→T.length≤u+f→(∀v,v∈QYa T f u↔v<T.length∧Und T u v)∧(QYa T f u).Pairwise (ltI T):=by
 intro f
 induction f with
 | zero=>intro u hu hf;omega
 | succ f ih=>
  intro u hu hf
  have hk:∀c,c∈QDa T u→c<T.length∧0<c∧Qwb T c=u∧u<c:=by
   intro c hc
   obtain⟨h1,h2,h3⟩:=(QQc T u c).1 hc
   have:=(h c h2 h1).2
   exact⟨h1,h2,Qvj h3,by omega⟩
  have hi:=fun c hc=>ih c (hk c hc).1 (by have:=(hk c hc).2.2.2;omega)
  have mD:∀v,v∈QYa T (f+1) u↔v<T.length∧Und T u v:=by
   intro v
   simp only[QYa,List.mem_cons,List.mem_flatMap]
   constructor
   ·rintro (rfl|⟨c,hc,hv⟩)
    ·exact⟨hu,Qng _ _⟩
    ·obtain⟨a,b⟩:=((hi c hc).1 v).1 hv
     obtain⟨c1,c2,c3,c4⟩:=hk c hc
     exact⟨a,Qmi (by rw[←c3];exact Qzm h c2 c1) b⟩
   ·rintro ⟨hv,vy⟩
    by_cases e:u=v
    ·exact .inl e.symm
    ·obtain⟨c,c0,c1,c2,c3,c4⟩:=QCq h hu v v (Nat.le_refl _) hv vy e
     have hc:c∈QDa T u:=(QQc T u c).2 ⟨c1,c0,by have:=(Q3a h c0 c1).2;omega⟩
     exact .inr ⟨c,hc,((hi c hc).1 v).2 ⟨hv,c3⟩⟩
  refine⟨mD,?_⟩
  simp only[QYa]
  rw[List.pairwise_cons]
  refine⟨?_,?_⟩
  ·intro v hv
   obtain⟨c,hc,hv⟩:=List.mem_flatMap.1 hv
   obtain⟨c1,c2,c3,c4⟩:=hk c hc
   obtain⟨q,hq⟩:=Qmh h c2 c1 (((hi c hc).1 v).1 hv).2
   unfold ltI
   rw[hq,c3];exact Q7e _ _ _
  ·rw[List.pairwise_flatMap]
   refine⟨fun c hc=>(hi c hc).2,?_⟩
   have hp:(QDa T u).Pairwise (fun a b=>a∈QDa T u∧b∈QDa T u∧ltC (Q8o T a) (Q8o T b)):=by
    have h2:=(Q1d T u T.length).2
    exact List.Pairwise.and_mem.1 h2
   refine hp.imp ?_
   rintro a b ⟨ha,hb,MW⟩ x hx y hy
   obtain⟨a1,a2,a3,a4⟩:=hk a ha
   obtain⟨b1,b2,b3,b4⟩:=hk b hb
   obtain⟨q,hq⟩:=Qmh h a2 a1 (((hi a ha).1 x).1 hx).2
   obtain⟨r,hr⟩:=Qmh h b2 b1 (((hi b hb).1 y).1 hy).2
   unfold ltI
   rw[hq,hr,a3,b3]
   exact Qbg _ _ _ MW
theorem QWc{T:List Qba}{l:List Nat}(h:l.Pairwise (ltI T)):l.Nodup:=h.imp (fun {a b} MW e=>by subst e;exact Q4d _ MW)
theorem Qgl{T:List Qba}(h:Par T)(f u:Nat)(hu:u<T.length)(hf:T.length≤u+f):(QYa T f u).length≤T.length:=by
 obtain⟨h1,h2⟩:=QOg h f u hu hf
 have:=(QWc h2).length_le_of_subset (l₂:=List.range T.length) (fun v hv=>List.mem_range.2 ((h1 v).1 hv).1)
 simpa using this
def Qab(T:List Qba):List Nat:=QYa T T.length 0
theorem Qlc{T:List Qba}(h:Par T)(h0:0<T.length):(∀v,v∈Qab T↔v<T.length)∧(Qab T).Pairwise (ltI T):=by
 obtain⟨h1,h2⟩:=QOg h T.length 0 h0 (by omega)
 exact⟨fun v=>by rw[show Qab T=QYa T T.length 0 from rfl,h1];exact⟨fun k=>k.1,fun k=>⟨k,Q2r T v⟩⟩,h2⟩
theorem Que{l1 l2:List Nat}(h1:l1.Nodup)(h2:l2.Nodup)(h:∀v,v∈l1↔v∈l2):l1.Perm l2:=(List.perm_ext_iff_of_nodup h1 h2).2 h
theorem QSp{T:List Qba}(h:Par T)(h0:0<T.length):(Qab T).Perm (List.range T.length):=by
 obtain⟨h1,h2⟩:=Qlc h h0
 exact Que (QWc h2) List.nodup_range (fun v=>by rw[h1,List.mem_range])
theorem Q5c{T:List Qba}(h:Par T)(h0:0<T.length):(Qab T).length=T.length:=by
 have:=(QSp h h0).length_eq;simpa using this
theorem Q7l{T:List Qba}(h:Par T)(h0:0<T.length){l:List Nat}(hl:l.Pairwise (ltI T))(hm:∀v,v∈l↔v<T.length):l=Qab T:=by
 obtain⟨h1,h2⟩:=Qlc h h0
 exact List.Perm.eq_of_pairwise (le:=ltI T) (fun a b _ _ MW hba=>(Qag MW hba).elim) hl h2 (Que (QWc hl) (QWc h2) (fun v=>by rw[hm,h1]))
theorem Q5n{T:List Qba}(h:Par T)(h0:0<T.length):Qab T=List.range T.length↔(List.range T.length).Pairwise (ltI T):=by
 constructor
 ·intro e;rw[←e];exact(Qlc h h0).2
 ·intro k;exact(Q7l h h0 k (fun v=>List.mem_range)).symm
end Go.Proofs.YtgaboghigefgbaaGreatDoor
open Go
namespace Go.Proofs.YtgaboghigefgbaaGreatDoor
theorem QDp(x:ByteArray):ltS x ByteArray.empty=false:=by
 unfold ltS
 have:ByteArray.empty.toList=[]:=by rw[ByteArray.toList_eq];rfl
 rw[this]
 cases x.toList <;> rfl
theorem QXh{a b:ByteArray}(h:ltS a b=true):ltS b a=false:=by
 cases k:ltS b a with
 | false=>rfl
 | true=>have:=Q3b h k;rw[Q4a]at this;cases this
def Q8g(T:List Qba)(u:Nat):Nat→ByteArray
 | 0=>ByteArray.empty
 | k+1=>if k≠0∧QTa T k=(u:Int)then Qwa T k else Q8g T u k
theorem QUl(T:List Qba)(u:Nat):∀k,Q8g T u k=ByteArray.empty∨∃c,c<k∧0<c∧QTa T c=(u:Int)∧Q8g T u k=Qwa T c:=by
 intro k
 induction k with
 | zero=>exact .inl rfl
 | succ k ih=>
  simp only[Q8g]
  split
  ·rename_i h
   exact .inr ⟨k,by omega,by omega,h.2,rfl⟩
  ·rcases ih with e|⟨c,h1,h2,h3,h4⟩
   ·exact .inl e
   ·exact .inr ⟨c,by omega,h2,h3,h4⟩
theorem QAp(T:List Qba)(u c:Nat)(c0:0<c)(hc:QTa T c=(u:Int)):∀k,c<k→(∀d,c<d→d<k→QTa T d≠(u:Int))→Q8g T u k=Qwa T c:=by
 intro k
 induction k with
 | zero=>intro h;omega
 | succ k ih=>
  intro h hd
  simp only[Q8g]
  by_cases e:c=k
  ·subst e;rw[if_pos ⟨by omega,hc⟩]
  ·rw[if_neg (fun x=>hd k (by omega) (by omega) x.2)]
   exact ih (by omega) (fun d h1 h2=>hd d h1 (by omega))
def Q2t(T:List Qba)(i:Nat):Prop:=Und T (Qwb T i) (i-1)∧ltS (Qwa T i) (Q8g T (Qwb T i) i)=false
theorem QDq{T:List Qba}(h:Par T)(hr:QTa T 0 = -1){p:Nat}(hp:p<T.length):∀(f v:Nat),v<T.length→v+1≤f→(Und T p v→QNg T p f v=p)∧(¬Und T p v→QNg T p f v = -1):=by
 intro f
 induction f with
 | zero=>intro v _ hf;omega
 | succ f ih=>
  intro v hv hf
  simp only[QNg]
  by_cases e:v=p
  ·subst e
   rw[if_pos (.inr rfl)]
   exact⟨fun _=>rfl,fun k=>absurd (Qng _ _) k⟩
  ·rw[if_neg (by omega),Int.toNat_natCast]
   by_cases h0:v=0
   ·subst h0
    rw[hr]
    have hn:¬Und T p 0:=fun k=>by have:=Qfn h hp 0 0 (Nat.le_refl _) hv k;omega
    have hu:QNg T p f (-1) = -1:=by cases f with
     | zero=>rfl
     | succ f=>simp only[QNg];rw[if_pos (.inl (by omega))]
    exact⟨fun k=>absurd k hn,fun _=>hu⟩
   ·have gU:=Q3a h (by omega:0<v) hv
    have:=ih (Qwb T v) (by omega) (by omega)
    rw[gU.2]at this
    rw[QQj h hp (by omega) hv]
    exact⟨fun k=>this.1 (k.resolve_left (fun x=>e x.symm)),fun k=>this.2 (fun x=>k (.inr x))⟩
theorem QCm{T:List Qba}(h:Par T)(hr:QTa T 0 = -1):∀(k i:Nat) (last:List ByteArray),i+k=T.length→last.length=T.length→(∀u,u<T.length→last.getD u ByteArray.empty=Q8g T u i)→
 (QTb T i last (T.drop i)=true↔(∀j,i≤j→j<T.length→Qtd (Qmb T j)=true)∧∀j,i≤j→0<j→j<T.length→Q2t T j):=by
 intro k
 induction k with
 | zero=>
  intro i last hi _ _
  rw[List.drop_eq_nil_of_le (by omega)]
  simp only[QTb,true_iff]
  exact⟨fun j h1 h2=>by omega,fun j h1 _ h2=>by omega⟩
 | succ k ih=>
  intro i last hi hl eQ
  have Hh:i<T.length:=by omega
  rw[List.drop_eq_getElem_cons Hh]
  simp only[QTb]
  rw[Bool.and_eq_true,←QOa Hh]
  by_cases h0:i=0
  ·subst h0
   rw[if_pos rfl,ih 1 last (by omega) hl (fun u hu=>by rw[eQ u hu];rfl)]
   constructor
   ·rintro ⟨a,b,c⟩
    exact⟨fun j h1 h2=>by
     by_cases e:j=0
     ·subst e;exact a
     ·exact b j (by omega) h2,fun j _ h1 h2=>c j (by omega) h1 h2⟩
   ·rintro ⟨a,b⟩
    exact⟨a 0 (by omega) Hh,fun j h1 h2=>a j (by omega) h2,fun j _ h1 h2=>b j (by omega) h1 h2⟩
  ·rw[if_neg h0]
   have gU:=Q3a h (by omega:0<i) Hh
   have cG:=QDq h hr (p:=Qwb T i) (by omega) (i+1) (i-1) (by omega) (by omega)
   rw[gU.2,Qsa Hh,show((i-1:Nat):Int)=(i:Int)-1 from by omega]at cG
   have mj:(decide (0≤QNg T T[i].parent (i+1) ((i:Int)-1)) && !ltS T[i].name (last.getD (QNg T T[i].parent (i+1) ((i:Int)-1)).toNat ByteArray.empty))=true↔Q2t T i:=by
    unfold Q2t
    by_cases hu:Und T (Qwb T i) (i-1)
    ·rw[cG.1 hu]
     rw[show((T[i].parent).toNat)=Qwb T i from by unfold Qwb;rw[Qsa Hh],eQ _ (by omega),←QEa Hh]
     have:(0:Int)≤T[i].parent:=by rw[←Qsa Hh];omega
     simp[this,hu]
    ·rw[cG.2 hu]
     simp[hu]
   rw[Bool.and_eq_true,mj]
   constructor
   ·rintro ⟨a,b,c⟩
    have hu:=cG.1 b.1
    rw[hu,show((T[i].parent).toNat)=Qwb T i from by unfold Qwb;rw[Qsa Hh]]at c
    rw[ih (i+1) _ (by omega) (by simpa using hl) (by
     intro u hu
     simp only[Q8g]
     rw[List.getD_eq_getElem?_getD,List.getElem?_set]
     by_cases e:Qwb T i=u
     ·subst e
      rw[if_pos rfl,if_pos (by omega),if_pos ⟨h0,gU.2.symm⟩,QEa Hh];rfl
     ·rw[if_neg e,if_neg (fun x=>e (by have:=x.2;omega)),←eQ u hu,List.getD_eq_getElem?_getD])]at c
    exact⟨fun j h1 h2=>by
     by_cases e:j=i
     ·subst e;exact a
     ·exact c.1 j (by omega) h2,fun j h1 h2 h3=>by
     by_cases e:j=i
     ·subst e;exact b
     ·exact c.2 j (by omega) h2 h3⟩
   ·rintro ⟨a,b⟩
    have bi:=b i (Nat.le_refl _) (by omega) Hh
    have hu:=cG.1 bi.1
    rw[hu,show((T[i].parent).toNat)=Qwb T i from by unfold Qwb;rw[Qsa Hh]]
    rw[ih (i+1) _ (by omega) (by simpa using hl) (by
     intro u hu
     simp only[Q8g]
     rw[List.getD_eq_getElem?_getD,List.getElem?_set]
     by_cases e:Qwb T i=u
     ·subst e
      rw[if_pos rfl,if_pos (by omega),if_pos ⟨h0,gU.2.symm⟩,QEa Hh];rfl
     ·rw[if_neg e,if_neg (fun x=>e (by have:=x.2;omega)),←eQ u hu,List.getD_eq_getElem?_getD])]
    exact⟨a i (Nat.le_refl _) Hh,bi,fun j h1 h2=>a j (by omega) h2,fun j h1 h2 h3=>b j (by omega) h2 h3⟩
def Asc(T:List Qba):Prop:=∀i,0<i→i<T.length→ltI T (i-1) i
theorem Qgj{T:List Qba}(h:Asc T):∀(j i:Nat),i<j→j<T.length→ltI T i j:=by
 intro j
 induction j with
 | zero=>intro i h;omega
 | succ j ih=>
  intro i hi hj
  have hs:=h (j+1) (by omega) hj
  rw[Nat.add_sub_cancel]at hs
  by_cases e:i=j
  ·subst e;exact hs
  ·exact Qcg (ih i (by omega) (by omega)) hs
theorem QUo{T:List Qba}:(List.range T.length).Pairwise (ltI T)↔Asc T:=by
 rw[List.pairwise_iff_getElem]
 constructor
 ·intro h i h0 hi
  have:=h (i-1) i (by simp;omega) (by simpa using hi) (by omega)
  simpa using this
 ·intro h i j hi hj kt
  simp only[List.getElem_range]
  exact Qgj h j i kt (by simpa using hj)
theorem Q3t{T:List Qba}(h:Par T)(mj:∀i,0<i→i<T.length→Q2t T i):∀(n i:Nat),i≤n→0<i→i<T.length→ltI T (i-1) i:=by
 intro n
 induction n with
 | zero=>intro i h1 h2;omega
 | succ n ih=>
  intro i hn h0 hi
  by_cases kM:i≤n
  ·exact ih i kM h0 hi
  ·have Ha:∀(b a:Nat),a<b→b<i→ltI T a b:=by
    intro b
    induction b with
    | zero=>intro a h;omega
    | succ b ihb=>
     intro a MW ng
     have hs:=ih (b+1) (by omega) (by omega) (by omega)
     rw[Nat.add_sub_cancel]at hs
     by_cases e:a=b
     ·subst e;exact hs
     ·exact Qcg (ihb a (by omega) (by omega)) hs
   obtain⟨hu,jn⟩:=mj i h0 hi
   have gU:=Q3a h h0 hi
   unfold ltI
   rw[Qlb h h0 hi]
   by_cases e:Qwb T i=i-1
   ·rw[e];exact Q7e _ _ _
   ·obtain⟨c,c0,c1,c2,c3,c4⟩:=QCq h (by omega) (i-1) (i-1) (Nat.le_refl _) (by omega) hu e
    have Kn:=(Q3a h c0 c1).2
    rw[c2]at Kn
    obtain⟨q,hq⟩:=Qmh h c0 c1 c3
    rw[c2]at hq
    have sW:Q8g T (Qwb T i) i=Qwa T c:=QAp T _ c c0 Kn.symm i (by omega) (by
     intro d Gy bI J7
     have io:=Q3a h (by omega:0<d) (by omega)
     have pw:Qwb T d=Qwb T i:=by have:=io.2;omega
     have eG:=Ha d c Gy bI
     unfold ltI at eG
     rw[Qlb h c0 c1,Qlb h (by omega:0<d) (by omega),c2,pw]at eG
     have Hh:=Qwj _ eG
     have mA:ltP (pc T (i-1)) (pc T d):=by
      rw[hq,Qlb h (by omega:0<d) (by omega),pw];exact Qbg _ _ _ Hh
     by_cases e2:d=i-1
     ·rw[e2]at mA;exact Q4d _ mA
     ·exact Qag mA (Ha (i-1) d (by omega) (by omega)))
    rw[sW]at jn
    rw[hq]
    refine Qbg _ _ _ ?_
    rcases Qjd jn with e2|e2
    ·exact .inr ⟨e2.symm,by show c<i;omega⟩
    ·exact .inl e2
theorem Qzt{T:List Qba}(h:Par T)(ha:Asc T)(i:Nat)(h0:0<i)(hi:i<T.length):Q2t T i:=by
 have gU:=Q3a h h0 hi
 have Hk:=ha i h0 hi
 refine⟨?_,?_⟩
 ·by_cases e:Qwb T i=i-1
  ·rw[e];exact Qng _ _
  ·have h1:ltP (pc T (Qwb T i)) (pc T (i-1)):=Qgj ha (i-1) (Qwb T i) (by omega) (by omega)
   unfold ltI at Hk
   rw[Qlb h h0 hi]at Hk
   obtain⟨y,q,hq,_⟩:=QWh _ _ _ h1 Hk
   exact⟨y::q,hq.symm⟩
 ·rcases QUl T (Qwb T i) i with e|⟨c,h1,h2,h3,h4⟩
  ·rw[e];exact QDp _
  ·rw[h4]
   have hc:=Qgj ha i c h1 hi
   unfold ltI at hc
   rw[Qlb h h2 (by omega),Qlb h h0 hi,Qvj h3]at hc
   rcases Qwj _ hc with k|⟨k,_⟩
   ·exact QXh k
   ·have k:Qwa T c=Qwa T i:=k
    rw[k];exact Q4a _
theorem Qbf{T:List Qba}(h:Par T)(hr:QTa T 0 = -1):Qub T=true↔(∀j,j<T.length→Qtd (Qmb T j)=true)∧Asc T:=by
 unfold Qub
 have:=QCm h hr T.length 0 (List.replicate T.length ByteArray.empty) (by omega) (by simp) (by
  intro u hu
  simp[Q8g,List.getD_eq_getElem?_getD,hu])
 rw[List.drop_zero]at this
 rw[this]
 constructor
 ·rintro ⟨a,b⟩
  exact⟨fun j hj=>a j (by omega) hj,fun i h0 hi=>Q3t h (fun j iy hj=>b j (by omega) iy hj) i i (Nat.le_refl _) h0 hi⟩
 ·rintro ⟨a,b⟩
  exact⟨fun j _ hj=>a j hj,fun j _ h0 hj=>Qzt h b j h0 hj⟩
end Go.Proofs.YtgaboghigefgbaaGreatDoor
open Go
namespace Go.Proofs.YtgaboghigefgbaaGreatDoor
theorem Qqb{T:List Qba}(h:QWa T=true)(h0:0<T.length):QTa T 0 = -1:=by
 rw[Qsa h0];exact(QBc h 0 h0).1 rfl
theorem Qbj{T:List Qba}(h:QWa T=true)(h0:0<T.length):Qub T=(decide (Qab T=List.range T.length) && T.all fun n=>Qtd n.props):=by
 have hp:=Qua h
 rw[Bool.eq_iff_iff,Qbf hp (Qqb h h0),Bool.and_eq_true,decide_eq_true_iff,Q5n hp h0,QUo,List.all_eq_true]
 constructor
 ·rintro ⟨a,b⟩
  refine⟨b,fun n hn=>?_⟩
  obtain⟨k,hk,rfl⟩:=List.mem_iff_getElem.1 hn
  have:=a k hk
  rwa [QOa hk]at this
 ·rintro ⟨a,b⟩
  exact⟨fun j hj=>by rw[QOa hj];exact b _ (List.getElem_mem hj),a⟩
def QIm(T:List Qba)(i:Nat):Nat→Bool
 | 0=>false
 | k+1=>QIm T i k || (decide (0<k) && decide (QTa T k=QTa T i) && eqS (Qwa T k) (Qwa T i))
theorem Qfh(T:List Qba)(i:Nat):∀k,QIm T i k=true↔∃c,0<c∧c<k∧QTa T c=QTa T i∧Qwa T c=Qwa T i:=by
 intro k
 induction k with
 | zero=>simp[QIm]
 | succ k ih=>
  simp only[QIm,Bool.or_eq_true,ih,Bool.and_eq_true,decide_eq_true_iff,Qxa]
  constructor
  ·rintro (⟨c,h1,h2,h3⟩|⟨⟨h1,h2⟩,h3⟩)
   ·exact⟨c,h1,by omega,h3⟩
   ·exact⟨k,h1,by omega,h2,h3⟩
  ·rintro ⟨c,h1,h2,h3,h4⟩
   by_cases e:c=k
   ·subst e;exact .inr ⟨⟨h1,h3⟩,h4⟩
   ·exact .inl ⟨c,h1,by omega,h3,h4⟩
def Qlf(T:List Qba):Bool:=(List.range T.length).any fun i=>QIm T i i
theorem QAq{T:List Qba}(h:QWa T=true){i:Nat}(hi:i<T.length) :
 (decide (0<i) && ((T.take i).map fun n=>(n.name,n.parent)).any (fun x=>eqS x.1 T[i].name && decide (x.2=T[i].parent)))=QIm T i i:=by
 rw[Bool.eq_iff_iff,Qfh,Bool.and_eq_true,decide_eq_true_iff,List.any_eq_true]
 constructor
 ·rintro ⟨h0,x,hx,hx2⟩
  obtain⟨n,hn,rfl⟩:=List.mem_map.1 hx
  obtain⟨c,hc,rfl⟩:=List.mem_iff_getElem.1 hn
  have c8:c<i:=by simp at hc;omega
  have gN:c<T.length:=by omega
  rw[List.getElem_take]at hx2
  rw[Bool.and_eq_true,Qxa,decide_eq_true_iff]at hx2
  refine⟨c,?_,c8,by rw[Qsa gN,Qsa hi];exact hx2.2,by rw[QEa gN,QEa hi];exact hx2.1⟩
  by_cases e:c=0
  ·subst e
   have h1:=(QBc h 0 gN).1 rfl
   have h2:=(QBc h i hi).2 h0
   have:=hx2.2;omega
  ·omega
 ·rintro ⟨c,h1,h2,h3,h4⟩
  have gN:c<T.length:=by omega
  refine⟨by omega,(T[c].name,T[c].parent),List.mem_map.2 ⟨T[c],?_,rfl⟩,?_⟩
  ·exact List.mem_iff_getElem.2 ⟨c,by simp;omega,by simp⟩
  ·rw[Bool.and_eq_true,Qxa,decide_eq_true_iff]
   rw[Qsa gN,Qsa hi]at h3
   rw[QEa gN,QEa hi]at h4
   exact⟨h4,h3⟩
theorem Qyq{T:List Qba}(h:QWa T=true):∀(k i:Nat),i+k=T.length→QHi i ((T.take i).map fun n=>(n.name,n.parent)) (T.drop i)=(List.range' i k).any fun j=>QIm T j j:=by
 intro k
 induction k with
 | zero=>intro i hi;rw[List.drop_eq_nil_of_le (by omega)];rfl
 | succ k ih=>
  intro i hi
  have Hh:i<T.length:=by omega
  rw[List.drop_eq_getElem_cons Hh,List.range'_succ]
  simp only[QHi,List.any_cons]
  rw[QAq h Hh,←ih (i+1) (by omega)]
  rw[List.take_succ_eq_append_getElem Hh,List.map_append]
  rfl
theorem QPj{T:List Qba}(h:QWa T=true):QIi T=Qlf T:=by
 unfold QIi Qlf
 have:=Qyq h T.length 0 (by omega)
 rw[List.drop_zero]at this
 rw[List.range_eq_range',←this]
 rfl
end Go.Proofs.YtgaboghigefgbaaGreatDoor
open Go
namespace Go.Proofs.YtgaboghigefgbaaGreatDoor
def QGu(c:Qcf):List UInt8:=47::c.1.data.toList
def Qje(p:List Qcf):List UInt8:=p.flatMap QGu
def QQa(T:List Qba)(k:Nat):ByteArray:=if k=0 then⟨#[47]⟩else⟨(Qje (pc T k)).toArray⟩
theorem Qug(p:List Qcf)(c:Qcf):Qje (p++[c])=Qje p++(47::c.1.data.toList):=by simp[Qje,QGu]
theorem QYh{T:List Qba}(h:QWa T=true)(k:Nat)(hk:k<T.length):T[k].name.size≤31:=by
 have h1:=(QRc T 0 h k hk).1
 rw[Nat.zero_add]at h1
 unfold Qud at h1
 by_cases h0:k=0
 ·subst h0
  rw[if_pos rfl,Bool.and_eq_true]at h1
  have:=(Qxa _ _).1 h1.2
  rw[this];decide
 ·rw[if_neg h0,Bool.and_eq_true]at h1
  have:=h1.2
  unfold Q0a at this
  rw[Bool.and_eq_true,Bool.and_eq_true,decide_eq_true_iff]at this
  have:=this.1.1.2;simpa using this
theorem QPh{T:List Qba}(h:QWa T=true):∀(n k:Nat),k≤n→k<T.length→(Qje (pc T k)).length≤32*k:=by
 intro n
 induction n with
 | zero=>intro k hk _;have:k=0:=by omega
         subst this;simp[Qte,Qje]
 | succ n ih=>
  intro k hk hl
  by_cases h0:k=0
  ·subst h0;simp[Qte,Qje]
  ·have hp:=Q3a (Qua h) (by omega:0<k) hl
   rw[Qlb (Qua h) (by omega) hl,Qug,List.length_append]
   have h1:=ih (Qwb T k) (by omega) (by omega)
   have h2:=QYh h k hl
   rw[QEa hl]
   simp;omega
def QLe(T:List Qba)(s:ByteArray)(i:Nat):Bool:=eqS (QQa T i) s
def Q2b(T:List Qba)(s:ByteArray):Int:=match (List.range T.length).find? (QLe T s)with
 | some i=>i
 | none => -1
theorem QNh{T:List Qba}{s:ByteArray}{i:Nat}(hi:i<T.length)(h:eqS (QQa T i) s=true)(hn:∀q:Nat,q<i→eqS (QQa T q) s=false):Q2b T s=i:=by
 unfold Q2b
 have:(List.range T.length).find? (QLe T s)=some i:=by
  rw[List.find?_range_eq_some]
  exact⟨h,List.mem_range.2 hi,fun j hj=>by show(!QLe T s j)=true;unfold QLe;rw[hn j hj];rfl⟩
 rw[this]
theorem QOm{T:List Qba}{s:ByteArray}(hn:∀q:Nat,q<T.length→eqS (QQa T q) s=false):Q2b T s = -1:=by
 unfold Q2b
 have:(List.range T.length).find? (QLe T s)=none:=by
  rw[List.find?_range_eq_none]
  intro j hj;show(!QLe T s j)=true;unfold QLe;rw[hn j hj];rfl
 rw[this]
theorem QZf(T:List Qba)(s:ByteArray):Q2b T s = -1∨∃i:Nat,i<T.length∧Q2b T s=i∧QQa T i=s:=by
 unfold Q2b
 cases h:(List.range T.length).find? (QLe T s)with
 | none=>exact .inl rfl
 | some i=>
  have:=List.find?_range_eq_some.1 h
  exact .inr ⟨i,List.mem_range.1 this.2.1,rfl,(Qxa _ _).1 this.1⟩
def QBa(T:List Qba)(s:ByteArray):Int × Int:=if Qfa T≠0 then(0,Qfa T)else if 0≤Q2b T s then(Q2b T s,0)else(0,4)
def QLk(T:List Qba)(node:Int):ByteArray:=if Qfa T≠0∨node<0∨T.length≤node then ByteArray.empty else QQa T node.toNat
end Go.Proofs.YtgaboghigefgbaaGreatDoor
open Go
namespace Go.Proofs.YtgaboghigefgbaaGreatDoor
def Q4b(L:List Qba)(k:Nat):Qba:=⟨if k=0 then QTa L 0 else(((Qab L).idxOf (Qwb L k):Nat):Int),Qwa L k,Qmb L k⟩
def Qoa(L:List Qba):List Qba:=(Qab L).map (Q4b L)
theorem Qcs{l:List Nat}(h:l.Nodup)(i:Nat)(hi:i<l.length):l.idxOf l[i]=i:=by
 have h1:l.idxOf l[i]<l.length:=List.idxOf_lt_length_iff.2 (List.getElem_mem hi)
 have h2:l[l.idxOf l[i]]=l[i]:=List.getElem_idxOf h1
 exact(List.getElem_inj h).1 h2
theorem Qsj{l:List Nat}{x:Nat}(h:x∈l):∃hi:l.idxOf x<l.length,l[l.idxOf x]=x:=⟨List.idxOf_lt_length_iff.2 h,List.getElem_idxOf _⟩
end Go.Proofs.YtgaboghigefgbaaGreatDoor
open Go
namespace Go.Proofs.YtgaboghigefgbaaGreatDoor
def QNa(k:Int)(s:ByteArray)(n:Qba):Bool:=decide (n.parent=k) && eqS n.name s
def Q3c(T:List Qba)(s name:ByteArray):List Qba × Int:=
 if (QBa T s).2≠0 then([],(QBa T s).2)else
  if Q0a name.data.toList=false then([],1)else
   if T.any (QNa (QBa T s).1 name)=true then([],5)else
    if 8≤Q6b T T.length (QBa T s).1 then([],2)else
     if 120≤T.length then([],3)else(Qoa (T++[⟨(QBa T s).1,name,[]⟩]),0)
theorem Qsb(T:List Qba)(s:ByteArray):((QBa T s).2≠0∧(QBa T s).1=0)∨(Qfa T=0∧∃k:Nat,k<T.length∧QBa T s=((k:Int),0)∧QQa T k=s):=by
 unfold QBa
 by_cases h:Qfa T=0
 ·rw[if_neg (by simp[h])]
  rcases QZf T s with e|⟨k,hk,e,hp⟩
  ·rw[e];left;simp
  ·rw[e];right;refine⟨h,k,hk,?_,hp⟩;rw[if_pos (by omega)]
 ·rw[if_pos h];left;exact⟨h,rfl⟩
theorem Q2m{T:List Qba}(h:Par T){n:Qba}{k:Nat}(hn:n.parent=(k:Int))(hk:k<T.length):Par (T++[n]):=by
 intro i h0 hi
 have hlen:(T++[n]).length=T.length+1:=by simp
 by_cases e:i<T.length
 ·have:=h i h0 e
  rw[Qsa hi,List.getElem_append_left e,←Qsa e];exact this
 ·have e2:i=T.length:=by omega
  subst e2
  rw[Qsa hi,List.getElem_append_right (Nat.le_refl _)]
  simp[hn];omega
end Go.Proofs.YtgaboghigefgbaaGreatDoor
open Go
namespace Go.Proofs.YtgaboghigefgbaaGreatDoor
def Qff(l:List Qla)(x:ByteArray):Nat:=Qfb l x+if QKc l x=true then 1 else 0
def QSc(l:List Qla)(p:Qla):List Qla:=l.take (Qfb l p.name)++p::l.drop (Qff l p.name)
theorem Qzk(l:List Qla)(x:ByteArray):Qfb l x≤l.length:=(List.takeWhile_sublist _).length_le
theorem Qhm(l:List Qla)(x:ByteArray):Qfb l x≤Qff l x∧Qff l x≤l.length∧Qff l x≤Qfb l x+1:=by
 have h1:=Qzk l x
 unfold Qff
 split
 ·rename_i h
  have:Qfb l x<l.length:=by
   unfold QKc at h
   by_cases e:Qfb l x<l.length
   ·exact e
   ·rw[List.getElem?_eq_none (by omega)]at h;cases h
  omega
 ·omega
theorem Qur(l:List Qla)(x:ByteArray)(k:Nat)(hk:k<l.length):(l.drop k).takeWhile (fun p=>ltS p.name x)=if ltS l[k].name x=true then l[k]::(l.drop (k+1)).takeWhile (fun p=>ltS p.name x)else []:=by
 rw[List.drop_eq_getElem_cons hk,List.takeWhile_cons]
theorem Qnk{l:List Qla}{x:ByteArray}(hk:Qfb l x<l.length):QKc l x=eqS l[Qfb l x].name x:=by
 unfold QKc;rw[List.getElem?_eq_getElem hk]
theorem Q2f{l:List Qla}{x:ByteArray}(hk:l.length≤Qfb l x):QKc l x=false:=by
 unfold QKc;rw[List.getElem?_eq_none hk]
def Qod(n:Qba)(p:Qla):Qba:=⟨n.parent,n.name,QSc n.props p⟩
def QIb(T:List Qba)(k:Nat)(p:Qla):List Qba:=match T[k]? with
 | some n=>T.set k (Qod n p)
 | none=>T
def QSd(T:List Qba)(s name value:ByteArray):List Qba × Int:=
 if (QBa T s).2≠0 then([],(QBa T s).2)else
  if Q6a name=false then([],1)else
   if Qza (QIb T (QBa T s).1.toNat ⟨name,value⟩)=false then([],3)else(QIb T (QBa T s).1.toNat ⟨name,value⟩,0)
end Go.Proofs.YtgaboghigefgbaaGreatDoor
open Go
namespace Go.Proofs.YtgaboghigefgbaaGreatDoor
def Q2c(T:List Qba):Prop:=0<T.length∧Par T∧QTa T 0 = -1
theorem Qyr{L:List Qba}(h0:0<L.length):(Qab L)[0]? = some 0:=by
 unfold Qab
 obtain⟨n,hn⟩:∃n,L.length=n+1:=⟨L.length-1,by omega⟩
 rw[hn];simp[QYa]
theorem QXb{L:List Qba}(h:Par L)(h0:0<L.length):(Qoa L).length=L.length:=by unfold Qoa;rw[List.length_map];exact Q5c h h0
theorem QTe{L:List Qba}(i:Nat)(hi:i<(Qab L).length):(Qoa L)[i]'(by unfold Qoa;simpa using hi)=Q4b L (Qab L)[i]:=by simp[Qoa]
theorem QAj{L:List Qba}(h0:0<L.length)(hi:0<(Qab L).length):(Qab L)[0]=0:=by
 have:=Qyr h0
 rw[List.getElem?_eq_getElem hi]at this
 exact Option.some.inj this
theorem QTp{L:List Qba}(h:Par L)(h0:0<L.length){i:Nat}(Kp:0<i)(hi:i<(Qab L).length):(Qab L)[i]≠0∧(Qab L).idxOf (Qwb L (Qab L)[i])<i:=by
 obtain⟨h1,h2⟩:=Qlc h h0
 have mi:=QWc h2
 have hz:(Qab L)[i]≠0:=by
  intro e
  have h3:=QAj h0 (show 0<(Qab L).length by omega)
  have:i=0:=(List.getElem_inj mi).1 (by rw[e,h3])
  omega
 refine⟨hz,?_⟩
 have hk:=(h1 _).1 (List.getElem_mem hi)
 have gU:=Q3a h (by omega:0<(Qab L)[i]) hk
 obtain⟨hq,vq⟩:=Qsj ((h1 (Qwb L (Qab L)[i])).2 (by omega))
 by_cases Hh:(Qab L).idxOf (Qwb L (Qab L)[i])<i
 ·exact Hh
 ·exfalso
  have Hm:i≠(Qab L).idxOf (Qwb L (Qab L)[i]):=by
   intro e
   have:(Qab L)[i]=Qwb L (Qab L)[i]:=by
    have h4:(Qab L)[i]? = (Qab L)[(Qab L).idxOf (Qwb L (Qab L)[i])]?:=by rw[←e]
    rw[List.getElem?_eq_getElem hi,List.getElem?_eq_getElem hq,vq]at h4
    exact Option.some.inj h4
   omega
  have hp:=(List.pairwise_iff_getElem.1 h2) i _ hi hq (by omega)
  rw[vq]at hp
  unfold ltI at hp
  rw[Qlb h (by omega) hk]at hp
  exact Qag hp (Q7e _ _ _)
theorem QSe{L:List Qba}(h:Q2c L):Q2c (Qoa L):=by
 obtain⟨h0,hp,hr⟩:=h
 have hl:=QXb hp h0
 have M0:=Q5c hp h0
 refine⟨by omega,?_,?_⟩
 ·intro i Kp hi
  have Mk:i<(Qab L).length:=by omega
  obtain⟨hz,Hh⟩:=QTp hp h0 Kp Mk
  rw[Qsa hi,QTe i Mk]
  unfold Q4b
  simp only
  rw[if_neg hz]
  omega
 ·have hi:0<(Qoa L).length:=by omega
  rw[Qsa hi,QTe 0 (by omega),QAj h0 (by omega)]
  show(if (0:Nat)=0 then QTa L 0 else(((Qab L).idxOf (Qwb L 0):Nat):Int)) = -1
  rw[if_pos rfl];exact hr
theorem Qae{T:List Qba}(h:Q2c T){n:Qba}{k:Nat}(hn:n.parent=(k:Int))(hk:k<T.length):Q2c (T++[n]):=by
 refine⟨by simp,Q2m h.2.1 hn hk,?_⟩
 have h0:=h.1
 have e:QTa (T++[n]) 0=QTa T 0:=by
  rw[Qsa (by simp),Qsa h0,List.getElem_append_left h0]
 rw[e];exact h.2.2
end Go.Proofs.YtgaboghigefgbaaGreatDoor
open Go
namespace Go.Proofs.YtgaboghigefgbaaGreatDoor
def sk(n:Qba):Int × ByteArray:=(n.parent,n.name)
theorem QXp{T U:List Qba}(h:T.map sk=U.map sk)(i:Nat):QTa T i=QTa U i:=by
 have e:∀L:List Qba,QTa L i=((L.map sk)[i]?.map Prod.fst).getD (-1):=by
  intro L;unfold QTa;rw[List.getElem?_map];cases L[i]? <;> rfl
 rw[e,e,h]
theorem Qxk{T U:List Qba}(h:T.map sk=U.map sk):T.length=U.length:=by simpa using congrArg List.length h
theorem QBt{T U:List Qba}(h:T.map sk=U.map sk):∀(f:Nat) (u:Int),Q6b T f u=Q6b U f u:=by
 intro f
 induction f with
 | zero=>intro u;rfl
 | succ f ih=>intro u;unfold Q6b;rw[QXp h,ih]
theorem Qap{T U:List Qba}(h:T.map sk=U.map sk):QPd T=QPd U:=by
 unfold QPd QAs;rw[Qxk h];simp only[QBt h]
theorem Qzq:∀(T U:List Qba) (i:Nat) (seen:List (ByteArray × Int)),T.map sk=U.map sk→QHi i seen T=QHi i seen U:=by
 intro T
 induction T with
 | nil=>intro U i seen h;cases U with
  | nil=>rfl
  | cons u U=>simp at h
 | cons n T ih=>intro U i seen h;cases U with
  | nil=>simp at h
  | cons u U=>
   simp only[List.map_cons,List.cons.injEq,sk,Prod.mk.injEq]at h
   obtain⟨⟨h1,h2⟩,h3⟩:=h
   unfold QHi;rw[h1,h2,ih U _ _ h3]
theorem QHu{T U:List Qba}(h:T.map sk=U.map sk)(p:Int):∀(f:Nat) (u:Int),QNg T p f u=QNg U p f u:=by
 intro f
 induction f with
 | zero=>intro u;rfl
 | succ f ih=>intro u;unfold QNg;rw[QXp h,ih]
theorem Qjl{T U:List Qba}(h:T.map sk=U.map sk):∀(L M:List Qba) (i:Nat) (last:List ByteArray),L.map sk=M.map sk→(∀n∈M,Qtd n.props=true)→QTb T i last L=true→QTb U i last M=true:=by
 intro L
 induction L with
 | nil=>intro M i last hm ha hw;cases M with
  | nil=>rfl
  | cons u U=>simp at hm
 | cons n L ih=>intro M i last hm ha hw;cases M with
  | nil=>simp at hm
  | cons m M=>
   simp only[List.map_cons,List.cons.injEq,sk,Prod.mk.injEq]at hm
   obtain⟨⟨h1,h2⟩,h3⟩:=hm
   have hM:∀n∈M,Qtd n.props=true:=fun n hn=>ha n (List.mem_cons_of_mem _ hn)
   unfold QTb at hw ⊢
   rw[Bool.and_eq_true]at hw ⊢
   refine⟨ha m (List.mem_cons_self ..),?_⟩
   by_cases h0:i=0
   ·rw[if_pos h0]at hw ⊢
    exact ih M _ _ h3 hM hw.2
   ·rw[if_neg h0]at hw ⊢
    simp only[Bool.and_eq_true]at hw ⊢
    rw[←h2,←h1,←QHu h]
    exact⟨hw.2.1,ih M _ _ h3 hM hw.2.2⟩
theorem QZm:∀(L M:List Qba) (i:Nat),L.map sk=M.map sk→(∀n∈M,n.props.all (fun p=>Q6a p.name)=true)→QEd i L=true→QEd i M=true:=by
 intro L
 induction L with
 | nil=>intro M i hm ha hw;cases M with
  | nil=>rfl
  | cons u U=>simp at hm
 | cons n L ih=>intro M i hm ha hw;cases M with
  | nil=>simp at hm
  | cons m M=>
   simp only[List.map_cons,List.cons.injEq,sk,Prod.mk.injEq]at hm
   obtain⟨⟨h1,h2⟩,h3⟩:=hm
   rw[QJf]at hw ⊢
   simp only[Bool.and_eq_true]at hw ⊢
   refine⟨⟨?_,ha m (List.mem_cons_self ..)⟩,ih M _ h3 (fun n hn=>ha n (List.mem_cons_of_mem _ hn)) hw.2⟩
   have:=hw.1.1
   unfold Qud at this ⊢
   rw[←h1,←h2];exact this
theorem Q9s{l:List Qla}{p q:Qla}(h:q∈QSc l p):q=p∨q∈l:=by
 unfold QSc at h
 rcases List.mem_append.1 h with h|h
 ·exact .inr (List.mem_of_mem_take h)
 ·rcases List.mem_cons.1 h with h|h
  ·exact .inl h
  ·exact .inr (List.mem_of_mem_drop h)
theorem Q8p(p:Qla):QSc [] p=[p]:=rfl
theorem QFj{a p:Qla}{r:List Qla}(h:ltS a.name p.name=true):QSc (a::r) p=a::QSc r p:=by
 have e:Qfb (a::r) p.name=Qfb r p.name+1:=by unfold Qfb;rw[List.takeWhile_cons,if_pos h];rfl
 have e2:QKc (a::r) p.name=QKc r p.name:=by unfold QKc;rw[e];rfl
 unfold QSc Qff
 rw[e,e2,show Qfb r p.name+1+(if QKc r p.name=true then 1 else 0)=(Qfb r p.name+if QKc r p.name=true then 1 else 0)+1 from by omega]
 rfl
theorem QEj{a p:Qla}{r:List Qla}(h:ltS a.name p.name=false):QSc (a::r) p=p::(if a.name=p.name then r else a::r):=by
 have e:Qfb (a::r) p.name=0:=by unfold Qfb;rw[List.takeWhile_cons,if_neg (by simp[h])];rfl
 unfold QSc Qff QKc
 rw[e]
 by_cases he:a.name=p.name
 ·rw[if_pos he];simp[(Qxa _ _).2 he]
 ·rw[if_neg he]
  have:eqS a.name p.name=false:=by
   cases h':eqS a.name p.name with
   | false=>rfl
   | true=>exact absurd ((Qxa _ _).1 h') he
  simp[this]
theorem Q3e{a:Qla}{l:List Qla}:Qtd (a::l)=true↔(∀b,l.head? = some b→ltS a.name b.name=true)∧Qtd l=true:=by
 cases l with
 | nil=>simp[Qtd]
 | cons b r=>simp[Qtd]
theorem QTo:∀(l:List Qla) (p:Qla),Qtd l=true→Qtd (QSc l p)=true:=by
 intro l p
 induction l with
 | nil=>intro _;rfl
 | cons a r ih=>
  intro h
  rw[Q3e]at h
  cases hl:ltS a.name p.name with
  | true=>
   rw[QFj hl,Q3e]
   refine⟨fun b hb=>?_,ih h.2⟩
   cases r with
   | nil=>rw[Q8p]at hb;cases hb;exact hl
   | cons c r=>
    cases h2:ltS c.name p.name with
    | true=>rw[QFj h2]at hb;cases hb;exact h.1 _ rfl
    | false=>rw[QEj h2]at hb;cases hb;exact hl
  | false=>
   rw[QEj hl]
   by_cases he:a.name=p.name
   ·rw[if_pos he,Q3e];exact⟨fun b hb=>by rw[←he];exact h.1 b hb,h.2⟩
   ·rw[if_neg he,Q3e]
    refine⟨fun b hb=>?_,Q3e.2 h⟩
    cases hb
    rcases Qjd hl with e|e
    ·exact absurd e he
    ·exact e
theorem Qya{T:List Qba}(h:Qfa T=0):Qza T=true∧QWa T=true∧Qub T=true∧QIi T=false∧QPd T=false:=by
 unfold Qfa at h
 by_cases h1:Qza T=false
 ·rw[if_pos h1]at h;cases h
 rw[if_neg h1]at h
 by_cases h2:QWa T=false
 ·rw[if_pos h2]at h;cases h
 rw[if_neg h2]at h
 by_cases h3:Qub T=false
 ·rw[if_pos h3]at h;cases h
 rw[if_neg h3]at h
 by_cases h4:QIi T=true
 ·rw[if_pos h4]at h;cases h
 rw[if_neg h4]at h
 by_cases h5:QPd T=true
 ·rw[if_pos h5]at h;cases h
 exact⟨by simpa using h1,by simpa using h2,by simpa using h3,by simpa using h4,by simpa using h5⟩
theorem Qjj{T:List Qba}(h:Qza T=true∧QWa T=true∧Qub T=true∧QIi T=false∧QPd T=false):Qfa T=0:=by
 unfold Qfa
 rw[if_neg (by simp[h.1]),if_neg (by simp[h.2.1]),if_neg (by simp[h.2.2.1]),if_neg (by simp[h.2.2.2.1]),if_neg (by simp[h.2.2.2.2])]
theorem QMj(T:List Qba)(k:Nat)(p:Qla):T.map sk=(QIb T k p).map sk:=by
 unfold QIb
 by_cases hk:k<T.length
 ·rw[List.getElem?_eq_getElem hk]
  simp only[List.map_set]
  rw[show sk (Qod T[k] p)=(T.map sk)[k]'(by simpa using hk)from by simp[sk,Qod],List.set_getElem_self]
 ·rw[List.getElem?_eq_none (by omega)]
theorem QZk{T:List Qba}{k:Nat}{p:Qla}{n:Qba}(h:n∈QIb T k p):n∈T∨∃m∈T,n=Qod m p:=by
 unfold QIb at h
 by_cases hk:k<T.length
 ·rw[List.getElem?_eq_getElem hk]at h
  rcases List.mem_or_eq_of_mem_set h with h|h
  ·exact .inl h
  ·exact .inr ⟨T[k],List.getElem_mem hk,h⟩
 ·rw[List.getElem?_eq_none (by omega)]at h;exact .inl h
theorem Qjm{T:List Qba}{k:Nat}{p:Qla}(h:Qfa T=0)(hp:Q6a p.name=true)(hl:Qza (QIb T k p)=true):Qfa (QIb T k p)=0:=by
 have hs:=QMj T k p
 have ha:=Qfc h
 obtain⟨h1,h2,h3,h4,h5⟩:=Qya h
 have ku:∀n∈T,n.props.all (fun p=>Q6a p.name)=true:=by
  intro n hn
  obtain⟨i,hi,rfl⟩:=List.getElem_of_mem hn
  exact(QRc T 0 h2 i hi).2
 refine Qjj ⟨hl,?_,?_,?_,?_⟩
 ·refine QZm T _ 0 hs (fun n hn=>?_) h2
  rcases QZk hn with h|⟨m,hm,rfl⟩
  ·exact ku n h
  ·rw[List.all_eq_true]
   intro q hq
   rcases Q9s hq with e|e
   ·rw[e];exact hp
   ·exact List.all_eq_true.1 (ku m hm) q e
 ·unfold Qub
  rw[←Qxk hs]
  refine Qjl hs T _ 0 _ hs (fun n hn=>?_) h3
  rcases QZk hn with h|⟨m,hm,rfl⟩
  ·exact ha n h
  ·exact QTo _ _ (ha m hm)
 ·rw[←h4];exact(Qzq _ _ 0 [] hs).symm
 ·rw[←h5];exact(Qap hs).symm
theorem Q1k{T:List Qba}{s name value:ByteArray}(he:(QSd T s name value).2=0):Qfa (QSd T s name value).1=0∧(QSd T s name value).1.length=T.length:=by
 unfold QSd at he ⊢
 rcases Qsb T s with⟨hb,_⟩|⟨hc,k,hk,hb,_⟩
 ·rw[if_pos hb]at he;exact absurd he hb
 ·rw[hb]at he ⊢
  rw[if_neg (by simp)]at he ⊢
  by_cases h1:Q6a name=false
  ·rw[if_pos h1]at he;simp at he
  rw[if_neg h1]at he ⊢
  by_cases h2:Qza (QIb T ((k:Int),(0:Int)).1.toNat ⟨name,value⟩)=false
  ·rw[if_pos h2]at he;simp at he
  rw[if_neg h2]
  exact⟨Qjm hc (by simpa using h1) (by simpa using h2),(Qxk (QMj _ _ _)).symm⟩
end Go.Proofs.YtgaboghigefgbaaGreatDoor
