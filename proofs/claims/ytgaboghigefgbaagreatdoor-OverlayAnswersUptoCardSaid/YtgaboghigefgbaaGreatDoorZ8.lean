/- Lemmas on the way to the law; no conditions. -/
import Derived.Test.YtgaboghigefgbaaGreatDoorZ1
import Derived.Laws.Closers25b
set_option linter.all false
namespace Go.Proofs.YtgaboghigefgbaaGreatDoor
theorem Qeh(s:ByteArray)(h:s.size=0):s=ByteArray.empty:=by
 apply ByteArray.ext;apply Array.eq_empty_of_size_eq_zero;simpa using h
theorem QLe(s:ByteArray)(h:0<s.size):¬s.toList=[]:=by
 rw[toList_nil_iff_emptyBytes];rintro rfl;simp at h
theorem QJc(s:ByteArray)(h:0<s.size):s.toList.isEmpty=false:=by
 have:=QLe s h;simpa using this
def blk:Nat→List UInt8→Nat × Bool
 | 0,_=>(0,false)
 | _+1,[]=>(0,false)
 | f+1,c::r=>
  if Qar c.toNat=true then((blk f r).1+1,(blk f r).2)
  else if Lib.hasPrefix (c::r) [47,47]=true then
   let k:=Qwc Qcd (c::r)
   ((blk f ((c::r).drop k)).1+k,(blk f ((c::r).drop k)).2)
  else if Lib.hasPrefix (c::r) [47,42]=true then
   let e:=Lib.index ((c::r).drop 2) [42,47]
   if e<0 then(0,true)else((blk f ((c::r).drop (e.toNat+4))).1+(e.toNat+4),(blk f ((c::r).drop (e.toNat+4))).2)
  else(0,false)
theorem QWt:∀(f:Nat) (l:List UInt8),(blk f l).1≤l.length:=by
 intro f
 induction f with
 | zero=>intro l;simp[blk]
 | succ f ih=>
  intro l;cases l with
  | nil=>simp[blk]
  | cons c r=>
   simp only[blk];split
   ·have:=ih r;simp;omega
   split
   ·have h1:=ih ((c::r).drop (Qwc Qcd (c::r)));have h2:=Qfe Qcd (c::r);simp only[List.length_drop]at h1;simp only;omega
   split
   ·split
    ·simp
    rename_i h2 h3;have h1:=ih ((c::r).drop ((Lib.index ((c::r).drop 2) [42,47]).toNat+4));have hr:=Lib.index_room ((c::r).drop 2) [42,47] (by omega);have hp:=Lib.hasPrefix_le h2;simp only[List.length_drop,List.length_cons,List.length_nil]at h1 hr hp ⊢;omega
   simp
def Qdd(base:Int):List UInt8→Int→Option Int
 | [],n=>some n
 | c::r,n=>if Qrg c.toNat<0∨base≤Qrg c.toNat then none else Qdd base r (min (n*base+Qrg c.toNat) 4294967296)
def QNb(l:List UInt8):Int × List UInt8:=
 if Lib.hasPrefix l [48,120]=true then(16,l.drop 2)else if 1<l.length∧l.headD 0=48 then(8,l.drop 1)else(10,l)
def Q9t(o:Option Int):Int × Int:=
 match o with
 | none=>(0,6)
 | some n=>if n > 4294967295 then(0,2)else(n,0)
def Qdm(l:List UInt8):Int × Int:=if (QNb l).2=[]then(0,6)else Q9t (Qdd (QNb l).1 (QNb l).2 0)
def hx2:Nat→List UInt8→Int→Int × Nat × Int
 | 0,_,v=>(v,3,0)
 | _+1,[],_=>(0,0,21)
 | n+1,a::r,v=>if a.toNat=10 then(0,0,21)else if Qrg a.toNat<0 then(0,0,6)else hx2 n r (16*v+Qrg a.toNat)
def esc(l:List UInt8):Int × Nat × Int:=
 match l with
 | []=>(0,0,21)
 | c::r=>
  if c.toNat=10 then(0,0,21)
  else if c.toNat=110 then(10,1,0)else if c.toNat=116 then(9,1,0)else if c.toNat=34 then(34,1,0)else if c.toNat=92 then(92,1,0)
  else if c.toNat≠120 then(0,0,6)
  else hx2 2 r 0
theorem QDj(c:Int):-1≤Qrg c∧Qrg c≤15:=by unfold Qrg;split;omega;split;omega;split;omega;omega
def qtA:Nat→List UInt8→List UInt8→Nat→List UInt8 × Nat × Int
 | 0,_,_,_=>([],0,21)
 | _+1,[],_,_=>([],0,21)
 | f+1,c::r,acc,i=>
  if c.toNat=34 then(acc,i+1,0)
  else if c.toNat=10 then([],0,21)
  else if c.toNat=92 then
   (if (esc r).2.2≠0 then([],0,(esc r).2.2)else qtA f (r.drop (esc r).2.1) (acc++[(esc r).1.toNat.toUInt8]) (i+(esc r).2.1+1))
  else qtA f r (acc++[c]) (i+1)
def QSc:List (List UInt8):=[[60,60],[62,62],[60,61],[62,61],[61,61],[33,61],[38,38],[124,124]]
def Qlh:List UInt8:=[123,125,40,41,60,62,91,93,59,61,44,43,45,42,47,37,38,124,94,126,33,63,58]
def Qmd(l:List UInt8):Nat:=
 if QSc.any (fun p=>Lib.hasPrefix l p)=true then 2 else if Qef Qlh (l.headD 0).toNat=true then 1 else 0
structure Tok where
 kind:Int
 text:List UInt8
 value:Int
 line:Int
 col:Int
 deriving DecidableEq,Repr
def Q2b(l:List UInt8):Tok × Nat × Int:=
 let c:Int:=(l.headD 0).toNat
 let sg:Tok × Nat × Int:=if Qmd l > 0 then(⟨4,l.take (Qmd l),0,0,0⟩,Qmd l,0)else(⟨0,[],0,0,0⟩,0,20)
 if QIa c=true∨c=95∨c=35 then
  let n:=Qwc QYb l
  if n=l.length∨(l.getD n 0).toNat≠58 then(⟨1,l.take n,0,0,0⟩,n,0)
  else if Q1j Q7b (l.take n)=true then(⟨5,l.take n,0,0,0⟩,n+1,0)else(⟨0,[],0,0,0⟩,0,6)
 else if QKc c=true then
  let n:=Qwc Q7b l
  (⟨2,[],(Qdm (l.take n)).1,0,0⟩,n,(Qdm (l.take n)).2)
 else if c=34 then
  let q:=qtA l.length (l.drop 1) [] 1
  (⟨3,q.1,0,0,0⟩,q.2.1,q.2.2)
 else if c=38∧1<l.length∧(QIa (l.getD 1 0).toNat=true∨(l.getD 1 0).toNat=95)then
  let n:=Qwc Q7b (l.drop 1)+1
  (⟨6,(l.take n).drop 1,0,0,0⟩,n,0)
 else if c=47 then
  let n:=Qwc Qhd (l.drop 1)
  if n > 0∧n+1<l.length∧(l.getD (n+1) 0).toNat=47 then(⟨7,(l.take (n+1)).drop 1,0,0,0⟩,n+2,0)else sg
 else sg
def rdA(file:Int):Nat→List UInt8→Int × Int→List Tok→List Tok × (Int × Int × Int) × Int
 | 0,_,p,_=>([],(file,p.1,p.2),21)
 | f+1,l,p,acc=>
  let b:=blk l.length l
  let p1:=adv (l.take b.1) p
  let l1:=l.drop b.1
  if b.2=true then([],(file,p1.1,p1.2),21)
  else if acc.length=6000 then([],(file,p1.1,p1.2),3)
  else if l1=[]then(acc++[⟨8,[],0,p1.1,p1.2⟩],(0,0,0),0)
  else
   let t:=Q2b l1
   if t.2.2≠0 then([],(file,p1.1,p1.2),t.2.2)
   else rdA file f (l1.drop t.2.1) (adv (l1.take t.2.1) p1) (acc++[{ t.1 with line:=p1.1,col:=p1.2 }])
def QZc(l:List UInt8)(file:Int):List Tok × (Int × Int × Int) × Int:=
 if 16000<l.length then([],(0,0,0),3)else rdA file (l.length+1) l (1,1) []
theorem Qcm(l:List UInt8):8≤(QNb l).1∧(QNb l).1≤16:=by
 unfold QNb;split;simp;split <;> simp
theorem QQk(l:List UInt8):(QNb l).2.length≤l.length:=by
 unfold QNb;split;simp;split <;> simp
theorem QEc(s:ByteArray)(a:Nat):(s.extract a s.size).data.toList=s.data.toList.drop a:=by
 simp[ByteArray.data_extract,Array.toList_extract,List.extract_eq_take_drop]
 try exact List.take_of_length_le (by simp)
theorem QIf(s:ByteArray)(a b:Nat):(s.extract a b).data.toList=(s.data.toList.take b).drop a:=by
 simp[ByteArray.data_extract,Array.toList_extract,List.extract_eq_take_drop]
 try rw[List.drop_take]
theorem Qas:∀(f:Nat) (l acc:List UInt8) (i:Nat),(qtA f l acc i).2.2=0→i+1≤(qtA f l acc i).2.1∧(qtA f l acc i).2.1≤i+l.length:=by
 intro f
 induction f with
 | zero=>intro l acc i h;simp[qtA]at h
 | succ f ih=>
  intro l acc i h;cases l with
  | nil=>simp[qtA]at h
  | cons c r=>
   by_cases Ml:c.toNat=34
   ·simp only[qtA];rw[if_pos Ml];simp
   by_cases gR:c.toNat=10
   ·simp only[qtA]at h;rw[if_neg Ml,if_pos gR]at h;simp at h
   by_cases h92:c.toNat=92
   ·simp only[qtA]at h ⊢;rw[if_neg Ml,if_neg gR,if_pos h92]at h ⊢;by_cases he:(esc r).2.2≠0
    ·rw[if_pos he]at h;exact absurd h he
    rw[if_neg he]at h ⊢;have:=ih _ _ _ h;have hr:(esc r).2.1≤r.length:=by
     cases r with
     | nil=>simp[esc]
     | cons a r=>
      simp only[esc]
      repeat' (split;· simp)
      cases r with
      | nil=>simp[hx2]
      | cons b r=>
       simp only[hx2]
       repeat' (split;· simp)
       cases r with
       | nil=>simp[hx2]
       | cons c r=>simp only[hx2];repeat' (split;· simp)
                   simp
    simp only[List.length_drop,List.length_cons]at this ⊢;omega
   simp only[qtA]at h ⊢;rw[if_neg Ml,if_neg gR,if_neg h92]at h ⊢;have:=ih _ _ _ h;simp only[List.length_cons];omega
theorem Qkn(p:Int→Bool)(l:List UInt8)(h:l≠[])(hp:p (l.headD 0).toNat=true):1≤Qwc p l:=by
 cases l with
 | nil=>exact absurd rfl h
 | cons c r=>rw[Qfg,if_pos (by simpa using hp)];omega
theorem Q1n(c:Int)(h:QIa c=true∨c=95∨c=35):QYb c=true:=by
 unfold QYb Q7b;rcases h with h|h|h
 ·simp[h]
 ·simp[h]
 subst h;decide
theorem QAo(l:List UInt8)(h:l≠[]):Qmd l≤l.length:=by
 unfold Qmd;split
 ·rename_i h2;simp only[QSc,List.any_cons,List.any_nil,Bool.or_false,Bool.or_eq_true]at h2;rcases h2 with h2|h2|h2|h2|h2|h2|h2|h2 <;> exact Lib.hasPrefix_le h2
 split
 ·have:=List.length_pos_iff.2 h;omega
 omega
theorem Q4n(l:List UInt8)(h:l≠[])(he:(Q2b l).2.2=0):1≤(Q2b l).2.1∧(Q2b l).2.1≤l.length:=by
 have hlen:=List.length_pos_iff.2 h;have gE:∀q,(if Qmd l > 0 then((⟨4,l.take (Qmd l),0,0,0⟩:Tok),Qmd l,(0:Int))else(⟨0,[],0,0,0⟩,0,20))=q→q.2.2=0→1≤q.2.1∧q.2.1≤l.length:=by
  rintro q rfl hq;split at hq
  ·rename_i h0;rw[if_pos h0];exact⟨h0,QAo l h⟩
  simp at hq
 unfold Q2b at he ⊢;simp only at he ⊢;by_cases c1:QIa (l.headD 0).toNat=true∨((l.headD 0).toNat:Int)=95∨((l.headD 0).toNat:Int)=35
 ·rw[if_pos c1]at he ⊢;have hr:=Qfe QYb l;have hp:1≤Qwc QYb l:=Qkn QYb l h (Q1n _ c1);by_cases c2:Qwc QYb l=l.length∨(l.getD (Qwc QYb l) 0).toNat≠58
  ·rw[if_pos c2];exact⟨hp,hr⟩
  rw[if_neg c2]at he ⊢;have c2':Qwc QYb l≠l.length:=fun e=>c2 (.inl e);by_cases c3:Q1j Q7b (l.take (Qwc QYb l))=true
  ·rw[if_pos c3];simp only;omega
  rw[if_neg c3]at he;simp at he
 rw[if_neg c1]at he ⊢;by_cases c2:QKc (l.headD 0).toNat=true
 ·rw[if_pos c2]at he ⊢;exact⟨Qkn Q7b l h (by unfold Q7b;simp only[c2];simp),Qfe Q7b l⟩
 rw[if_neg c2]at he ⊢;by_cases c3:((l.headD 0).toNat:Int)=34
 ·rw[if_pos c3]at he ⊢;have:=Qas _ _ _ _ he;simp only[List.length_drop]at this ⊢;omega
 rw[if_neg c3]at he ⊢;by_cases c4:((l.headD 0).toNat:Int)=38∧1<l.length∧(QIa (l.getD 1 0).toNat=true∨(l.getD 1 0).toNat=95)
 ·rw[if_pos c4]at he ⊢;have:=Qfe Q7b (l.drop 1);simp only[List.length_drop]at this ⊢;omega
 rw[if_neg c4]at he ⊢;by_cases c5:((l.headD 0).toNat:Int)=47
 ·rw[if_pos c5]at he ⊢;by_cases c6:Qwc Qhd (l.drop 1) > 0∧Qwc Qhd (l.drop 1)+1<l.length∧(l.getD (Qwc Qhd (l.drop 1)+1) 0).toNat=47
  ·rw[if_pos c6];simp only;omega
  rw[if_neg c6]at he ⊢;exact gE _ rfl he
 rw[if_neg c5]at he ⊢;exact gE _ rfl he



end Go.Proofs.YtgaboghigefgbaaGreatDoor
