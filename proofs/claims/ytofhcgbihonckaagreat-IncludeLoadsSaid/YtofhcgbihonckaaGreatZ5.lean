/- What Read of token computes, in plain Lean. | Plain laws on what next of token computes: how far it reads. | Plain laws: what separates tokens changes only places. | Plain laws: places of tokens ascend; a line feed ends what was before; a line feed in front moves all. | Plain laws: places of tokens ascend; a line feed ends what was before; a line feed in front moves all: whole texts. | Texts in which no string begins with the letter o (plain). | Digits of a number, in plain Lean. | Plain laws: what the tokens of a number's digits are. | Plain laws: the tokens of texts put together of pieces. -/
import Derived.Test.YtofhcgbihonckaaGreatZ4
import Derived.Laws.Closers25b
set_option linter.all false
namespace Go.Proofs.YtofhcgbihonckaaGreat
theorem QEd(s:ByteArray)(h:s.size=0):s=ByteArray.empty:=by
 apply ByteArray.ext;apply Array.eq_empty_of_size_eq_zero;simpa using h
theorem Qzc(s:ByteArray)(h:0<s.size):¬s.toList=[]:=by
 rw[toList_nil_iff_emptyBytes];rintro rfl;simp at h
theorem Qub(s:ByteArray)(h:0<s.size):s.toList.isEmpty=false:=by
 have:=Qzc s h;simpa using this
def blk:Nat→List UInt8→Nat × Bool
 | 0,_=>(0,false)
 | _+1,[]=>(0,false)
 | f+1,c::r=>
  if Qqj c.toNat=true then((blk f r).1+1,(blk f r).2)
  else if Lib.hasPrefix (c::r) [47,47]=true then
   let k:=QWa Qzb (c::r)
   ((blk f ((c::r).drop k)).1+k,(blk f ((c::r).drop k)).2)
  else if Lib.hasPrefix (c::r) [47,42]=true then
   let e:=Lib.index ((c::r).drop 2) [42,47]
   if e<0 then(0,true)else((blk f ((c::r).drop (e.toNat+4))).1+(e.toNat+4),(blk f ((c::r).drop (e.toNat+4))).2)
  else(0,false)
theorem Qrq:∀(f:Nat) (l:List UInt8),(blk f l).1≤l.length:=by
 intro f
 induction f with
 | zero=>intro l;simp[blk]
 | succ f ih=>
  intro l
  cases l with
  | nil=>simp[blk]
  | cons c r=>
   simp only[blk]
   split
   ·have:=ih r;simp;omega
   ·split
    ·have h1:=ih ((c::r).drop (QWa Qzb (c::r)))
     have h2:=QGc Qzb (c::r)
     simp only[List.length_drop]at h1
     simp only;omega
    ·split
     ·split
      ·simp
      ·rename_i h2 h3
       have h1:=ih ((c::r).drop ((Lib.index ((c::r).drop 2) [42,47]).toNat+4))
       have hr:=Lib.index_room ((c::r).drop 2) [42,47] (by omega)
       have hp:=Lib.hasPrefix_le h2
       simp only[List.length_drop,List.length_cons,List.length_nil]at h1 hr hp ⊢
       omega
     ·simp
def Q2a(base:Int):List UInt8→Int→Option Int
 | [],n=>some n
 | c::r,n=>if Qwc c.toNat<0∨base≤Qwc c.toNat then none else Q2a base r (min (n*base+Qwc c.toNat) 4294967296)
def Qkb(l:List UInt8):Int × List UInt8:=
 if Lib.hasPrefix l [48,120]=true then(16,l.drop 2)else if 1<l.length∧l.headD 0=48 then(8,l.drop 1)else(10,l)
def QPl(o:Option Int):Int × Int:=
 match o with
 | none=>(0,6)
 | some n=>if n > 4294967295 then(0,2)else(n,0)
def QMe(l:List UInt8):Int × Int:=if (Qkb l).2=[]then(0,6)else QPl (Q2a (Qkb l).1 (Qkb l).2 0)
def hx2:Nat→List UInt8→Int→Int × Nat × Int
 | 0,_,v=>(v,3,0)
 | _+1,[],_=>(0,0,21)
 | n+1,a::r,v=>if a.toNat=10 then(0,0,21)else if Qwc a.toNat<0 then(0,0,6)else hx2 n r (16*v+Qwc a.toNat)
def esc(l:List UInt8):Int × Nat × Int:=
 match l with
 | []=>(0,0,21)
 | c::r=>
  if c.toNat=10 then(0,0,21)
  else if c.toNat=110 then(10,1,0)else if c.toNat=116 then(9,1,0)else if c.toNat=34 then(34,1,0)else if c.toNat=92 then(92,1,0)
  else if c.toNat≠120 then(0,0,6)
  else hx2 2 r 0
theorem Qof(c:Int):-1≤Qwc c∧Qwc c≤15:=by unfold Qwc;split;omega;split;omega;split;omega;omega
def qtA:Nat→List UInt8→List UInt8→Nat→List UInt8 × Nat × Int
 | 0,_,_,_=>([],0,21)
 | _+1,[],_,_=>([],0,21)
 | f+1,c::r,acc,i=>
  if c.toNat=34 then(acc,i+1,0)
  else if c.toNat=10 then([],0,21)
  else if c.toNat=92 then
   (if (esc r).2.2≠0 then([],0,(esc r).2.2)else qtA f (r.drop (esc r).2.1) (acc++[(esc r).1.toNat.toUInt8]) (i+(esc r).2.1+1))
  else qtA f r (acc++[c]) (i+1)
def QVa:List (List UInt8):=[[60,60],[62,62],[60,61],[62,61],[61,61],[33,61],[38,38],[124,124]]
def Qbd:List UInt8:=[123,125,40,41,60,62,91,93,59,61,44,43,45,42,47,37,38,124,94,126,33,63,58]
def Qyc(l:List UInt8):Nat:=
 if QVa.any (fun p=>Lib.hasPrefix l p)=true then 2 else if QYd Qbd (l.headD 0).toNat=true then 1 else 0
structure Tok where
 kind:Int
 text:List UInt8
 value:Int
 line:Int
 col:Int
 deriving DecidableEq,Repr
def QJa(l:List UInt8):Tok × Nat × Int:=
 let c:Int:=(l.headD 0).toNat
 let sg:Tok × Nat × Int:=if Qyc l > 0 then(⟨4,l.take (Qyc l),0,0,0⟩,Qyc l,0)else(⟨0,[],0,0,0⟩,0,20)
 if Qka c=true∨c=95∨c=35 then
  let n:=QWa Q9a l
  if n=l.length∨(l.getD n 0).toNat≠58 then(⟨1,l.take n,0,0,0⟩,n,0)
  else if QQf QPa (l.take n)=true then(⟨5,l.take n,0,0,0⟩,n+1,0)else(⟨0,[],0,0,0⟩,0,6)
 else if QSa c=true then
  let n:=QWa QPa l
  (⟨2,[],(QMe (l.take n)).1,0,0⟩,n,(QMe (l.take n)).2)
 else if c=34 then
  let q:=qtA l.length (l.drop 1) [] 1
  (⟨3,q.1,0,0,0⟩,q.2.1,q.2.2)
 else if c=38∧1<l.length∧(Qka (l.getD 1 0).toNat=true∨(l.getD 1 0).toNat=95)then
  let n:=QWa QPa (l.drop 1)+1
  (⟨6,(l.take n).drop 1,0,0,0⟩,n,0)
 else if c=47 then
  let n:=QWa QYa (l.drop 1)
  if n > 0∧n+1<l.length∧(l.getD (n+1) 0).toNat=47 then(⟨7,(l.take (n+1)).drop 1,0,0,0⟩,n+2,0)else sg
 else sg
def rdA(file:Int):Nat→List UInt8→Int × Int→List Tok→List Tok × (Int × Int × Int) × Int
 | 0,_,p,_=>([],(file,p.1,p.2),21)
 | f+1,l,p,acc=>
  let b:=blk l.length l
  let p1:=adv (l.take b.1) p
  let l1:=l.drop b.1
  if b.2=true then([],(file,p1.1,p1.2),21)
  else if acc.length=6000 then([],(file,p1.1,p1.2),3)
  else if l1=[]then(acc++[⟨8,[],0,p1.1,p1.2⟩],(0,0,0),0)
  else
   let t:=QJa l1
   if t.2.2≠0 then([],(file,p1.1,p1.2),t.2.2)
   else rdA file f (l1.drop t.2.1) (adv (l1.take t.2.1) p1) (acc++[{ t.1 with line:=p1.1,col:=p1.2 }])
def QUb(l:List UInt8)(file:Int):List Tok × (Int × Int × Int) × Int:=
 if 16000<l.length then([],(0,0,0),3)else rdA file (l.length+1) l (1,1) []
theorem Qxg(l:List UInt8):8≤(Qkb l).1∧(Qkb l).1≤16:=by
 unfold Qkb;split;simp;split <;> simp
theorem QKf(l:List UInt8):(Qkb l).2.length≤l.length:=by
 unfold Qkb;split;simp;split <;> simp
theorem QLb(s:ByteArray)(a:Nat):(s.extract a s.size).data.toList=s.data.toList.drop a:=by
 simp[ByteArray.data_extract,Array.toList_extract,List.extract_eq_take_drop]
 try exact List.take_of_length_le (by simp)
theorem QPd(s:ByteArray)(a b:Nat):(s.extract a b).data.toList=(s.data.toList.take b).drop a:=by
 simp[ByteArray.data_extract,Array.toList_extract,List.extract_eq_take_drop]
 try rw[List.drop_take]
end Go.Proofs.YtofhcgbihonckaaGreat
namespace Go.Proofs.YtofhcgbihonckaaGreat
theorem Qdo:∀(f:Nat) (l acc:List UInt8) (i:Nat),(qtA f l acc i).2.2=0→i+1≤(qtA f l acc i).2.1∧(qtA f l acc i).2.1≤i+l.length:=by
 intro f
 induction f with
 | zero=>intro l acc i h;simp[qtA]at h
 | succ f ih=>
  intro l acc i h
  cases l with
  | nil=>simp[qtA]at h
  | cons c r=>
   by_cases K9:c.toNat=34
   ·simp only[qtA];rw[if_pos K9];simp
   ·by_cases Gf:c.toNat=10
    ·simp only[qtA]at h;rw[if_neg K9,if_pos Gf]at h;simp at h
    ·by_cases h92:c.toNat=92
     ·simp only[qtA]at h ⊢;rw[if_neg K9,if_neg Gf,if_pos h92]at h ⊢
      by_cases he:(esc r).2.2≠0
      ·rw[if_pos he]at h;exact absurd h he
      ·rw[if_neg he]at h ⊢
       have:=ih _ _ _ h
       have hr:(esc r).2.1≤r.length:=by
        cases r with
        | nil=>simp[esc]
        | cons a r=>
         simp only[esc]
         repeat' (split;· simp)
         cases r with
         | nil=>simp[hx2]
         | cons b r=>
          simp only[hx2]
          repeat' (split;· simp)
          cases r with
          | nil=>simp[hx2]
          | cons c r=>simp only[hx2];repeat' (split;· simp)
                      simp
       simp only[List.length_drop,List.length_cons]at this ⊢
       omega
     ·simp only[qtA]at h ⊢;rw[if_neg K9,if_neg Gf,if_neg h92]at h ⊢
      have:=ih _ _ _ h
      simp only[List.length_cons]
      omega
theorem Q2k(p:Int→Bool)(l:List UInt8)(h:l≠[])(hp:p (l.headD 0).toNat=true):1≤QWa p l:=by
 cases l with
 | nil=>exact absurd rfl h
 | cons c r=>rw[QPb,if_pos (by simpa using hp)];omega
theorem Qml(c:Int)(h:Qka c=true∨c=95∨c=35):Q9a c=true:=by
 unfold Q9a QPa
 rcases h with h|h|h
 ·simp[h]
 ·simp[h]
 ·subst h;decide
theorem QCl(l:List UInt8)(h:l≠[]):Qyc l≤l.length:=by
 unfold Qyc
 split
 ·rename_i h2
  simp only[QVa,List.any_cons,List.any_nil,Bool.or_false,Bool.or_eq_true]at h2
  rcases h2 with h2|h2|h2|h2|h2|h2|h2|h2 <;> exact Lib.hasPrefix_le h2
 ·split
  ·have:=List.length_pos_iff.2 h;omega
  ·omega
theorem Qph(l:List UInt8)(h:l≠[])(he:(QJa l).2.2=0):1≤(QJa l).2.1∧(QJa l).2.1≤l.length:=by
 have Ga:=List.length_pos_iff.2 h
 have Hk:∀q,(if Qyc l > 0 then((⟨4,l.take (Qyc l),0,0,0⟩:Tok),Qyc l,(0:Int))else(⟨0,[],0,0,0⟩,0,20))=q→q.2.2=0→1≤q.2.1∧q.2.1≤l.length:=by
  rintro q rfl hq
  split at hq
  ·rename_i h0;rw[if_pos h0];exact⟨h0,QCl l h⟩
  ·simp at hq
 unfold QJa at he ⊢
 simp only at he ⊢
 by_cases c1:Qka (l.headD 0).toNat=true∨((l.headD 0).toNat:Int)=95∨((l.headD 0).toNat:Int)=35
 ·rw[if_pos c1]at he ⊢
  have hr:=QGc Q9a l
  have hp:1≤QWa Q9a l:=Q2k Q9a l h (Qml _ c1)
  by_cases c2:QWa Q9a l=l.length∨(l.getD (QWa Q9a l) 0).toNat≠58
  ·rw[if_pos c2];exact⟨hp,hr⟩
  ·rw[if_neg c2]at he ⊢
   have c2':QWa Q9a l≠l.length:=fun e=>c2 (.inl e)
   by_cases c3:QQf QPa (l.take (QWa Q9a l))=true
   ·rw[if_pos c3];simp only;omega
   ·rw[if_neg c3]at he;simp at he
 ·rw[if_neg c1]at he ⊢
  by_cases c2:QSa (l.headD 0).toNat=true
  ·rw[if_pos c2]at he ⊢
   exact⟨Q2k QPa l h (by unfold QPa;simp only[c2];simp),QGc QPa l⟩
  ·rw[if_neg c2]at he ⊢
   by_cases c3:((l.headD 0).toNat:Int)=34
   ·rw[if_pos c3]at he ⊢
    have:=Qdo _ _ _ _ he
    simp only[List.length_drop]at this ⊢
    omega
   ·rw[if_neg c3]at he ⊢
    by_cases c4:((l.headD 0).toNat:Int)=38∧1<l.length∧(Qka (l.getD 1 0).toNat=true∨(l.getD 1 0).toNat=95)
    ·rw[if_pos c4]at he ⊢
     have:=QGc QPa (l.drop 1)
     simp only[List.length_drop]at this ⊢
     omega
    ·rw[if_neg c4]at he ⊢
     by_cases c5:((l.headD 0).toNat:Int)=47
     ·rw[if_pos c5]at he ⊢
      by_cases c6:QWa QYa (l.drop 1) > 0∧QWa QYa (l.drop 1)+1<l.length∧(l.getD (QWa QYa (l.drop 1)+1) 0).toNat=47
      ·rw[if_pos c6];simp only;omega
      ·rw[if_neg c6]at he ⊢;exact Hk _ rfl he
     ·rw[if_neg c5]at he ⊢;exact Hk _ rfl he
end Go.Proofs.YtofhcgbihonckaaGreat
namespace Go.Proofs.YtofhcgbihonckaaGreat
def Qsr(c:UInt8):Prop:=c=32∨c=10∨c=9∨c=13
theorem QBn(n:Nat)(c:UInt8)(r:List UInt8)(hc:Qsr c):blk (n+1) (c::r)=((blk n r).1+1,(blk n r).2):=by
 rcases hc with rfl|rfl|rfl|rfl <;> kernel_rfl
def Qwn(x:List UInt8):Prop:=∀r,blk (x++r).length (x++r)=(x.length+(blk r.length r).1,(blk r.length r).2)
theorem Qwn.one{c:UInt8}(hc:Qsr c):Qwn [c]:=by
 intro r
 rw[show([c]++r)=c::r from rfl,List.length_cons,QBn _ _ _ hc]
 simp;omega
theorem g32:Qsr 32:=.inl rfl
theorem QWm{x:List UInt8}(hx:Qwn x)(file:Int)(f:Nat)(r:List UInt8)(p:Int × Int)(acc:List Tok) :
 rdA file (f+1) (x++r) p acc=rdA file (f+1) r (adv x p) acc:=by
 have ht:(x++r).take (x.length+(blk r.length r).1)=x++r.take (blk r.length r).1:=by rw[List.take_append,List.take_of_length_le (by omega)];simp
 have hd:(x++r).drop (x.length+(blk r.length r).1)=r.drop (blk r.length r).1:=by rw[List.drop_append];simp
 simp only[rdA,hx r,ht,hd,Qch]
def QIr(t:Tok):Int × List UInt8 × Int:=(t.kind,t.text,t.value)
end Go.Proofs.YtofhcgbihonckaaGreat
namespace Go.Proofs.YtofhcgbihonckaaGreat
end Go.Proofs.YtofhcgbihonckaaGreat
namespace Go.Proofs.YtofhcgbihonckaaGreat
end Go.Proofs.YtofhcgbihonckaaGreat
namespace Go.Proofs.YtofhcgbihonckaaGreat
def okQ:List UInt8→Bool
 | []=>true
 | c::r=>decide (c≠111) && (decide (c≠92) || (match r with
  | []=>true
  | e::q=>decide (e=113) || (decide (e=120) && (match q with
   | []=>true
   | [52]=>true
   | _=>false))))
def noO:List UInt8→Bool
 | []=>true
 | c::r=>(decide (c≠34) || okQ r) && noO r
def okC:List UInt8→Bool
 | []=>true
 | c::_=>decide (c≠111) && decide (c≠92)
def noC:List UInt8→Bool
 | []=>true
 | c::r=>(decide (c≠34) || okC r) && noC r
def QNl:List UInt8→Bool
 | []=>false
 | [c]=>decide (c=34)
 | _::d::r=>QNl (d::r)
theorem QBm:∀(a b:List UInt8),noC a=true→noC b=true→(QNl a=false∨okC b=true)→noC (a++b)=true
 | [],_,_,h,_=>h
 | [c],b,h,hb,he=>by
  simp only[noC,List.cons_append,List.nil_append,Bool.and_eq_true]at h ⊢
  refine⟨?_,hb⟩
  rcases he with he|he
  ·simp only[QNl,decide_eq_false_iff_not]at he
   simp[he]
  ·simp[he]
 | c::d::q,b,h,hb,he=>by
  simp only[noC,List.cons_append,Bool.and_eq_true]at h ⊢
  exact⟨h.1,by simpa only[noC,List.cons_append,Bool.and_eq_true]using QBm (d::q) b (by simp only[noC,Bool.and_eq_true];exact h.2) hb he⟩
theorem QCk:∀(a b:List UInt8),b≠[]→QNl (a++b)=QNl b
 | [],_,_=>rfl
 | [c],[],h=>absurd rfl h
 | [c],d::r,_=>rfl
 | c::d::q,b,h=>QCk (d::q) b h
theorem QGp:∀(a b:List UInt8),noC a=true→QNl a=false→noO b=true→noO (a++b)=true
 | [],_,_,_,h=>h
 | [c],b,h,he,hb=>by
  simp only[QNl,decide_eq_false_iff_not]at he
  simp only[noO,List.cons_append,List.nil_append,Bool.and_eq_true]
  exact⟨by simp[he],hb⟩
 | c::d::q,b,h,he,hb=>by
  simp only[noC,Bool.and_eq_true]at h
  have ih:=QGp (d::q) b (by simp only[noC,Bool.and_eq_true];exact h.2) he hb
  rw[List.cons_append,noO,Bool.and_eq_true]
  refine⟨?_,ih⟩
  rcases Bool.or_eq_true_iff.1 h.1 with h1|h1
  ·rw[h1];rfl
  ·simp only[okC,Bool.and_eq_true]at h1
   simp[okQ,h1.1,h1.2]
end Go.Proofs.YtofhcgbihonckaaGreat
namespace Go.Proofs.YtofhcgbihonckaaGreat
def Qod(cap:Bool)(d:Nat):UInt8:=if d<10 then(48+d).toUInt8 else if cap then(55+d).toUInt8 else(87+d).toUInt8
def QCc(base:Nat)(cap:Bool):Nat→Nat→List UInt8→List UInt8
 | 0,_,acc=>acc
 | f+1,n,acc=>if n=0 then acc else QCc base cap f (n / base) (Qod cap (n % base)::acc)
def Qeb(base:Nat)(cap:Bool)(n:Nat):List UInt8:=QCc base cap (n / base) (n / base) [Qod cap (n % base)]
end Go.Proofs.YtofhcgbihonckaaGreat
namespace Go.Proofs.YtofhcgbihonckaaGreat
theorem Qxj(base:Nat)(cap:Bool):∀(f n:Nat) (acc:List UInt8),QCc base cap f n acc=QCc base cap f n []++acc:=by
 intro f
 induction f with
 | zero=>intro n acc;simp[QCc]
 | succ f ih=>
  intro n acc
  simp only[QCc]
  split
  ·simp
  ·rw[ih (n / base) (Qod cap (n % base)::acc),ih (n / base) [Qod cap (n % base)]];simp
theorem Qyi(base:Nat)(cap:Bool)(hb:2≤base):∀(f g n:Nat) (acc:List UInt8),n≤f→n≤g→QCc base cap f n acc=QCc base cap g n acc:=by
 intro f
 induction f with
 | zero=>
  intro g n acc h _
  obtain rfl:n=0:=by omega
  cases g <;> simp[QCc]
 | succ f ih=>
  intro g n acc h h'
  cases g with
  | zero=>obtain rfl:n=0:=by omega
          simp[QCc]
  | succ g=>
   simp only[QCc]
   split
   ·rfl
   ·rename_i hn
    have:n / base<n:=Nat.div_lt_self (by omega) (by omega)
    exact ih g _ _ (by omega) (by omega)
theorem QXa(base:Nat)(cap:Bool)(n:Nat)(h:n<base):Qeb base cap n=[Qod cap n]:=by
 unfold Qeb;rw[Nat.div_eq_of_lt h,Nat.mod_eq_of_lt h];rfl
theorem Q7b(base:Nat)(cap:Bool)(hb:2≤base)(n:Nat)(h:base≤n):Qeb base cap n=Qeb base cap (n / base)++[Qod cap (n % base)]:=by
 have hq:1≤n / base:=(Nat.one_le_div_iff (by omega)).2 h
 obtain⟨q,hq'⟩:∃q,n / base=q:=⟨_,rfl⟩
 unfold Qeb
 rw[hq']at hq ⊢
 obtain⟨p,rfl⟩:∃p,q=p+1:=⟨q-1,by omega⟩
 rw[Qxj,QCc.eq_2]
 rw[if_neg (by omega)]
 congr 1
 have:(p+1) / base<p+1:=Nat.div_lt_self (by omega) (by omega)
 exact Qyi base cap hb _ _ _ _ (by omega) (by omega)
theorem Qjg(cap:Bool)(d:Nat)(h:d<16):Qwc (Qod cap d).toNat=d:=by
 have:∀(c:Bool) (x:Fin 16),Qwc (Qod c x).toNat=((x.val:Nat):Int):=by decide +kernel
 exact this cap ⟨d,h⟩
theorem Qfl(cap:Bool)(d:Nat)(h:d<16):QPa (Qod cap d).toNat=true:=by
 have:∀(c:Bool) (x:Fin 16),QPa (Qod c x).toNat=true:=by decide +kernel
 exact this cap ⟨d,h⟩
theorem Qig(d:Nat)(h:d<10):QSa (Qod false d).toNat=true∧(d≠0→(Qod false d).toNat≠48)∧(Qod false d).toNat≠120:=by
 have:∀(x:Fin 10),QSa (Qod false x).toNat=true∧(x.val≠0→(Qod false x).toNat≠48)∧(Qod false x).toNat≠120:=by decide +kernel
 exact this ⟨d,h⟩
theorem QVi(base:Int)(x:UInt8):∀(l:List UInt8) (n:Int),Q2a base (l++[x]) n=(Q2a base l n).bind fun m=>Q2a base [x] m:=by
 intro l
 induction l with
 | nil=>intro n;rfl
 | cons c l ih=>
  intro n
  simp only[List.cons_append,Q2a]
  split
  ·rfl
  ·exact ih _
theorem QYh(base:Nat)(cap:Bool)(hb:base=8∨base=10∨base=16):∀(k n:Nat),n≤k→Q2a base (Qeb base cap n) 0=some (min (n:Int) 4294967296):=by
 intro k
 induction k with
 | zero=>
  intro n h
  obtain rfl:n=0:=by omega
  rw[QXa base cap 0 (by omega)]
  simp only[Q2a]
  rw[Qjg cap 0 (by omega),if_neg (by omega)]
  simp
 | succ k ih=>
  intro n h
  rcases Nat.lt_or_ge n base with Hh|ji
  ·rw[QXa base cap n Hh]
   simp only[Q2a]
   rw[Qjg cap n (by omega),if_neg (by omega)]
   simp
  ·have kp:n / base<n:=Nat.div_lt_self (by omega) (by omega)
   have hm:n % base<base:=Nat.mod_lt _ (by omega)
   have hd:=Nat.div_add_mod n base
   rw[Q7b base cap (by omega) n ji,QVi,ih (n / base) (by omega)]
   simp only[Option.bind_some,Q2a]
   rw[Qjg cap (n % base) (by omega),if_neg (by omega)]
   congr 1
   rcases hb with rfl|rfl|rfl <;> omega
theorem Qce(base:Nat)(cap:Bool)(hb:2≤base)(Ho:base≤16)(p:UInt8→Prop)(hp:∀d,d<base→p (Qod cap d)):∀(k n:Nat),n≤k→∀x∈Qeb base cap n,p x:=by
 intro k
 induction k with
 | zero=>
  intro n h x hx
  obtain rfl:n=0:=by omega
  rw[QXa base cap 0 (by omega)]at hx
  simp at hx;subst hx;exact hp 0 (by omega)
 | succ k ih=>
  intro n h x hx
  rcases Nat.lt_or_ge n base with Hh|ji
  ·rw[QXa base cap n Hh]at hx
   simp at hx;subst hx;exact hp n Hh
  ·have kp:n / base<n:=Nat.div_lt_self (by omega) (by omega)
   rw[Q7b base cap hb n ji]at hx
   rcases List.mem_append.1 hx with hx|hx
   ·exact ih _ (by omega) x hx
   ·simp at hx;subst hx;exact hp _ (Nat.mod_lt _ (by omega))
theorem QOe(base:Nat)(cap:Bool)(hb:2≤base)(n:Nat):Qeb base cap n≠[]:=by
 rcases Nat.lt_or_ge n base with Hh|ji
 ·rw[QXa base cap n Hh];simp
 ·rw[Q7b base cap hb n ji];simp
theorem Qvj:∀(k n:Nat),n≤k→n≠0→((Qeb 10 false n).headD 0).toNat≠48:=by
 intro k
 induction k with
 | zero=>intro n h h0;omega
 | succ k ih=>
  intro n h h0
  rcases Nat.lt_or_ge n 10 with Hh|ji
  ·rw[QXa 10 false n Hh];exact(Qig n Hh).2.1 h0
  ·rw[Q7b 10 false (by omega) n ji]
   have:=ih (n / 10) (by omega) (by omega)
   have Hn:=QOe 10 false (by omega) (n / 10)
   cases hb:Qeb 10 false (n / 10)with
   | nil=>exact absurd hb Hn
   | cons a l=>rw[hb]at this;simpa using this
theorem Qti{f:Nat}{c:UInt8}{r:List UInt8}(h:Qqj c.toNat=false)(h2:c.toNat≠47):blk f (c::r)=(0,false):=by
 have hc:(47:UInt8)≠c:=by rintro rfl;exact h2 rfl
 cases f with
 | zero=>rfl
 | succ f=>
  simp only[blk]
  rw[if_neg (by simp[h]),if_neg (by simp[Lib.hasPrefix,hc]),if_neg (by simp[Lib.hasPrefix,hc])]
theorem QJn(c:Int)(h:QSa c=true):Qqj c=false∧c≠47∧¬(Qka c=true∨c=95∨c=35):=by
 unfold QSa at h
 simp only[decide_eq_true_eq]at h
 refine⟨?_,by omega,?_⟩
 ·unfold Qqj QYd;simp;omega
 ·rintro (h' | h' | h')
  ·unfold Qka at h';simp at h';omega
  ·omega
  ·omega
theorem QZn(n:Nat):QMe (Qeb 10 false n)=QPl (some (min (n:Int) 4294967296)):=by
 have Hn:=QOe 10 false (by omega) n
 have hp:Qkb (Qeb 10 false n)=(10,Qeb 10 false n):=by
  unfold Qkb
  have hx:Lib.hasPrefix (Qeb 10 false n) [48,120]=false:=by
   have Ha:=Qce 10 false (by omega) (by omega) (fun x=>x.toNat≠120) (fun d hd=>(Qig d hd).2.2) n n (Nat.le_refl _)
   cases hb:Qeb 10 false n with
   | nil=>rfl
   | cons a l=>
    cases l with
    | nil=>simp[Lib.hasPrefix,List.isPrefixOf]
    | cons b l=>
     rw[hb]at Ha
     have:=Ha b (by simp)
     have hb':(120:UInt8)≠b:=by rintro rfl;exact this rfl
     simp[Lib.hasPrefix,List.isPrefixOf,hb']
  rw[if_neg (by simp[hx]),if_neg]
  rintro ⟨h1,h2⟩
  by_cases h0:n=0
  ·subst h0;rw[QXa 10 false 0 (by omega)]at h1;simp at h1
  ·exact Qvj n n (Nat.le_refl _) h0 (by rw[h2];rfl)
 unfold QMe
 rw[hp]
 simp only[]
 rw[if_neg Hn]
 have:=QYh 10 false (by omega) n n (Nat.le_refl _)
 rw[←this];rfl
end Go.Proofs.YtofhcgbihonckaaGreat
namespace Go.Proofs.YtofhcgbihonckaaGreat
def Lx(x:List UInt8)(T:List (Int × List UInt8 × Int))(r:List UInt8):Prop:=
 ∀(f:Nat) (p:Int × Int) (acc:List Tok),(x++r).length≤f→acc.length+T.length≤6000→
  ∃(f':Nat) (p':Int × Int) (Ts:List Tok),r.length≤f'∧rdA 0 (f+1) (x++r) p acc=rdA 0 (f'+1) r p' (acc++Ts)∧Ts.map QIr=T
theorem Lx.append{x y r:List UInt8}{T U:List (Int × List UInt8 × Int)}(h:Lx x T (y++r))(k:Lx y U r):Lx (x++y) (T++U) r:=by
 intro f p acc hf ha
 simp only[List.length_append]at ha
 obtain⟨f1,p1,T1,h1,e1,m1⟩:=h f p acc (by simpa using hf) (by omega)
 have Kv:T1.length=T.length:=by rw[←m1];simp
 obtain⟨f2,p2,T2,h2,e2,m2⟩:=k f1 p1 (acc++T1) h1 (by simp;omega)
 refine⟨f2,p2,T1++T2,h2,?_,by simp[m1,m2]⟩
 rw[List.append_assoc,e1,e2,List.append_assoc]
theorem Lx.white{x:List UInt8}(hx:Qwn x)(r:List UInt8):Lx x [] r:=by
 intro f p acc hf _
 exact⟨f,adv x p,[],by simp at hf;omega,by rw[QWm hx];simp,rfl⟩
theorem Lx.sp(r:List UInt8):Lx [32] [] r:=.white (.one g32) r
theorem Lx.tok{x r:List UInt8}{t:Tok}(hx:x≠[])(hb:blk (x++r).length (x++r)=(0,false))(hn:QJa (x++r)=(t,x.length,0)):Lx x [QIr t] r:=by
 intro f p acc hf ha
 have hp:=List.length_pos_iff.2 hx
 simp only[List.length_append]at hf
 simp only[List.length_cons,List.length_nil]at ha
 obtain⟨g,rfl⟩:∃g,f=g+1:=⟨f-1,by omega⟩
 refine⟨g,adv x p,[{ t with line:=p.1,col:=p.2 }],by omega,?_,rfl⟩
 rw[rdA]
 simp only[hb,List.drop_zero,List.take_zero,adv]
 rw[if_neg (by simp),if_neg (by omega),if_neg (fun e=>hx (List.append_eq_nil_iff.1 e).1),hn]
 simp only[]
 rw[if_neg (by simp),List.drop_left,List.take_left]
theorem Lx.one{c:UInt8}{r:List UInt8}(hb:blk 1 (c::r)=(0,false))(Ho:Qqj c.toNat=false∧c.toNat≠47)(hn:QJa (c::r)=(⟨4,[c],0,0,0⟩,1,0)):Lx [c] [(4,[c],0)] r:=
 Lx.tok (t:=⟨4,[c],0,0,0⟩) (by simp) (by have:=Qti (f:=([c]++r).length) (r:=r) Ho.1 Ho.2;exact this) hn
theorem Lx.lpar(r:List UInt8):Lx [40] [(4,[40],0)] r:=.one (by kernel_rfl) (by decide) (by kernel_rfl)
theorem Lx.rpar(r:List UInt8):Lx [41] [(4,[41],0)] r:=.one (by kernel_rfl) (by decide) (by kernel_rfl)
theorem Lx.minus(r:List UInt8):Lx [45] [(4,[45],0)] r:=.one (by kernel_rfl) (by decide) (by kernel_rfl)
theorem Lx.compl(r:List UInt8):Lx [126] [(4,[126],0)] r:=.one (by kernel_rfl) (by decide) (by kernel_rfl)
theorem Lx.quest(r:List UInt8):Lx [63] [(4,[63],0)] r:=.one (by kernel_rfl) (by decide) (by kernel_rfl)
theorem Lx.colon(r:List UInt8):Lx [58] [(4,[58],0)] r:=.one (by kernel_rfl) (by decide) (by kernel_rfl)
theorem Lx.bang(r:List UInt8):Lx [33] [(4,[33],0)] (40::r):=.one (by kernel_rfl) (by decide) (by kernel_rfl)
def Qfn:List (List UInt8):=[[42],[47],[37],[43],[45],[60,60],[62,62],[60],[62],[60,61],[62,61],[61,61],[33,61],[38],[94],[124],[38,38],[124,124]]
theorem Lx.sign(r:List UInt8):∀s∈Qfn,Lx s [(4,s,0)] (32::r):=by
 intro s hs
 have h1:s≠[]∧blk (s++32::r).length (s++32::r)=(0,false)∧QJa (s++32::r)=(⟨4,s,0,0,0⟩,s.length,0):=by
  simp only[Qfn,List.mem_cons,List.not_mem_nil,or_false]at hs
  rcases hs with rfl|rfl|rfl|rfl|rfl|rfl|rfl|rfl|rfl|rfl|rfl|rfl|rfl|rfl|rfl|rfl|rfl|rfl <;> exact⟨by simp,by kernel_rfl,by kernel_rfl⟩
 exact Lx.tok h1.1 h1.2.1 h1.2.2
theorem Qan(p:Int→Bool)(r:List UInt8):∀l:List UInt8,(∀x∈l,p x.toNat=true)→(r=[]∨p (r.headD 0).toNat=false)→QWa p (l++r)=l.length:=by
 intro l
 induction l with
 | nil=>
  intro _ h
  rcases h with rfl|h
  ·rfl
  ·cases r with
   | nil=>rfl
   | cons c r=>rw[List.nil_append,QPb,if_neg (by simpa using h)];rfl
 | cons c l ih=>intro h h2;rw[List.cons_append,QPb,if_pos (h c (by simp)),ih (fun x hx=>h x (by simp[hx])) h2];rfl
theorem Lx.num{x r:List UInt8}{v:Int}(hl:x≠[])(hw:∀c∈x,QPa c.toNat=true)(hd:QSa (x.headD 0).toNat=true)(hv:QMe x=(v,0))(hr:r=[]∨QPa (r.headD 0).toNat=false):Lx x [(2,[],v)] r:=by
 obtain⟨h1,h2,h3⟩:=QJn _ hd
 have hb:blk (x++r).length (x++r)=(0,false):=by
  cases x with
  | nil=>exact absurd rfl hl
  | cons c l=>exact Qti (by simpa using h1) (by simp at h2;omega)
 have hh:(x++r).headD 0=x.headD 0:=by
  cases x with
  | nil=>exact absurd rfl hl
  | cons c l=>rfl
 refine Lx.tok (t:=⟨2,[],v,0,0⟩) hl hb ?_
 unfold QJa;simp only[];rw[hh,if_neg h3,if_pos hd,Qan QPa r x hw hr,List.take_left,hv]
theorem QHp{n:Nat}(h:n≤4294967295):QPl (some (min (n:Int) 4294967296))=((n:Int),0):=by
 unfold QPl
 simp only[]
 rw[Int.min_eq_left (by omega),if_neg (by omega)]
theorem Lx.dec{n:Nat}{r:List UInt8}(h:n≤4294967295)(hr:r=[]∨QPa (r.headD 0).toNat=false):Lx (Qeb 10 false n) [(2,[],(n:Int))] r:=
 Lx.num (QOe 10 false (by omega) n) (fun c hc=>Qce 10 false (by omega) (by omega) (fun x=>QPa x.toNat=true) (fun d hd=>Qfl false d (by omega)) n n (Nat.le_refl _) c hc)
  (by
   have:=Qce 10 false (by omega) (by omega) (fun x=>QSa x.toNat=true) (fun d hd=>(Qig d hd).1) n n (Nat.le_refl _)
   have Hn:=QOe 10 false (by omega) n
   cases e:Qeb 10 false n with
   | nil=>exact absurd e Hn
   | cons a l=>rw[e]at this;exact this a (by simp)) (by rw[QZn,QHp h]) hr
theorem QVg:∀(m n:Nat),n<10 ^ (m+1)→(Qeb 10 false n).length≤m+1:=by
 intro m
 induction m with
 | zero=>intro n h;rw[QXa 10 false n (by omega)];simp
 | succ m ih=>
  intro n h
  rcases Nat.lt_or_ge n 10 with c|c
  ·rw[QXa 10 false n c];simp
  ·rw[Q7b 10 false (by omega) n c]
   have:=ih (n / 10) (by rw[Nat.pow_succ]at h;omega)
   simp;omega
theorem QHf(n:Nat)(h:n≤4294967295):(Qeb 10 false n).length≤10:=QVg 9 n (by omega)
end Go.Proofs.YtofhcgbihonckaaGreat
