/- What Read of token computes, in plain Lean. | Plain laws on what next of token computes: how far it reads. | Plain laws: what separates tokens changes only places. | Plain laws: places of tokens ascend; a line feed ends what was before; a line feed in front moves all. | Plain laws: places of tokens ascend; a line feed ends what was before; a line feed in front moves all: whole texts. | Texts in which no string begins with the letter o (plain). | Digits of a number, in plain Lean. | Plain laws: what the tokens of a number's digits are. | Plain laws: the tokens of texts put together of pieces. -/
import Derived.Test.YtofhcgbihonckaaGreatY1
import Derived.Laws.Closers25b
set_option linter.all false
namespace Go.Proofs.YtofhcgbihonckaaGreat
theorem QMd(s:ByteArray)(h:s.size=0):s=ByteArray.empty:=by
 apply ByteArray.ext;apply Array.eq_empty_of_size_eq_zero;simpa using h
theorem QIc(s:ByteArray)(h:0<s.size):¬s.toList=[]:=by
 rw[toList_nil_iff_emptyBytes];rintro rfl;simp at h
theorem Qvb(s:ByteArray)(h:0<s.size):s.toList.isEmpty=false:=by
 have:=QIc s h;simpa using this
def blk:Nat→List UInt8→Nat × Bool
 | 0,_=>(0,false)
 | _+1,[]=>(0,false)
 | f+1,c::r=>
  if QIi c.toNat=true then((blk f r).1+1,(blk f r).2)
  else if Lib.hasPrefix (c::r) [47,47]=true then
   let k:=QSa Qrb (c::r)
   ((blk f ((c::r).drop k)).1+k,(blk f ((c::r).drop k)).2)
  else if Lib.hasPrefix (c::r) [47,42]=true then
   let e:=Lib.index ((c::r).drop 2) [42,47]
   if e<0 then(0,true)else((blk f ((c::r).drop (e.toNat+4))).1+(e.toNat+4),(blk f ((c::r).drop (e.toNat+4))).2)
  else(0,false)
theorem Qkp:∀(f:Nat) (l:List UInt8),(blk f l).1≤l.length:=by
 intro f
 induction f with
 | zero=>intro l;simp[blk]
 | succ f ih=>
  intro l
  cases l with
  | nil=>simp[blk]
  | cons c r=>
   simp only[blk]
   split
   ·have:=ih r;simp;omega
   ·split
    ·have h1:=ih ((c::r).drop (QSa Qrb (c::r)))
     have h2:=Qnc Qrb (c::r)
     simp only[List.length_drop]at h1
     simp only;omega
    ·split
     ·split
      ·simp
      ·rename_i h2 h3
       have h1:=ih ((c::r).drop ((Lib.index ((c::r).drop 2) [42,47]).toNat+4))
       have hr:=Lib.index_room ((c::r).drop 2) [42,47] (by omega)
       have hp:=Lib.hasPrefix_le h2
       simp only[List.length_drop,List.length_cons,List.length_nil]at h1 hr hp ⊢
       omega
     ·simp
def QYa(base:Int):List UInt8→Int→Option Int
 | [],n=>some n
 | c::r,n=>if Qjc c.toNat<0∨base≤Qjc c.toNat then none else QYa base r (min (n*base+Qjc c.toNat) 4294967296)
def Qfb(l:List UInt8):Int × List UInt8:=
 if Lib.hasPrefix l [48,120]=true then(16,l.drop 2)else if 1<l.length∧l.headD 0=48 then(8,l.drop 1)else(10,l)
def QTk(o:Option Int):Int × Int:=
 match o with
 | none=>(0,6)
 | some n=>if n > 4294967295 then(0,2)else(n,0)
def Q5d(l:List UInt8):Int × Int:=if (Qfb l).2=[]then(0,6)else QTk (QYa (Qfb l).1 (Qfb l).2 0)
def hx2:Nat→List UInt8→Int→Int × Nat × Int
 | 0,_,v=>(v,3,0)
 | _+1,[],_=>(0,0,21)
 | n+1,a::r,v=>if a.toNat=10 then(0,0,21)else if Qjc a.toNat<0 then(0,0,6)else hx2 n r (16*v+Qjc a.toNat)
def esc(l:List UInt8):Int × Nat × Int:=
 match l with
 | []=>(0,0,21)
 | c::r=>
  if c.toNat=10 then(0,0,21)
  else if c.toNat=110 then(10,1,0)else if c.toNat=116 then(9,1,0)else if c.toNat=34 then(34,1,0)else if c.toNat=92 then(92,1,0)
  else if c.toNat≠120 then(0,0,6)
  else hx2 2 r 0
theorem QVe(c:Int):-1≤Qjc c∧Qjc c≤15:=by unfold Qjc;split;omega;split;omega;split;omega;omega
def qtA:Nat→List UInt8→List UInt8→Nat→List UInt8 × Nat × Int
 | 0,_,_,_=>([],0,21)
 | _+1,[],_,_=>([],0,21)
 | f+1,c::r,acc,i=>
  if c.toNat=34 then(acc,i+1,0)
  else if c.toNat=10 then([],0,21)
  else if c.toNat=92 then
   (if (esc r).2.2≠0 then([],0,(esc r).2.2)else qtA f (r.drop (esc r).2.1) (acc++[(esc r).1.toNat.toUInt8]) (i+(esc r).2.1+1))
  else qtA f r (acc++[c]) (i+1)
def QVa:List (List UInt8):=[[60,60],[62,62],[60,61],[62,61],[61,61],[33,61],[38,38],[124,124]]
def QRc:List UInt8:=[123,125,40,41,60,62,91,93,59,61,44,43,45,42,47,37,38,124,94,126,33,63,58]
def QHb(l:List UInt8):Nat:=
 if QVa.any (fun p=>Lib.hasPrefix l p)=true then 2 else if Qyd QRc (l.headD 0).toNat=true then 1 else 0
structure Tok where
 kind:Int
 text:List UInt8
 value:Int
 line:Int
 col:Int
 deriving DecidableEq,Repr
def Qya(l:List UInt8):Tok × Nat × Int:=
 let c:Int:=(l.headD 0).toNat
 let sg:Tok × Nat × Int:=if QHb l > 0 then(⟨4,l.take (QHb l),0,0,0⟩,QHb l,0)else(⟨0,[],0,0,0⟩,0,20)
 if Qja c=true∨c=95∨c=35 then
  let n:=QSa Q2a l
  if n=l.length∨(l.getD n 0).toNat≠58 then(⟨1,l.take n,0,0,0⟩,n,0)
  else if Qaf QIa (l.take n)=true then(⟨5,l.take n,0,0,0⟩,n+1,0)else(⟨0,[],0,0,0⟩,0,6)
 else if QOa c=true then
  let n:=QSa QIa l
  (⟨2,[],(Q5d (l.take n)).1,0,0⟩,n,(Q5d (l.take n)).2)
 else if c=34 then
  let q:=qtA l.length (l.drop 1) [] 1
  (⟨3,q.1,0,0,0⟩,q.2.1,q.2.2)
 else if c=38∧1<l.length∧(Qja (l.getD 1 0).toNat=true∨(l.getD 1 0).toNat=95)then
  let n:=QSa QIa (l.drop 1)+1
  (⟨6,(l.take n).drop 1,0,0,0⟩,n,0)
 else if c=47 then
  let n:=QSa QQa (l.drop 1)
  if n > 0∧n+1<l.length∧(l.getD (n+1) 0).toNat=47 then(⟨7,(l.take (n+1)).drop 1,0,0,0⟩,n+2,0)else sg
 else sg
def rdA(file:Int):Nat→List UInt8→Int × Int→List Tok→List Tok × (Int × Int × Int) × Int
 | 0,_,p,_=>([],(file,p.1,p.2),21)
 | f+1,l,p,acc=>
  let b:=blk l.length l
  let p1:=adv (l.take b.1) p
  let l1:=l.drop b.1
  if b.2=true then([],(file,p1.1,p1.2),21)
  else if acc.length=6000 then([],(file,p1.1,p1.2),3)
  else if l1=[]then(acc++[⟨8,[],0,p1.1,p1.2⟩],(0,0,0),0)
  else
   let t:=Qya l1
   if t.2.2≠0 then([],(file,p1.1,p1.2),t.2.2)
   else rdA file f (l1.drop t.2.1) (adv (l1.take t.2.1) p1) (acc++[{ t.1 with line:=p1.1,col:=p1.2 }])
def Qub(l:List UInt8)(file:Int):List Tok × (Int × Int × Int) × Int:=
 if 16000<l.length then([],(0,0,0),3)else rdA file (l.length+1) l (1,1) []
theorem QZf(l:List UInt8):8≤(Qfb l).1∧(Qfb l).1≤16:=by
 unfold Qfb;split;simp;split <;> simp
theorem Qdf(l:List UInt8):(Qfb l).2.length≤l.length:=by
 unfold Qfb;split;simp;split <;> simp
theorem QAb(s:ByteArray)(a:Nat):(s.extract a s.size).data.toList=s.data.toList.drop a:=by
 simp[ByteArray.data_extract,Array.toList_extract,List.extract_eq_take_drop]
 try exact List.take_of_length_le (by simp)
theorem Qtd(s:ByteArray)(a b:Nat):(s.extract a b).data.toList=(s.data.toList.take b).drop a:=by
 simp[ByteArray.data_extract,Array.toList_extract,List.extract_eq_take_drop]
 try rw[List.drop_take]
end Go.Proofs.YtofhcgbihonckaaGreat
namespace Go.Proofs.YtofhcgbihonckaaGreat
theorem Qdn:∀(f:Nat) (l acc:List UInt8) (i:Nat),(qtA f l acc i).2.2=0→i+1≤(qtA f l acc i).2.1∧(qtA f l acc i).2.1≤i+l.length:=by
 intro f
 induction f with
 | zero=>intro l acc i h;simp[qtA]at h
 | succ f ih=>
  intro l acc i h
  cases l with
  | nil=>simp[qtA]at h
  | cons c r=>
   by_cases h34:c.toNat=34
   ·simp only[qtA];rw[if_pos h34];simp
   ·by_cases gY:c.toNat=10
    ·simp only[qtA]at h;rw[if_neg h34,if_pos gY]at h;simp at h
    ·by_cases h92:c.toNat=92
     ·simp only[qtA]at h ⊢;rw[if_neg h34,if_neg gY,if_pos h92]at h ⊢
      by_cases he:(esc r).2.2≠0
      ·rw[if_pos he]at h;exact absurd h he
      ·rw[if_neg he]at h ⊢
       have:=ih _ _ _ h
       have hr:(esc r).2.1≤r.length:=by
        cases r with
        | nil=>simp[esc]
        | cons a r=>
         simp only[esc]
         repeat' (split;· simp)
         cases r with
         | nil=>simp[hx2]
         | cons b r=>
          simp only[hx2]
          repeat' (split;· simp)
          cases r with
          | nil=>simp[hx2]
          | cons c r=>simp only[hx2];repeat' (split;· simp)
                      simp
       simp only[List.length_drop,List.length_cons]at this ⊢
       omega
     ·simp only[qtA]at h ⊢;rw[if_neg h34,if_neg gY,if_neg h92]at h ⊢
      have:=ih _ _ _ h
      simp only[List.length_cons]
      omega
theorem Q4j(p:Int→Bool)(l:List UInt8)(h:l≠[])(hp:p (l.headD 0).toNat=true):1≤QSa p l:=by
 cases l with
 | nil=>exact absurd rfl h
 | cons c r=>rw[QEb,if_pos (by simpa using hp)];omega
theorem Qok(c:Int)(h:Qja c=true∨c=95∨c=35):Q2a c=true:=by
 unfold Q2a QIa
 rcases h with h|h|h
 ·simp[h]
 ·simp[h]
 ·subst h;decide
theorem QFk(l:List UInt8)(h:l≠[]):QHb l≤l.length:=by
 unfold QHb
 split
 ·rename_i h2
  simp only[QVa,List.any_cons,List.any_nil,Bool.or_false,Bool.or_eq_true]at h2
  rcases h2 with h2|h2|h2|h2|h2|h2|h2|h2 <;> exact Lib.hasPrefix_le h2
 ·split
  ·have:=List.length_pos_iff.2 h;omega
  ·omega
theorem QLg(l:List UInt8)(h:l≠[])(he:(Qya l).2.2=0):1≤(Qya l).2.1∧(Qya l).2.1≤l.length:=by
 have Ga:=List.length_pos_iff.2 h
 have Hf:∀q,(if QHb l > 0 then((⟨4,l.take (QHb l),0,0,0⟩:Tok),QHb l,(0:Int))else(⟨0,[],0,0,0⟩,0,20))=q→q.2.2=0→1≤q.2.1∧q.2.1≤l.length:=by
  rintro q rfl hq
  split at hq
  ·rename_i h0;rw[if_pos h0];exact⟨h0,QFk l h⟩
  ·simp at hq
 unfold Qya at he ⊢
 simp only at he ⊢
 by_cases c1:Qja (l.headD 0).toNat=true∨((l.headD 0).toNat:Int)=95∨((l.headD 0).toNat:Int)=35
 ·rw[if_pos c1]at he ⊢
  have hr:=Qnc Q2a l
  have hp:1≤QSa Q2a l:=Q4j Q2a l h (Qok _ c1)
  by_cases c2:QSa Q2a l=l.length∨(l.getD (QSa Q2a l) 0).toNat≠58
  ·rw[if_pos c2];exact⟨hp,hr⟩
  ·rw[if_neg c2]at he ⊢
   have c2':QSa Q2a l≠l.length:=fun e=>c2 (.inl e)
   by_cases c3:Qaf QIa (l.take (QSa Q2a l))=true
   ·rw[if_pos c3];simp only;omega
   ·rw[if_neg c3]at he;simp at he
 ·rw[if_neg c1]at he ⊢
  by_cases c2:QOa (l.headD 0).toNat=true
  ·rw[if_pos c2]at he ⊢
   exact⟨Q4j QIa l h (by unfold QIa;simp only[c2];simp),Qnc QIa l⟩
  ·rw[if_neg c2]at he ⊢
   by_cases c3:((l.headD 0).toNat:Int)=34
   ·rw[if_pos c3]at he ⊢
    have:=Qdn _ _ _ _ he
    simp only[List.length_drop]at this ⊢
    omega
   ·rw[if_neg c3]at he ⊢
    by_cases c4:((l.headD 0).toNat:Int)=38∧1<l.length∧(Qja (l.getD 1 0).toNat=true∨(l.getD 1 0).toNat=95)
    ·rw[if_pos c4]at he ⊢
     have:=Qnc QIa (l.drop 1)
     simp only[List.length_drop]at this ⊢
     omega
    ·rw[if_neg c4]at he ⊢
     by_cases c5:((l.headD 0).toNat:Int)=47
     ·rw[if_pos c5]at he ⊢
      by_cases c6:QSa QQa (l.drop 1) > 0∧QSa QQa (l.drop 1)+1<l.length∧(l.getD (QSa QQa (l.drop 1)+1) 0).toNat=47
      ·rw[if_pos c6];simp only;omega
      ·rw[if_neg c6]at he ⊢;exact Hf _ rfl he
     ·rw[if_neg c5]at he ⊢;exact Hf _ rfl he
end Go.Proofs.YtofhcgbihonckaaGreat
namespace Go.Proofs.YtofhcgbihonckaaGreat
def Qeq(c:UInt8):Prop:=c=32∨c=10∨c=9∨c=13
theorem QDm(n:Nat)(c:UInt8)(r:List UInt8)(hc:Qeq c):blk (n+1) (c::r)=((blk n r).1+1,(blk n r).2):=by
 rcases hc with rfl|rfl|rfl|rfl <;> kernel_rfl
def Qxm(x:List UInt8):Prop:=∀r,blk (x++r).length (x++r)=(x.length+(blk r.length r).1,(blk r.length r).2)
theorem Qxm.one{c:UInt8}(hc:Qeq c):Qxm [c]:=by
 intro r
 rw[show([c]++r)=c::r from rfl,List.length_cons,QDm _ _ _ hc]
 simp;omega
theorem g32:Qeq 32:=.inl rfl
theorem QVl{x:List UInt8}(hx:Qxm x)(file:Int)(f:Nat)(r:List UInt8)(p:Int × Int)(acc:List Tok) :
 rdA file (f+1) (x++r) p acc=rdA file (f+1) r (adv x p) acc:=by
 have ht:(x++r).take (x.length+(blk r.length r).1)=x++r.take (blk r.length r).1:=by rw[List.take_append,List.take_of_length_le (by omega)];simp
 have hd:(x++r).drop (x.length+(blk r.length r).1)=r.drop (blk r.length r).1:=by rw[List.drop_append];simp
 simp only[rdA,hx r,ht,hd,Qyg]
def Qmq(t:Tok):Int × List UInt8 × Int:=(t.kind,t.text,t.value)
end Go.Proofs.YtofhcgbihonckaaGreat
namespace Go.Proofs.YtofhcgbihonckaaGreat
end Go.Proofs.YtofhcgbihonckaaGreat
namespace Go.Proofs.YtofhcgbihonckaaGreat
end Go.Proofs.YtofhcgbihonckaaGreat
namespace Go.Proofs.YtofhcgbihonckaaGreat
def okQ:List UInt8→Bool
 | []=>true
 | c::r=>decide (c≠111) && (decide (c≠92) || (match r with
  | []=>true
  | e::q=>decide (e=113) || (decide (e=120) && (match q with
   | []=>true
   | [52]=>true
   | _=>false))))
def noO:List UInt8→Bool
 | []=>true
 | c::r=>(decide (c≠34) || okQ r) && noO r
def okC:List UInt8→Bool
 | []=>true
 | c::_=>decide (c≠111) && decide (c≠92)
def noC:List UInt8→Bool
 | []=>true
 | c::r=>(decide (c≠34) || okC r) && noC r
def Qtm:List UInt8→Bool
 | []=>false
 | [c]=>decide (c=34)
 | _::d::r=>Qtm (d::r)
theorem QCl:∀(a b:List UInt8),noC a=true→noC b=true→(Qtm a=false∨okC b=true)→noC (a++b)=true
 | [],_,_,h,_=>h
 | [c],b,h,hb,he=>by
  simp only[noC,List.cons_append,List.nil_append,Bool.and_eq_true]at h ⊢
  refine⟨?_,hb⟩
  rcases he with he|he
  ·simp only[Qtm,decide_eq_false_iff_not]at he
   simp[he]
  ·simp[he]
 | c::d::q,b,h,hb,he=>by
  simp only[noC,List.cons_append,Bool.and_eq_true]at h ⊢
  exact⟨h.1,by simpa only[noC,List.cons_append,Bool.and_eq_true]using QCl (d::q) b (by simp only[noC,Bool.and_eq_true];exact h.2) hb he⟩
theorem QJj:∀(a b:List UInt8),b≠[]→Qtm (a++b)=Qtm b
 | [],_,_=>rfl
 | [c],[],h=>absurd rfl h
 | [c],d::r,_=>rfl
 | c::d::q,b,h=>QJj (d::q) b h
end Go.Proofs.YtofhcgbihonckaaGreat
namespace Go.Proofs.YtofhcgbihonckaaGreat
def Q3c(cap:Bool)(d:Nat):UInt8:=if d<10 then(48+d).toUInt8 else if cap then(55+d).toUInt8 else(87+d).toUInt8
def Qlc(base:Nat)(cap:Bool):Nat→Nat→List UInt8→List UInt8
 | 0,_,acc=>acc
 | f+1,n,acc=>if n=0 then acc else Qlc base cap f (n / base) (Q3c cap (n % base)::acc)
def Qab(base:Nat)(cap:Bool)(n:Nat):List UInt8:=Qlc base cap (n / base) (n / base) [Q3c cap (n % base)]
end Go.Proofs.YtofhcgbihonckaaGreat
namespace Go.Proofs.YtofhcgbihonckaaGreat
theorem QQi(base:Nat)(cap:Bool):∀(f n:Nat) (acc:List UInt8),Qlc base cap f n acc=Qlc base cap f n []++acc:=by
 intro f
 induction f with
 | zero=>intro n acc;simp[Qlc]
 | succ f ih=>
  intro n acc
  simp only[Qlc]
  split
  ·simp
  ·rw[ih (n / base) (Q3c cap (n % base)::acc),ih (n / base) [Q3c cap (n % base)]];simp
theorem QYh(base:Nat)(cap:Bool)(hb:2≤base):∀(f g n:Nat) (acc:List UInt8),n≤f→n≤g→Qlc base cap f n acc=Qlc base cap g n acc:=by
 intro f
 induction f with
 | zero=>
  intro g n acc h _
  obtain rfl:n=0:=by omega
  cases g <;> simp[Qlc]
 | succ f ih=>
  intro g n acc h h'
  cases g with
  | zero=>obtain rfl:n=0:=by omega
          simp[Qlc]
  | succ g=>
   simp only[Qlc]
   split
   ·rfl
   ·rename_i hn
    have:n / base<n:=Nat.div_lt_self (by omega) (by omega)
    exact ih g _ _ (by omega) (by omega)
theorem QWa(base:Nat)(cap:Bool)(n:Nat)(h:n<base):Qab base cap n=[Q3c cap n]:=by
 unfold Qab;rw[Nat.div_eq_of_lt h,Nat.mod_eq_of_lt h];rfl
theorem QSb(base:Nat)(cap:Bool)(hb:2≤base)(n:Nat)(h:base≤n):Qab base cap n=Qab base cap (n / base)++[Q3c cap (n % base)]:=by
 have hq:1≤n / base:=(Nat.one_le_div_iff (by omega)).2 h
 obtain⟨q,hq'⟩:∃q,n / base=q:=⟨_,rfl⟩
 unfold Qab
 rw[hq']at hq ⊢
 obtain⟨p,rfl⟩:∃p,q=p+1:=⟨q-1,by omega⟩
 rw[QQi,Qlc.eq_2]
 rw[if_neg (by omega)]
 congr 1
 have:(p+1) / base<p+1:=Nat.div_lt_self (by omega) (by omega)
 exact QYh base cap hb _ _ _ _ (by omega) (by omega)
theorem QNf(cap:Bool)(d:Nat)(h:d<16):Qjc (Q3c cap d).toNat=d:=by
 have:∀(c:Bool) (x:Fin 16),Qjc (Q3c c x).toNat=((x.val:Nat):Int):=by decide +kernel
 exact this cap ⟨d,h⟩
theorem Qjk(cap:Bool)(d:Nat)(h:d<16):QIa (Q3c cap d).toNat=true:=by
 have:∀(c:Bool) (x:Fin 16),QIa (Q3c c x).toNat=true:=by decide +kernel
 exact this cap ⟨d,h⟩
theorem QMf(d:Nat)(h:d<10):QOa (Q3c false d).toNat=true∧(d≠0→(Q3c false d).toNat≠48)∧(Q3c false d).toNat≠120:=by
 have:∀(x:Fin 10),QOa (Q3c false x).toNat=true∧(x.val≠0→(Q3c false x).toNat≠48)∧(Q3c false x).toNat≠120:=by decide +kernel
 exact this ⟨d,h⟩
theorem Qhi(base:Int)(x:UInt8):∀(l:List UInt8) (n:Int),QYa base (l++[x]) n=(QYa base l n).bind fun m=>QYa base [x] m:=by
 intro l
 induction l with
 | nil=>intro n;rfl
 | cons c l ih=>
  intro n
  simp only[List.cons_append,QYa]
  split
  ·rfl
  ·exact ih _
theorem Qnh(base:Nat)(cap:Bool)(hb:base=8∨base=10∨base=16):∀(k n:Nat),n≤k→QYa base (Qab base cap n) 0=some (min (n:Int) 4294967296):=by
 intro k
 induction k with
 | zero=>
  intro n h
  obtain rfl:n=0:=by omega
  rw[QWa base cap 0 (by omega)]
  simp only[QYa]
  rw[QNf cap 0 (by omega),if_neg (by omega)]
  simp
 | succ k ih=>
  intro n h
  rcases Nat.lt_or_ge n base with Hj|MM
  ·rw[QWa base cap n Hj]
   simp only[QYa]
   rw[QNf cap n (by omega),if_neg (by omega)]
   simp
  ·have ki:n / base<n:=Nat.div_lt_self (by omega) (by omega)
   have hm:n % base<base:=Nat.mod_lt _ (by omega)
   have hd:=Nat.div_add_mod n base
   rw[QSb base cap (by omega) n MM,Qhi,ih (n / base) (by omega)]
   simp only[Option.bind_some,QYa]
   rw[QNf cap (n % base) (by omega),if_neg (by omega)]
   congr 1
   rcases hb with rfl|rfl|rfl <;> omega
theorem QLd(base:Nat)(cap:Bool)(hb:2≤base)(Hn:base≤16)(p:UInt8→Prop)(hp:∀d,d<base→p (Q3c cap d)):∀(k n:Nat),n≤k→∀x∈Qab base cap n,p x:=by
 intro k
 induction k with
 | zero=>
  intro n h x hx
  obtain rfl:n=0:=by omega
  rw[QWa base cap 0 (by omega)]at hx
  simp at hx;subst hx;exact hp 0 (by omega)
 | succ k ih=>
  intro n h x hx
  rcases Nat.lt_or_ge n base with Hj|MM
  ·rw[QWa base cap n Hj]at hx
   simp at hx;subst hx;exact hp n Hj
  ·have ki:n / base<n:=Nat.div_lt_self (by omega) (by omega)
   rw[QSb base cap hb n MM]at hx
   rcases List.mem_append.1 hx with hx|hx
   ·exact ih _ (by omega) x hx
   ·simp at hx;subst hx;exact hp _ (Nat.mod_lt _ (by omega))
theorem Qne(base:Nat)(cap:Bool)(hb:2≤base)(n:Nat):Qab base cap n≠[]:=by
 rcases Nat.lt_or_ge n base with Hj|MM
 ·rw[QWa base cap n Hj];simp
 ·rw[QSb base cap hb n MM];simp
theorem QNi:∀(k n:Nat),n≤k→n≠0→((Qab 10 false n).headD 0).toNat≠48:=by
 intro k
 induction k with
 | zero=>intro n h h0;omega
 | succ k ih=>
  intro n h h0
  rcases Nat.lt_or_ge n 10 with Hj|MM
  ·rw[QWa 10 false n Hj];exact(QMf n Hj).2.1 h0
  ·rw[QSb 10 false (by omega) n MM]
   have:=ih (n / 10) (by omega) (by omega)
   have Hq:=Qne 10 false (by omega) (n / 10)
   cases hb:Qab 10 false (n / 10)with
   | nil=>exact absurd hb Hq
   | cons a l=>rw[hb]at this;simpa using this
theorem QTh{f:Nat}{c:UInt8}{r:List UInt8}(h:QIi c.toNat=false)(h2:c.toNat≠47):blk f (c::r)=(0,false):=by
 have hc:(47:UInt8)≠c:=by rintro rfl;exact h2 rfl
 cases f with
 | zero=>rfl
 | succ f=>
  simp only[blk]
  rw[if_neg (by simp[h]),if_neg (by simp[Lib.hasPrefix,hc]),if_neg (by simp[Lib.hasPrefix,hc])]
theorem QJm(c:Int)(h:QOa c=true):QIi c=false∧c≠47∧¬(Qja c=true∨c=95∨c=35):=by
 unfold QOa at h
 simp only[decide_eq_true_eq]at h
 refine⟨?_,by omega,?_⟩
 ·unfold QIi Qyd;simp;omega
 ·rintro (h' | h' | h')
  ·unfold Qja at h';simp at h';omega
  ·omega
  ·omega
theorem Q1m(n:Nat):Q5d (Qab 10 false n)=QTk (some (min (n:Int) 4294967296)):=by
 have Hq:=Qne 10 false (by omega) n
 have hp:Qfb (Qab 10 false n)=(10,Qab 10 false n):=by
  unfold Qfb
  have hx:Lib.hasPrefix (Qab 10 false n) [48,120]=false:=by
   have Hg:=QLd 10 false (by omega) (by omega) (fun x=>x.toNat≠120) (fun d hd=>(QMf d hd).2.2) n n (Nat.le_refl _)
   cases hb:Qab 10 false n with
   | nil=>rfl
   | cons a l=>
    cases l with
    | nil=>simp[Lib.hasPrefix,List.isPrefixOf]
    | cons b l=>
     rw[hb]at Hg
     have:=Hg b (by simp)
     have hb':(120:UInt8)≠b:=by rintro rfl;exact this rfl
     simp[Lib.hasPrefix,List.isPrefixOf,hb']
  rw[if_neg (by simp[hx]),if_neg]
  rintro ⟨h1,h2⟩
  by_cases h0:n=0
  ·subst h0;rw[QWa 10 false 0 (by omega)]at h1;simp at h1
  ·exact QNi n n (Nat.le_refl _) h0 (by rw[h2];rfl)
 unfold Q5d
 rw[hp]
 simp only[]
 rw[if_neg Hq]
 have:=Qnh 10 false (by omega) n n (Nat.le_refl _)
 rw[←this];rfl
end Go.Proofs.YtofhcgbihonckaaGreat
namespace Go.Proofs.YtofhcgbihonckaaGreat
def Lx(x:List UInt8)(T:List (Int × List UInt8 × Int))(r:List UInt8):Prop:=
 ∀(f:Nat) (p:Int × Int) (acc:List Tok),(x++r).length≤f→acc.length+T.length≤6000→
  ∃(f':Nat) (p':Int × Int) (Ts:List Tok),r.length≤f'∧rdA 0 (f+1) (x++r) p acc=rdA 0 (f'+1) r p' (acc++Ts)∧Ts.map Qmq=T
theorem Lx.append{x y r:List UInt8}{T U:List (Int × List UInt8 × Int)}(h:Lx x T (y++r))(k:Lx y U r):Lx (x++y) (T++U) r:=by
 intro f p acc hf ha
 simp only[List.length_append]at ha
 obtain⟨f1,p1,T1,h1,e1,m1⟩:=h f p acc (by simpa using hf) (by omega)
 have Kl:T1.length=T.length:=by rw[←m1];simp
 obtain⟨f2,p2,T2,h2,e2,m2⟩:=k f1 p1 (acc++T1) h1 (by simp;omega)
 refine⟨f2,p2,T1++T2,h2,?_,by simp[m1,m2]⟩
 rw[List.append_assoc,e1,e2,List.append_assoc]
theorem Lx.white{x:List UInt8}(hx:Qxm x)(r:List UInt8):Lx x [] r:=by
 intro f p acc hf _
 exact⟨f,adv x p,[],by simp at hf;omega,by rw[QVl hx];simp,rfl⟩
theorem Lx.sp(r:List UInt8):Lx [32] [] r:=.white (.one g32) r
theorem Lx.tok{x r:List UInt8}{t:Tok}(hx:x≠[])(hb:blk (x++r).length (x++r)=(0,false))(hn:Qya (x++r)=(t,x.length,0)):Lx x [Qmq t] r:=by
 intro f p acc hf ha
 have hp:=List.length_pos_iff.2 hx
 simp only[List.length_append]at hf
 simp only[List.length_cons,List.length_nil]at ha
 obtain⟨g,rfl⟩:∃g,f=g+1:=⟨f-1,by omega⟩
 refine⟨g,adv x p,[{ t with line:=p.1,col:=p.2 }],by omega,?_,rfl⟩
 rw[rdA]
 simp only[hb,List.drop_zero,List.take_zero,adv]
 rw[if_neg (by simp),if_neg (by omega),if_neg (fun e=>hx (List.append_eq_nil_iff.1 e).1),hn]
 simp only[]
 rw[if_neg (by simp),List.drop_left,List.take_left]
theorem Lx.one{c:UInt8}{r:List UInt8}(hb:blk 1 (c::r)=(0,false))(Hn:QIi c.toNat=false∧c.toNat≠47)(hn:Qya (c::r)=(⟨4,[c],0,0,0⟩,1,0)):Lx [c] [(4,[c],0)] r:=
 Lx.tok (t:=⟨4,[c],0,0,0⟩) (by simp) (by have:=QTh (f:=([c]++r).length) (r:=r) Hn.1 Hn.2;exact this) hn
theorem Lx.lpar(r:List UInt8):Lx [40] [(4,[40],0)] r:=.one (by kernel_rfl) (by decide) (by kernel_rfl)
theorem Lx.rpar(r:List UInt8):Lx [41] [(4,[41],0)] r:=.one (by kernel_rfl) (by decide) (by kernel_rfl)
theorem Lx.minus(r:List UInt8):Lx [45] [(4,[45],0)] r:=.one (by kernel_rfl) (by decide) (by kernel_rfl)
theorem Lx.compl(r:List UInt8):Lx [126] [(4,[126],0)] r:=.one (by kernel_rfl) (by decide) (by kernel_rfl)
theorem Lx.quest(r:List UInt8):Lx [63] [(4,[63],0)] r:=.one (by kernel_rfl) (by decide) (by kernel_rfl)
theorem Lx.colon(r:List UInt8):Lx [58] [(4,[58],0)] r:=.one (by kernel_rfl) (by decide) (by kernel_rfl)
theorem Lx.bang(r:List UInt8):Lx [33] [(4,[33],0)] (40::r):=.one (by kernel_rfl) (by decide) (by kernel_rfl)
def Qgm:List (List UInt8):=[[42],[47],[37],[43],[45],[60,60],[62,62],[60],[62],[60,61],[62,61],[61,61],[33,61],[38],[94],[124],[38,38],[124,124]]
theorem Lx.sign(r:List UInt8):∀s∈Qgm,Lx s [(4,s,0)] (32::r):=by
 intro s hs
 have h1:s≠[]∧blk (s++32::r).length (s++32::r)=(0,false)∧Qya (s++32::r)=(⟨4,s,0,0,0⟩,s.length,0):=by
  simp only[Qgm,List.mem_cons,List.not_mem_nil,or_false]at hs
  rcases hs with rfl|rfl|rfl|rfl|rfl|rfl|rfl|rfl|rfl|rfl|rfl|rfl|rfl|rfl|rfl|rfl|rfl|rfl <;> exact⟨by simp,by kernel_rfl,by kernel_rfl⟩
 exact Lx.tok h1.1 h1.2.1 h1.2.2
theorem Qbm(p:Int→Bool)(r:List UInt8):∀l:List UInt8,(∀x∈l,p x.toNat=true)→(r=[]∨p (r.headD 0).toNat=false)→QSa p (l++r)=l.length:=by
 intro l
 induction l with
 | nil=>
  intro _ h
  rcases h with rfl|h
  ·rfl
  ·cases r with
   | nil=>rfl
   | cons c r=>rw[List.nil_append,QEb,if_neg (by simpa using h)];rfl
 | cons c l ih=>intro h h2;rw[List.cons_append,QEb,if_pos (h c (by simp)),ih (fun x hx=>h x (by simp[hx])) h2];rfl
theorem Lx.num{x r:List UInt8}{v:Int}(hl:x≠[])(hw:∀c∈x,QIa c.toNat=true)(hd:QOa (x.headD 0).toNat=true)(hv:Q5d x=(v,0))(hr:r=[]∨QIa (r.headD 0).toNat=false):Lx x [(2,[],v)] r:=by
 obtain⟨h1,h2,h3⟩:=QJm _ hd
 have hb:blk (x++r).length (x++r)=(0,false):=by
  cases x with
  | nil=>exact absurd rfl hl
  | cons c l=>exact QTh (by simpa using h1) (by simp at h2;omega)
 have hh:(x++r).headD 0=x.headD 0:=by
  cases x with
  | nil=>exact absurd rfl hl
  | cons c l=>rfl
 refine Lx.tok (t:=⟨2,[],v,0,0⟩) hl hb ?_
 unfold Qya;simp only[];rw[hh,if_neg h3,if_pos hd,Qbm QIa r x hw hr,List.take_left,hv]
theorem Qzo{n:Nat}(h:n≤4294967295):QTk (some (min (n:Int) 4294967296))=((n:Int),0):=by
 unfold QTk
 simp only[]
 rw[Int.min_eq_left (by omega),if_neg (by omega)]
theorem Lx.dec{n:Nat}{r:List UInt8}(h:n≤4294967295)(hr:r=[]∨QIa (r.headD 0).toNat=false):Lx (Qab 10 false n) [(2,[],(n:Int))] r:=
 Lx.num (Qne 10 false (by omega) n) (fun c hc=>QLd 10 false (by omega) (by omega) (fun x=>QIa x.toNat=true) (fun d hd=>Qjk false d (by omega)) n n (Nat.le_refl _) c hc)
  (by
   have:=QLd 10 false (by omega) (by omega) (fun x=>QOa x.toNat=true) (fun d hd=>(QMf d hd).1) n n (Nat.le_refl _)
   have Hq:=Qne 10 false (by omega) n
   cases e:Qab 10 false n with
   | nil=>exact absurd e Hq
   | cons a l=>rw[e]at this;exact this a (by simp)) (by rw[Q1m,Qzo h]) hr
theorem Qkg:∀(m n:Nat),n<10 ^ (m+1)→(Qab 10 false n).length≤m+1:=by
 intro m
 induction m with
 | zero=>intro n h;rw[QWa 10 false n (by omega)];simp
 | succ m ih=>
  intro n h
  rcases Nat.lt_or_ge n 10 with c|c
  ·rw[QWa 10 false n c];simp
  ·rw[QSb 10 false (by omega) n c]
   have:=ih (n / 10) (by rw[Nat.pow_succ]at h;omega)
   simp;omega
theorem Qbf(n:Nat)(h:n≤4294967295):(Qab 10 false n).length≤10:=Qkg 9 n (by omega)
end Go.Proofs.YtofhcgbihonckaaGreat
