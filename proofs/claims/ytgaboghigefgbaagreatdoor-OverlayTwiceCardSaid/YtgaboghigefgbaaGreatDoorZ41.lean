/- What applying overlays does (plain). | walk.Split: the path of a node's parent, and its name. | Contracts of package tree: Delete. | What the laws on overlays say of a tree behind an overlay (plain). -/
import Derived.Test.YtgaboghigefgbaaGreatDoorZ40
import Derived.Deep.LoopGhost
open Go
set_option linter.all false
set_option maxHeartbeats 8000000
namespace Go.Proofs.YtgaboghigefgbaaGreatDoor
open Go.Lib (hid)
theorem QWe(p:UInt8→Bool):∀l:List UInt8,(∃x∈l,p x=false)→∃c r,l=l.takeWhile p++c::r∧p c=false
 | [],h=>by obtain⟨x,hx,_⟩:=h;cases hx
 | a::l,h=>by
  cases e:p a with
  | false=>exact⟨a,l,by rw[List.takeWhile_cons,if_neg (by rw[e];decide)];rfl,e⟩
  | true=>
   obtain⟨c,r,h1,h2⟩:=QWe p l (by
    obtain⟨x,hx,hp⟩:=h
    rcases List.mem_cons.1 hx with rfl|hx
    ·rw[e]at hp;cases hp
    ·exact⟨x,hx,hp⟩)
   exact⟨c,r,by rw[List.takeWhile_cons,if_pos e,List.cons_append,←h1],h2⟩
theorem Qkl{p:UInt8→Bool}:∀{l:List UInt8} {x:UInt8},x∈l.takeWhile p→p x=true
 | [],x,h=>by cases h
 | a::l,x,h=>by
  rw[List.takeWhile_cons]at h
  split at h
  ·rename_i hp
   rcases List.mem_cons.1 h with rfl|h
   ·exact hp
   ·exact Qkl h
  ·cases h
theorem Qxg{l:List UInt8}(h:(47:UInt8)∈l):l=QVg l++47::QMe l∧∀x∈QMe l,x≠47:=by
 obtain⟨c,r,h1,h2⟩:=QWe (fun c=>decide (c≠47)) l.reverse ⟨47,by simpa using h,by decide⟩
 have hc:c=47:=by simpa using h2
 subst hc
 have h3:l=r.reverse++47::QMe l:=by
  have:=congrArg List.reverse h1
  rw[List.reverse_reverse,List.reverse_append,List.reverse_cons]at this
  unfold QMe
  simpa using this
 have h4:QVg l=r.reverse:=by
  have hl:=congrArg List.length h3
  simp only[List.length_append,List.length_cons,List.length_reverse]at hl
  unfold QVg
  have e:l.take (l.length-(QMe l).length-1)=(r.reverse++47::QMe l).take (l.length-(QMe l).length-1):=congrArg (List.take _) h3
  rw[e,List.take_append_of_le_length (by simp;omega),List.take_of_length_le (by simp;omega)]
 refine⟨by rw[h4];exact h3,fun x hx=>?_⟩
 unfold QMe at hx
 rw[List.mem_reverse]at hx
 have:=Qkl hx
 simpa using this
theorem QMf{s:ByteArray}(h:QPe s=true):∃r,s.data.toList=47::r:=by
 unfold QPe at h
 split at h
 ·cases h
 ·rename_i c r e
  rw[Bool.and_eq_true,decide_eq_true_eq]at h
  exact⟨r,by rw[e,h.1]⟩
theorem Q8j{s:ByteArray}(h:QPe s=true):QFh (QEc s) (Q9g s)=s:=by
 obtain⟨r,hr⟩:=QMf h
 obtain⟨e,hn⟩:=Qxg (l:=s.data.toList) (by rw[hr];exact List.mem_cons_self)
 cases hf:QVg s.data.toList with
 | nil=>
  have h1:QEc s=⟨#[47]⟩:=by unfold QEc;rw[hf];rfl
  rw[h1]
  unfold QFh
  rw[if_pos (show QFi ⟨#[47]⟩=true from(Qxa _ _).2 rfl)]
  apply Q7b
  rw[hf,List.nil_append]at e
  show 47::QMe s.data.toList=_
  exact e.symm
 | cons a q=>
  have h1:QEc s=⟨(a::q).toArray⟩:=by unfold QEc;rw[hf];rfl
  rw[h1]
  unfold QFh
  by_cases hroot:QFi ⟨(a::q).toArray⟩=true
  ·exfalso
   have e2:=congrArg (fun b:ByteArray=>b.data.toList) ((Qxa _ _).1 hroot)
   simp only at e2
   have e3:a=47∧q=[]:=by
    have:(a::q)=[47]:=e2
    simpa using this
   obtain⟨rfl,rfl⟩:=e3
   rw[hf]at e
   unfold QPe at h
   rw[e]at h
   simp only[List.cons_append,List.nil_append,List.isEmpty_cons,Bool.false_or,decide_true,Bool.true_and]at h
   have:Qcc (47::QMe s.data.toList)=[]::Qcc (QMe s.data.toList):=rfl
   rw[this,List.all_cons,Bool.and_eq_true]at h
   have:=h.1
   simp[Q0a]at this
  ·rw[if_neg hroot]
   apply Q7b
   rw[hf]at e
   show(a::q)++47::QMe s.data.toList=_
   exact e.symm
theorem Qsd{x:Qja}(h:Qnc x=true):QPe x.path=true∧x.value.size≤256∧((x.kind=1∧x.name=⟨#[]⟩∧x.value=⟨#[]⟩∧QFi x.path=false)∨(x.kind=2∧Q6a x.name=true)∨(x.kind=3∧x.value=⟨#[]⟩∧Q6a x.name=true)):=by
 unfold Qnc at h
 split at h
 ·cases h
 ·rename_i h1
  have a1:QPe x.path=true:=by
   cases e:QPe x.path with
   | true=>rfl
   | false=>exact absurd (.inl e) h1
  have a2:x.value.size≤256:=by
   rcases Nat.lt_or_ge 256 x.value.size with e|e
   ·exact absurd (.inr e) h1
   ·exact e
  refine⟨a1,a2,?_⟩
  split at h
  ·rename_i h2
   rw[Bool.and_eq_true,Bool.and_eq_true,Bool.not_eq_true']at h
   exact .inl ⟨h2,(Qxa _ _).1 h.1.1,(Qxa _ _).1 h.1.2,h.2⟩
  ·split at h
   ·rename_i h3
    rcases h3 with h3|⟨h3,h4⟩
    ·exact .inr (.inl ⟨h3,h⟩)
    ·exact .inr (.inr ⟨h3,(Qxa _ _).1 h4,h⟩)
   ·cases h
theorem Q4j{T:List Qba}{x:Qja}(hc:Qfa T=0)(hv:Qnc x=true)(he:(Qob T x).2=0):Qfa (Qob T x).1=0∧(x.kind≠1→InS T x.path)∧(∀t,InS (Qob T x).1 t↔InS T t∨(x.kind=1∧t=x.path))∧
 ∀t q v,PrS (Qob T x).1 t q v↔if x.kind≠1∧t=x.path∧q=x.name then x.kind=2∧v=x.value else PrS T t q v:=by
 obtain⟨hp,cI,hk⟩:=Qsd hv
 by_cases k1:x.kind=1
 ·unfold Qob at he ⊢
  rw[if_pos k1]at he ⊢
  cases hf:(Qpb T x.path).2 with
  | true=>
   rw[if_pos rfl]
   refine⟨hc,fun h=>absurd k1 h,fun t=>⟨.inl,?_⟩,fun t q v=>by rw[if_neg (fun h=>h.1 k1)]⟩
   rintro (h|⟨_,rfl⟩)
   ·exact h
   ·exact(Qtj hc).2 hf
  | false=>
   rw[hf]at he
   rw[if_neg (by decide)]at he ⊢
   obtain⟨a1,a2,a3,a4⟩:=Qss he
   rw[Q8j hp]at a3
   refine⟨a1,fun h=>absurd k1 h,fun t=>?_,fun t q v=>by rw[if_neg (fun h=>h.1 k1)];exact a4 t q v⟩
   rw[a3]
   simp[k1]
 ·have kM:InS T x.path:=by
   cases hf:(Qpb T x.path).2 with
   | true=>exact(Qtj hc).2 hf
   | false=>unfold Qob at he;rw[if_neg k1,if_pos hf]at he;cases he
  have hf:=(Qtj hc).1 kM
  have hE:Qob T x=if x.kind=2 then QSd T x.path x.name x.value else if (Qxb T x.path x.name).2=0 then Qxb T x.path x.name else(T,0):=by
   unfold Qob;rw[if_neg k1,if_neg (by rw[hf];decide)]
  rw[hE]at he ⊢
  by_cases k2:x.kind=2
  ·rw[if_pos k2]at he ⊢
   obtain⟨a1,a2,a3,a4⟩:=Qjt he
   refine⟨a1,fun _=>kM,fun t=>by rw[a3];simp[k1],fun t q v=>?_⟩
   rw[a4]
   simp[k2]
  ·have k3:x.kind=3:=by omega
   rw[if_neg k2]at he ⊢
   by_cases hd:(Qxb T x.path x.name).2=0
   ·rw[if_pos hd]at he ⊢
    obtain⟨a1,a2,a3,a4⟩:=Qzn hd
    refine⟨a1,fun _=>kM,fun t=>by rw[a3];simp[k1],fun t q v=>?_⟩
    rw[a4]
    simp[k3]
   ·rw[if_neg hd]at he ⊢
    refine⟨hc,fun _=>kM,fun t=>by simp[k1],fun t q v=>?_⟩
    by_cases hh:t=x.path∧q=x.name
    ·obtain⟨rfl,rfl⟩:=hh
     simp only[k3,ne_eq,and_self,and_true]
     simp only[show ¬(3:Int)=1 by decide,show ¬(3:Int)=2 by decide,not_false_eq_true,if_true,false_and,iff_false]
     rintro ⟨i,hi,e,h⟩
     apply hd
     have hb:=Qeh hc hi
     rw[e]at hb
     rw[QXf hi hb,←Qfs (Qfc hc _ (List.getElem_mem hi)),h]
     rfl
    ·rw[if_neg (fun h=>hh h.2)]
def Qst(l:List Qja)(t q:ByteArray):Prop:=∃x∈l,x.kind≠1∧x.path=t∧x.name=q
def Qvt(l:List Qja)(t q v:ByteArray):Prop:=∃x∈l,x.kind=2∧x.path=t∧x.name=q∧x.value=v
def Qgn(l m:List Qja):Prop:=∀x∈l,∀y∈m,x.path=y.path→x.name=y.name→x.kind≠1→y.kind≠1→x.kind=y.kind∧x.value=y.value
theorem QVd{l:List Qja}(h:Q2j l=true):Qgn l l:=by
 intro x hx y hy e1 e2 _ _
 have:=Qhj (QJe l h) x hx y hy e1 e2
 subst this
 exact⟨rfl,rfl⟩
theorem Qgn.tail{a:Qja}{l m:List Qja}(h:Qgn (a::l) (a::m)):Qgn l m:=fun x hx y hy=>h x (List.mem_cons_of_mem _ hx) y (List.mem_cons_of_mem _ hy)
theorem QVc:∀(l:List Qja) (i:Nat) (T:List Qba),Qfa T=0→(∀x∈l,Qnc x=true)→Qgn l l→(QKb i T l).2.2=0→Qfa (QKb i T l).1=0∧(∀x∈l,InS (QKb i T l).1 x.path)∧(∀t,InS (QKb i T l).1 t↔InS T t∨∃x∈l,x.kind=1∧x.path=t)∧
 ∀t q v,PrS (QKb i T l).1 t q v↔Qvt l t q v∨(¬Qst l t q∧PrS T t q v)
 | [],i,T,hc,_,_,_=>by
  simp only[QKb]
  refine⟨hc,(fun x hx=>by cases hx),fun t=>⟨.inl,?_⟩,fun t q v=>⟨fun h=>.inr ⟨?_,h⟩,?_⟩⟩
  ·rintro (h|⟨x,hx,_⟩)
   ·exact h
   ·cases hx
  ·rintro ⟨x,hx,_⟩;cases hx
  ·rintro (⟨x,hx,_⟩|⟨_,h⟩)
   ·cases hx
   ·exact h
 | x::l,i,T,hc,hv,ha,he=>by
  have hx:=hv x List.mem_cons_self
  rw[QKb]at he ⊢
  by_cases h0:(Qob T x).2≠0
  ·rw[if_pos h0]at he;exact absurd he h0
  ·rw[if_neg h0]at he ⊢
   obtain⟨b1,b2,b3,b4⟩:=Q4j hc hx (Decidable.not_not.1 h0)
   obtain⟨c1,c2,c3,c4⟩:=QVc l (i+1) (Qob T x).1 b1 (fun y hy=>hv y (List.mem_cons_of_mem _ hy)) ha.tail he
   refine⟨c1,fun y hy=>?_,fun t=>?_,fun t q v=>?_⟩
   ·rcases List.mem_cons.1 hy with rfl|hy
    ·rw[c3,b3]
     by_cases k1:y.kind=1
     ·exact .inl (.inr ⟨k1,rfl⟩)
     ·exact .inl (.inl (b2 k1))
    ·exact c2 y hy
   ·rw[c3,b3]
    constructor
    ·rintro ((h|⟨h1,h2⟩) | ⟨y,hy,h⟩)
     ·exact .inl h
     ·exact .inr ⟨x,List.mem_cons_self,h1,h2.symm⟩
     ·exact .inr ⟨y,List.mem_cons_of_mem _ hy,h⟩
    ·rintro (h|⟨y,hy,h1,h2⟩)
     ·exact .inl (.inl h)
     ·rcases List.mem_cons.1 hy with rfl|hy
      ·exact .inl (.inr ⟨h1,h2.symm⟩)
      ·exact .inr ⟨y,hy,h1,h2⟩
   ·rw[c4,b4]
    by_cases hm:x.kind≠1∧t=x.path∧q=x.name
    ·rw[if_pos hm]
     obtain⟨m1,m2,m3⟩:=hm
     constructor
     ·rintro (⟨y,hy,h⟩|⟨_,h1,h2⟩)
      ·exact .inl ⟨y,List.mem_cons_of_mem _ hy,h⟩
      ·exact .inl ⟨x,List.mem_cons_self,h1,m2.symm,m3.symm,h2.symm⟩
     ·rintro (⟨y,hy,h1,h2,h3,h4⟩|⟨h1,_⟩)
      ·rcases List.mem_cons.1 hy with rfl|hy
       ·by_cases hh:Qst l t q
        ·obtain⟨z,hz,z1,z2,z3⟩:=hh
         obtain⟨e1,e2⟩:=ha y List.mem_cons_self z (List.mem_cons_of_mem _ hz) (h2.trans z2.symm) (h3.trans z3.symm) (by omega) z1
         exact .inl ⟨z,hz,by omega,z2,z3,e2.symm.trans h4⟩
        ·exact .inr ⟨hh,h1,h4.symm⟩
       ·exact .inl ⟨y,hy,h1,h2,h3,h4⟩
      ·exact absurd ⟨x,List.mem_cons_self,m1,m2.symm,m3.symm⟩ h1
    ·rw[if_neg hm]
     constructor
     ·rintro (⟨y,hy,h⟩|⟨h1,h2⟩)
      ·exact .inl ⟨y,List.mem_cons_of_mem _ hy,h⟩
      ·refine .inr ⟨?_,h2⟩
       rintro ⟨y,hy,z1,z2,z3⟩
       rcases List.mem_cons.1 hy with rfl|hy
       ·exact hm ⟨z1,z2.symm,z3.symm⟩
       ·exact h1 ⟨y,hy,z1,z2,z3⟩
     ·rintro (⟨y,hy,h1,h2,h3,h4⟩|⟨h1,h2⟩)
      ·rcases List.mem_cons.1 hy with rfl|hy
       ·exact absurd ⟨by omega,h2.symm,h3.symm⟩ hm
       ·exact .inl ⟨y,hy,h1,h2,h3,h4⟩
      ·exact .inr ⟨fun⟨y,hy,z⟩=>h1 ⟨y,List.mem_cons_of_mem _ hy,z⟩,h2⟩
theorem QEr{ps:List Qla}{p:Qla}(ha:Qtd ps=true)(h:ofT ps p.name=(p.value,true)):QSc ps p=ps:=by
 have a1:=(Qee _).1 (QTo ps p ha)
 have a2:=(Qee _).1 ha
 refine Qtl a1 a2 (fun r=>?_)
 obtain⟨q,v⟩:=r
 rw[←QHk a1,←QHk a2,QPp]
 by_cases e:q=p.name
 ·rw[if_pos e,e,h]
 ·rw[if_neg e]
theorem Qsn{T:List Qba}{x:Qja}(hc:Qfa T=0)(hv:Qnc x=true)(h1:InS T x.path)(h2:x.kind=2→PrS T x.path x.name x.value)(h3:x.kind=3→∀v,¬PrS T x.path x.name v):Qob T x=(T,0):=by
 obtain⟨hp,cI,hk⟩:=Qsd hv
 have hf:=(Qtj hc).1 h1
 unfold Qob
 rcases hk with⟨k1,_⟩|⟨k2,hn⟩|⟨k3,_,hn⟩
 ·rw[if_pos k1,if_pos hf]
 ·rw[if_neg (by omega),if_neg (by rw[hf];decide),if_pos k2]
  obtain⟨i,hi,e,ho⟩:=h2 k2
  have hb:=Qeh hc hi
  rw[e]at hb
  have hs:QIb T i ⟨x.name,x.value⟩=T:=by
   unfold QIb
   rw[List.getElem?_eq_getElem hi]
   show T.set i (Qod T[i] ⟨x.name,x.value⟩)=T
   unfold Qod
   rw[QEr (p:=⟨x.name,x.value⟩) (Qfc hc _ (List.getElem_mem hi)) ho]
   exact List.set_getElem_self hi
  rw[Qkm hb,if_neg (by rw[hn];decide),hs,if_neg (by rw[(Qya hc).1];decide)]
 ·rw[if_neg (by omega),if_neg (by rw[hf];decide),if_neg (by omega)]
  obtain⟨i,hi,e⟩:=h1
  have hb:=Qeh hc hi
  rw[e]at hb
  have j9:QKc T[i].props x.name=false:=by
   rw[←Qfs (Qfc hc _ (List.getElem_mem hi))]
   cases h:(ofT T[i].props x.name).2 with
   | false=>rfl
   | true=>exact absurd ⟨i,hi,e,by rw[←h]⟩ (h3 k3 (ofT T[i].props x.name).1)
  have hd:Qxb T x.path x.name=([],4):=by rw[QXf hi hb,if_pos j9]
  rw[hd,if_neg (by decide)]
theorem QKi{T:List Qba}(hc:Qfa T=0):∀(l:List Qja) (i:Nat),(∀x∈l,Qnc x=true)→(∀x∈l,InS T x.path∧(x.kind=2→PrS T x.path x.name x.value)∧(x.kind=3→∀v,¬PrS T x.path x.name v))→QKb i T l=(T,0,0)
 | [],_,_,_=>rfl
 | x::l,i,hv,h=>by
  obtain⟨h1,h2,h3⟩:=h x List.mem_cons_self
  rw[QKb,Qsn hc (hv x List.mem_cons_self) h1 h2 h3,if_neg (by simp)]
  exact QKi hc l (i+1) (fun y hy=>hv y (List.mem_cons_of_mem _ hy)) (fun y hy=>h y (List.mem_cons_of_mem _ hy))
theorem Qqc{T:List Qba}{n:ByteArray}{l:List Qja}(h:(QMa T n l).2.2=0):Qfa T=0∧QCa n l=0∧QMa T n l=QKb 0 T l:=by
 unfold QMa at h ⊢
 split at h
 ·rename_i h1;exact absurd h h1
 ·rename_i h1
  split at h
  ·rename_i h2;exact absurd h h2
  ·rename_i h2
   rw[if_neg h1,if_neg h2]
   exact⟨Decidable.not_not.1 h1,Decidable.not_not.1 h2,rfl⟩
theorem Qsl{T:List Qba}{n:ByteArray}{l:List Qja}(h:(QMa T n l).2.2=0):Qfa (QMa T n l).1=0∧QMa (QMa T n l).1 n l=((QMa T n l).1,0,0):=by
 obtain⟨hc,ho,he⟩:=Qqc h
 obtain⟨_,_,o3,o4,o5⟩:=QLb ho
 rw[he]at h ⊢
 have ha:=QVd o5
 obtain⟨a1,a2,a3,a4⟩:=QVc l 0 T hc o4 ha h
 refine⟨a1,?_⟩
 have:QMa (QKb 0 T l).1 n l=QKb 0 (QKb 0 T l).1 l:=by unfold QMa;rw[if_neg (by rw[a1];decide),if_neg (by rw[ho];decide)]
 rw[this]
 refine QKi a1 l 0 o4 (fun x hx=>⟨a2 x hx,fun k2=>?_,fun k3 v hv=>?_⟩)
 ·exact(a4 _ _ _).2 (.inl ⟨x,hx,k2,rfl,rfl,rfl⟩)
 ·rcases (a4 _ _ _).1 hv with⟨y,hy,y2,e1,e2,_⟩|⟨h1,_⟩
  ·have:=(ha x hx y hy e1.symm e2.symm (by omega) (by omega)).1
   omega
  ·exact h1 ⟨x,hx,by omega,rfl,rfl⟩
theorem Qmn{T:List Qba}{na nb:ByteArray}{a b:List Qja}(gN:(Qgc na a nb b).2.2=false)(h1:(QMa T na a).2.2=0)(h2:(QMa (QMa T na a).1 nb b).2.2=0)(h3:(QMa T nb b).2.2=0)(h4:(QMa (QMa T nb b).1 na a).2.2=0) :
 (QMa (QMa T na a).1 nb b).1=(QMa (QMa T nb b).1 na a).1:=by
 obtain⟨hc,vo,ea⟩:=Qqc h1
 obtain⟨_,tG,eb⟩:=Qqc h3
 obtain⟨_,_,eab⟩:=Qqc h2
 obtain⟨_,_,eba⟩:=Qqc h4
 obtain⟨_,_,_,a4,a5⟩:=QLb vo
 obtain⟨_,_,_,b4,b5⟩:=QLb tG
 have Be:=QVd a5
 have mB:=QVd b5
 have MW:Qgn a b:=by
  intro x hx y hy e1 e2 k1 k2
  unfold Qgc at gN
  rw[if_neg (fun e=>e.elim (fun e=>e vo) (fun e=>e tG))]at gN
  have hn:a.find? (fun x=>b.any (Qgb x))=none:=by
   cases hf:a.find? (fun x=>b.any (Qgb x))with
   | none=>rfl
   | some z=>rw[hf]at gN;cases gN
  rw[List.find?_eq_none]at hn
  have h5:=hn x hx
  have Hm:Qic x.name=false:=by
   obtain⟨_,_,hk⟩:=Qsd (a4 x hx)
   rcases hk with⟨k,_⟩|⟨_,k⟩|⟨_,_,k⟩
   ·exact absurd k k1
   all_goals
    cases e:Qic x.name with
    | false=>rfl
    | true=>rw[(Qxa _ _).1 e]at k;exact absurd k (by decide)
  by_cases exy:x=y
  ·subst exy;exact⟨rfl,rfl⟩
  ·refine absurd (List.any_eq_true.2 ⟨y,hy,?_⟩) h5
   unfold Qgb
   rw[(Qxa _ _).2 e1,(Qxa _ _).2 e2,Hm,decide_eq_false exy]
   rfl
 rw[ea]at h1 h2 eab ⊢
 rw[eb]at h3 h4 eba ⊢
 rw[eab]at h2 ⊢
 rw[eba]at h4 ⊢
 obtain⟨p1,p2,p3,p4⟩:=QVc a 0 T hc a4 Be h1
 obtain⟨q1,q2,q3,q4⟩:=QVc b 0 _ p1 b4 mB h2
 obtain⟨r1,r2,r3,r4⟩:=QVc b 0 T hc b4 mB h3
 obtain⟨s1,s2,s3,s4⟩:=QVc a 0 _ r1 a4 Be h4
 refine Qht q1 s1 (fun s=>?_) (fun s q v=>?_)
 ·rw[q3,p3,s3,r3]
  constructor
  ·rintro ((h|h) | h)
   ·exact .inl (.inl h)
   ·exact .inr h
   ·exact .inl (.inr h)
  ·rintro ((h|h) | h)
   ·exact .inl (.inl h)
   ·exact .inr h
   ·exact .inl (.inr h)
 ·rw[q4,p4,s4,r4]
  have key:∀v,Qvt b s q v→Qst a s q→Qvt a s q v:=by
   rintro v ⟨y,hy,y2,e1,e2,e3⟩ ⟨x,hx,x1,f1,f2⟩
   obtain⟨g1,g2⟩:=MW x hx y hy (f1.trans e1.symm) (f2.trans e2.symm) x1 (by omega)
   exact⟨x,hx,by omega,f1,f2,g2.trans e3⟩
  have key2:∀v,Qvt a s q v→Qst b s q→Qvt b s q v:=by
   rintro v ⟨y,hy,y2,e1,e2,e3⟩ ⟨x,hx,x1,f1,f2⟩
   obtain⟨g1,g2⟩:=MW y hy x hx (e1.trans f1.symm) (e2.trans f2.symm) (by omega) x1
   exact⟨x,hx,by omega,f1,f2,g2.symm.trans e3⟩
  constructor
  ·rintro (h|⟨h5,h|⟨h6,h7⟩⟩)
   ·by_cases ha:Qst a s q
    ·exact .inl (key v h ha)
    ·exact .inr ⟨ha,.inl h⟩
   ·exact .inl h
   ·exact .inr ⟨h6,.inr ⟨h5,h7⟩⟩
  ·rintro (h|⟨h5,h|⟨h6,h7⟩⟩)
   ·by_cases hb:Qst b s q
    ·exact .inl (key2 v h hb)
    ·exact .inr ⟨hb,.inl h⟩
   ·exact .inl h
   ·exact .inr ⟨h6,.inr ⟨h5,h7⟩⟩
end Go.Proofs.YtgaboghigefgbaaGreatDoor
namespace Go.Proofs.YtgaboghigefgbaaGreatDoor
open Go.Lib (hid)
open Go.RowKit
theorem QWs{l:List UInt8}{k:Nat}(hk:k<l.length)(h:l[k]=47)(hn:∀j (hj:j<l.length),k<j→l[j]≠47):QMe l=l.drop (k+1)∧QVg l=l.take k:=by
 have hm:(47:UInt8)∈l:=by rw[←h];exact List.getElem_mem hk
 obtain⟨e,h2⟩:=Qxg hm
 generalize QVg l=F at *
 generalize QMe l=Z at *
 have hlen:=congrArg List.length e
 simp only[List.length_append,List.length_cons]at hlen
 have hf:(F).length=k:=by
  rcases Nat.lt_trichotomy (F).length k with c|c|c
  ·exfalso
   have h3:l[k]∈Z:=by
    have:l[k]? = (Z)[k-(F).length-1]?:=by
     conv=>lhs;rw[e]
     rw[List.getElem?_append_right (by omega)]
     obtain⟨d,hd⟩:∃d,k-(F).length=d+1:=⟨k-(F).length-1,by omega⟩
     rw[hd,List.getElem?_cons_succ]
     rfl
    rw[List.getElem?_eq_getElem hk]at this
    exact List.mem_of_getElem? this.symm
   exact h2 _ h3 h
  ·exact c
  ·exfalso
   have hj:(F).length<l.length:=by omega
   apply hn _ hj c
   have:l[(F).length]? = some 47:=by
    conv=>lhs;rw[e]
    rw[List.getElem?_append_right (Nat.le_refl _),Nat.sub_self]
    rfl
   rw[List.getElem?_eq_getElem hj]at this
   exact Option.some.inj this
 constructor
 ·conv=>rhs;rw[e]
  rw[List.drop_append,hf,List.drop_of_length_le (by omega)]
  simp
 ·conv=>rhs;rw[e]
  rw[List.take_append_of_le_length (by omega),List.take_of_length_le (by omega)]
theorem Qij(s:ByteArray)(k:Nat)(h:k<s.size)(h2:k<s.data.toList.length):s.data.toList[k]=s[k]:=by simp;rfl
theorem QSr(s:ByteArray)(k:Nat)(hk:k<s.size)(h:s[k]=47)(hn:∀j (hj:j<s.size),k<j→s[j]≠47):s.extract 0 (max k 1)=QEc s∧s.extract (k+1) s.size=Q9g s:=by
 have e1:s.size=s.data.toList.length:=by simp
 obtain⟨a,b⟩:=QWs (l:=s.data.toList) (k:=k) (by omega) (by rw[Qij s k hk];exact h) (fun j hj hkj=>by rw[Qij s j (by omega)];exact hn j (by omega) hkj)
 constructor
 ·apply Q7b
  unfold QEc
  rw[b]
  have e2:(s.extract 0 (max k 1)).data.toList=s.data.toList.take (max k 1):=by simp[ByteArray.data_extract]
  rw[e2]
  cases k with
  | zero=>
   rw[if_pos (by simp)]
   obtain⟨r,hr⟩:∃r,s.data.toList=47::r:=by
    cases hs:s.data.toList with
    | nil=>rw[hs,List.length_nil]at e1;omega
    | cons c r=>
     have:s.data.toList[0]'(by omega)=47:=by rw[Qij s 0 hk];exact h
     simp only[hs,List.getElem_cons_zero]at this
     exact⟨r,by rw[this]⟩
   rw[hr];rfl
  | succ k=>
   have:(s.data.toList.take (k+1)).isEmpty=false:=by
    cases hs:s.data.toList with
    | nil=>rw[hs,List.length_nil]at e1;omega
    | cons c r=>rfl
   rw[if_neg (by rw[this];decide),show max (k+1) 1=k+1 from by omega]
 ·apply Q7b
  unfold Q9g
  rw[a]
  simp[ByteArray.data_extract]
  rw[List.take_of_length_le (by simp)]
set_option maxRecDepth 100000 in
theorem Qel(base bk k:Nat)(v:Value)(ps:List Qla)(w:World)(hr:Qma w base v ps)(hl:ps.length≤1000)(hk:k<ps.length)(hH:Holds w bk #[.int .i64 k] 3) :
 Calls Tryz.prog 118 #[v,.pointer (some ⟨bk,0,none⟩)] w fun e w'=>∃v',e = .returned v'∧Qma w' base v' (Qlj ps k)∧Qaa (fun b=>v.ownBlock=some b) w w':=by
 have x0:=hH.cell 0
 have HD:=hid (fun(wx:World) (h:Qma wx base v ps)=>QNk base v ps k wx h hk hl)
 have HR:=hid hr
 obtain⟨va,vc,rfl⟩:=Qea hr.1
 clear hr hH
 go_enter Tryz.func118,Tryz.ntmps118
 go_wp2_with fail
 refine(HD.out _ HR.out).mono ?_
 rintro e w2 ⟨v2,rfl,gd,k2⟩
 go_wp2_with fail
 go_ret
 exact⟨_,rfl,gd,k2⟩
theorem Qti:∀args w,(callFunc 118 args).run Tryz.prog w = .ok (.enter 118 args) w:=enters_of Tryz.func118 (by kernel_rfl) rfl
set_option maxRecDepth 100000 in
theorem Qxm(R:Nat→Prop)(v:Value)(T:List Qba)(s name:ByteArray)(w:World)(hT:Qpa R w v T) :
 Calls Tryz.prog 84 #[.agg #[v],.string s,.string name] w (Qyd (Qxb T s name) w):=by
 obtain⟨a,cap,rfl,gM,gB⟩:=hT.shape
 have HT:=hid hT.bound;clear hT
 have G0:=fun wx hx=>QMg (fun g=>g<w.heap.size) (.slice a T.length cap) T s wx hx
 obtain⟨W0,GT⟩:∃W0,W0=(w.alloc (.cells #[.slice a T.length cap] 27)).alloc (.cells #[.slice none 0 0] 27):=⟨_,rfl⟩
 have He:Below w.heap.size w W0:=by rw[GT];exact((Below.refl _ _).alloc (Nat.le_refl _) _).alloc (by simp) _
 have kJ:Holds W0 w.heap.size #[.slice a T.length cap] 27:=by rw[GT];exact(Holds.new w #[.slice a T.length cap] 27).alloc _
 have GH:Holds W0 (w.heap.size+1) #[.slice none 0 0] 27:=by rw[GT];exact Holds.newAt (w:=w.alloc (.cells #[.slice a T.length cap] 27)) (B:=w.heap.size+1) (by simp) #[.slice none 0 0] 27
 have My:Qpa (fun g=>g<w.heap.size) W0 (.slice a T.length cap) T:=HT.out.new He
 have am:=He.size
 have fy:=GH.lt
 rcases Qsb T s with⟨Hm,Gk⟩|⟨gy,k,hk,Gs,kR⟩
 ·have hE:=hid (show Qxb T s name=([],(QBa T s).2)from by unfold Qxb;rw[if_pos Hm])
  have eX:((QBa T s).2 != 0)=true:=by simpa using Hm
  rw[Gk]at G0
  have Kx:=hid G0
  clear G0 Hm Gk
  generalize (QBa T s).2=c at *
  go_enter Tryz.func84,Tryz.ntmps84
  go_wp2_with fail
  rw[←GT]
  refine(Kx.out _ (by exact My)).mono ?_
  rintro e w1 ⟨rfl,Hb⟩
  have Hs:=GH.keeps (Qaa.of_fresh Hb (fun _=>False)) (fun e=>e)
  have Hc:=He.trans (Hb.mono am)
  have z0:=Hs.cell 0
  have zf:=Hs.free 0
  go_wp2_with fail
  have q0:(w1.setCell ⟨w.heap.size+1,0,none⟩ (.slice none 0 0)).cell? ⟨w.heap.size+1,0,none⟩=some (.slice none 0 0):=(Hs.set 0 _).cell 0
  exact bodyPost_ret (v:=.tuple #[.agg #[.slice none 0 0],.int .i64 c]) (by simp[results,Tryz.results84,go_sem,q0]) rfl ⟨_,by rw[hE.out],by rw[hE.out];exact Qda.nil _ _,Hc.setCell (p:=⟨w.heap.size+1,0,none⟩) (by simp) _⟩
 ·rw[Gs]at G0
  have Kx:=hid G0
  have hE:=hid (QXf (x:=name) hk Gs)
  have gU:=(Qrc gy) T[k] (List.getElem_mem hk)
  have kF:=hid gy
  have K6:=QQg gy k hk
  have vH:=hid K6
  clear G0 Gs gy
  go_enter Tryz.func84,Tryz.ntmps84
  go_wp2_with fail
  rw[←GT]
  refine(Kx.out _ (by exact My)).mono ?_
  rintro e w1 ⟨rfl,Hb⟩
  have kk1:=Qaa.of_fresh Hb (fun _=>False)
  have Hs:=GH.keeps kk1 (fun e=>e)
  have H5:=kJ.keeps kk1 (fun e=>e)
  have GE:=My.new Hb
  have Hc:=He.trans (Hb.mono am)
  clear GH kJ My He GT Hb kk1 Kx
  obtain⟨g,o,pa,pc,vC,hg,q0,q1,q2,cY,mF,ze,yR,ME,aI⟩:=GE.at k hk
  subst vC
  have mH:=hid (fun(wx:World) (hx:Below w1.heap.size w1 wx)=>Qmg (fun g=>g<w.heap.size) (.slice pa T[k].props.length pc) T[k] name wx (cY.new hx) K6 gU)
  have eN:g<w1.heap.size:=by have:=Hc.size;omega
  have ko:=Hc.size
  have x0:=H5.cell 0
  have nJ:(k:Int)<T.length:=by omega
  clear cY K6
  cases Gz:QKc T[k].props name with
  | false=>
   have hF:=hid (show Qxb T s name=([],4)from by rw[hE.out,if_pos Gz])
   have jQ:=hid (fun(wx:World) (hx:Below w1.heap.size w1 wx)=>by have:=mH.out wx hx;rw[Gz]at this;exact this)
   clear mH hE Gz
   go_wp2_with fail
   refine(jQ.out _ (by exact Below.refl _ _)).mono ?_
   rintro e w3 ⟨rfl,Hi⟩
   have kk3:=Qaa.of_fresh Hi (fun _=>False)
   have Hz:=(Hs.keeps kk3 (fun e=>e)).alloc (.cells #[.int .i64 (Qfb T[k].props name)] 3)
   have Hu:=(Hc.trans (Hi.mono ko))
   have H9:=Hu.alloc Hu.size (.cells #[.int .i64 (Qfb T[k].props name)] 3)
   have z0:=Hz.cell 0
   have zf:=Hz.free 0
   go_wp2_with fail
   have q0:=(Hz.set 0 (.slice none 0 0)).cell 0
   exact bodyPost_ret (v:=.tuple #[.agg #[.slice none 0 0],.int .i64 4]) (by simp[results,Tryz.results84,go_sem,q0]) rfl ⟨_,by rw[hF.out],by rw[hF.out];exact Qda.nil _ _,H9.setCell (p:=⟨w.heap.size+1,0,none⟩) (by simp) _⟩
  | true=>
   have Hh:Qfb T[k].props name<T[k].props.length:=by
    by_cases e:Qfb T[k].props name<T[k].props.length
    ·exact e
    ·rw[Q2f (by omega)]at Gz;cases Gz
   have hF:=hid (show Qxb T s name=(T.set k ⟨T[k].parent,T[k].name,Qlj T[k].props (Qfb T[k].props name)⟩,0)from by rw[hE.out,if_neg (by rw[Gz];decide),QDm vH.out Gz])
   have jQ:=hid (fun(wx:World) (hx:Below w1.heap.size w1 wx)=>by have:=mH.out wx hx;rw[Gz]at this;exact this)
   clear mH hE Gz
   go_wp2_with fail
   refine(jQ.out _ (by exact Below.refl _ _)).mono ?_
   rintro e w3 ⟨rfl,Hi⟩
   have kk3:=Qaa.of_fresh Hi (fun _=>False)
   have Hz:=(Hs.keeps kk3 (fun e=>e)).alloc (.cells #[.int .i64 (Qfb T[k].props name)] 3)
   have ki:=(H5.keeps kk3 (fun e=>e)).alloc (.cells #[.int .i64 (Qfb T[k].props name)] 3)
   have az:=Holds.new w3 #[.int .i64 (Qfb T[k].props name)] 3
   have Hu:=(Hc.trans (Hi.mono ko))
   have H9:=Hu.alloc Hu.size (.cells #[.int .i64 (Qfb T[k].props name)] 3)
   have jF:=(GE.new Hi).new ((Below.refl _ _).alloc (Nat.le_refl _) (.cells #[.int .i64 (Qfb T[k].props name)] 3))
   have x3:=ki.cell 0
   have z0:=Hz.cell 0
   have zf:=Hz.free 0
   obtain⟨w5,MK⟩:∃x:World,x=w3.alloc (.cells #[.int .i64 (Qfb T[k].props name)] 3):=⟨_,rfl⟩
   rw[←MK]at Hz ki az H9 jF x3 z0 zf
   have gN:∀base u wx,Below w5.heap.size w5 wx→w5.heap.size≤base→base≤wx.heap.size→Qma wx base u T[k].props→Calls Tryz.prog 118 (#[u]++#[.pointer (some ⟨w3.heap.size,0,none⟩)]) wx fun e w'=>∃v',e = .returned v'∧Qma w' base v' (Qlj T[k].props (Qfb T[k].props name))∧Qaa (fun b=>u.ownBlock=some b) wx w':=
    fun base u wx kj _ _ hr=>Qel base w3.heap.size (Qfb T[k].props name) u T[k].props wx hr gU Hh (az.keeps (Qaa.of_fresh kj (fun _=>False)) (fun e=>e))
   have eI:=hid (Q3g (fun g=>g<w.heap.size) (.slice (some ⟨g,o,none⟩) T.length cap) T k 118 _ (Qlj T[k].props (Qfb T[k].props name)) w5 jF kF.out hk Qti gN)
   have KN:=hid Hz
   have G6:=hid H9
   clear gN ki az jF Hi kk3 H5 Hs GE Hc q0 q1 q2 Hu H9 Hz x0 jQ
   go_upto_region 7 with fail
   rw[←MK]
   clear MK
   go_wp2_with fail
   refine eI.out.mono ?_
   rintro e w6 ⟨v5,rfl,mo,gG⟩
   obtain⟨sa,sc,rfl⟩:=QNc mo
   have gK:=KN.out.keeps (Qaa.of_fresh gG (fun _=>False)) (fun e=>e)
   have z5:=gK.cell 0
   have f5:=gK.free 0
   have r5:=(mo.base (G6.out.size)).set gK (by decide) (by decide) 0 (.slice sa (T.set k ⟨T[k].parent,T[k].name,Qlj T[k].props (Qfb T[k].props name)⟩).length sc)
   have b5:=(G6.out.trans (gG.mono G6.out.size)).setCell (p:=⟨w.heap.size+1,0,none⟩) (by simp) (.slice sa (T.set k ⟨T[k].parent,T[k].name,Qlj T[k].props (Qfb T[k].props name)⟩).length sc)
   have c5:=(gK.set 0 (.slice sa (T.set k ⟨T[k].parent,T[k].name,Qlj T[k].props (Qfb T[k].props name)⟩).length sc)).cell 0
   have Me:=hid (And.intro r5 (And.intro b5 c5))
   clear r5 b5 c5 mo gK gG eI
   generalize (T.set k ⟨T[k].parent,T[k].name,Qlj T[k].props (Qfb T[k].props name)⟩)=T5 at *
   generalize dd:T5.length=n5 at *
   go_wp2_with fail
   exact bodyPost_ret (v:=.tuple #[.agg #[.slice sa n5 sc],.int .i64 0]) (by simp[results,Tryz.results84,go_sem,Me.out.2.2]) rfl ⟨_,by rw[hF.out],by rw[hF.out];exact Me.out.1,Me.out.2.1⟩
end Go.Proofs.YtgaboghigefgbaaGreatDoor
open Go
namespace Go.Proofs.YtgaboghigefgbaaGreatDoor
open Go.Lib (hid)
theorem Qhs{T:List Qba}(hc:Qfa T=0){k:Nat}(hk:k<T.length){q v:ByteArray}:PrS T (QQa T k) q v↔ofT T[k].props q=(v,true):=by
 constructor
 ·rintro ⟨i,hi,e,h⟩
  have:i=k:=Qnd hc hi hk e
  subst this;exact h
 ·intro h;exact⟨k,hk,rfl,h⟩
theorem QBo{T:List Qba}{n:ByteArray}{l:List Qja}(h:(QMa T n l).2.2=0)(d:Qja)(hd:d∈l) :
 ∃k:Nat,∃hk:k<(QMa T n l).1.length,Qpb (QMa T n l).1 d.path=((k:Int),true)∧(d.kind=2→ofT (QMa T n l).1[k].props d.name=(d.value,true))∧(d.kind=3→(ofT (QMa T n l).1[k].props d.name).2=false):=by
 obtain⟨hc,ho,he⟩:=Qqc h
 obtain⟨_,_,o3,o4,o5⟩:=QLb ho
 rw[he]at h ⊢
 have ha:=QVd o5
 obtain⟨a1,a2,a3,a4⟩:=QVc l 0 T hc o4 ha h
 obtain⟨k,hk,e⟩:=a2 d hd
 refine⟨k,hk,by rw[←e];exact QIj a1 hk,fun k2=>?_,fun k3=>?_⟩
 ·rw[←Qhs a1 hk,e]
  exact(a4 _ _ _).2 (.inl ⟨d,hd,k2,rfl,rfl,rfl⟩)
 ·cases hb:(ofT (QKb 0 T l).1[k].props d.name).2 with
  | false=>rfl
  | true=>
   have hp:PrS (QKb 0 T l).1 d.path d.name (ofT (QKb 0 T l).1[k].props d.name).1:=⟨k,hk,e,by rw[←hb]⟩
   rcases (a4 _ _ _).1 hp with⟨y,hy,y2,e1,e2,_⟩|⟨h1,_⟩
   ·have:=(ha d hd y hy e1.symm e2.symm (by omega) (by omega)).1
    omega
   ·exact absurd ⟨d,hd,by omega,rfl,rfl⟩ h1
theorem QCo{T:List Qba}{n:ByteArray}{l:List Qja}(h:(QMa T n l).2.2=0)(i:Nat)(hi:i<T.length) :
 ∃k:Nat,∃hk:k<(QMa T n l).1.length,Qpb (QMa T n l).1 (QQa T i)=((k:Int),true)∧∀p∈T[i].props,(∀d∈l,¬(d.path=QQa T i∧d.name=p.name))→ofT (QMa T n l).1[k].props p.name=(p.value,true):=by
 obtain⟨hc,ho,he⟩:=Qqc h
 obtain⟨_,_,o3,o4,o5⟩:=QLb ho
 rw[he]at h ⊢
 have ha:=QVd o5
 obtain⟨a1,a2,a3,a4⟩:=QVc l 0 T hc o4 ha h
 obtain⟨k,hk,e⟩:=(a3 (QQa T i)).2 (.inl ⟨i,hi,rfl⟩)
 refine⟨k,hk,by rw[←e];exact QIj a1 hk,fun p hp j9=>?_⟩
 rw[←Qhs a1 hk,e]
 refine(a4 _ _ _).2 (.inr ⟨?_,?_⟩)
 ·rintro ⟨x,hx,_,e1,e2⟩
  exact j9 x hx ⟨e1,e2⟩
 ·exact⟨i,hi,rfl,(QHk ((Qee _).1 (Qfc hc _ (List.getElem_mem hi))) _ _).2 hp⟩
theorem Qvn{na nb:ByteArray}{a b:List Qja}(h:(Qgc na a nb b).2.2=true):(Qgc nb b na a).2.2=true∧eqS (Qgc nb b na a).1 ⟨#[]⟩=false∧eqS (Qgc nb b na a).2.1 ⟨#[]⟩=false:=by
 unfold Qgc at h
 split at h
 ·cases h
 ·rename_i h0
  have vo:QCa na a=0:=Decidable.byContradiction fun e=>h0 (.inl e)
  have tG:QCa nb b=0:=Decidable.byContradiction fun e=>h0 (.inr e)
  cases hf:a.find? (fun x=>b.any (Qgb x))with
  | none=>rw[hf]at h;cases h
  | some x=>
   have hx:=List.mem_of_find?_eq_some hf
   have hc:=List.find?_some hf
   obtain⟨y,hy,aL⟩:=List.any_eq_true.1 hc
   have Ds:a.any (Qgb y)=true:=by
    refine List.any_eq_true.2 ⟨x,hx,?_⟩
    simp only[Qgb,Bool.and_eq_true,Qxa,Bool.not_eq_true',decide_eq_false_iff_not]at aL ⊢
    exact⟨⟨⟨aL.1.1.1.symm,aL.1.1.2.symm⟩,by rw[←aL.1.1.2];exact aL.1.2⟩,fun e=>aL.2 e.symm⟩
   have hs:(b.find? (fun y=>a.any (Qgb y))).isSome=true:=by
    rw[List.find?_isSome]
    exact⟨y,hy,Ds⟩
   obtain⟨z,hz⟩:=Option.isSome_iff_exists.1 hs
   have uw:=List.mem_of_find?_eq_some hz
   have pT:=List.find?_some hz
   obtain⟨u,_,BM⟩:=List.any_eq_true.1 pT
   have hE:Qgc nb b na a=(z.path,z.name,true):=by
    unfold Qgc
    rw[if_neg (fun e=>e.elim (fun e=>e tG) (fun e=>e vo)),hz]
   rw[hE]
   refine⟨rfl,?_,?_⟩
   ·have hv:=(Qsd ((QLb tG).2.2.2.1 z uw)).1
    obtain⟨r,hr⟩:=QMf hv
    cases e:eqS z.path ⟨#[]⟩with
    | false=>rfl
    | true=>
     rw[(Qxa _ _).1 e]at hr
     cases hr
   ·simp only[Qgb,Bool.and_eq_true,Bool.not_eq_true']at BM
    exact BM.1.2
theorem Qwn(na nb:ByteArray)(l:List Qja):(Qgc na l nb l).2.2=false:=by rw[Qxn]
end Go.Proofs.YtgaboghigefgbaaGreatDoor
