/- bringupgrow: label, cell of a document. | bringupgrow: value of a document. | bringupgrow: Members and Document (texts of documents). | bringupgrow: label, cell of a document: which bytes (made by gde.py). | bringupgrow: value of a document: which bytes (made by gde.py). | bringupgrow: Members: which bytes (made by gde.py). -/
import Derived.Test.YtofhcgbihonckaaGreatY23
import Derived.Test.YtofhcgbihonckaaGreatY17
import Derived.Deep.RegionWith
import Derived.Laws.IdiomStrings
import Derived.IntWalk
import Derived.Test.YtofhcgbihonckaaGreatY22
import Derived.Deep.LoopGhost
import Derived.Test.YtofhcgbihonckaaGreatY6
set_option linter.all false
namespace Go.Proofs.YtofhcgbihonckaaGreat
open Go.RowKit
def QBp:List ByteArray:=[⟨#[108,49]⟩,⟨#[108,50]⟩,⟨#[108,51]⟩,⟨#[108,52]⟩,⟨#[111,115,99]⟩,⟨#[118,100,100]⟩]
def QAp:List ByteArray:=[⟨#[48]⟩,⟨#[49]⟩,⟨#[50]⟩,⟨#[48,120,49,48]⟩,⟨#[52,50,57,52,57,54,55,50,57,53]⟩,⟨#[50,52,48,48,48,48,48,48]⟩]
theorem Qqo:∀s∈QBp,s.size≤3:=by decide
theorem Qpo:∀s∈QAp,s.size≤10:=by decide
theorem Que:∀s∈Qmk,s.size≤6:=by decide
theorem Qdh:∀s∈Q5c,s.size≤10:=by decide
def lPh:List ByteArray:=[⟨#[49]⟩,⟨#[50]⟩,⟨#[55]⟩,⟨#[57]⟩]
theorem QCp:∀s∈lPh,s.size≤1:=by decide
def Qip:Nat→Nat
 | 0=>3200
 | k+1=>4*(Qip k+800)
def QBg(l:List UInt8):Nat:=l.countP fun c=>decide (c=59) || decide (c=123) || decide (c=125)
structure Cs(s:ByteArray)(c:Nat)(e:Bool):Prop where
 no:noC s.data.toList=true
 cnt:QBg s.data.toList≤c
 fin:e=false→Qtm s.data.toList=false
theorem Cs.le{s:ByteArray}{c d:Nat}{e:Bool}(h:Cs s c e)(hd:c≤d):Cs s d e:=⟨h.no,Nat.le_trans h.cnt hd,h.fin⟩
theorem Cs.up{s:ByteArray}{c:Nat}{e:Bool}(h:Cs s c e){d:Nat}(hd:c≤d):Cs s d true:=⟨h.no,Nat.le_trans h.cnt hd,fun e=>by cases e⟩
theorem Cs.empty:Cs ByteArray.empty 0 false:=⟨rfl,Nat.le_refl _,fun _=>rfl⟩
theorem Cs.lit{l:ByteArray}(c:Nat)(e:Bool)(h:(noC l.data.toList && decide (QBg l.data.toList≤c) && (e || !Qtm l.data.toList))=true):Cs l c e:=by
 rw[Bool.and_eq_true,Bool.and_eq_true,decide_eq_true_eq]at h
 exact⟨h.1.1,h.1.2,fun he=>by subst he;simpa using h.2⟩
theorem Cs.cat{a b c:ByteArray}{i j:Nat}{ea eb:Bool}(h:c.data.toList=a.data.toList++b.data.toList)(ha:Cs a i ea)(hb:Cs b j eb)(ho:ea=false∨(okC b.data.toList=true∧b.data.toList≠[])):Cs c (i+j) eb:=by
 refine⟨by rw[h];exact QCl _ _ ha.no hb.no (ho.elim (fun e=>.inl (ha.fin e)) (fun e=>.inr e.1)),?_,fun he=>?_⟩
 ·rw[h]
  unfold QBg
  rw[List.countP_append]
  have:=ha.cnt
  have:=hb.cnt
  unfold QBg at *
  omega
 ·rw[h]
  by_cases hn:b.data.toList=[]
  ·rw[hn,List.append_nil]
   rcases ho with ho|ho
   ·exact ha.fin ho
   ·exact absurd hn ho.2
  ·rw[QJj _ _ hn];exact hb.fin he
theorem Cs.of_chr{a:List UInt8}(h:a.all QUk=true):Cs ⟨a.toArray⟩ 0 false:=by
 have h1:∀l:List UInt8,l.all QUk=true→noC l=true∧QBg l=0∧Qtm l=false:=by
  intro l
  induction l with
  | nil=>intro _;exact⟨rfl,rfl,rfl⟩
  | cons c l ih=>
   intro hl
   rw[List.all_cons,Bool.and_eq_true]at hl
   obtain⟨i1,i2,i3⟩:=ih hl.2
   have hc:=hl.1
   simp only[QUk,Bool.and_eq_true,decide_eq_true_eq,ne_eq]at hc
   refine⟨by simp only[noC,i1,Bool.and_true];simp[hc.1.1.1.1.1],?_,?_⟩
   ·unfold QBg at i2 ⊢
    rw[List.countP_cons,i2]
    simp[hc.1.1.1.1.2,hc.1.1.1.2,hc.1.1.2]
   ·cases l with
    | nil=>simp[Qtm,hc.1.1.1.1.1]
    | cons d q=>exact i3
 obtain⟨i1,i2,i3⟩:=h1 a h
 exact⟨i1,Nat.le_of_eq i2,fun _=>i3⟩
theorem Qta(s l:ByteArray)(n:Nat)(hl:l.size=n)(h:s.size≤100000000)(hn:n≤1000):∃c,(∀wx:World,(Op.stringOp .add s l).run Tryz.prog wx = .ok (.string c) wx)∧c.size=s.size+n∧c.data.toList=s.data.toList++l.data.toList:=by
 obtain⟨c,h1,h2,h3⟩:=QFf s l (by omega)
 exact⟨c,h1,by omega,h3⟩
theorem QCa(s l:ByteArray)(h:s.size≤100000000)(hn:l.size≤100000000):∃c,(∀wx:World,(Op.stringOp .add s l).run Tryz.prog wx = .ok (.string c) wx)∧c.size=s.size+l.size∧c.data.toList=s.data.toList++l.data.toList:=by
 obtain⟨c,h1,h2,h3⟩:=QFf s l (by omega)
 exact⟨c,h1,h2,h3⟩
def Q0p:Nat→Nat
 | 0=>4
 | k+1=>4*(Q0p k+3)
end Go.Proofs.YtofhcgbihonckaaGreat
