/- bringupgrow: label, cell of a document. | bringupgrow: value of a document. | bringupgrow: Members and Document (texts of documents). | bringupgrow: label, cell of a document: which bytes (made by gde.py). | bringupgrow: value of a document: which bytes (made by gde.py). | bringupgrow: Members: which bytes (made by gde.py). -/
import Derived.Test.YtofhcgbihonckaaGreatZ32
import Derived.Test.YtofhcgbihonckaaGreatZ16
import Derived.Deep.RegionWith
import Derived.Laws.IdiomStrings
import Derived.IntWalk
import Derived.Test.YtofhcgbihonckaaGreatZ31
import Derived.Deep.LoopGhost
import Derived.Test.YtofhcgbihonckaaGreatZ5
set_option linter.all false
set_option maxHeartbeats 8000000
namespace Go.Proofs.YtofhcgbihonckaaGreat
open Go.RowKit
def QKq:List ByteArray:=[⟨#[108,49]⟩,⟨#[108,50]⟩,⟨#[108,51]⟩,⟨#[108,52]⟩,⟨#[111,115,99]⟩,⟨#[118,100,100]⟩]
def QJq:List ByteArray:=[⟨#[48]⟩,⟨#[49]⟩,⟨#[50]⟩,⟨#[48,120,49,48]⟩,⟨#[52,50,57,52,57,54,55,50,57,53]⟩,⟨#[50,52,48,48,48,48,48,48]⟩]
theorem Qup:∀s∈QKq,s.size≤3:=by decide
theorem Qtp:∀s∈QJq,s.size≤10:=by decide
theorem QXe:∀s∈Qjl,s.size≤6:=by decide
theorem QTh:∀s∈Qrd,s.size≤10:=by decide
def lPh:List ByteArray:=[⟨#[49]⟩,⟨#[50]⟩,⟨#[55]⟩,⟨#[57]⟩]
theorem QLq:∀s∈lPh,s.size≤1:=by decide
def QDp:Nat→Nat
 | 0=>3200
 | k+1=>4*(QDp k+800)
def Qap(l:List UInt8):Nat:=l.countP fun c=>decide (c=59) || decide (c=123) || decide (c=125)
structure Cs(s:ByteArray)(c:Nat)(e:Bool):Prop where
 no:noC s.data.toList=true
 cnt:Qap s.data.toList≤c
 fin:e=false→QNl s.data.toList=false
theorem Cs.le{s:ByteArray}{c d:Nat}{e:Bool}(h:Cs s c e)(hd:c≤d):Cs s d e:=⟨h.no,Nat.le_trans h.cnt hd,h.fin⟩
theorem Cs.up{s:ByteArray}{c:Nat}{e:Bool}(h:Cs s c e){d:Nat}(hd:c≤d):Cs s d true:=⟨h.no,Nat.le_trans h.cnt hd,fun e=>by cases e⟩
theorem Cs.empty:Cs ByteArray.empty 0 false:=⟨rfl,Nat.le_refl _,fun _=>rfl⟩
theorem Cs.lit{l:ByteArray}(c:Nat)(e:Bool)(h:(noC l.data.toList && decide (Qap l.data.toList≤c) && (e || !QNl l.data.toList))=true):Cs l c e:=by
 rw[Bool.and_eq_true,Bool.and_eq_true,decide_eq_true_eq]at h
 exact⟨h.1.1,h.1.2,fun he=>by subst he;simpa using h.2⟩
theorem Cs.cat{a b c:ByteArray}{i j:Nat}{ea eb:Bool}(h:c.data.toList=a.data.toList++b.data.toList)(ha:Cs a i ea)(hb:Cs b j eb)(ho:ea=false∨(okC b.data.toList=true∧b.data.toList≠[])):Cs c (i+j) eb:=by
 refine⟨by rw[h];exact QBm _ _ ha.no hb.no (ho.elim (fun e=>.inl (ha.fin e)) (fun e=>.inr e.1)),?_,fun he=>?_⟩
 ·rw[h]
  unfold Qap
  rw[List.countP_append]
  have:=ha.cnt
  have:=hb.cnt
  unfold Qap at *
  omega
 ·rw[h]
  by_cases hn:b.data.toList=[]
  ·rw[hn,List.append_nil]
   rcases ho with ho|ho
   ·exact ha.fin ho
   ·exact absurd hn ho.2
  ·rw[QCk _ _ hn];exact hb.fin he
theorem Cs.app{a b c:ByteArray}{i j:Nat}{eb:Bool}(h:c.data.toList=a.data.toList++b.data.toList)(ha:Cs a i false)(hb:Cs b j eb):Cs c (i+j) eb:=Cs.cat h ha hb (.inl rfl)
theorem Cs.of_chr{a:List UInt8}(h:a.all QJo=true):Cs ⟨a.toArray⟩ 0 false:=by
 have h1:∀l:List UInt8,l.all QJo=true→noC l=true∧Qap l=0∧QNl l=false:=by
  intro l
  induction l with
  | nil=>intro _;exact⟨rfl,rfl,rfl⟩
  | cons c l ih=>
   intro hl
   rw[List.all_cons,Bool.and_eq_true]at hl
   obtain⟨i1,i2,i3⟩:=ih hl.2
   have hc:=hl.1
   simp only[QJo,Bool.and_eq_true,decide_eq_true_eq,ne_eq]at hc
   refine⟨by simp only[noC,i1,Bool.and_true];simp[hc.1.1.1.1.1],?_,?_⟩
   ·unfold Qap at i2 ⊢
    rw[List.countP_cons,i2]
    simp[hc.1.1.1.1.2,hc.1.1.1.2,hc.1.1.2]
   ·cases l with
    | nil=>simp[QNl,hc.1.1.1.1.1]
    | cons d q=>exact i3
 obtain⟨i1,i2,i3⟩:=h1 a h
 exact⟨i1,Nat.le_of_eq i2,fun _=>i3⟩
def Qoq(B b m c:Nat)(q:Bool)(w:World)(e:Ending)(w':World):Prop:=∃s:ByteArray,e = .returned (.string s)∧s.size≤m∧Cs s c q∧Q3c B w' b∧Qaa (· = b) w w'
theorem Qxa(s l:ByteArray)(n:Nat)(hl:l.size=n)(h:s.size≤100000000)(hn:n≤1000):∃c,(∀wx:World,(Op.stringOp .add s l).run Tryz.prog wx = .ok (.string c) wx)∧c.size=s.size+n∧c.data.toList=s.data.toList++l.data.toList:=by
 obtain⟨c,h1,h2,h3⟩:=QKb s l (by omega)
 exact⟨c,h1,by omega,h3⟩
theorem QAa(s l:ByteArray)(h:s.size≤100000000)(hn:l.size≤100000000):∃c,(∀wx:World,(Op.stringOp .add s l).run Tryz.prog wx = .ok (.string c) wx)∧c.size=s.size+l.size∧c.data.toList=s.data.toList++l.data.toList:=by
 obtain⟨c,h1,h2,h3⟩:=QKb s l (by omega)
 exact⟨c,h1,h2,h3⟩
theorem Qrr:∀s∈QKq,Cs s 0 false:=fun s hs=>Cs.lit 0 false (by revert s;decide)
theorem Qqr:∀s∈QJq,Cs s 0 false:=fun s hs=>Cs.lit 0 false (by revert s;decide)
theorem Q3l:∀s∈Qrd,Cs s 0 false:=fun s hs=>Cs.lit 0 false (by revert s;decide)
theorem Qxi:∀s∈Qjl,Cs s 0 false:=fun s hs=>Cs.lit 0 false (by revert s;decide)
theorem QVr:∀s∈lPh,Cs s 0 false:=fun s hs=>Cs.lit 0 false (by revert s;decide)
set_option maxRecDepth 100000 in
theorem QWc(B b:Nat)(w:World)(h:Q3c B w b) :
 Calls Tryz.prog 31 #[.pointer (some ⟨b,0,none⟩)] w (Qoq B b 3 0 false w):=by
 have Hh:=h.lt
 go_enter Tryz.func31,Tryz.ntmps31
 go_wp2_with fail
 refine(Qge B b 6 _ (h.keeps ((Qaa.refl (fun _=>False) w).alloc _) (fun _ e=>e.elim)) (by omega) (by omega)).mono ?_
 rintro e w1 ⟨r,rfl,r0,r1,hT,hK⟩
 obtain⟨r,rfl⟩:=Int.eq_ofNat_of_zero_le r0
 have hH:=(Qca.new w (QKq.map Value.string).toArray 9).keeps hK (by omega)
 obtain⟨s,gy,gB⟩:=QTb QKq r (by have:QKq.length=6:=rfl;omega)
 have hc:w1.cell? ⟨w.heap.size,r,none⟩=some (.string s):=(hH.cell r).trans (by simp[gy])
 have ga:Qaa (fun i=>i=b) w w1:=((Qaa.refl (fun i=>i=b) w).alloc _).trans hK (fun _ _ e=>e)
 go_wp2_with fail
 go_ret
 exact⟨s,rfl,Qup s gB,Qrr s gB,hT,ga⟩
set_option maxRecDepth 100000 in
theorem Qih(B b:Nat)(w:World)(h:Q3c B w b) :
 Calls Tryz.prog 78 #[.pointer (some ⟨b,0,none⟩)] w (Qoq B b 60 0 false w):=by
 have Hh:=h.lt
 go_enter Tryz.func78,Tryz.ntmps78
 go_wp2_with fail
 refine(Qge B b 5 _ h (by omega) (by omega)).mono ?_
 rintro e w1 ⟨r,rfl,r0,r1,Kv,g9⟩
 by_cases h0:r=0
 ·subst h0
  go_wp2_with fail
  refine(QWc B b _ Kv).mono ?_
  rintro e w2 ⟨s,rfl,hs,css,gN,ga⟩
  obtain⟨s1,Hw,gy,Kr⟩:=QKb ⟨#[38]⟩ s (by have:(⟨#[38]⟩:ByteArray).size=1:=rfl;omega)
  have css1:=Cs.app Kr (Cs.lit (l:=⟨#[38]⟩) 0 false (by decide)) css
  have e1:(⟨#[38]⟩:ByteArray).size=1:=rfl
  unfold QSc at Hw
  go_wp2_with fail
  go_ret
  exact⟨s1,rfl,by omega,css1.le (by omega),gN,g9.trans ga (fun _ _ e=>e)⟩
 ·have h0':(r == 0)=false:=by simpa using h0
  by_cases h1:r=1
  ·subst h1
   go_wp2_with fail
   refine(QWh B b 1 (by omega) _ Kv).mono ?_
   rintro e w2 ⟨s,x,rfl,hX,gN,ga⟩
   have KR:s.length≤40:=hX.len
   obtain⟨s1,Hw,gy,Kr⟩:=QKb ⟨#[40]⟩ ⟨s.toArray⟩ (by simp[ByteArray.size];omega)
   have css1:=Cs.app Kr (Cs.lit (l:=⟨#[40]⟩) 0 false (by decide)) (Cs.of_chr hX.chr)
   have e1:(⟨#[40]⟩:ByteArray).size=1:=rfl
   have e2:(⟨s.toArray⟩:ByteArray).size=s.length:=by simp[ByteArray.size]
   obtain⟨s2,Mm,gB,hx2⟩:=QKb s1 ⟨#[41]⟩ (by have:(⟨#[41]⟩:ByteArray).size=1:=rfl;omega)
   have css2:=Cs.app hx2 css1 (Cs.lit (l:=⟨#[41]⟩) 0 false (by decide))
   have e3:(⟨#[41]⟩:ByteArray).size=1:=rfl
   unfold QSc at Hw Mm
   go_wp2_with fail
   go_ret
   exact⟨s2,rfl,by omega,css2.le (by omega),gN,g9.trans ga (fun _ _ e=>e)⟩
  ·have h1':(r == 1)=false:=by simpa using h1
   go_wp2_with fail
   refine(Qge B b 6 _ (Kv.keeps ((Qaa.refl (fun _=>False) w1).alloc _) (fun _ e=>e.elim)) (by omega) (by omega)).mono ?_
   rintro e w2 ⟨q,rfl,q0,q1,gN,ga⟩
   obtain⟨q,rfl⟩:=Int.eq_ofNat_of_zero_le q0
   have KA:=Kv.lt
   have hH:=(Qca.new w1 (QJq.map Value.string).toArray 9).keeps ga (by omega)
   obtain⟨s,gy,gB⟩:=QTb QJq q (by have:QJq.length=6:=rfl;omega)
   have hc:w2.cell? ⟨w1.heap.size,q,none⟩=some (.string s):=(hH.cell q).trans (by simp[gy])
   have gc:Qaa (fun i=>i=b) w w2:=(g9.alloc _).trans ga (fun _ _ e=>e)
   have:=Qtp s gB
   go_wp2_with fail
   go_ret
   exact⟨s,rfl,by omega,Qqr s gB,gN,gc⟩
def QOr(B b:Nat)(w:World)(f:Nat)(x y:Value)(wr:World):Prop:=
 ∃(s:ByteArray) (r:Nat),x = .string s∧y = .int .i64 r∧r≤f∧r≤3∧s.size+250*r≤750∧Cs s 0 true∧Q3c B wr b∧Qaa (· = b) w wr
def QGr(B b m:Nat)(w:World)(f:Nat)(x y:Value)(wr:World):Prop:=
 ∃(s:ByteArray) (r:Nat),x = .string s∧y = .int .i64 r∧r≤f∧r≤3∧s.size+61*r≤m∧Cs s 0 false∧Q3c B wr b∧Qaa (· = b) w wr
set_option maxRecDepth 100000 in
theorem QDj(B b:Nat)(w:World)(h:Q3c B w b) :
 Calls Tryz.prog 46 #[.pointer (some ⟨b,0,none⟩)] w (Qoq B b 750 0 true w):=by
 go_enter Tryz.func46,Tryz.ntmps46
 go_wp2_with fail
 refine(Q1f B b 1 3 _ h (by omega) (by omega) (by omega)).mono ?_
 rintro e w1 ⟨r,rfl,r0,r1,hT,hK⟩
 obtain⟨r,rfl⟩:=Int.eq_ofNat_of_zero_le (show 0≤r by omega)
 go_wp2_with fail
 go_loopg [3,4] r (fun f x y wr=>QOr B b w f x y wr)
 case atStart=>exact⟨ByteArray.empty,r,rfl,rfl,by omega,by omega,by simp;omega,Cs.empty.up (by omega),hT,hK⟩
 case round=>
  obtain⟨s,r,rfl,rfl,hf,m9,hs,css,hT,hK⟩:=hrel
  obtain⟨go,rfl⟩:∃x:Nat,x=gk:=⟨_,rfl⟩
  obtain⟨wo,rfl⟩:∃x:World,x=wr:=⟨_,rfl⟩
  by_cases h0:0<r
  ·by_cases hz:s.size=0
   ·obtain rfl:=QEd s hz
    clear hz
    have hez:ByteArray.empty.size=0:=rfl
    go_wp2_with fail
    refine(Qge B b 6 _ hT (by omega) (by omega)).mono ?_
    rintro e w2 ⟨q,rfl,q0,q1,gN,ga⟩
    have gc:Qaa (· = b) w w2:=hK.trans ga (fun _ _ e=>e)
    have ix:q=0∨q=1∨q=2∨q=3∨(4≤q):=by omega
    rcases ix with rfl|rfl|rfl|rfl|hq
    ·obtain⟨s1,Hw,gy,gW⟩:=Qxa ByteArray.empty ⟨#[34,116,101,120,116,34]⟩ 6 rfl (by omega) (by omega)
     have css1:=Cs.app gW Cs.empty (Cs.lit (l:=⟨#[34,116,101,120,116,34]⟩) 0 true (by decide))
     clear gW
     go_wp2_with fail
     go_roundg (go-1)
     case measure=>omega
     case rel=>exact⟨s1,r-1,rfl,by go_num,by omega,by omega,by omega,css1.up (by omega),gN,gc⟩
    ·obtain⟨s1,Hw,gy,gW⟩:=Qxa ByteArray.empty ⟨#[91,32,48,32,49,55,32,50,53,53,32,93]⟩ 12 rfl (by omega) (by omega)
     have css1:=Cs.cat gW Cs.empty (Cs.lit (l:=⟨#[91,32,48,32,49,55,32,50,53,53,32,93]⟩) 0 false (by decide)) (.inr (by decide))
     clear gW
     go_wp2_with fail
     go_roundg (go-1)
     case measure=>omega
     case rel=>exact⟨s1,r-1,rfl,by go_num,by omega,by omega,by omega,css1.up (by omega),gN,gc⟩
    ·go_wp2_with fail
     refine(QWc B b _ gN).mono ?_
     rintro e w3 ⟨lb,rfl,qF,cslb,G5,gD⟩
     obtain⟨l1,Hw,gy,mV⟩:=QAa ⟨#[38]⟩ lb (by decide) (by omega)
     have csl1:=Cs.app mV (Cs.lit (l:=⟨#[38]⟩) 0 false (by decide)) cslb
     clear mV
     have e1:(⟨#[38]⟩:ByteArray).size=1:=rfl
     obtain⟨s1,Mm,gB,gW⟩:=QAa ByteArray.empty l1 (by omega) (by omega)
     have css1:=Cs.app gW Cs.empty csl1
     clear gW
     go_wp2_with fail
     go_roundg (go-1)
     case measure=>omega
     case rel=>exact⟨s1,r-1,rfl,by go_num,by omega,by omega,by omega,css1.up (by omega),G5,gc.trans gD (fun _ _ e=>e)⟩
    ·obtain⟨s1,Hw,gy,gW⟩:=Qxa ByteArray.empty ⟨#[34,97,92,120,52,49,92,110,34]⟩ 9 rfl (by omega) (by omega)
     have css1:=Cs.app gW Cs.empty (Cs.lit (l:=⟨#[34,97,92,120,52,49,92,110,34]⟩) 0 true (by decide))
     clear gW
     go_wp2_with fail
     go_roundg (go-1)
     case measure=>omega
     case rel=>exact⟨s1,r-1,rfl,by go_num,by omega,by omega,by omega,css1.up (by omega),gN,gc⟩
    ·have z0:(q == 0)=false:=by rw[beq_eq_false_iff_ne];omega
     have z1:(q == 1)=false:=by rw[beq_eq_false_iff_ne];omega
     have z2:(q == 2)=false:=by rw[beq_eq_false_iff_ne];omega
     have z3:(q == 3)=false:=by rw[beq_eq_false_iff_ne];omega
     obtain⟨s1,Hw,gy,gW⟩:=Qxa ByteArray.empty ⟨#[60]⟩ 1 rfl (by omega) (by omega)
     have css1:=Cs.cat gW Cs.empty (Cs.lit (l:=⟨#[60]⟩) 0 false (by decide)) (.inr (by decide))
     clear gW
     go_wp2_with fail
     refine(Qge B b 4 _ gN (by omega) (by omega)).mono ?_
     rintro e w3 ⟨k,rfl,k0,k1,G5,gD⟩
     obtain⟨k,rfl⟩:=Int.eq_ofNat_of_zero_le k0
     have GL:Qaa (· = b) w w3:=gc.trans gD (fun _ _ e=>e)
     clear Hw z0 z1 z2 z3 hq q0 q1
     go_wp2_with fail
     go_loopg [3,5] k (fun f x y wr=>QGr B b (s1.size+183) w f x y wr)
     case atStart=>exact⟨s1,k,rfl,rfl,by omega,by omega,by omega,css1.le (by omega),G5,GL⟩
     case round=>
      obtain⟨s2,k,rfl,rfl,JE,Hd,gB,css2,G6,Ku⟩:=hrel
      by_cases hk:0<k
      ·go_wp2_with fail
       refine(Qih B b _ G6).mono ?_
       rintro e w4 ⟨c,rfl,hc,csc,Mt,jz⟩
       obtain⟨c1,Mm,yu,ku⟩:=Qxa c ⟨#[32]⟩ 1 rfl (by omega) (by omega)
       have csc1:=Cs.cat ku csc (Cs.lit (l:=⟨#[32]⟩) 0 false (by decide)) (.inr (by decide))
       clear ku
       obtain⟨s3,lf,tE,mZ⟩:=QAa s2 c1 (by omega) (by omega)
       have css3:=Cs.app mZ css2 csc1
       clear mZ
       go_wp2_with fail
       go_roundg (gk-1)
       case measure=>omega
       case rel=>exact⟨s3,k-1,rfl,by go_num,by omega,by omega,by omega,css3.le (by omega),Mt,Ku.trans jz (fun _ _ e=>e)⟩
      ·obtain⟨s3,lf,tE,mZ⟩:=Qxa s2 ⟨#[62]⟩ 1 rfl (by omega) (by omega)
       have css3:=Cs.cat mZ css2 (Cs.lit (l:=⟨#[62]⟩) 0 false (by decide)) (.inr (by decide))
       clear mZ
       go_wp2_with fail
       go_roundg (go-1)
       case measure=>omega
       case rel=>exact⟨s3,r-1,rfl,by go_num,by omega,by omega,by omega,css3.up (by omega),G6,Ku⟩
   ·have Hn:=Qzc s (by omega)
    have Jr:=Qub s (by omega)
    obtain⟨s0,xQ,JZ,pA⟩:=Qxa s ⟨#[44,32]⟩ 2 rfl (by omega) (by omega)
    have css0:=Cs.cat pA css (Cs.lit (l:=⟨#[44,32]⟩) 0 false (by decide)) (.inr (by decide))
    clear pA
    go_wp2_with fail
    clear xQ Hn Jr
    refine(Qge B b 6 _ hT (by omega) (by omega)).mono ?_
    rintro e w2 ⟨q,rfl,q0,q1,gN,ga⟩
    have gc:Qaa (· = b) w w2:=hK.trans ga (fun _ _ e=>e)
    have ix:q=0∨q=1∨q=2∨q=3∨(4≤q):=by omega
    rcases ix with rfl|rfl|rfl|rfl|hq
    ·obtain⟨s1,Hw,gy,gW⟩:=Qxa s0 ⟨#[34,116,101,120,116,34]⟩ 6 rfl (by omega) (by omega)
     have css1:=Cs.app gW css0 (Cs.lit (l:=⟨#[34,116,101,120,116,34]⟩) 0 true (by decide))
     clear gW
     go_wp2_with fail
     go_roundg (go-1)
     case measure=>omega
     case rel=>exact⟨s1,r-1,rfl,by go_num,by omega,by omega,by omega,css1.up (by omega),gN,gc⟩
    ·obtain⟨s1,Hw,gy,gW⟩:=Qxa s0 ⟨#[91,32,48,32,49,55,32,50,53,53,32,93]⟩ 12 rfl (by omega) (by omega)
     have css1:=Cs.cat gW css0 (Cs.lit (l:=⟨#[91,32,48,32,49,55,32,50,53,53,32,93]⟩) 0 false (by decide)) (.inr (by decide))
     clear gW
     go_wp2_with fail
     go_roundg (go-1)
     case measure=>omega
     case rel=>exact⟨s1,r-1,rfl,by go_num,by omega,by omega,by omega,css1.up (by omega),gN,gc⟩
    ·go_wp2_with fail
     refine(QWc B b _ gN).mono ?_
     rintro e w3 ⟨lb,rfl,qF,cslb,G5,gD⟩
     obtain⟨l1,Hw,gy,mV⟩:=QAa ⟨#[38]⟩ lb (by decide) (by omega)
     have csl1:=Cs.app mV (Cs.lit (l:=⟨#[38]⟩) 0 false (by decide)) cslb
     clear mV
     have e1:(⟨#[38]⟩:ByteArray).size=1:=rfl
     obtain⟨s1,Mm,gB,gW⟩:=QAa s0 l1 (by omega) (by omega)
     have css1:=Cs.app gW css0 csl1
     clear gW
     go_wp2_with fail
     go_roundg (go-1)
     case measure=>omega
     case rel=>exact⟨s1,r-1,rfl,by go_num,by omega,by omega,by omega,css1.up (by omega),G5,gc.trans gD (fun _ _ e=>e)⟩
    ·obtain⟨s1,Hw,gy,gW⟩:=Qxa s0 ⟨#[34,97,92,120,52,49,92,110,34]⟩ 9 rfl (by omega) (by omega)
     have css1:=Cs.app gW css0 (Cs.lit (l:=⟨#[34,97,92,120,52,49,92,110,34]⟩) 0 true (by decide))
     clear gW
     go_wp2_with fail
     go_roundg (go-1)
     case measure=>omega
     case rel=>exact⟨s1,r-1,rfl,by go_num,by omega,by omega,by omega,css1.up (by omega),gN,gc⟩
    ·have z0:(q == 0)=false:=by rw[beq_eq_false_iff_ne];omega
     have z1:(q == 1)=false:=by rw[beq_eq_false_iff_ne];omega
     have z2:(q == 2)=false:=by rw[beq_eq_false_iff_ne];omega
     have z3:(q == 3)=false:=by rw[beq_eq_false_iff_ne];omega
     obtain⟨s1,Hw,gy,gW⟩:=Qxa s0 ⟨#[60]⟩ 1 rfl (by omega) (by omega)
     have css1:=Cs.cat gW css0 (Cs.lit (l:=⟨#[60]⟩) 0 false (by decide)) (.inr (by decide))
     clear gW
     go_wp2_with fail
     refine(Qge B b 4 _ gN (by omega) (by omega)).mono ?_
     rintro e w3 ⟨k,rfl,k0,k1,G5,gD⟩
     obtain⟨k,rfl⟩:=Int.eq_ofNat_of_zero_le k0
     have GL:Qaa (· = b) w w3:=gc.trans gD (fun _ _ e=>e)
     clear Hw z0 z1 z2 z3 hq q0 q1
     go_wp2_with fail
     go_loopg [3,5] k (fun f x y wr=>QGr B b (s1.size+183) w f x y wr)
     case atStart=>exact⟨s1,k,rfl,rfl,by omega,by omega,by omega,css1.le (by omega),G5,GL⟩
     case round=>
      obtain⟨s2,k,rfl,rfl,JE,Hd,gB,css2,G6,Ku⟩:=hrel
      by_cases hk:0<k
      ·go_wp2_with fail
       refine(Qih B b _ G6).mono ?_
       rintro e w4 ⟨c,rfl,hc,csc,Mt,jz⟩
       obtain⟨c1,Mm,yu,ku⟩:=Qxa c ⟨#[32]⟩ 1 rfl (by omega) (by omega)
       have csc1:=Cs.cat ku csc (Cs.lit (l:=⟨#[32]⟩) 0 false (by decide)) (.inr (by decide))
       clear ku
       obtain⟨s3,lf,tE,mZ⟩:=QAa s2 c1 (by omega) (by omega)
       have css3:=Cs.app mZ css2 csc1
       clear mZ
       go_wp2_with fail
       go_roundg (gk-1)
       case measure=>omega
       case rel=>exact⟨s3,k-1,rfl,by go_num,by omega,by omega,by omega,css3.le (by omega),Mt,Ku.trans jz (fun _ _ e=>e)⟩
      ·obtain⟨s3,lf,tE,mZ⟩:=Qxa s2 ⟨#[62]⟩ 1 rfl (by omega) (by omega)
       have css3:=Cs.cat mZ css2 (Cs.lit (l:=⟨#[62]⟩) 0 false (by decide)) (.inr (by decide))
       clear mZ
       go_wp2_with fail
       go_roundg (go-1)
       case measure=>omega
       case rel=>exact⟨s3,r-1,rfl,by go_num,by omega,by omega,by omega,css3.up (by omega),G6,Ku⟩
  ·go_wp2_with fail
   go_ret
   exact⟨s,rfl,by omega,css,hT,hK⟩
def QNr(B b k n:Nat)(w:World)(f:Nat)(x y:Value)(wr:World):Prop:=
 ∃(s:ByteArray) (r:Nat),x = .string s∧y = .int .i64 r∧r≤f∧r≤4∧s.size+k*r≤4*k∧(∃i,Cs s i false∧i+n*r≤4*n)∧Q3c B wr b∧Qaa (· = b) w wr
set_option maxRecDepth 100000 in
theorem Que(B b d k m n:Nat)(hn:1≤n∧(0<d→3≤n))(hd:d≤4)(hk:800≤k∧k≤10000000)(hm:m=4*k)(hrec:0<d→∀(w:World),Q3c B w b→
 Calls Tryz.prog 26 #[.pointer (some ⟨b,0,none⟩),.int .i64 ((d:Int)-1)] w (Qoq B b (k-800) (n-3) false w)) (w:World) (h:Q3c B w b) :
 Calls Tryz.prog 26 #[.pointer (some ⟨b,0,none⟩),.int .i64 d] w (Qoq B b m (4*n) false w):=by
 obtain⟨my,Ht⟩:=hk
 have HR:=Lib.hid hrec
 have HM:=Lib.hid hm
 clear hrec hm
 go_enter Tryz.func26,Tryz.ntmps26
 go_wp2_with fail
 refine(Qge B b 5 _ h (by omega) (by omega)).mono ?_
 rintro e w1 ⟨r,rfl,r0,r1,hT,hK⟩
 obtain⟨r,rfl⟩:=Int.eq_ofNat_of_zero_le r0
 go_wp2_with fail
 go_loopg [5,6] r (fun f x y wr=>QNr B b k n w f x y wr)
 case atStart=>exact⟨ByteArray.empty,r,rfl,rfl,by omega,by omega,by rw[show ByteArray.empty.size=0 from rfl,Nat.zero_add,Nat.mul_comm];exact Nat.mul_le_mul_right _ (by omega),⟨0,Cs.empty,by rw[Nat.zero_add,Nat.mul_comm];exact Nat.mul_le_mul_right _ (by omega)⟩,hT,hK⟩
 case round=>
  obtain⟨s,r,rfl,rfl,hf,m9,hs,⟨ci,css,vk⟩,hT,hK⟩:=hrel
  by_cases h0:0<r
  ·have oh:ci+n+n*(r-1)≤4*n:=by
    obtain⟨r',rfl⟩:∃r',r=r'+1:=⟨r-1,by omega⟩
    rw[Nat.mul_add,Nat.mul_one]at vk;rw[Nat.add_sub_cancel];omega
   have aw:=Lib.hid oh
   clear vk oh
   have hs':s.size+k+k*(r-1)≤4*k:=by
    obtain⟨r',rfl⟩:∃r',r=r'+1:=⟨r-1,by omega⟩
    rw[Nat.mul_add,Nat.mul_one]at hs;rw[Nat.add_sub_cancel];omega
   have gy:s.size≤40000000:=by omega
   have HS:=Lib.hid hs'
   clear hs hs'
   go_wp2_with fail
   refine(Qge B b 12 _ hT (by omega) (by omega)).mono ?_
   rintro e w2 ⟨q,rfl,q0,q1,gN,ga⟩
   have gc:Qaa (· = b) w w2:=hK.trans ga (fun _ _ e=>e)
   have ix:q<5∨q=5∨q=6∨q=7∨q=8∨(8<q):=by omega
   rcases ix with hq|rfl|rfl|rfl|rfl|hq
   ·go_wp2_with fail
    refine(QFe B b _ gN).mono ?_
    rintro e w3 ⟨p,rfl,hp,G5,gD⟩
    have csp:=Q3l p hp
    have GO:=QTh p hp
    obtain⟨c1,cV,dH,ku⟩:=Qxa p ⟨#[32,61,32]⟩ 3 rfl (by omega) (by omega)
    have csc1:=Cs.cat ku csp (Cs.lit (l:=⟨#[32,61,32]⟩) 0 false (by decide)) (.inr (by decide))
    clear ku
    go_wp2_with fail
    refine(QDj B b _ G5).mono ?_
    rintro e w4 ⟨v,rfl,hv,csv,G6,GL⟩
    obtain⟨c2,fK,iK,mU⟩:=QAa c1 v (by omega) (by omega)
    have csc2:=Cs.app mU csc1 csv
    clear mU
    obtain⟨c3,hac3,hzc3,pz⟩:=Qxa c2 ⟨#[59,32]⟩ 2 rfl (by omega) (by omega)
    have csc3:=Cs.cat pz csc2 (Cs.lit (l:=⟨#[59,32]⟩) 1 false (by decide)) (.inr (by decide))
    clear pz
    obtain⟨c4,jD,jK,GD⟩:=QAa s c3 (by omega) (by omega)
    have csc4:=Cs.app GD css csc3
    clear GD
    go_wp2_with fail
    go_roundg (gk-1)
    case measure=>omega
    case rel=>exact⟨c4,r-1,rfl,by go_num,by omega,by omega,by have:=HS.out;omega,⟨_,csc4,by have:=aw.out;have:=hn.1;have:=hn.2;omega⟩,G6,(gc.trans gD (fun _ _ e=>e)).trans GL (fun _ _ e=>e)⟩
   ·go_wp2_with fail
    refine(QFe B b _ gN).mono ?_
    rintro e w3 ⟨p,rfl,hp,G5,gD⟩
    have csp:=Q3l p hp
    have GO:=QTh p hp
    obtain⟨c1,cV,dH,ku⟩:=Qxa p ⟨#[59,32]⟩ 2 rfl (by omega) (by omega)
    have csc1:=Cs.cat ku csp (Cs.lit (l:=⟨#[59,32]⟩) 1 false (by decide)) (.inr (by decide))
    clear ku
    obtain⟨c4,jD,jK,GD⟩:=QAa s c1 (by omega) (by omega)
    have csc4:=Cs.app GD css csc1
    clear GD
    go_wp2_with fail
    go_roundg (gk-1)
    case measure=>omega
    case rel=>exact⟨c4,r-1,rfl,by go_num,by omega,by omega,by have:=HS.out;omega,⟨_,csc4,by have:=aw.out;have:=hn.1;have:=hn.2;omega⟩,G5,gc.trans gD (fun _ _ e=>e)⟩
   ·go_wp2_with fail
    refine(QFe B b _ gN).mono ?_
    rintro e w3 ⟨p,rfl,hp,G5,gD⟩
    have csp:=Q3l p hp
    have GO:=QTh p hp
    obtain⟨c1,cV,dH,ku⟩:=QAa ⟨#[47,100,101,108,101,116,101,45,112,114,111,112,101,114,116,121,47,32]⟩ p (by decide) (by omega)
    have csc1:=Cs.app ku (Cs.lit (l:=⟨#[47,100,101,108,101,116,101,45,112,114,111,112,101,114,116,121,47,32]⟩) 0 false (by decide)) csp
    clear ku
    have oU:(⟨#[47,100,101,108,101,116,101,45,112,114,111,112,101,114,116,121,47,32]⟩:ByteArray).size=18:=rfl
    obtain⟨c2,fK,iK,mU⟩:=Qxa c1 ⟨#[59,32]⟩ 2 rfl (by omega) (by omega)
    have csc2:=Cs.cat mU csc1 (Cs.lit (l:=⟨#[59,32]⟩) 1 false (by decide)) (.inr (by decide))
    clear mU
    obtain⟨c4,jD,jK,GD⟩:=QAa s c2 (by omega) (by omega)
    have csc4:=Cs.app GD css csc2
    clear GD
    go_wp2_with fail
    go_roundg (gk-1)
    case measure=>omega
    case rel=>exact⟨c4,r-1,rfl,by go_num,by omega,by omega,by have:=HS.out;omega,⟨_,csc4,by have:=aw.out;have:=hn.1;have:=hn.2;omega⟩,G5,gc.trans gD (fun _ _ e=>e)⟩
   ·go_wp2_with fail
    refine(Qvg B b _ gN).mono ?_
    rintro e w3 ⟨p,rfl,hp,G5,gD⟩
    have csp:=Qxi p hp
    have GO:=QXe p hp
    obtain⟨c1,cV,dH,ku⟩:=QAa ⟨#[47,100,101,108,101,116,101,45,110,111,100,101,47,32]⟩ p (by decide) (by omega)
    have csc1:=Cs.app ku (Cs.lit (l:=⟨#[47,100,101,108,101,116,101,45,110,111,100,101,47,32]⟩) 0 false (by decide)) csp
    clear ku
    have oU:(⟨#[47,100,101,108,101,116,101,45,110,111,100,101,47,32]⟩:ByteArray).size=14:=rfl
    obtain⟨c2,fK,iK,mU⟩:=Qxa c1 ⟨#[59,10]⟩ 2 rfl (by omega) (by omega)
    have csc2:=Cs.cat mU csc1 (Cs.lit (l:=⟨#[59,10]⟩) 1 false (by decide)) (.inr (by decide))
    clear mU
    obtain⟨c4,jD,jK,GD⟩:=QAa s c2 (by omega) (by omega)
    have csc4:=Cs.app GD css csc2
    clear GD
    go_wp2_with fail
    go_roundg (gk-1)
    case measure=>omega
    case rel=>exact⟨c4,r-1,rfl,by go_num,by omega,by omega,by have:=HS.out;omega,⟨_,csc4,by have:=aw.out;have:=hn.1;have:=hn.2;omega⟩,G5,gc.trans gD (fun _ _ e=>e)⟩
   ·go_wp2_with fail
    refine(Qge B b 3 _ gN (by omega) (by omega)).mono ?_
    rintro e w2b ⟨y,rfl,y0,y1,cU,fz⟩
    by_cases hy:y=0
    ·subst hy
     have ic:=cU.lt
     go_wp2_with fail
     refine(Qge B b 4 _ (cU.keeps ((Qaa.refl (fun _=>False) w2b).alloc _) (fun _ e=>e.elim)) (by omega) (by omega)).mono ?_
     rintro e w3 ⟨x,rfl,x0,x1,G5,gD⟩
     obtain⟨x,rfl⟩:=Int.eq_ofNat_of_zero_le x0
     have hH:=(Qca.new w2b (lPh.map Value.string).toArray 9).keeps gD (by omega)
     obtain⟨t,qJ,dE⟩:=QTb lPh x (by have:lPh.length=4:=rfl;omega)
     have hc:w3.cell? ⟨w2b.heap.size,x,none⟩=some (.string t):=(hH.cell x).trans (by simp[qJ])
     have GL:Qaa (fun i=>i=b) w w3:=((gc.trans fz (fun _ _ e=>e)).alloc _).trans gD (fun _ _ e=>e)
     have htz:=QLq t dE
     have cst:=QVr t dE
     obtain⟨c1,cV,dH,ku⟩:=QAa ⟨#[112,104,97,110,100,108,101,32,61,32,60]⟩ t (by decide) (by omega)
     have csc1:=Cs.app ku (Cs.lit (l:=⟨#[112,104,97,110,100,108,101,32,61,32,60]⟩) 0 false (by decide)) cst
     clear ku
     have oU:(⟨#[112,104,97,110,100,108,101,32,61,32,60]⟩:ByteArray).size=11:=rfl
     obtain⟨c2,fK,iK,mU⟩:=Qxa c1 ⟨#[62,59,32]⟩ 3 rfl (by omega) (by omega)
     have csc2:=Cs.cat mU csc1 (Cs.lit (l:=⟨#[62,59,32]⟩) 1 false (by decide)) (.inr (by decide))
     clear mU
     obtain⟨c4,jD,jK,GD⟩:=QAa s c2 (by omega) (by omega)
     have csc4:=Cs.app GD css csc2
     clear GD
     go_wp2_with fail
     go_roundg (gk-1)
     case measure=>omega
     case rel=>exact⟨c4,r-1,rfl,by go_num,by omega,by omega,by have:=HS.out;omega,⟨_,csc4,by have:=aw.out;have:=hn.1;have:=hn.2;omega⟩,G5,GL⟩
    ·have hy':(y == 0)=false:=by rw[beq_eq_false_iff_ne];exact hy
     by_cases lh:0<d
     ·have JT:(0:Int)<(d:Int):=by omega
      go_wp2_with fail
      refine(Qge B b 2 _ cU (by omega) (by omega)).mono ?_
      rintro e w3 ⟨z,rfl,z0,z1,G5,gD⟩
      have Ku:Qaa (· = b) w w3:=(gc.trans fz (fun _ _ e=>e)).trans gD (fun _ _ e=>e)
      have pT:z=0∨z=1:=by omega
      rcases pT with rfl|rfl
      ·go_wp2_with fail
       refine(QWc B b _ G5).mono ?_
       rintro e w4 ⟨lb,rfl,qF,cslb,G6,jz⟩
       obtain⟨l1,sK,tO,mV⟩:=Qxa lb ⟨#[58,32]⟩ 2 rfl (by omega) (by omega)
       have csl1:=Cs.cat mV cslb (Cs.lit (l:=⟨#[58,32]⟩) 0 false (by decide)) (.inr (by decide))
       clear mV
       obtain⟨s1,sL,tP,gW⟩:=QAa s l1 (by omega) (by omega)
       have css1:=Cs.app gW css csl1
       clear gW
       go_wp2_with fail
       refine(Qvg B b _ G6).mono ?_
       rintro e w5 ⟨nm,rfl,Ko,Mt,jA⟩
       have csnm:=Qxi nm Ko
       have GO:=QXe nm Ko
       obtain⟨n1,fL,iM,mW⟩:=Qxa nm ⟨#[32,123,10]⟩ 3 rfl (by omega) (by omega)
       have csn1:=Cs.cat mW csnm (Cs.lit (l:=⟨#[32,123,10]⟩) 1 false (by decide)) (.inr (by decide))
       clear mW
       go_wp2_with fail
       refine(HR.out lh _ Mt).mono ?_
       rintro e w6 ⟨mm,rfl,ij,csmm,a9,Ml⟩
       obtain⟨n2,fM,iN,mX⟩:=QAa n1 mm (by omega) (by omega)
       have csn2:=Cs.app mX csn1 csmm
       clear mX
       obtain⟨n3,fN,iO,mY⟩:=Qxa n2 ⟨#[125,59,10]⟩ 3 rfl (by omega) (by omega)
       have csn3:=Cs.cat mY csn2 (Cs.lit (l:=⟨#[125,59,10]⟩) 2 false (by decide)) (.inr (by decide))
       clear mY
       obtain⟨c4,jD,jK,GD⟩:=QAa s1 n3 (by omega) (by omega)
       have csc4:=Cs.app GD css1 csn3
       clear GD
       go_wp2_with fail
       go_roundg (gk-1)
       case measure=>omega
       case rel=>exact⟨c4,r-1,rfl,by go_num,by omega,by omega,by have:=HS.out;omega,⟨_,csc4,by have:=aw.out;have:=hn.1;have:=hn.2;omega⟩,a9,((Ku.trans jz (fun _ _ e=>e)).trans jA (fun _ _ e=>e)).trans Ml (fun _ _ e=>e)⟩
      ·go_wp2_with fail
       refine(Qvg B b _ G5).mono ?_
       rintro e w5 ⟨nm,rfl,Ko,Mt,jA⟩
       have csnm:=Qxi nm Ko
       have GO:=QXe nm Ko
       obtain⟨n1,fL,iM,mW⟩:=Qxa nm ⟨#[32,123,10]⟩ 3 rfl (by omega) (by omega)
       have csn1:=Cs.cat mW csnm (Cs.lit (l:=⟨#[32,123,10]⟩) 1 false (by decide)) (.inr (by decide))
       clear mW
       go_wp2_with fail
       refine(HR.out lh _ Mt).mono ?_
       rintro e w6 ⟨mm,rfl,ij,csmm,a9,Ml⟩
       obtain⟨n2,fM,iN,mX⟩:=QAa n1 mm (by omega) (by omega)
       have csn2:=Cs.app mX csn1 csmm
       clear mX
       obtain⟨n3,fN,iO,mY⟩:=Qxa n2 ⟨#[125,59,10]⟩ 3 rfl (by omega) (by omega)
       have csn3:=Cs.cat mY csn2 (Cs.lit (l:=⟨#[125,59,10]⟩) 2 false (by decide)) (.inr (by decide))
       clear mY
       obtain⟨c4,jD,jK,GD⟩:=QAa s n3 (by omega) (by omega)
       have csc4:=Cs.app GD css csn3
       clear GD
       go_wp2_with fail
       go_roundg (gk-1)
       case measure=>omega
       case rel=>exact⟨c4,r-1,rfl,by go_num,by omega,by omega,by have:=HS.out;omega,⟨_,csc4,by have:=aw.out;have:=hn.1;have:=hn.2;omega⟩,a9,(Ku.trans jA (fun _ _ e=>e)).trans Ml (fun _ _ e=>e)⟩
     ·have JT:d=0:=by omega
      subst JT
      go_wp2_with fail
      go_roundg (gk-1)
      case measure=>omega
      case rel=>exact⟨s,r-1,rfl,by go_num,by omega,by omega,by have:=HS.out;omega,⟨_,css,by have:=aw.out;have:=hn.1;have:=hn.2;omega⟩,cU,gc.trans fz (fun _ _ e=>e)⟩
   ·have z1:(q == 5)=false:=by rw[beq_eq_false_iff_ne];omega
    have z2:(q == 6)=false:=by rw[beq_eq_false_iff_ne];omega
    have z3:(q == 7)=false:=by rw[beq_eq_false_iff_ne];omega
    have z4:(q == 8)=false:=by rw[beq_eq_false_iff_ne];omega
    by_cases lh:0<d
    ·have JT:(0:Int)<(d:Int):=by omega
     go_wp2_with fail
     refine(Qge B b 2 _ gN (by omega) (by omega)).mono ?_
     rintro e w3 ⟨z,rfl,z0,z1,G5,gD⟩
     have Ku:Qaa (· = b) w w3:=(gc).trans gD (fun _ _ e=>e)
     have pT:z=0∨z=1:=by omega
     rcases pT with rfl|rfl
     ·go_wp2_with fail
      refine(QWc B b _ G5).mono ?_
      rintro e w4 ⟨lb,rfl,qF,cslb,G6,jz⟩
      obtain⟨l1,sK,tO,mV⟩:=Qxa lb ⟨#[58,32]⟩ 2 rfl (by omega) (by omega)
      have csl1:=Cs.cat mV cslb (Cs.lit (l:=⟨#[58,32]⟩) 0 false (by decide)) (.inr (by decide))
      clear mV
      obtain⟨s1,sL,tP,gW⟩:=QAa s l1 (by omega) (by omega)
      have css1:=Cs.app gW css csl1
      clear gW
      go_wp2_with fail
      refine(Qvg B b _ G6).mono ?_
      rintro e w5 ⟨nm,rfl,Ko,Mt,jA⟩
      have csnm:=Qxi nm Ko
      have GO:=QXe nm Ko
      obtain⟨n1,fL,iM,mW⟩:=Qxa nm ⟨#[32,123,10]⟩ 3 rfl (by omega) (by omega)
      have csn1:=Cs.cat mW csnm (Cs.lit (l:=⟨#[32,123,10]⟩) 1 false (by decide)) (.inr (by decide))
      clear mW
      go_wp2_with fail
      refine(HR.out lh _ Mt).mono ?_
      rintro e w6 ⟨mm,rfl,ij,csmm,a9,Ml⟩
      obtain⟨n2,fM,iN,mX⟩:=QAa n1 mm (by omega) (by omega)
      have csn2:=Cs.app mX csn1 csmm
      clear mX
      obtain⟨n3,fN,iO,mY⟩:=Qxa n2 ⟨#[125,59,10]⟩ 3 rfl (by omega) (by omega)
      have csn3:=Cs.cat mY csn2 (Cs.lit (l:=⟨#[125,59,10]⟩) 2 false (by decide)) (.inr (by decide))
      clear mY
      obtain⟨c4,jD,jK,GD⟩:=QAa s1 n3 (by omega) (by omega)
      have csc4:=Cs.app GD css1 csn3
      clear GD
      go_wp2_with fail
      go_roundg (gk-1)
      case measure=>omega
      case rel=>exact⟨c4,r-1,rfl,by go_num,by omega,by omega,by have:=HS.out;omega,⟨_,csc4,by have:=aw.out;have:=hn.1;have:=hn.2;omega⟩,a9,((Ku.trans jz (fun _ _ e=>e)).trans jA (fun _ _ e=>e)).trans Ml (fun _ _ e=>e)⟩
     ·go_wp2_with fail
      refine(Qvg B b _ G5).mono ?_
      rintro e w5 ⟨nm,rfl,Ko,Mt,jA⟩
      have csnm:=Qxi nm Ko
      have GO:=QXe nm Ko
      obtain⟨n1,fL,iM,mW⟩:=Qxa nm ⟨#[32,123,10]⟩ 3 rfl (by omega) (by omega)
      have csn1:=Cs.cat mW csnm (Cs.lit (l:=⟨#[32,123,10]⟩) 1 false (by decide)) (.inr (by decide))
      clear mW
      go_wp2_with fail
      refine(HR.out lh _ Mt).mono ?_
      rintro e w6 ⟨mm,rfl,ij,csmm,a9,Ml⟩
      obtain⟨n2,fM,iN,mX⟩:=QAa n1 mm (by omega) (by omega)
      have csn2:=Cs.app mX csn1 csmm
      clear mX
      obtain⟨n3,fN,iO,mY⟩:=Qxa n2 ⟨#[125,59,10]⟩ 3 rfl (by omega) (by omega)
      have csn3:=Cs.cat mY csn2 (Cs.lit (l:=⟨#[125,59,10]⟩) 2 false (by decide)) (.inr (by decide))
      clear mY
      obtain⟨c4,jD,jK,GD⟩:=QAa s n3 (by omega) (by omega)
      have csc4:=Cs.app GD css csn3
      clear GD
      go_wp2_with fail
      go_roundg (gk-1)
      case measure=>omega
      case rel=>exact⟨c4,r-1,rfl,by go_num,by omega,by omega,by have:=HS.out;omega,⟨_,csc4,by have:=aw.out;have:=hn.1;have:=hn.2;omega⟩,a9,(Ku.trans jA (fun _ _ e=>e)).trans Ml (fun _ _ e=>e)⟩
    ·have JT:d=0:=by omega
     subst JT
     go_wp2_with fail
     go_roundg (gk-1)
     case measure=>omega
     case rel=>exact⟨s,r-1,rfl,by go_num,by omega,by omega,by have:=HS.out;omega,⟨_,css,by have:=aw.out;have:=hn.1;have:=hn.2;omega⟩,gN,gc⟩
  ·have ly:r=0:=by omega
   subst ly
   have Hg:s.size≤m:=by rw[HM.out];omega
   have JS:ci≤4*n:=by omega
   go_wp2_with fail
   go_ret
   exact⟨s,rfl,Hg,css.le JS,hT,hK⟩
def Qur:Nat→Nat
 | 0=>4
 | k+1=>4*(Qur k+3)
theorem QOh(B b:Nat):∀(d:Nat),d≤4→∀(w:World),Q3c B w b→
 Calls Tryz.prog 26 #[.pointer (some ⟨b,0,none⟩),.int .i64 d] w (Qoq B b (QDp d) (Qur d) false w):=by
 intro d
 induction d with
 | zero=>intro _;exact Que B b 0 800 3200 1 ⟨by omega,fun h=>by omega⟩ (by omega) (by omega) (by omega) (fun h=>by omega)
 | succ d ih=>
  intro hd
  have hm:QDp d≤1000000:=by
   have hc:d=0∨d=1∨d=2∨d=3:=by omega
   rcases hc with rfl|rfl|rfl|rfl <;> simp[QDp]
  refine Que B b (d+1) (QDp d+800) (4*(QDp d+800)) (Qur d+3) ⟨by omega,fun _=>by omega⟩ (by omega) (by omega) (by omega) (fun _ w hT=>?_)
  have:=ih (by omega) w hT
  rw[show((d+1:Nat):Int)-1=(d:Int)from by omega]
  refine this.mono ?_
  rintro e w2 ⟨s,h1,h2,h3,h4⟩
  exact⟨s,h1,by omega,h3.le (by omega),h4⟩
end Go.Proofs.YtofhcgbihonckaaGreat
