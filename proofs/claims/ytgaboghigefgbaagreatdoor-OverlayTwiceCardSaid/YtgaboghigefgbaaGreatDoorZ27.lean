/- overlay: compare, clash, valid, Check. | overlay: clash, valid. | overlay: valid, and the closures of Check. | overlay: region 8 of Check (printed by govc.py). | overlay.Check. | overlay: region 1 of Apply (printed by govc.py). -/
import Derived.Test.YtgaboghigefgbaaGreatDoorZ26
import Derived.Deep.LoopGhost
import Derived.Deep.DeepCutAuto
import Derived.Deep.CutBlock
import Derived.Test.YtgaboghigefgbaaGreatDoorZ14
import Derived.Test.YtgaboghigefgbaaGreatDoorZ2
import Derived.IntWalk
import Derived.Test.YtgaboghigefgbaaGreatDoorZ25
set_option linter.all false
set_option maxHeartbeats 8000000
namespace Go.Proofs.YtgaboghigefgbaaGreatDoor
open Go.Lib (hid)
open Go.RowKit
def QGh(a b:Qja):Int:=if Qdc a.path b.path=0 then Qdc a.name b.name else Qdc a.path b.path
theorem QUf(a b:ByteArray):Qdc a b=0↔a=b:=by
 unfold Qdc
 cases h:ltS a b with
 | true=>
  simp only[if_true]
  constructor
  ·intro e;cases e
  ·intro e;subst e;rw[Q4a]at h;cases h
 | false=>
  simp only[Bool.false_eq_true,if_false]
  cases h2:eqS a b with
  | true=>simp[(Qxa a b).1 h2]
  | false=>
   simp only[Bool.false_eq_true,if_false]
   constructor
   ·intro e;cases e
   ·intro e;rw[(Qxa a b).2 e]at h2;cases h2
theorem QFm(a b:ByteArray):decide (0≤Qdc a b) = !ltS a b:=by
 unfold Qdc
 cases h:ltS a b with
 | true=>rfl
 | false=>cases h2:eqS a b <;> simp
theorem Q7o(a b:Qja):decide (0≤QGh a b) = !ltE a b:=by
 unfold QGh ltE
 by_cases h:Qdc a.path b.path=0
 ·have e:=(QUf _ _).1 h
  rw[if_pos h,QFm,e,Q4a,(Qxa _ _).2 rfl]
  simp
 ·rw[if_neg h,QFm]
  have e:eqS a.path b.path=false:=by
   cases h2:eqS a.path b.path with
   | false=>rfl
   | true=>exact absurd ((QUf _ _).2 ((Qxa _ _).1 h2)) h
  rw[e]
  simp
theorem QHh(a b:Qja):QGh a b=0↔a.path=b.path∧a.name=b.name:=by
 unfold QGh
 by_cases h:Qdc a.path b.path=0
 ·rw[if_pos h,QUf]
  exact⟨fun e=>⟨(QUf _ _).1 h,e⟩,fun e=>e.2⟩
 ·rw[if_neg h]
  exact⟨fun e=>absurd e h,fun e=>absurd ((QUf _ _).2 e.1) h⟩
theorem QRo:∀(l:List Qja),(∀i (h:i+1<l.length),ltE l[i] l[i+1]=true)→Q2j l=true
 | [],_=>rfl
 | [_],_=>rfl
 | a::b::r,h=>by
  rw[Q2j,Bool.and_eq_true]
  exact⟨h 0 (by simp),QRo (b::r) (fun i hi=>h (i+1) (by simpa using hi))⟩
theorem Qts{l:List Qja}{i:Nat}(h:i+1<l.length)(hn:ltE l[i] l[i+1]=false):Q2j l=false:=by
 cases e:Q2j l with
 | false=>rfl
 | true=>
  have:=List.pairwise_iff_getElem.1 (QJe l e) i (i+1) (by omega) h (by omega)
  rw[this]at hn
  cases hn
set_option maxRecDepth 100000 in
theorem Qre(a b:Qja)(w:World) :
 Calls Tryz.prog 53 #[.agg #[.int .i64 a.kind,.string a.path,.string a.name,.string a.value],.agg #[.int .i64 b.kind,.string b.path,.string b.name,.string b.value]] w fun e w'=>e = .returned (.int .i64 (QGh a b))∧Below w.heap.size w w':=by
 have HE:=hid (show QGh a b=(if Qdc a.path b.path=0 then Qdc a.name b.name else Qdc a.path b.path)from rfl)
 have GJ:=(Holds.new w #[.int .i64 a.kind,.string a.path,.string a.name,.string a.value] 39).alloc (.cells #[.int .i64 b.kind,.string b.path,.string b.name,.string b.value] 39)
 have ke:=Holds.newAt (w:=w.alloc (.cells #[.int .i64 a.kind,.string a.path,.string a.name,.string a.value] 39)) (B:=w.heap.size+1) (by simp) #[.int .i64 b.kind,.string b.path,.string b.name,.string b.value] 39
 have He:Below w.heap.size w ((w.alloc (.cells #[.int .i64 a.kind,.string a.path,.string a.name,.string a.value] 39)).alloc (.cells #[.int .i64 b.kind,.string b.path,.string b.name,.string b.value] 39)):=((Below.refl _ _).alloc (Nat.le_refl _) _).alloc (by simp) _
 go_enter Tryz.func53,Tryz.ntmps53
 go_upto_region 1 with fail
 refine wp_region_any (by kernel_rfl) ?_
 refine Q5a (ops':=Q6d) (by kernel_rfl) ?_
 refine QYn w.heap.size (w.heap.size+1) a b ((w.alloc (.cells #[.int .i64 a.kind,.string a.path,.string a.name,.string a.value] 39)).alloc (.cells #[.int .i64 b.kind,.string b.path,.string b.name,.string b.value] 39)) _ _ rfl rfl (by simp) ⟨GJ.drew,ke.drew⟩ ((Below.refl _ _).drew) ?_
 intro c w2 nB Ga h4 hb
 obtain⟨y4,y5,y6,y7,y8,y9,y10,y11,y12,y13,y14,y15,y16,rfl⟩:=Ga.ex [4,5,6,7,8,9,10,11,12,13,14,15,16] (by kernel_rfl)
 simp only[List.setIfInBounds_toArray,List.set_cons_zero,List.set_cons_succ]at h4 ⊢
 have h4':y4 = .int .i64 (QGh a b):=h4.trans (by rw[HE.out])
 obtain⟨ce,xS⟩:∃x,x=QGh a b:=⟨_,rfl⟩
 rw[←xS]at h4'
 have BU:=hid xS
 subst h4'
 clear h4 HE xS
 go_wp2_with fail
 go_ret
 exact⟨by rw[←BU.out];rfl,He.trans (hb.mono He.size)⟩
theorem Q1b(a:ByteArray):Qic a=a.toList.isEmpty:=by
 unfold Qic eqS
 rw[ByteArray.toList_eq ⟨#[]⟩]
 cases a.toList <;> rfl
theorem Q6m(a:ByteArray):QFi a=(a.toList == [47]):=by
 unfold QFi eqS
 rw[ByteArray.toList_eq ⟨#[47]⟩]
theorem Q6o{a b:Qja}(h:¬QGh a b=0):Qgb a b=false:=by
 have h2:=mt (QHh a b).2 h
 unfold Qgb
 cases e1:eqS a.path b.path with
 | false=>simp
 | true=>
  cases e2:eqS a.name b.name with
  | false=>simp
  | true=>exact absurd ⟨(Qxa _ _).1 e1,(Qxa _ _).1 e2⟩ h2
theorem Q5o(ak bk:Int)(ap an av bv:ByteArray):Qgb ⟨ak,ap,an,av⟩ ⟨bk,ap,an,bv⟩=(!Qic an && !decide (ak=bk∧av=bv)):=by
 unfold Qgb
 simp only[(Qxa ap ap).2 rfl,(Qxa an an).2 rfl,Bool.true_and,Qja.mk.injEq,true_and]
set_option maxRecDepth 100000 in
theorem QDi(ak bk:Int)(ap an av bv:ByteArray)(w:World) :
 Calls Tryz.prog 47 #[.agg #[.int .i64 ak,.string ap,.string an,.string av],.agg #[.int .i64 bk,.string ap,.string an,.string bv]] w fun e w'=>e = .returned (.bool (Qgb ⟨ak,ap,an,av⟩ ⟨bk,ap,an,bv⟩))∧Below w.heap.size w w':=by
 have GJ:=(Holds.new w #[.int .i64 ak,.string ap,.string an,.string av] 39).alloc (.cells #[.int .i64 bk,.string ap,.string an,.string bv] 39)
 have ke:=Holds.newAt (w:=w.alloc (.cells #[.int .i64 ak,.string ap,.string an,.string av] 39)) (B:=w.heap.size+1) (by simp) #[.int .i64 bk,.string ap,.string an,.string bv] 39
 have He:Below w.heap.size w ((w.alloc (.cells #[.int .i64 ak,.string ap,.string an,.string av] 39)).alloc (.cells #[.int .i64 bk,.string ap,.string an,.string bv] 39)):=((Below.refl _ _).alloc (Nat.le_refl _) _).alloc (by simp) _
 have hz:QGh ⟨ak,ap,an,av⟩ ⟨bk,ap,an,bv⟩=0:=(QHh _ _).2 ⟨rfl,rfl⟩
 have bH:=fun wx=>Qre ⟨ak,ap,an,av⟩ ⟨bk,ap,an,bv⟩ wx
 rw[hz]at bH
 have HC:=hid bH
 clear bH hz
 rw[Q5o]
 cases hn:an.toList.isEmpty with
 | true=>
  have HR:=hid (show(!Qic an && !decide (ak=bk∧av=bv))=false from by rw[Q1b,hn];rfl)
  generalize (!Qic an && !decide (ak=bk∧av=bv))=R at *
  go_enter Tryz.func47,Tryz.ntmps47
  go_wp2_with fail
  refine(by exact HC.out _:Calls _ _ _ _ _).mono ?_
  rintro e w1 ⟨rfl,Hb⟩
  have x0:=(GJ.keeps (Qaa.of_fresh Hb (fun _=>False)) (fun e=>e))
  have y0:=(ke.keeps (Qaa.of_fresh Hb (fun _=>False)) (fun e=>e))
  have HJ:=hid (He.trans (Hb.mono He.size))
  have c0:=x0.cell 0
  have c1:=x0.cell 1
  have c2:=x0.cell 2
  have c3:=x0.cell 3
  have cl:=x0.lt
  have d0:=y0.cell 0
  have d1:=y0.cell 1
  have d2:=y0.cell 2
  have d3:=y0.cell 3
  have dl:=y0.lt
  clear x0 y0 Hb He GJ ke
  go_wp2_with fail
  go_ret
  exact⟨by rw[HR.out];rfl,HJ.out⟩
 | false=>
  have Hm:Qic an=false:=by rw[Q1b,hn]
  by_cases hk:ak=bk
  ·subst hk
   cases hv:(av.toList == bv.toList)with
   | true=>
    have HR:=hid (show(!Qic an && !decide (ak=ak∧av=bv))=false from by rw[Hm,decide_eq_true ⟨rfl,(Qxa _ _).1 hv⟩];rfl)
    generalize (!Qic an && !decide (ak=ak∧av=bv))=R at *
    clear Hm
    go_enter Tryz.func47,Tryz.ntmps47
    go_wp2_with fail
    refine(by exact HC.out _:Calls _ _ _ _ _).mono ?_
    rintro e w1 ⟨rfl,Hb⟩
    have x0:=(GJ.keeps (Qaa.of_fresh Hb (fun _=>False)) (fun e=>e))
    have y0:=(ke.keeps (Qaa.of_fresh Hb (fun _=>False)) (fun e=>e))
    have HJ:=hid (He.trans (Hb.mono He.size))
    have c0:=x0.cell 0
    have c1:=x0.cell 1
    have c2:=x0.cell 2
    have c3:=x0.cell 3
    have cl:=x0.lt
    have d0:=y0.cell 0
    have d1:=y0.cell 1
    have d2:=y0.cell 2
    have d3:=y0.cell 3
    have dl:=y0.lt
    clear x0 y0 Hb He GJ ke
    go_wp2_with fail
    go_ret
    exact⟨by rw[HR.out];rfl,HJ.out⟩
   | false=>
    have HR:=hid (show(!Qic an && !decide (ak=ak∧av=bv))=true from by rw[Hm,decide_eq_false (fun h=>by have h5:=(Qxa av bv).2 h.2;unfold eqS at h5;rw[h5]at hv;cases hv)];rfl)
    generalize (!Qic an && !decide (ak=ak∧av=bv))=R at *
    clear Hm
    go_enter Tryz.func47,Tryz.ntmps47
    go_wp2_with fail
    refine(by exact HC.out _:Calls _ _ _ _ _).mono ?_
    rintro e w1 ⟨rfl,Hb⟩
    have x0:=(GJ.keeps (Qaa.of_fresh Hb (fun _=>False)) (fun e=>e))
    have y0:=(ke.keeps (Qaa.of_fresh Hb (fun _=>False)) (fun e=>e))
    have HJ:=hid (He.trans (Hb.mono He.size))
    have c0:=x0.cell 0
    have c1:=x0.cell 1
    have c2:=x0.cell 2
    have c3:=x0.cell 3
    have cl:=x0.lt
    have d0:=y0.cell 0
    have d1:=y0.cell 1
    have d2:=y0.cell 2
    have d3:=y0.cell 3
    have dl:=y0.lt
    clear x0 y0 Hb He GJ ke
    go_wp2_with fail
    go_ret
    exact⟨by rw[HR.out];rfl,HJ.out⟩
  ·have eS:(ak == bk)=false:=by simpa using hk
   have HR:=hid (show(!Qic an && !decide (ak=bk∧av=bv))=true from by rw[Hm,decide_eq_false (fun h=>hk h.1)];rfl)
   generalize (!Qic an && !decide (ak=bk∧av=bv))=R at *
   clear Hm hk
   go_enter Tryz.func47,Tryz.ntmps47
   go_wp2_with fail
   refine(by exact HC.out _:Calls _ _ _ _ _).mono ?_
   rintro e w1 ⟨rfl,Hb⟩
   have x0:=(GJ.keeps (Qaa.of_fresh Hb (fun _=>False)) (fun e=>e))
   have y0:=(ke.keeps (Qaa.of_fresh Hb (fun _=>False)) (fun e=>e))
   have HJ:=hid (He.trans (Hb.mono He.size))
   have c0:=x0.cell 0
   have c1:=x0.cell 1
   have c2:=x0.cell 2
   have c3:=x0.cell 3
   have cl:=x0.lt
   have d0:=y0.cell 0
   have d1:=y0.cell 1
   have d2:=y0.cell 2
   have d3:=y0.cell 3
   have dl:=y0.lt
   clear x0 y0 Hb He GJ ke
   go_wp2_with fail
   go_ret
   exact⟨by rw[HR.out];rfl,HJ.out⟩
set_option maxRecDepth 100000 in
theorem QJk(a b:Qja)(w:World) :
 Calls Tryz.prog 47 #[.agg #[.int .i64 a.kind,.string a.path,.string a.name,.string a.value],.agg #[.int .i64 b.kind,.string b.path,.string b.name,.string b.value]] w fun e w'=>e = .returned (.bool (Qgb a b))∧Below w.heap.size w w':=by
 by_cases h0:QGh a b=0
 ·obtain⟨ep,en⟩:=(QHh a b).1 h0
  obtain⟨ak,ap,an,av⟩:=a
  obtain⟨bk,bp,bn,bv⟩:=b
  simp only at ep en
  subst ep
  subst en
  exact QDi ak bk ap an av bv w
 ·have HR:=hid (Q6o h0)
  have CA:(QGh a b == 0)=false:=by simpa using h0
  have HC:=hid (fun wx=>Qre a b wx)
  generalize QGh a b=cz at *
  generalize Qgb a b=R at *
  have He:Below w.heap.size w ((w.alloc (.cells #[.int .i64 a.kind,.string a.path,.string a.name,.string a.value] 39)).alloc (.cells #[.int .i64 b.kind,.string b.path,.string b.name,.string b.value] 39)):=((Below.refl _ _).alloc (Nat.le_refl _) _).alloc (by simp) _
  clear h0
  go_enter Tryz.func47,Tryz.ntmps47
  go_wp2_with fail
  refine(by exact HC.out _:Calls _ _ _ _ _).mono ?_
  rintro e w1 ⟨rfl,Hb⟩
  go_wp2_with fail
  go_ret
  exact⟨by rw[HR.out];rfl,He.trans (Hb.mono He.size)⟩
set_option maxRecDepth 100000 in
theorem QVp(k:Int)(p n u:ByteArray)(w:World)(hs:p.size<4294967281)(KQ:n.size≤9223372036854775807)(lay:Qog w) :
 Calls Tryz.prog 52 #[.agg #[.int .i64 k,.string p,.string n,.string u]] w fun e w'=>e = .returned (.bool (Qnc ⟨k,p,n,u⟩))∧Below w.heap.size w w':=by
 have GJ:=Holds.new w #[.int .i64 k,.string p,.string n,.string u] 39
 have He:Below w.heap.size w (w.alloc (.cells #[.int .i64 k,.string p,.string n,.string u] 39)):=(Below.refl _ _).alloc (Nat.le_refl _) _
 have sX:=lay.keeps (Qaa.of_fresh He (fun _=>False)) (fun e=>e)
 have HP:=hid (Qzr p (w.alloc (.cells #[.int .i64 k,.string p,.string n,.string u] 39)) hs sX)
 have HQ:=hid (fun wx=>QGc n wx KQ)
 have hV:Qnc ⟨k,p,n,u⟩=if QPe p=false∨256<u.size then false else if k=1 then Qic n && Qic u && !QFi p else if k=2∨(k=3∧Qic u=true)then Q6a n else false:=rfl
 generalize Qnc ⟨k,p,n,u⟩=V at *
 clear sX lay hs KQ
 cases hp:QPe p with
 | false=>
  rw[if_pos (.inl hp)]at hV
  have HR:=hid hV
  rw[hp]at HP
  clear hp hV
  go_enter Tryz.func52,Tryz.ntmps52
  go_wp2_with fail
  refine(by exact HP.out:Calls _ _ _ _ _).mono ?_
  rintro e w1 ⟨rfl,Hb⟩
  go_wp2_with fail
  go_ret
  exact⟨by rw[HR.out];rfl,He.trans (Hb.mono He.size)⟩
 | true=>
  by_cases hu:256<u.size
  ·rw[if_pos (.inr hu)]at hV
   have HR:=hid hV
   rw[hp]at HP
   have zB:(256:Int)<(u.size:Int):=by omega
   clear hp hV hu
   go_enter Tryz.func52,Tryz.ntmps52
   go_wp2_with fail
   refine(by exact HP.out:Calls _ _ _ _ _).mono ?_
   rintro e w1 ⟨rfl,Hb⟩
   have x0:=(GJ.keeps (Qaa.of_fresh Hb (fun _=>False)) (fun e=>e))
   have HJ:=hid (He.trans (Hb.mono He.size))
   have c0:=x0.cell 0
   have c1:=x0.cell 1
   have c2:=x0.cell 2
   have c3:=x0.cell 3
   have cl:=x0.lt
   clear x0 Hb He GJ
   go_wp2_with fail
   go_ret
   exact⟨by rw[HR.out];rfl,HJ.out⟩
  ·rw[if_neg (fun h=>h.elim (fun h=>by rw[hp]at h;cases h) hu)]at hV
   rw[hp]at HP
   have zB:¬(256:Int)<(u.size:Int):=by omega
   clear hp hu
   by_cases k1:k=1
   ·subst k1
    rw[if_pos rfl]at hV
    cases h1:n.toList.isEmpty with
    | false=>
     have HR:=hid (hV.trans (by rw[(Q1b n).trans h1]))
     clear hV
     go_enter Tryz.func52,Tryz.ntmps52
     go_wp2_with fail
     refine(by exact HP.out:Calls _ _ _ _ _).mono ?_
     rintro e w1 ⟨rfl,Hb⟩
     have x0:=(GJ.keeps (Qaa.of_fresh Hb (fun _=>False)) (fun e=>e))
     have HJ:=hid (He.trans (Hb.mono He.size))
     have c0:=x0.cell 0
     have c1:=x0.cell 1
     have c2:=x0.cell 2
     have c3:=x0.cell 3
     have cl:=x0.lt
     clear x0 Hb He GJ
     go_wp2_with fail
     go_ret
     exact⟨by rw[HR.out];rfl,HJ.out⟩
    | true=>
     cases h2:u.toList.isEmpty with
     | false=>
      have HR:=hid (hV.trans (by rw[(Q1b n).trans h1,(Q1b u).trans h2]))
      clear hV
      go_enter Tryz.func52,Tryz.ntmps52
      go_wp2_with fail
      refine(by exact HP.out:Calls _ _ _ _ _).mono ?_
      rintro e w1 ⟨rfl,Hb⟩
      have x0:=(GJ.keeps (Qaa.of_fresh Hb (fun _=>False)) (fun e=>e))
      have HJ:=hid (He.trans (Hb.mono He.size))
      have c0:=x0.cell 0
      have c1:=x0.cell 1
      have c2:=x0.cell 2
      have c3:=x0.cell 3
      have cl:=x0.lt
      clear x0 Hb He GJ
      go_wp2_with fail
      go_ret
      exact⟨by rw[HR.out];rfl,HJ.out⟩
     | true=>
      cases h3:(p.toList == [47])with
      | false=>
       have HR:=hid (hV.trans (by rw[(Q1b n).trans h1,(Q1b u).trans h2,(Q6m p).trans h3]))
       clear hV
       go_enter Tryz.func52,Tryz.ntmps52
       go_wp2_with fail
       refine(by exact HP.out:Calls _ _ _ _ _).mono ?_
       rintro e w1 ⟨rfl,Hb⟩
       have x0:=(GJ.keeps (Qaa.of_fresh Hb (fun _=>False)) (fun e=>e))
       have HJ:=hid (He.trans (Hb.mono He.size))
       have c0:=x0.cell 0
       have c1:=x0.cell 1
       have c2:=x0.cell 2
       have c3:=x0.cell 3
       have cl:=x0.lt
       clear x0 Hb He GJ
       go_wp2_with fail
       go_ret
       exact⟨by rw[HR.out];rfl,HJ.out⟩
      | true=>
       have HR:=hid (hV.trans (by rw[(Q1b n).trans h1,(Q1b u).trans h2,(Q6m p).trans h3]))
       clear hV
       go_enter Tryz.func52,Tryz.ntmps52
       go_wp2_with fail
       refine(by exact HP.out:Calls _ _ _ _ _).mono ?_
       rintro e w1 ⟨rfl,Hb⟩
       have x0:=(GJ.keeps (Qaa.of_fresh Hb (fun _=>False)) (fun e=>e))
       have HJ:=hid (He.trans (Hb.mono He.size))
       have c0:=x0.cell 0
       have c1:=x0.cell 1
       have c2:=x0.cell 2
       have c3:=x0.cell 3
       have cl:=x0.lt
       clear x0 Hb He GJ
       go_wp2_with fail
       go_ret
       exact⟨by rw[HR.out];rfl,HJ.out⟩
   ·rw[if_neg k1]at hV
    have kb1:(k == 1)=false:=by simpa using k1
    by_cases k2:k=2
    ·subst k2
     rw[if_pos (.inl rfl)]at hV
     have HR:=hid hV
     generalize Q6a n=R at *
     clear hV k1
     go_enter Tryz.func52,Tryz.ntmps52
     go_wp2_with fail
     refine(by exact HP.out:Calls _ _ _ _ _).mono ?_
     rintro e w1 ⟨rfl,Hb⟩
     have x0:=(GJ.keeps (Qaa.of_fresh Hb (fun _=>False)) (fun e=>e))
     have HJ:=hid (He.trans (Hb.mono He.size))
     have c0:=x0.cell 0
     have c1:=x0.cell 1
     have c2:=x0.cell 2
     have c3:=x0.cell 3
     have cl:=x0.lt
     clear x0 Hb He GJ
     go_wp2_with fail
     refine(by exact HQ.out _:Calls _ _ _ _ _).mono ?_
     rintro e w2 ⟨rfl,rfl⟩
     go_wp2_with fail
     go_ret
     exact⟨by rw[HR.out];rfl,HJ.out⟩
    ·have kb2:(k == 2)=false:=by simpa using k2
     by_cases k3:k=3
     ·subst k3
      cases h2:u.toList.isEmpty with
      | true=>
       rw[if_pos (.inr ⟨rfl,(Q1b u).trans h2⟩)]at hV
       have HR:=hid hV
       generalize Q6a n=R at *
       clear hV k1 k2
       go_enter Tryz.func52,Tryz.ntmps52
       go_wp2_with fail
       refine(by exact HP.out:Calls _ _ _ _ _).mono ?_
       rintro e w1 ⟨rfl,Hb⟩
       have x0:=(GJ.keeps (Qaa.of_fresh Hb (fun _=>False)) (fun e=>e))
       have HJ:=hid (He.trans (Hb.mono He.size))
       have c0:=x0.cell 0
       have c1:=x0.cell 1
       have c2:=x0.cell 2
       have c3:=x0.cell 3
       have cl:=x0.lt
       clear x0 Hb He GJ
       go_wp2_with fail
       refine(by exact HQ.out _:Calls _ _ _ _ _).mono ?_
       rintro e w2 ⟨rfl,rfl⟩
       go_wp2_with fail
       go_ret
       exact⟨by rw[HR.out];rfl,HJ.out⟩
      | false=>
       rw[if_neg (fun h=>h.elim k2 (fun h=>by have h5:=h.2;rw[(Q1b u).trans h2]at h5;cases h5))]at hV
       have HR:=hid hV
       clear hV k1 k2
       go_enter Tryz.func52,Tryz.ntmps52
       go_wp2_with fail
       refine(by exact HP.out:Calls _ _ _ _ _).mono ?_
       rintro e w1 ⟨rfl,Hb⟩
       have x0:=(GJ.keeps (Qaa.of_fresh Hb (fun _=>False)) (fun e=>e))
       have HJ:=hid (He.trans (Hb.mono He.size))
       have c0:=x0.cell 0
       have c1:=x0.cell 1
       have c2:=x0.cell 2
       have c3:=x0.cell 3
       have cl:=x0.lt
       clear x0 Hb He GJ
       go_wp2_with fail
       go_ret
       exact⟨by rw[HR.out];rfl,HJ.out⟩
     ·have kb3:(k == 3)=false:=by simpa using k3
      rw[if_neg (fun h=>h.elim k2 (fun h=>k3 h.1))]at hV
      have HR:=hid hV
      clear hV k1 k2 k3
      go_enter Tryz.func52,Tryz.ntmps52
      go_wp2_with fail
      refine(by exact HP.out:Calls _ _ _ _ _).mono ?_
      rintro e w1 ⟨rfl,Hb⟩
      have x0:=(GJ.keeps (Qaa.of_fresh Hb (fun _=>False)) (fun e=>e))
      have HJ:=hid (He.trans (Hb.mono He.size))
      have c0:=x0.cell 0
      have c1:=x0.cell 1
      have c2:=x0.cell 2
      have c3:=x0.cell 3
      have cl:=x0.lt
      clear x0 Hb He GJ
      go_wp2_with fail
      go_ret
      exact⟨by rw[HR.out];rfl,HJ.out⟩
theorem Q3o(x:Qja)(w:World) :
 Calls Tryz.prog 49 #[.agg #[.int .i64 x.kind,.string x.path,.string x.name,.string x.value]] w fun e w'=>e = .returned (.bool (decide (256<x.value.size)))∧Below w.heap.size w w':=by
 have He:Below w.heap.size w (w.alloc (.cells #[.int .i64 x.kind,.string x.path,.string x.name,.string x.value] 39)):=(Below.refl _ _).alloc (Nat.le_refl _) _
 by_cases hu:256<x.value.size
 ·have zB:(256:Int)<(x.value.size:Int):=by omega
  have HR:=hid (show decide (256<x.value.size)=true from decide_eq_true hu)
  generalize decide (256<x.value.size)=R at *
  clear hu
  go_enter Tryz.func49,Tryz.ntmps49
  go_wp2_with fail
  go_ret
  exact⟨by rw[HR.out];rfl,He⟩
 ·have zB:¬(256:Int)<(x.value.size:Int):=by omega
  have HR:=hid (show decide (256<x.value.size)=false from decide_eq_false hu)
  generalize decide (256<x.value.size)=R at *
  clear hu
  go_enter Tryz.func49,Tryz.ntmps49
  go_wp2_with fail
  go_ret
  exact⟨by rw[HR.out];rfl,He⟩
theorem Q2o(x:Qja)(w:World)(hs:x.path.size<4294967281)(KQ:x.name.size≤9223372036854775807)(lay:Qog w) :
 Calls Tryz.prog 51 #[.agg #[.int .i64 x.kind,.string x.path,.string x.name,.string x.value]] w fun e w'=>e = .returned (.bool (!Qnc x))∧Below w.heap.size w w':=by
 have HV:=hid (fun wx hl=>QVp x.kind x.path x.name x.value wx hs KQ hl)
 have hE:Qnc ⟨x.kind,x.path,x.name,x.value⟩=Qnc x:=rfl
 rw[hE]at HV
 generalize Qnc x=V at *
 clear hE
 have He:Below w.heap.size w (w.alloc (.cells #[.int .i64 x.kind,.string x.path,.string x.name,.string x.value] 39)):=(Below.refl _ _).alloc (Nat.le_refl _) _
 go_enter Tryz.func51,Tryz.ntmps51
 go_wp2_with fail
 refine(by exact HV.out _ (lay.keeps (Qaa.of_fresh He (fun _=>False)) (fun e=>e)):Calls _ _ _ _ _).mono ?_
 rintro e w1 ⟨rfl,Hb⟩
 go_wp2_with fail
 go_ret
 exact⟨rfl,He.trans (Hb.mono He.size)⟩
theorem Qgk:∀args w,(callFunc 49 args).run Tryz.prog w = .ok (.enter 49 args) w:=enters_of Tryz.func49 (by kernel_rfl) rfl
theorem Qfk:∀args w,(callFunc 51 args).run Tryz.prog w = .ok (.enter 51 args) w:=enters_of Tryz.func51 (by kernel_rfl) rfl
noncomputable def QKf:Array Oper:=(QXa (Tryz.f20.body.getD .skip) 8).getD #[]
theorem okR:Qjc .any QKf=true:=by kernel_rfl
theorem Q3n:Qbc QKf=true:=by kernel_rfl
theorem Qyu:QKf.size=13:=by kernel_rfl
def OkF(ob g o k k1 cap n:Nat)(a b:Qja)(_:ByteArray)(j:Nat):Value→World→Prop:=match j with
 | 0=>fun u _=>u = .pointer (some ⟨ob,1,none⟩)
 | 1=>fun u _=>u = .slice (some ⟨g,o,none⟩) n cap
 | 2=>fun u _=>u = .int .i64 (k1:Int)
 | 3=>fun u _=>u = .int .i64 (k:Int)
 | 4=>fun u _=>u = .pointer (some ⟨g,o+k*4,none⟩)
 | 5=>fun u _=>u = .agg #[.int .i64 a.kind,.string a.path,.string a.name,.string a.value]
 | 6=>fun u _=>u = .pointer (some ⟨ob,1,none⟩)
 | 7=>fun u _=>u = .slice (some ⟨g,o,none⟩) n cap
 | 8=>fun u _=>u = .int .i64 (k1:Int)
 | 9=>fun u _=>u = .pointer (some ⟨g,o+k1*4,none⟩)
 | 10=>fun u _=>u = .agg #[.int .i64 b.kind,.string b.path,.string b.name,.string b.value]
 | 11=>fun u _=>u = .int .i64 (QGh a b)
 | 12=>fun u _=>u = .bool (decide (0≤QGh a b))
 | _=>fun _ _=>True
def OkC(ob g o k k1 cap n:Nat)(a b:Qja)(nm:ByteArray)(_ w:World):Prop:=Holds w ob #[.string nm,.slice (some ⟨g,o,none⟩) n cap] 31∧QRf w g (o+k*4) a∧QRf w g (o+k1*4) b
def OkE(_ _ _ _ _ _ _:Nat)(_ _:Qja)(_:ByteArray)(W w:World)(l:Array Bool):Prop:=
 if l.getD 11 false=false then(Below W.heap.size W w)else
 Below W.heap.size W w
section
variable{ob g o k k1 cap n:Nat}{a b:Qja}{nm:ByteArray}{W w:World}{l:Array Bool}
theorem OkE.other{j:Nat}(h:OkE ob g o k k1 cap n a b nm W w l)(n0:j≠11):OkE ob g o k k1 cap n a b nm W w (l.setIfInBounds j true):=by
 unfold OkE at h ⊢
 rw[Qdb n0]
 exact h
theorem OkE.at0(h:OkE ob g o k k1 cap n a b nm W w l)(no:l.getD 11 false=false):Below W.heap.size W w:=by
 unfold OkE at h
 rw[no,if_pos rfl]at h
 exact h
theorem OkE.to0(hs:11<l.size)(h:Below W.heap.size W w):OkE ob g o k k1 cap n a b nm W w (l.setIfInBounds 11 true):=by
 unfold OkE
 rw[Q9b hs,if_neg (by simp)]
 exact h
theorem OkF.world{j:Nat}{u:Value}{w':World}(h:OkF ob g o k k1 cap n a b nm j u w):OkF ob g o k k1 cap n a b nm j u w':=by
 unfold OkF at *
 split at h
 all_goals exact h
end
set_option maxRecDepth 100000 in
theorem Q4n{Q:Exit→Act→World→Prop}(ob g o k k1 cap n:Nat)(a b:Qja)(nm:ByteArray)(W w:World)(A:Act)(hsz:A.tmps.size=42)(sJ:k1<n)(gz:Hid (k1=k+1))(hnc:n≤1000)
 (a1:A.tmps.getD 1 undef = .pointer (some ⟨ob,0,none⟩)) (a3:A.tmps.getD 3 undef = .int .i64 (k1:Int)) (hC0:OkC ob g o k k1 cap n a b nm W w) (hE0:Below W.heap.size W w)
 (hQ:∀c w' ,Qrb QKf A c→c.tmps.getD 41 undef = .bool (decide (0≤QGh a b))→(Below W.heap.size W w')→Q .normal c w') :
 wpAny Tryz.prog .any QKf Q QKf.size (Array.replicate QKf.size false) A w:=by
 refine QVa (fun l c wx=>QAb QKf A (OkF ob g o k k1 cap n a b nm ) (fun _=>True) l c wx∧(l.getD 11 false=false→OkC ob g o k k1 cap n a b nm W wx)∧OkE ob g o k k1 cap n a b nm W wx l) okR ?hend ?Hk _ _ _ _ (by simp) (by simp) ⟨QAb.start trivial,fun _=>hC0,by unfold OkE;rw[if_pos (QXk _ _)];exact hE0⟩
 case hend=>
  rintro l c wx ⟨hI,hC,hE⟩ hl
  have hh:∀k,k<13→l.getD k false=true:=fun k hk=>hl k (by rw[Qyu];exact hk)
  have lL:Below W.heap.size W wx:=by
   unfold OkE at hE
   rw[hh 11 (by decide),if_neg (by simp)]at hE
   exact hE
  exact hQ c wx hI.1.1 (hI.fact 12 41 rfl (hh 12 (by decide))) lL
 intro l c wx mw i' op ho hl Ha K' hK'
 obtain⟨hI,hC,hE⟩:=mw
 have mg:l.size=13:=by rw[hI.1.2.2.1.1,Qyu]
 have hi':i'<13:=by rw[←Qyu];exact(Array.getElem?_eq_some_iff.1 ho).1
 have Hf:=ho
 simp only[QKf,QXa,Tryz.f20,Option.getD_some,reduceIte,Nat.reduceEqDiff]at ho
 have s1:=(hI.slot 1 (by kernel_rfl)).trans a1
 have s3:=(hI.slot 3 (by kernel_rfl)).trans a3
 have fs:=And.intro True.intro True.intro
 simp only[Array.getD_eq_getD_getElem?]at s1 s3
 have GV:i'=0∨i'=1∨i'=2∨i'=3∨i'=4∨i'=5∨i'=6∨i'=7∨i'=8∨i'=9∨i'=10∨i'=11∨i'=12:=by omega
 clear hi'
 rcases GV with rfl|rfl|rfl|rfl|rfl|rfl|rfl|rfl|rfl|rfl|rfl|rfl|rfl
 all_goals cases ho
 ·go_simp
  exact hK' _ _ ⟨hI.step Q3n 0 29 rfl (by rw[hsz];decide) _ _ Hf Ha trivial (fun _ _ h=>h) rfl,(fun h=>hC (Qia h)),hE.other (by decide)⟩
 ·have e0:c.tmps.getD 29 undef = .pointer (some ⟨ob,1,none⟩):=hI.fact 0 29 rfl (hI.1.2.2.1.2.yes_far 13 Hf Ha (by decide) (by kernel_rfl))
  have f0:=e0
  simp only[Array.getD_eq_getD_getElem?]at e0
  have hc:=hC (hI.1.2.2.1.2.no_far 13 hl (by kernel_rfl:QZd QKf 13 11 1=true))
  have x0:=hc.1.cell 1
  have xl:=hc.1.lt
  go_simp
  exact hK' _ _ ⟨hI.step Q3n 1 30 rfl (by rw[hsz];decide) _ _ Hf Ha trivial (fun _ _ h=>h) rfl,(fun h=>hC (Qia h)),hE.other (by decide)⟩
 ·go_simp
  exact hK' _ _ ⟨hI.step Q3n 2 31 rfl (by rw[hsz];decide) _ _ Hf Ha trivial (fun _ _ h=>h) rfl,(fun h=>hC (Qia h)),hE.other (by decide)⟩
 ·have e2:c.tmps.getD 31 undef = .int .i64 (k1:Int):=hI.fact 2 31 rfl (hI.1.2.2.1.2.yes_far 13 Hf Ha (by decide) (by kernel_rfl))
  have f2:=e2
  simp only[Array.getD_eq_getD_getElem?]at e2
  have hw:IntKind.i64.wrap ((k1:Int)-1)=(k:Int):=by rw[IntWalk.i64_in _ (by have:=gz.out;omega)];have:=gz.out;omega
  go_simp
  exact hK' _ _ ⟨hI.step Q3n 3 32 rfl (by rw[hsz];decide) _ _ Hf Ha trivial (fun _ _ h=>h) rfl,(fun h=>hC (Qia h)),hE.other (by decide)⟩
 ·have e1:c.tmps.getD 30 undef = .slice (some ⟨g,o,none⟩) n cap:=hI.fact 1 30 rfl (hI.1.2.2.1.2.yes_far 13 Hf Ha (by decide) (by kernel_rfl))
  have f1:=e1
  simp only[Array.getD_eq_getD_getElem?]at e1
  have e3:c.tmps.getD 32 undef = .int .i64 (k:Int):=hI.fact 3 32 rfl (hI.1.2.2.1.2.yes_far 13 Hf Ha (by decide) (by kernel_rfl))
  have f3:=e3
  simp only[Array.getD_eq_getD_getElem?]at e3
  have hb:(k:Int)<(n:Int):=by have:=gz.out;omega
  go_simp
  exact hK' _ _ ⟨hI.step Q3n 4 33 rfl (by rw[hsz];decide) _ _ Hf Ha trivial (fun _ _ h=>h) rfl,(fun h=>hC (Qia h)),hE.other (by decide)⟩
 ·have e4:c.tmps.getD 33 undef = .pointer (some ⟨g,o+k*4,none⟩):=hI.fact 4 33 rfl (hI.1.2.2.1.2.yes_far 13 Hf Ha (by decide) (by kernel_rfl))
  have f4:=e4
  simp only[Array.getD_eq_getD_getElem?]at e4
  have hc:=hC (hI.1.2.2.1.2.no_far 13 hl (by kernel_rfl:QZd QKf 13 11 5=true))
  obtain⟨x0,x1,x2,x3⟩:=hc.2.1
  have xl:=World.block_lt_of_cell? wx _ x0
  go_simp
  exact hK' _ _ ⟨hI.step Q3n 5 34 rfl (by rw[hsz];decide) _ _ Hf Ha trivial (fun _ _ h=>h) rfl,(fun h=>hC (Qia h)),hE.other (by decide)⟩
 ·go_simp
  exact hK' _ _ ⟨hI.step Q3n 6 35 rfl (by rw[hsz];decide) _ _ Hf Ha trivial (fun _ _ h=>h) rfl,(fun h=>hC (Qia h)),hE.other (by decide)⟩
 ·have e6:c.tmps.getD 35 undef = .pointer (some ⟨ob,1,none⟩):=hI.fact 6 35 rfl (hI.1.2.2.1.2.yes_far 13 Hf Ha (by decide) (by kernel_rfl))
  have f6:=e6
  simp only[Array.getD_eq_getD_getElem?]at e6
  have hc:=hC (hI.1.2.2.1.2.no_far 13 hl (by kernel_rfl:QZd QKf 13 11 7=true))
  have x0:=hc.1.cell 1
  have xl:=hc.1.lt
  go_simp
  exact hK' _ _ ⟨hI.step Q3n 7 36 rfl (by rw[hsz];decide) _ _ Hf Ha trivial (fun _ _ h=>h) rfl,(fun h=>hC (Qia h)),hE.other (by decide)⟩
 ·go_simp
  exact hK' _ _ ⟨hI.step Q3n 8 37 rfl (by rw[hsz];decide) _ _ Hf Ha trivial (fun _ _ h=>h) rfl,(fun h=>hC (Qia h)),hE.other (by decide)⟩
 ·have e7:c.tmps.getD 36 undef = .slice (some ⟨g,o,none⟩) n cap:=hI.fact 7 36 rfl (hI.1.2.2.1.2.yes_far 13 Hf Ha (by decide) (by kernel_rfl))
  have f7:=e7
  simp only[Array.getD_eq_getD_getElem?]at e7
  have e8:c.tmps.getD 37 undef = .int .i64 (k1:Int):=hI.fact 8 37 rfl (hI.1.2.2.1.2.yes_far 13 Hf Ha (by decide) (by kernel_rfl))
  have f8:=e8
  simp only[Array.getD_eq_getD_getElem?]at e8
  have hb:(k1:Int)<(n:Int):=by omega
  go_simp
  exact hK' _ _ ⟨hI.step Q3n 9 38 rfl (by rw[hsz];decide) _ _ Hf Ha trivial (fun _ _ h=>h) rfl,(fun h=>hC (Qia h)),hE.other (by decide)⟩
 ·have e9:c.tmps.getD 38 undef = .pointer (some ⟨g,o+k1*4,none⟩):=hI.fact 9 38 rfl (hI.1.2.2.1.2.yes_far 13 Hf Ha (by decide) (by kernel_rfl))
  have f9:=e9
  simp only[Array.getD_eq_getD_getElem?]at e9
  have hc:=hC (hI.1.2.2.1.2.no_far 13 hl (by kernel_rfl:QZd QKf 13 11 10=true))
  obtain⟨x0,x1,x2,x3⟩:=hc.2.2
  have xl:=World.block_lt_of_cell? wx _ x0
  go_simp
  exact hK' _ _ ⟨hI.step Q3n 10 39 rfl (by rw[hsz];decide) _ _ Hf Ha trivial (fun _ _ h=>h) rfl,(fun h=>hC (Qia h)),hE.other (by decide)⟩
 ·have e5:c.tmps.getD 34 undef = .agg #[.int .i64 a.kind,.string a.path,.string a.name,.string a.value]:=hI.fact 5 34 rfl (hI.1.2.2.1.2.yes_far 13 Hf Ha (by decide) (by kernel_rfl))
  have f5:=e5
  simp only[Array.getD_eq_getD_getElem?]at e5
  have e10:c.tmps.getD 39 undef = .agg #[.int .i64 b.kind,.string b.path,.string b.name,.string b.value]:=hI.fact 10 39 rfl (hI.1.2.2.1.2.yes_far 13 Hf Ha (by decide) (by kernel_rfl))
  have f10:=e10
  simp only[Array.getD_eq_getD_getElem?]at e10
  have hc:=hC (hI.1.2.2.1.2.no_far 13 hl (by kernel_rfl:QZd QKf 13 11 11=true))
  have hp:=hE.at0 hl
  go_simp
  refine(Qre a b wx).mono ?_
  rintro e w2 ⟨rfl,Hc⟩
  have mE:Below W.heap.size W w2:=hp.trans (Hc.mono hp.size)
  exact hK' _ _ ⟨hI.step Q3n 11 40 rfl (by rw[hsz];decide) _ _ Hf Ha trivial (fun _ _ h=>OkF.world h) rfl,fun h=>absurd h (by rw[Q9b (by rw[mg];decide)];simp),OkE.to0 (by rw[mg];decide) mE⟩
 ·have e11:c.tmps.getD 40 undef = .int .i64 (QGh a b):=hI.fact 11 40 rfl (hI.1.2.2.1.2.yes_far 13 Hf Ha (by decide) (by kernel_rfl))
  have f11:=e11
  simp only[Array.getD_eq_getD_getElem?]at e11
  go_simp
  exact hK' _ _ ⟨hI.step Q3n 12 41 rfl (by rw[hsz];decide) _ _ Hf Ha trivial (fun _ _ h=>h) rfl,(fun h=>hC (Qia h)),hE.other (by decide)⟩
def QAe(l:List Qja):Prop:=∀x∈l,x.path.size≤2000000∧x.name.size≤2000000∧x.value.size≤2000000
theorem Qwc{w:World}{a:Option Addr}{n c:Nat}{l:List Qja}(h:Qjb w (.slice a n c) l)(h0:0<l.length):∃g o,a=some ⟨g,o,none⟩∧g<w.heap.size∧∀(i:Nat) (h:i<l.length),QRf w g (o+i*4) l[i]:=by
 obtain⟨a',c',e,_,_,h3⟩:=h
 simp only[Value.slice.injEq]at e
 obtain⟨rfl,_,_⟩:=e
 exact h3 h0
theorem Q7s{l:List Qja}{n:Nat}(h:∀j (hj:j+1<l.length),j<n→ltE l[j] l[j+1]=true)(hn:l.length≤n+1):Q2j l=true:=QRo l (fun i hi=>h i hi (by omega))
set_option maxRecDepth 100000 in
theorem Q2h(nm:ByteArray)(v:Value)(l:List Qja)(w:World)(hE:Qjb w v l)(Hv:nm.size≤maxLen)(hz:QAe l)(j8:l.length≤1000000)(lay:Qog w) :
 Calls Tryz.prog 20 #[.agg #[.string nm,v]] w fun e w'=>e = .returned (.int .i64 (QCa nm l))∧Below w.heap.size w w':=by
 obtain⟨a,cap,rfl,gM,gB,Gp⟩:=id hE
 clear Gp
 have hC:QCa nm l=if 40<l.length∨l.any (fun x=>decide (256<x.value.size))=true then 3 else if Q0a nm.data.toList=false∨l.any (fun x=>!Qnc x)=true then 1 else if Q2j l=false then 12 else 0:=rfl
 generalize QCa nm l=C at *
 have He:Below w.heap.size w (w.alloc (.cells #[.string nm,.slice a l.length cap] 31)):=(Below.refl _ _).alloc (Nat.le_refl _) _
 have jC:=Holds.new w #[.string nm,.slice a l.length cap] 31
 have HX:=hid (fun wx (hb:Below w.heap.size w wx)=>QBd 49 Qgk (fun x=>decide (256<x.value.size)) (.slice a l.length cap) l wx (fun x _ wy _=>Q3o x wy) (hE.new hb) (by omega))
 have HY:=hid (fun wx (hb:Below w.heap.size w wx)=>QBd 51 Qfk (fun x=>!Qnc x) (.slice a l.length cap) l wx (fun x hx wy hby=>Q2o x wy (by have:=(hz x hx).1;omega) (by have:=(hz x hx).2.1;omega) (lay.keeps (Qaa.of_fresh (hb.trans (hby.mono hb.size)) (fun _=>False)) (fun e=>e))) (hE.new hb) (by omega))
 have HN:=hid (fun wx=>Qac nm wx Hv)
 have HE:=hid hE
 clear lay Hv hE
 obtain⟨P,hP⟩:∃P,P=l.any (fun x=>decide (256<x.value.size)):=⟨_,rfl⟩
 obtain⟨V,hV⟩:∃V,V=l.any (fun x=>!Qnc x):=⟨_,rfl⟩
 rw[←hP,←hV]at hC
 rw[←hP]at HX
 rw[←hV]at HY
 clear hP hV
 by_cases h40:40<l.length
 ·have hR:=hid (hC.trans (if_pos (.inl h40)))
  have wK:(40:Int)<(l.length:Int):=by omega
  clear hC h40
  go_enter Tryz.func20,Tryz.ntmps20
  go_wp2_with fail
  go_ret
  exact⟨by rw[hR.out];rfl,He⟩
 ·have wK:¬(40:Int)<(l.length:Int):=by omega
  cases P with
  | true=>
   have hR:=hid (hC.trans (if_pos (.inr rfl)))
   clear hC h40
   go_enter Tryz.func20,Tryz.ntmps20
   go_wp2_with fail
   refine(by exact HX.out _ He:Calls _ _ _ _ _).mono ?_
   rintro e w1 ⟨rfl,Hb⟩
   go_wp2_with fail
   go_ret
   exact⟨by rw[hR.out];rfl,He.trans (Hb.mono He.size)⟩
  | false=>
   rw[if_neg (fun h=>h.elim h40 (fun h=>by cases h))]at hC
   cases hn:Q0a nm.data.toList with
   | false=>
    have hR:=hid (hC.trans (if_pos (.inl hn)))
    rw[hn]at HN
    clear hC hn h40
    go_enter Tryz.func20,Tryz.ntmps20
    go_wp2_with fail
    refine(by exact HX.out _ He:Calls _ _ _ _ _).mono ?_
    rintro e w1 ⟨rfl,Hb⟩
    have x0:=(jC.keeps (Qaa.of_fresh Hb (fun _=>False)) (fun e=>e)).cell 0
    have xl:=(jC.keeps (Qaa.of_fresh Hb (fun _=>False)) (fun e=>e)).lt
    have HJ:=hid (He.trans (Hb.mono He.size))
    clear Hb He jC
    go_wp2_with fail
    refine(by exact HN.out _:Calls _ _ _ _ _).mono ?_
    rintro e w2 ⟨rfl,rfl⟩
    go_wp2_with fail
    go_ret
    exact⟨by rw[hR.out];rfl,HJ.out⟩
   | true=>
    rw[hn]at HN
    cases V with
    | true=>
     have hR:=hid (hC.trans (if_pos (.inr rfl)))
     clear hC hn h40
     go_enter Tryz.func20,Tryz.ntmps20
     go_wp2_with fail
     refine(by exact HX.out _ He:Calls _ _ _ _ _).mono ?_
     rintro e w1 ⟨rfl,Hb⟩
     have x0:=(jC.keeps (Qaa.of_fresh Hb (fun _=>False)) (fun e=>e)).cell 0
     have x1:=(jC.keeps (Qaa.of_fresh Hb (fun _=>False)) (fun e=>e)).cell 1
     have xl:=(jC.keeps (Qaa.of_fresh Hb (fun _=>False)) (fun e=>e)).lt
     have HJ:=hid (He.trans (Hb.mono He.size))
     clear Hb He jC
     go_wp2_with fail
     refine(by exact HN.out _:Calls _ _ _ _ _).mono ?_
     rintro e w2 ⟨rfl,rfl⟩
     go_wp2_with fail
     refine(by exact HY.out _ HJ.out:Calls _ _ _ _ _).mono ?_
     rintro e w3 ⟨rfl,Hi⟩
     go_wp2_with fail
     go_ret
     exact⟨by rw[hR.out];rfl,HJ.out.trans (Hi.mono HJ.out.size)⟩
    | false=>
     rw[if_neg (by rw[hn];simp)]at hC
     have HC:=hid hC
     clear hC hn h40
     go_enter Tryz.func20,Tryz.ntmps20
     go_wp2_with fail
     refine(by exact HX.out _ He:Calls _ _ _ _ _).mono ?_
     rintro e w1 ⟨rfl,Hb⟩
     have mb:=jC.keeps (Qaa.of_fresh Hb (fun _=>False)) (fun e=>e)
     have x0:=mb.cell 0
     have x1:=mb.cell 1
     have xl:=mb.lt
     have B7:=hid mb
     have HJ:=hid (He.trans (Hb.mono He.size))
     clear Hb He jC mb
     go_wp2_with fail
     refine(by exact HN.out _:Calls _ _ _ _ _).mono ?_
     rintro e w2 ⟨rfl,rfl⟩
     go_wp2_with fail
     refine(by exact HY.out _ HJ.out:Calls _ _ _ _ _).mono ?_
     rintro e w3 ⟨rfl,Hi⟩
     have kh:=B7.out.keeps (Qaa.of_fresh Hi (fun _=>False)) (fun e=>e)
     have Hu:=HJ.out.trans (Hi.mono HJ.out.size)
     clear x0 x1 xl HX HY HN
     go_wp2_with fail
     go_loopg [3] (l.length) (fun f x wr=>∃k:Nat,x = .int .i64 ((k+1:Nat):Int)∧k≤l.length∧l.length≤k+f∧Hid (∀j (hj:j+1<l.length),j<k→ltE l[j] l[j+1]=true)∧Holds wr w.heap.size #[.string nm,.slice a l.length cap] 31∧Below w.heap.size w wr)
     case atStart=>exact⟨0,rfl,by omega,by omega,hid (fun j _ h=>by omega),kh,Hu⟩
     case round=>
      clear kh Hu Hi
      obtain⟨k,rfl,hk,hf,hN,hH,hb⟩:=hrel
      have c1:=hH.cell 1
      have cl:=hH.lt
      have H3:=hb.size
      by_cases Hh:k+1<l.length
      ·have k8:((k+1:Nat):Int)<(l.length:Int):=by omega
       obtain⟨g,o,e1,hg,H7⟩:=Qwc (HE.out.new hb) (by omega)
       subst e1
       have ha:=H7 k (by omega)
       have Bh:=H7 (k+1) Hh
       have hy:ltE l[k] l[k+1]=true∨ltE l[k] l[k+1]=false:=by cases ltE l[k] l[k+1] <;> simp
       have Jw:=Q7o l[k] l[k+1]
       clear H7
       have HB:=hid hb
       have HH:=hid hH
       clear hb hH
       go_upto_region 8 with fail
       refine wp_region_any (by kernel_rfl) ?_
       refine Q5a (ops':=QKf) (by kernel_rfl) ?_
       refine Q4n w.heap.size g o k (k+1) cap l.length l[k] l[k+1] nm wr _ _ rfl Hh (hid rfl) (by omega) rfl rfl ⟨HH.out.drew,ha,Bh⟩ ((Below.refl _ _).drew) ?_
       intro c w5 Ga wL H9
       obtain⟨y29,y30,y31,y32,y33,y34,y35,y36,y37,y38,y39,y40,y41,rfl⟩:=Ga.ex [29,30,31,32,33,34,35,36,37,38,39,40,41] (by kernel_rfl)
       simp only[List.setIfInBounds_toArray,List.set_cons_zero,List.set_cons_succ]at wL ⊢
       have wM:y41 = .bool (decide (0≤QGh l[k] l[k+1])):=wL
       subst wM
       have zL:=hid (HB.out.trans (H9.mono HB.out.size))
       have B9:=hid (HH.out.keeps (Qaa.of_fresh H9 (fun _=>False)) (fun e=>e))
       clear H9 Ga wL ha Bh
       rcases hy with hy|hy
       ·rw[Jw,hy]
        have Cy:=hid hy
        clear Jw hy
        go_wp2_with fail
        go_roundg (gk-1)
        case measure=>omega
        case rel=>
         refine⟨k+1,by go_num,by omega,by omega,hid (fun j hj sC=>?_),B9.out,zL.out⟩
         by_cases e:j=k
         ·subst e;exact Cy.out
         ·exact hN.out j hj (by omega)
       ·rw[Jw,hy]
        have hR:=hid (HC.out.trans (if_pos (Qts Hh hy)))
        clear Jw hy
        go_wp2_with fail
        go_ret
        exact⟨by rw[hR.out];rfl,zL.out⟩
      ·have k8:¬((k+1:Nat):Int)<(l.length:Int):=by omega
       have hR:=hid (HC.out.trans (if_neg (by rw[Q7s hN.out (by omega)];decide)))
       have HB:=hid hb
       clear hb hH
       go_wp2_with fail
       go_ret
       exact⟨by rw[hR.out];rfl,HB.out⟩
noncomputable def Qxi:Array Oper:=(QXa (Tryz.f10.body.getD .skip) 1).getD #[]
theorem oaR:Qjc .any Qxi=true:=by kernel_rfl
theorem Q3s:Qbc Qxi=true:=by kernel_rfl
theorem Qru:Qxi.size=7:=by kernel_rfl
def OaF(_ _:Nat)(tv ov:Value)(T:List Qba)(nm:ByteArray)(es:List Qja)(_:Nat→Prop)(j:Nat):Value→World→Prop:=match j with
 | 0=>fun u _=>u = .agg #[tv]
 | 1=>fun u _=>u = .int .i64 (Qfa T)
 | 2=>fun u _=>u = .agg #[.string nm,ov]
 | 3=>fun u _=>u = .int .i64 (QCa nm es)
 | 4=>fun u w=>∃nB:Nat,u = .slice (some ⟨nB,0,none⟩) 2 2∧Holds w nB #[.int .i64 (Qfa T),.int .i64 (QCa nm es)] 33
 | 5=>fun u _=>u = .int .i64 (if Qfa T=0 then QCa nm es else Qfa T)
 | 6=>fun u _=>u = .int .i64 (if Qfa T=0 then QCa nm es else Qfa T)
 | _=>fun _ _=>True
def OaC(tb ob:Nat)(tv ov:Value)(T:List Qba)(nm:ByteArray)(es:List Qja)(R:Nat→Prop)(w:World):Prop:=Holds w tb #[tv] 27∧Holds w ob #[.string nm,ov] 31∧Qpa R w tv T∧Qjb w ov es∧Qog w
section
variable{tb ob:Nat}{tv ov:Value}{T:List Qba}{nm:ByteArray}{es:List Qja}{R:Nat→Prop}{w w':World}
theorem OaF.stable{j:Nat}{u:Value}(h:OaF tb ob tv ov T nm es R j u w)(k:Below w.heap.size w w'):OaF tb ob tv ov T nm es R j u w':=by
 unfold OaF at *
 split at h
 all_goals first
  | exact h
  | (obtain⟨nB,e,hh⟩:=h;exact⟨nB,e,hh.keeps (Qaa.of_fresh k (fun _=>False)) (fun e=>e)⟩)
end
set_option maxRecDepth 100000 in
theorem QWn{Q:Exit→Act→World→Prop}(tb ob:Nat)(tv ov:Value)(T:List Qba)(nm:ByteArray)(es:List Qja)(R:Nat→Prop)(W w:World)(A:Act)(hsz:A.tmps.size=47)(Hv:nm.size≤maxLen)(hz:QAe es)(j8:es.length≤1000000)
 (a2:A.tmps.getD 2 undef = .pointer (some ⟨tb,0,none⟩)) (a3:A.tmps.getD 3 undef = .pointer (some ⟨ob,0,none⟩)) (hC0:OaC tb ob tv ov T nm es R W) (hE0:Below W.heap.size W w)
 (hQ:∀c w',Qrb Qxi A c→c.tmps.getD 7 undef = .int .i64 (if Qfa T=0 then QCa nm es else Qfa T)→Below W.heap.size W w'→Q .normal c w') :
 wpAny Tryz.prog .any Qxi Q Qxi.size (Array.replicate Qxi.size false) A w:=by
 refine QVa (fun l c wx=>QAb Qxi A (OaF tb ob tv ov T nm es R) (fun _=>True) l c wx∧Below W.heap.size W wx) oaR ?hend ?Hk _ _ _ _ (by simp) (by simp) ⟨QAb.start trivial,hE0⟩
 case hend=>
  rintro l c wx ⟨hI,hS⟩ hl
  have hh:∀k,k<7→l.getD k false=true:=fun k hk=>hl k (by rw[Qru];exact hk)
  exact hQ c wx hI.1.1 (hI.fact 6 7 rfl (hh 6 (by decide))) hS
 intro l c wx mw i' op ho hl Ha K' hK'
 obtain⟨hI,hS⟩:=mw
 have mg:l.size=7:=by rw[hI.1.2.2.1.1,Qru]
 have hi':i'<7:=by rw[←Qru];exact(Array.getElem?_eq_some_iff.1 ho).1
 have Hf:=ho
 simp only[Qxi,QXa,Tryz.f10,Option.getD_some,reduceIte,Nat.reduceEqDiff]at ho
 have s2:=(hI.slot 2 (by kernel_rfl)).trans a2
 have s3:=(hI.slot 3 (by kernel_rfl)).trans a3
 have fs:=And.intro True.intro True.intro
 simp only[Array.getD_eq_getD_getElem?]at s2 s3
 have GV:i'=0∨i'=1∨i'=2∨i'=3∨i'=4∨i'=5∨i'=6:=by omega
 clear hi'
 rcases GV with rfl|rfl|rfl|rfl|rfl|rfl|rfl
 all_goals cases ho
 ·have hc:OaC tb ob tv ov T nm es R wx:=⟨hC0.1.keeps (Qaa.of_fresh hS (fun _=>False)) (fun e=>e),hC0.2.1.keeps (Qaa.of_fresh hS (fun _=>False)) (fun e=>e),hC0.2.2.1.new hS,hC0.2.2.2.1.new hS,hC0.2.2.2.2.keeps (Qaa.of_fresh hS (fun _=>False)) (fun e=>e)⟩
  have x0:=hc.1.cell 0
  have xl:=hc.1.lt
  go_simp
  exact hK' _ _ ⟨hI.step Q3s 0 10 rfl (by rw[hsz];decide) _ _ Hf Ha trivial (fun _ _ h=>h) rfl,hS⟩
 ·have e0:c.tmps.getD 10 undef = .agg #[tv]:=hI.fact 0 10 rfl (hI.1.2.2.1.2.yes_far 7 Hf Ha (by decide) (by kernel_rfl))
  have f0:=e0
  simp only[Array.getD_eq_getD_getElem?]at e0
  have hc:OaC tb ob tv ov T nm es R wx:=⟨hC0.1.keeps (Qaa.of_fresh hS (fun _=>False)) (fun e=>e),hC0.2.1.keeps (Qaa.of_fresh hS (fun _=>False)) (fun e=>e),hC0.2.2.1.new hS,hC0.2.2.2.1.new hS,hC0.2.2.2.2.keeps (Qaa.of_fresh hS (fun _=>False)) (fun e=>e)⟩
  go_simp
  refine(QLg R tv T wx hc.2.2.1).mono ?_
  rintro e w2 ⟨rfl,Hc⟩
  exact hK' _ _ ⟨hI.step Q3s 1 11 rfl (by rw[hsz];decide) _ _ Hf Ha trivial (fun _ _ h=>OaF.stable h Hc) rfl,hS.trans (Hc.mono hS.size)⟩
 ·have hc:OaC tb ob tv ov T nm es R wx:=⟨hC0.1.keeps (Qaa.of_fresh hS (fun _=>False)) (fun e=>e),hC0.2.1.keeps (Qaa.of_fresh hS (fun _=>False)) (fun e=>e),hC0.2.2.1.new hS,hC0.2.2.2.1.new hS,hC0.2.2.2.2.keeps (Qaa.of_fresh hS (fun _=>False)) (fun e=>e)⟩
  have x0:=hc.2.1.cell 0
  have x1:=hc.2.1.cell 1
  have xl:=hc.2.1.lt
  go_simp
  exact hK' _ _ ⟨hI.step Q3s 2 12 rfl (by rw[hsz];decide) _ _ Hf Ha trivial (fun _ _ h=>h) rfl,hS⟩
 ·have e2:c.tmps.getD 12 undef = .agg #[.string nm,ov]:=hI.fact 2 12 rfl (hI.1.2.2.1.2.yes_far 7 Hf Ha (by decide) (by kernel_rfl))
  have f2:=e2
  simp only[Array.getD_eq_getD_getElem?]at e2
  have hc:OaC tb ob tv ov T nm es R wx:=⟨hC0.1.keeps (Qaa.of_fresh hS (fun _=>False)) (fun e=>e),hC0.2.1.keeps (Qaa.of_fresh hS (fun _=>False)) (fun e=>e),hC0.2.2.1.new hS,hC0.2.2.2.1.new hS,hC0.2.2.2.2.keeps (Qaa.of_fresh hS (fun _=>False)) (fun e=>e)⟩
  go_simp
  refine(Q2h nm ov es wx hc.2.2.2.1 Hv hz j8 hc.2.2.2.2).mono ?_
  rintro e w2 ⟨rfl,Hc⟩
  exact hK' _ _ ⟨hI.step Q3s 3 13 rfl (by rw[hsz];decide) _ _ Hf Ha trivial (fun _ _ h=>OaF.stable h Hc) rfl,hS.trans (Hc.mono hS.size)⟩
 ·have e1:c.tmps.getD 11 undef = .int .i64 (Qfa T):=hI.fact 1 11 rfl (hI.1.2.2.1.2.yes_far 7 Hf Ha (by decide) (by kernel_rfl))
  have f1:=e1
  simp only[Array.getD_eq_getD_getElem?]at e1
  have e3:c.tmps.getD 13 undef = .int .i64 (QCa nm es):=hI.fact 3 13 rfl (hI.1.2.2.1.2.yes_far 7 Hf Ha (by decide) (by kernel_rfl))
  have f3:=e3
  simp only[Array.getD_eq_getD_getElem?]at e3
  go_simp
  exact hK' _ _ ⟨hI.step Q3s 4 14 rfl (by rw[hsz];decide) _ _ Hf Ha trivial (fun _ _ h=>OaF.stable h ((Below.refl _ _).alloc (Nat.le_refl _) _)) ⟨_,rfl,Holds.new _ _ _⟩,hS.alloc hS.size _⟩
 ·obtain⟨nB,e4,aw⟩:∃nB:Nat,c.tmps.getD 14 undef = .slice (some ⟨nB,0,none⟩) 2 2∧Holds wx nB #[.int .i64 (Qfa T),.int .i64 (QCa nm es)] 33:=hI.fact 4 14 rfl (hI.1.2.2.1.2.yes_far 7 Hf Ha (by decide) (by kernel_rfl))
  have f4:=e4
  simp only[Array.getD_eq_getD_getElem?]at e4
  have hc:OaC tb ob tv ov T nm es R wx:=⟨hC0.1.keeps (Qaa.of_fresh hS (fun _=>False)) (fun e=>e),hC0.2.1.keeps (Qaa.of_fresh hS (fun _=>False)) (fun e=>e),hC0.2.2.1.new hS,hC0.2.2.2.1.new hS,hC0.2.2.2.2.keeps (Qaa.of_fresh hS (fun _=>False)) (fun e=>e)⟩
  go_simp
  refine(QRp (Qfa T) (QCa nm es) nB wx aw).mono ?_
  rintro e w2 ⟨rfl,Hc⟩
  exact hK' _ _ ⟨hI.step Q3s 5 15 rfl (by rw[hsz];decide) _ _ Hf Ha trivial (fun _ _ h=>OaF.stable h Hc) rfl,hS.trans (Hc.mono hS.size)⟩
 ·have e5:c.tmps.getD 15 undef = .int .i64 (if Qfa T=0 then QCa nm es else Qfa T):=hI.fact 5 15 rfl (hI.1.2.2.1.2.yes_far 7 Hf Ha (by decide) (by kernel_rfl))
  have f5:=e5
  simp only[Array.getD_eq_getD_getElem?]at e5
  go_simp
  exact hK' _ _ ⟨hI.step Q3s 6 7 rfl (by rw[hsz];decide) _ _ Hf Ha trivial (fun _ _ h=>h) rfl,hS⟩
end Go.Proofs.YtgaboghigefgbaaGreatDoor
