/- overlay.Apply. -/
import Derived.Test.YtgaboghigefgbaaGreatDoorZ27
import Derived.Test.YtgaboghigefgbaaGreatDoorZ44
import Derived.Test.YtgaboghigefgbaaGreatDoorZ37
import Derived.Test.YtgaboghigefgbaaGreatDoorZ40
import Derived.Deep.LoopGhost
import Derived.Deep.DeepCutAuto
import Derived.Deep.CutBlock
set_option linter.all false
set_option maxHeartbeats 8000000
namespace Go.Proofs.YtgaboghigefgbaaGreatDoor
open Go.Lib (hid)
open Go.RowKit
theorem Qkn{l:List Qja}{k:Nat}{T:List Qba}(h:k<l.length)(he:(Qob T l[k]).2≠0):QKb k T (l.drop k)=([],(k:Int),(Qob T l[k]).2):=by
 rw[List.drop_eq_getElem_cons h,QKb,if_pos he]
theorem QQo{l:List Qja}{k:Nat}{T:List Qba}(h:k<l.length)(he:(Qob T l[k]).2=0):QKb k T (l.drop k)=QKb (k+1) (Qob T l[k]).1 (l.drop (k+1)):=by
 rw[List.drop_eq_getElem_cons h,QKb,if_neg (by rw[he];simp)]
theorem Qln{l:List Qja}{k:Nat}{T:List Qba}(h:l.length≤k):QKb k T (l.drop k)=(T,0,0):=by
 rw[List.drop_of_length_le h];rfl
theorem Qzl{T:List Qba}(hc:Qfa T=0)(h0:0<T.length):Q2c T:=⟨h0,Qua (Qya hc).2.1,Qqb (Qya hc).2.1 h0⟩
theorem Q7j{T:List Qba}(hc:Qfa T=0):0<T.length:=by
 cases T with
 | nil=>exact absurd hc (by decide)
 | cons a r=>simp
set_option maxRecDepth 100000 in
theorem QDc(R:Nat→Prop)(v:Value)(T:List Qba)(nm:ByteArray)(ov:Value)(l:List Qja)(w:World)(hT:Qpa R w v T)(hE:Qjb w ov l)(Hv:nm.size≤maxLen)(hz:QAe l)(j8:l.length≤1000000)(lay:Qog w) :
 Calls Tryz.prog 10 #[.agg #[v],.agg #[.string nm,ov]] w fun e w'=>∃v',e = .returned (.tuple #[.agg #[v'],.int .i64 (QMa T nm l).2.1,.int .i64 (QMa T nm l).2.2])∧Qda w' w.heap.size v' (QMa T nm l).1∧Below w.heap.size w w':=by
 obtain⟨ta,tcap,rfl,uj,Kw⟩:=hT.shape
 obtain⟨oa,ocap,rfl,eZ,Hf⟩:=hE.slice
 obtain⟨W0,GT⟩:∃W0,W0=((w.alloc (.cells #[.slice ta T.length tcap] 27)).alloc (.cells #[.string nm,.slice oa l.length ocap] 31)).alloc (.cells #[.slice none 0 0] 27):=⟨_,rfl⟩
 have He:Below w.heap.size w W0:=by rw[GT];exact(((Below.refl _ _).alloc (Nat.le_refl _) _).alloc (by simp) _).alloc (by simp;omega) _
 have kJ:Holds W0 w.heap.size #[.slice ta T.length tcap] 27:=by rw[GT];exact((Holds.new w #[.slice ta T.length tcap] 27).alloc _).alloc _
 have J0:Holds W0 (w.heap.size+1) #[.string nm,.slice oa l.length ocap] 31:=by rw[GT];exact(Holds.newAt (w:=w.alloc (.cells #[.slice ta T.length tcap] 27)) (B:=w.heap.size+1) (by simp) #[.string nm,.slice oa l.length ocap] 31).alloc _
 have GH:Holds W0 (w.heap.size+1+1) #[.slice none 0 0] 27:=by rw[GT];exact Holds.newAt (w:=(w.alloc (.cells #[.slice ta T.length tcap] 27)).alloc (.cells #[.string nm,.slice oa l.length ocap] 31)) (B:=w.heap.size+1+1) (by simp) #[.slice none 0 0] 27
 have HT:=hid hT
 have HE:=hid hE
 have HL:=hid lay
 have HZ:=hid hz
 clear hT hE lay hz
 go_enter Tryz.func10,Tryz.ntmps10
 go_upto_region 1 with fail
 rw[←GT]
 refine wp_region_any (by kernel_rfl) ?_
 refine Q5a (ops':=Qxi) (by kernel_rfl) ?_
 refine QWn w.heap.size (w.heap.size+1) (.slice ta T.length tcap) (.slice oa l.length ocap) T nm l R W0 _ _ rfl Hv HZ.out j8 rfl rfl ⟨kJ,J0,HT.out.new He,HE.out.new He,HL.out.keeps (Qaa.of_fresh He (fun _=>False)) (fun e=>e)⟩ ((Below.refl _ _).drew) ?_
 intro c w1 Ga h7 Hb
 obtain⟨y7,y10,y11,y12,y13,y14,y15,rfl⟩:=Ga.ex [7,10,11,12,13,14,15] (by kernel_rfl)
 simp only[List.setIfInBounds_toArray,List.set_cons_zero,List.set_cons_succ]at h7 ⊢
 have h7':y7 = .int .i64 (if Qfa T=0 then QCa nm l else Qfa T):=h7
 subst h7'
 have bF:Below w.heap.size w w1:=He.trans (Hb.mono He.size)
 have H5:=kJ.keeps (Qaa.of_fresh Hb (fun _=>False)) (fun e=>e)
 have gW:=J0.keeps (Qaa.of_fresh Hb (fun _=>False)) (fun e=>e)
 have Hs:=GH.keeps (Qaa.of_fresh Hb (fun _=>False)) (fun e=>e)
 have HJ:=hid bF
 have MN:=hid H5
 have mr:=hid gW
 have Ky:=hid Hs
 have jq:=Hs.lt
 clear Ga h7 Hb bF kJ J0 GH He H5 gW Hs GT
 by_cases hE0:(if Qfa T=0 then QCa nm l else Qfa T)=0
 ·have hc:Qfa T=0:=by
   rcases Decidable.em (Qfa T=0)with h|h
   ·exact h
   ·rw[if_neg h]at hE0;exact hE0
  rw[if_pos hc]at hE0
  rw[if_pos hc,hE0]
  have hA:=hid (show QMa T nm l=QKb 0 T l from by unfold QMa;rw[if_neg (by rw[hc];simp),if_neg (by rw[hE0];simp)])
  have JI:=hid (QLb hE0).2.2.2.1
  have HC:=hid hc
  have HW:=hid (fun wx hx=>Qhl R (.slice ta T.length tcap) T wx hx (Qzl hc (Q7j hc)) (QAc hc) (by have:=(Qya hc).1;unfold Qza at this;rw[Bool.and_eq_true,decide_eq_true_eq]at this;omega) (Qrc hc))
  rw[Qii hc (Q7j hc)]at HW
  have CK:=hid (HT.out.new HJ.out)
  have x0:=MN.out.cell 0
  have xl:=MN.out.lt
  clear hc hE0
  go_wp2_with fail
  refine(by exact HW.out w1 CK.out:Calls _ _ _ _ _).mono ?_
  rintro e w2 ⟨tv,gP,_,rfl,mq,_,_,_,_,Hc⟩
  obtain⟨a2,c2,rfl,_,_⟩:=mq.in.shape
  have Hw:=Ky.out.keeps (Qaa.of_fresh Hc (fun _=>False)) (fun e=>e)
  have GG:=mr.out.keeps (Qaa.of_fresh Hc (fun _=>False)) (fun e=>e)
  have zI:=Hw.lt
  have z0:=Hw.cell 0
  have z1:=Hw.free 0
  have o1:=GG.cell 1
  have ol:=GG.lt
  have GI:=hid (HJ.out.trans (Hc.mono HJ.out.size))
  go_wp2_with fail
  have kE:=Ky.out
  go_loopg [29] (l.length) (fun f x wr=>∃k:Nat,x = .int .i64 k∧k≤l.length∧l.length≤k+f∧∃(tv:Value) (Tk:List Qba),Hid (Holds wr (w.heap.size+1+1) #[tv] 27)∧Hid (Qda wr w.heap.size tv Tk)∧Hid (Qfa Tk=0)∧Hid (QKb k Tk (l.drop k)=QKb 0 T l)∧Hid (Below w.heap.size w wr))
  case atStart=>exact⟨0,rfl,by omega,by omega,.slice a2 T.length c2,T,hid (Hw.set 0 _),hid ((mq.base HJ.out.size).set Hw (by decide) (by decide) 0 _),HC,hid rfl,hid (GI.out.setCell (by simp;omega) _)⟩
  case round=>
   clear Hw GG mq Hc zI z0 z1 o1 ol x0 xl kE jq
   obtain⟨k,rfl,hk,hf,tv,Tk,HR,lr,kF,vG,HB⟩:=hrel
   obtain⟨a4,c4,rfl,_,_⟩:=lr.out.in.shape
   have z0:=HR.out.cell 0
   have z1:=HR.out.free 0
   have zl:=HR.out.lt
   by_cases Hh:k<l.length
   ·have k8:(k:Int)<(l.length:Int):=by omega
    obtain⟨g,o,e1,hg,H7⟩:=Qwc (HE.out.new HB.out) (by omega)
    subst e1
    obtain⟨d0,d1,d2,d3⟩:=H7 k Hh
    have pR:=List.getElem_mem Hh
    have zK:=hid (Q9n w.heap.size (.slice a4 Tk.length c4) Tk l[k] (wr.alloc (.cells #[.int .i64 l[k].kind,.string l[k].path,.string l[k].name,.string l[k].value] 39)) (lr.out.new ((Below.refl _ _).alloc (Nat.le_refl _) _)) (by have:=HB.out.size;simp;omega) (JI.out _ pR) (HZ.out _ pR).1 (HZ.out _ pR).2.1 (HZ.out _ pR).2.2)
    have dH:=hid (fun he=>(Q4j kF.out (JI.out _ pR) he).1)
    have i5:=hid (fun he=>(Qkn (T:=Tk) Hh he).symm.trans vG.out)
    have dz:=hid (fun he=>(QQo (T:=Tk) Hh he).symm.trans vG.out)
    have Gm:=HR.out.alloc (.cells #[.int .i64 l[k].kind,.string l[k].path,.string l[k].name,.string l[k].value] 39)
    have Hc:=HB.out.alloc HB.out.size (.cells #[.int .i64 l[k].kind,.string l[k].path,.string l[k].name,.string l[k].value] 39)
    clear pR H7
    generalize l[k]=x at *
    generalize Qob Tk x=C at *
    obtain⟨Tn,er⟩:=C
    simp only at zK dH i5 dz
    have B8:=hid Gm
    have GI:=hid Hc
    clear Gm Hc
    go_wp2_with fail
    refine(by exact zK.out:Calls _ _ _ _ _).mono ?_
    rintro e w3 ⟨v3,rfl,JF,Hi⟩
    obtain⟨a5,c5,rfl,_,_⟩:=JF.in.shape
    have kh:=B8.out.keeps (Qaa.of_fresh Hi (fun _=>False)) (fun e=>e)
    have KK:=hid (GI.out.trans (Hi.mono GI.out.size))
    have jc:=hid (JF.set kh (by decide) (by decide) 0 (.slice a5 Tn.length c5))
    have qn:=hid (kh.set 0 (.slice a5 Tn.length c5))
    have e0:=kh.cell 0
    have e1:=kh.free 0
    have el:=kh.lt
    clear kh JF Hi z0 z1 zl d0 d1 d2 d3
    by_cases he:er=0
    ·subst he
     go_wp2_with fail
     go_roundg (gk-1)
     case measure=>omega
     case rel=>exact⟨k+1,by go_num,by omega,by omega,.slice a5 Tn.length c5,Tn,qn,jc,hid (dH.out (by first|rfl|trivial)),hid (dz.out (by first|rfl|trivial)),hid (KK.out.setCell (by simp;omega) _)⟩
    ·have Bp:(er != 0)=true:=by simpa using he
     have cO:=hid (i5.out he)
     have f0:=qn.out.cell 0
     have f1:=qn.out.free 0
     have fl:=qn.out.lt
     clear he i5 dz dH
     go_wp2_with fail
     have z0:=(qn.out.set 0 (.slice none 0 0)).cell 0
     exact bodyPost_ret (v:=.tuple #[.agg #[.slice none 0 0],.int .i64 k,.int .i64 er]) (by simp[results,Tryz.results10,go_sem,z0]) rfl ⟨.slice none 0 0,by rw[hA.out,←cO.out],by rw[hA.out,←cO.out];exact Qda.nil _ _,(KK.out.setCell (by simp;omega) _).setCell (by simp;omega) _⟩
   ·have k8:¬(k:Int)<(l.length:Int):=by omega
    have qk:=hid ((Qln (T:=Tk) (show l.length≤k by omega)).symm.trans vG.out)
    go_wp2_with fail
    have y0:=(HR.out.set 0 (.slice a4 Tk.length c4)).cell 0
    exact bodyPost_ret (v:=.tuple #[.agg #[.slice a4 Tk.length c4],.int .i64 0,.int .i64 0]) (by simp[results,Tryz.results10,go_sem,y0]) rfl ⟨.slice a4 Tk.length c4,by rw[hA.out,←qk.out],by rw[hA.out,←qk.out];exact lr.out.set HR.out (by decide) (by decide) 0 _,HB.out.setCell (by simp;omega) _⟩
 ·have dP:((if Qfa T=0 then QCa nm l else Qfa T) != 0)=true:=by simpa using hE0
  have hA:=hid (show QMa T nm l=([],0,if Qfa T=0 then QCa nm l else Qfa T)from by
   unfold QMa
   by_cases h:Qfa T=0
   ·rw[if_neg (by rw[h];simp),if_pos h,if_pos (by rw[if_pos h]at hE0;exact hE0)]
   ·rw[if_pos h,if_neg h])
  obtain⟨E,hE⟩:∃E,E=(if Qfa T=0 then QCa nm l else Qfa T):=⟨_,rfl⟩
  rw[←hE]at dP hA ⊢
  clear hE0 hE
  have z0:=Ky.out.cell 0
  have z1:=Ky.out.free 0
  go_wp2_with fail
  have z2:=(Ky.out.set 0 (.slice none 0 0)).cell 0
  exact bodyPost_ret (v:=.tuple #[.agg #[.slice none 0 0],.int .i64 0,.int .i64 E]) (by simp[results,Tryz.results10,go_sem,z2]) rfl ⟨.slice none 0 0,by rw[hA.out],by rw[hA.out];exact Qda.nil _ _,HJ.out.setCell (by simp;omega) _⟩
end Go.Proofs.YtgaboghigefgbaaGreatDoor
