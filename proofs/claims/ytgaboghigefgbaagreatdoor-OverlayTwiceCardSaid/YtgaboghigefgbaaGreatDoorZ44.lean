/- walk.Split. | overlay.apply: one edit carried out (printed by govg.py). -/
import Derived.Test.YtgaboghigefgbaaGreatDoorZ41
import Derived.Test.YtgaboghigefgbaaGreatDoorShelf
import Derived.Lib.LastIndexByte
import Derived.Test.YtgaboghigefgbaaGreatDoorZ40
import Derived.Test.YtgaboghigefgbaaGreatDoorZ33
set_option linter.all false
set_option maxHeartbeats 8000000
namespace Go.Proofs.YtgaboghigefgbaaGreatDoor
open Go.Lib (hid)
open Go.RowKit
theorem QBl(s:ByteArray)(j:Nat)(h:j<s.size):s.data[j]! = s[j]:=by
 have h2:j<s.data.size:=h
 rw[getElem!_pos s.data j h2];rfl
theorem QLn(s:ByteArray)(hs:∃r,s.data.toList=47::r):∃i:Nat,∃h:i<s.size,Lib.lastIndexByte s 47=i∧s.extract 0 (max i 1)=QEc s∧s.extract (i+1) s.size=Q9g s:=by
 obtain⟨r,hr⟩:=hs
 have e1:s.size=s.data.toList.length:=by simp
 have h0:0<s.size:=by rw[e1,hr];simp
 have hc:∀c:UInt8,((c.toNat:Nat):Int)=47↔c=47:=fun c=>by
  constructor
  ·intro h;exact UInt8.toNat_inj.1 (by have:(47:UInt8).toNat=47:=rfl;omega)
  ·rintro rfl;rfl
 rcases Lib.lastIndexByte_spec s 47 with⟨_,hn⟩|⟨i,hi,e,gM,hn⟩
 ·exfalso
  apply hn 0 h0
  rw[QBl s 0 h0,hc,←Qij s 0 h0 (by omega)]
  simp only[hr,List.getElem_cons_zero]
 ·rw[QBl s i hi,hc]at gM
  obtain⟨a,b⟩:=QSr s i hi gM (fun j hj kt h=>hn j kt hj (by rw[QBl s j hj,hc];exact h))
  exact⟨i,hi,e,a,b⟩
set_option maxRecDepth 100000 in
theorem QFo(s:ByteArray)(w:World)(hs:∃r,s.data.toList=47::r)(hl:s.size≤2000000) :
 Calls Tryz.prog 81 #[.string s] w fun e w'=>e = .returned (.tuple #[.string (QEc s),.string (Q9g s)])∧Below w.heap.size w w':=by
 obtain⟨i,hi,e,e1,e2⟩:=QLn s hs
 have HL:=hid (Tryz.strings_LastIndexByte s 47 (by omega) w)
 rw[e]at HL
 clear hs e
 have sy:(i:Int)<(s.size:Int):=by omega
 by_cases h0:i=0
 ·subst h0
  have CC:(1:Int)≤(s.size:Int):=by omega
  rw[show max 0 1=1 from rfl]at e1
  have E1:=hid e1
  have E2:=hid e2
  clear e1 e2
  go_enter Tryz.func81,Tryz.ntmps81
  go_wp2_with fail
  refine(by exact HL.out:Calls _ _ _ _ _).mono ?_
  rintro e w2 ⟨rfl,rfl⟩
  go_wp2_with fail
  go_region
  go_wp2_with fail
  go_ret2
  exact⟨by rw[←E1.out,←E2.out];rfl,(Below.refl _ _).drew⟩
 ·have CC:(1:Int)≤(i:Int):=by omega
  have CD:¬(i:Int)<1:=by omega
  rw[show max i 1=i from by omega]at e1
  have E1:=hid (show s.extract 0 (max (i:Int) 1).toNat=QEc s from by rw[show(max (i:Int) 1).toNat=i from by omega];exact e1)
  have E2:=hid e2
  clear e1 e2 h0
  go_enter Tryz.func81,Tryz.ntmps81
  go_wp2_with fail
  refine(by exact HL.out:Calls _ _ _ _ _).mono ?_
  rintro e w2 ⟨rfl,rfl⟩
  go_wp2_with fail
  go_region
  go_wp2_with fail
  go_ret2
  exact⟨by rw[←E1.out,←E2.out];rfl,(Below.refl _ _).drew⟩
set_option maxRecDepth 100000 in
theorem Q9n(B:Nat)(v:Value)(T:List Qba)(x:Qja)(w:World)(hT:Qda w B v T)(hB:B≤w.heap.size)(hv:Qnc x=true)(kR:x.path.size≤2000000)(KQ:x.name.size≤2000000)(cI:x.value.size≤2000000) :
 Calls Tryz.prog 39 #[.agg #[v],.agg #[.int .i64 x.kind,.string x.path,.string x.name,.string x.value]] w fun e w'=>∃v',e = .returned (.tuple #[.agg #[v'],.int .i64 (Qob T x).2])∧Qda w' B v' (Qob T x).1∧Below w.heap.size w w':=by
 obtain⟨hp,_,hk⟩:=Qsd hv
 obtain⟨k,p,n,u⟩:=x
 simp only at hp hk kR KQ cI
 obtain⟨r,hr⟩:=QMf hp
 replace hk:k=1∨k=2∨k=3:=by rcases hk with⟨h,_⟩|⟨h,_⟩|⟨h,_⟩ <;> omega
 obtain⟨ta,tcap,rfl,_,_⟩:=hT.in.shape
 have HS:=hid (fun wx=>QFo p wx ⟨r,hr⟩ kR)
 have cQ:=hid (fun wx hx=>Qvq (fun g=>B≤g) (.slice ta T.length tcap) T p wx hx)
 have HT:=hid hT
 obtain⟨W0,J4⟩:∃W0,W0=((w.alloc (.cells #[.slice ta T.length tcap] 27)).alloc (.cells #[.int .i64 k,.string p,.string n,.string u] 39)).alloc (.cells #[.slice none 0 0] 27):=⟨_,rfl⟩
 have He:Below w.heap.size w W0:=by rw[J4];exact(((Below.refl _ _).alloc (Nat.le_refl _) _).alloc (by simp) _).alloc (by simp;omega) _
 have kJ:Holds W0 w.heap.size #[.slice ta T.length tcap] 27:=by rw[J4];exact((Holds.new w #[.slice ta T.length tcap] 27).alloc _).alloc _
 have J0:Holds W0 (w.heap.size+1) #[.int .i64 k,.string p,.string n,.string u] 39:=by rw[J4];exact(Holds.newAt (w:=w.alloc (.cells #[.slice ta T.length tcap] 27)) (B:=w.heap.size+1) (by simp) #[.int .i64 k,.string p,.string n,.string u] 39).alloc _
 have GH:Holds W0 (w.heap.size+1+1) #[.slice none 0 0] 27:=by rw[J4];exact Holds.newAt (w:=(w.alloc (.cells #[.slice ta T.length tcap] 27)).alloc (.cells #[.int .i64 k,.string p,.string n,.string u] 39)) (B:=w.heap.size+1+1) (by simp) #[.slice none 0 0] 27
 have GT:=hid J4
 have fP:=hid kJ
 have fH:=hid J0
 have mU:=hid GH
 have G5:=hid He
 have oG:=hid (hT.new He).in
 clear J4 kJ J0 GH He
 cases hf:(Qpb T p).2 with
 | true=>
  rw[show Qpb T p=((Qpb T p).1,true)from by rw[←hf]]at cQ
  rcases hk with rfl|rfl|rfl
  ·have HC:=hid (show Qob T ⟨1,p,n,u⟩=(T,0)from by unfold Qob;rw[if_pos rfl,if_pos hf])
   generalize (Qpb T p).1=fi at *
   clear hf hT hp hv HS
   go_enter Tryz.func39,Tryz.ntmps39
   go_wp2_with fail
   rw[←GT.out]
   refine(by exact cQ.out W0 oG.out:Calls _ _ _ _ _).mono ?_
   rintro e w1 ⟨rfl,Hb⟩
   have H5:=fP.out.keeps (Qaa.of_fresh Hb (fun _=>False)) (fun e=>e)
   have gW:=fH.out.keeps (Qaa.of_fresh Hb (fun _=>False)) (fun e=>e)
   have Hs:=mU.out.keeps (Qaa.of_fresh Hb (fun _=>False)) (fun e=>e)
   have MN:=hid H5
   have mr:=hid gW
   have Ky:=hid Hs
   have HJ:=hid (G5.out.trans (Hb.mono G5.out.size))
   have xa:=H5.cell 0
   have xl:=H5.lt
   have oa:=gW.cell 0
   have ob:=gW.cell 1
   have oc:=gW.cell 2
   have od:=gW.cell 3
   have ol:=gW.lt
   have za:=Hs.cell 0
   have zf:=Hs.free 0
   have zl:=Hs.lt
   clear H5 gW Hs Hb
   have dI:=hid (HT.out.new HJ.out)
   go_wp2_with fail
   have z9:=(Ky.out.set 0 (.slice ta T.length tcap)).cell 0
   exact bodyPost_ret (v:=.tuple #[.agg #[.slice ta T.length tcap],.int .i64 0]) (by simp[results,Tryz.results39,go_sem,z9]) rfl ⟨.slice ta T.length tcap,by rw[HC.out] <;> rfl,by rw[HC.out];exact dI.out.set Ky.out (by decide) (by decide) 0 _,HJ.out.setCell (by simp;omega) _⟩
  ·have HC:=hid (show Qob T ⟨2,p,n,u⟩=QSd T p n u from by unfold Qob;rw[if_neg (show ¬(2:Int)=1 by decide),if_neg (by rw[hf];decide),if_pos rfl])
   have jS:=hid (fun wx hx=>QYr (fun g=>B≤g) (.slice ta T.length tcap) T p n u wx hx (by omega) (by omega))
   unfold Qyd at jS
   generalize QSd T p n u=D at *
   obtain⟨D1,D2⟩:=D
   generalize (Qpb T p).1=fi at *
   clear hf hT hp hv HS
   go_enter Tryz.func39,Tryz.ntmps39
   go_wp2_with fail
   rw[←GT.out]
   refine(by exact cQ.out W0 oG.out:Calls _ _ _ _ _).mono ?_
   rintro e w1 ⟨rfl,Hb⟩
   have H5:=fP.out.keeps (Qaa.of_fresh Hb (fun _=>False)) (fun e=>e)
   have gW:=fH.out.keeps (Qaa.of_fresh Hb (fun _=>False)) (fun e=>e)
   have Hs:=mU.out.keeps (Qaa.of_fresh Hb (fun _=>False)) (fun e=>e)
   have MN:=hid H5
   have mr:=hid gW
   have Ky:=hid Hs
   have HJ:=hid (G5.out.trans (Hb.mono G5.out.size))
   have xa:=H5.cell 0
   have xl:=H5.lt
   have oa:=gW.cell 0
   have ob:=gW.cell 1
   have oc:=gW.cell 2
   have od:=gW.cell 3
   have ol:=gW.lt
   have za:=Hs.cell 0
   have zf:=Hs.free 0
   have zl:=Hs.lt
   clear H5 gW Hs Hb
   have dI:=hid (HT.out.new HJ.out)
   go_wp2_with fail
   refine(by exact jS.out w1 dI.out.in:Calls _ _ _ _ _).mono ?_
   rintro e w2 ⟨v2,rfl,Kw,Hc⟩
   clear xa xl oa ob oc od ol za zf zl
   obtain⟨a2,c2,rfl,_,_⟩:=Kw.in.shape
   have dJ:=hid Kw
   clear Kw
   have GK:=MN.out.keeps (Qaa.of_fresh Hc (fun _=>False)) (fun e=>e)
   have GG:=mr.out.keeps (Qaa.of_fresh Hc (fun _=>False)) (fun e=>e)
   have Hw:=Ky.out.keeps (Qaa.of_fresh Hc (fun _=>False)) (fun e=>e)
   have oP:=hid GK
   have jy:=hid GG
   have KM:=hid Hw
   have GI:=hid (HJ.out.trans (Hc.mono HJ.out.size))
   have xa:=GK.cell 0
   have xl:=GK.lt
   have oa:=GG.cell 0
   have ob:=GG.cell 1
   have oc:=GG.cell 2
   have od:=GG.cell 3
   have ol:=GG.lt
   have za:=Hw.cell 0
   have zf:=Hw.free 0
   have zl:=Hw.lt
   clear GK GG Hw Hc
   go_wp2_with fail
   have z9:=(KM.out.set 0 (.slice a2 D1.length c2)).cell 0
   exact bodyPost_ret (v:=.tuple #[.agg #[.slice a2 D1.length c2],.int .i64 D2]) (by simp[results,Tryz.results39,go_sem,z9]) rfl ⟨.slice a2 D1.length c2,by rw[HC.out] <;> rfl,by rw[HC.out];exact(dJ.out.base (Nat.le_trans hB HJ.out.size)).set KM.out (by decide) (by decide) 0 _,GI.out.setCell (by simp;omega) _⟩
  ·have HC:=hid (show Qob T ⟨3,p,n,u⟩=if (Qxb T p n).2=0 then Qxb T p n else(T,0)from by unfold Qob;rw[if_neg (show ¬(3:Int)=1 by decide),if_neg (by rw[hf];decide),if_neg (show ¬(3:Int)=2 by decide)])
   have jS:=hid (fun wx hx=>Qxm (fun g=>B≤g) (.slice ta T.length tcap) T p n wx hx)
   unfold Qyd at jS
   generalize Qxb T p n=D at *
   obtain⟨D1,D2⟩:=D
   generalize (Qpb T p).1=fi at *
   clear hf hT hp hv HS
   by_cases hd:D2=0
   ·subst hd
    replace HC:=hid (HC.out.trans (if_pos rfl))
    go_enter Tryz.func39,Tryz.ntmps39
    go_wp2_with fail
    rw[←GT.out]
    refine(by exact cQ.out W0 oG.out:Calls _ _ _ _ _).mono ?_
    rintro e w1 ⟨rfl,Hb⟩
    have H5:=fP.out.keeps (Qaa.of_fresh Hb (fun _=>False)) (fun e=>e)
    have gW:=fH.out.keeps (Qaa.of_fresh Hb (fun _=>False)) (fun e=>e)
    have Hs:=mU.out.keeps (Qaa.of_fresh Hb (fun _=>False)) (fun e=>e)
    have MN:=hid H5
    have mr:=hid gW
    have Ky:=hid Hs
    have HJ:=hid (G5.out.trans (Hb.mono G5.out.size))
    have xa:=H5.cell 0
    have xl:=H5.lt
    have oa:=gW.cell 0
    have ob:=gW.cell 1
    have oc:=gW.cell 2
    have od:=gW.cell 3
    have ol:=gW.lt
    have za:=Hs.cell 0
    have zf:=Hs.free 0
    have zl:=Hs.lt
    clear H5 gW Hs Hb
    have dI:=hid (HT.out.new HJ.out)
    go_wp2_with fail
    refine(by exact jS.out w1 dI.out.in:Calls _ _ _ _ _).mono ?_
    rintro e w2 ⟨v2,rfl,Kw,Hc⟩
    clear xa xl oa ob oc od ol za zf zl
    obtain⟨a2,c2,rfl,_,_⟩:=Kw.in.shape
    have dJ:=hid Kw
    clear Kw
    have GK:=MN.out.keeps (Qaa.of_fresh Hc (fun _=>False)) (fun e=>e)
    have GG:=mr.out.keeps (Qaa.of_fresh Hc (fun _=>False)) (fun e=>e)
    have Hw:=Ky.out.keeps (Qaa.of_fresh Hc (fun _=>False)) (fun e=>e)
    have oP:=hid GK
    have jy:=hid GG
    have KM:=hid Hw
    have GI:=hid (HJ.out.trans (Hc.mono HJ.out.size))
    have xa:=GK.cell 0
    have xl:=GK.lt
    have oa:=GG.cell 0
    have ob:=GG.cell 1
    have oc:=GG.cell 2
    have od:=GG.cell 3
    have ol:=GG.lt
    have za:=Hw.cell 0
    have zf:=Hw.free 0
    have zl:=Hw.lt
    clear GK GG Hw Hc
    go_wp2_with fail
    have Hz:=(KM.out.set 0 (.slice a2 D1.length c2)).alloc (.cells #[.slice a2 D1.length c2] 27)
    have z9:=Hz.cell 0
    exact bodyPost_ret (v:=.tuple #[.agg #[.slice a2 D1.length c2],.int .i64 0]) (by simp[results,Tryz.results39,go_sem,z9]) rfl ⟨.slice a2 D1.length c2,by rw[HC.out] <;> rfl,by rw[HC.out];exact((dJ.out.base (Nat.le_trans hB HJ.out.size)).set KM.out (by decide) (by decide) 0 _).new ((Below.refl _ _).alloc (Nat.le_refl _) _),(GI.out.setCell (by simp;omega) _).alloc (by have:=GI.out.size;simpa using this) _⟩
   ·have aB:(D2 == 0)=false:=by simpa using hd
    replace HC:=hid (HC.out.trans (if_neg hd))
    clear hd
    go_enter Tryz.func39,Tryz.ntmps39
    go_wp2_with fail
    rw[←GT.out]
    refine(by exact cQ.out W0 oG.out:Calls _ _ _ _ _).mono ?_
    rintro e w1 ⟨rfl,Hb⟩
    have H5:=fP.out.keeps (Qaa.of_fresh Hb (fun _=>False)) (fun e=>e)
    have gW:=fH.out.keeps (Qaa.of_fresh Hb (fun _=>False)) (fun e=>e)
    have Hs:=mU.out.keeps (Qaa.of_fresh Hb (fun _=>False)) (fun e=>e)
    have MN:=hid H5
    have mr:=hid gW
    have Ky:=hid Hs
    have HJ:=hid (G5.out.trans (Hb.mono G5.out.size))
    have xa:=H5.cell 0
    have xl:=H5.lt
    have oa:=gW.cell 0
    have ob:=gW.cell 1
    have oc:=gW.cell 2
    have od:=gW.cell 3
    have ol:=gW.lt
    have za:=Hs.cell 0
    have zf:=Hs.free 0
    have zl:=Hs.lt
    clear H5 gW Hs Hb
    have dI:=hid (HT.out.new HJ.out)
    go_wp2_with fail
    refine(by exact jS.out w1 dI.out.in:Calls _ _ _ _ _).mono ?_
    rintro e w2 ⟨v2,rfl,Kw,Hc⟩
    clear xa xl oa ob oc od ol za zf zl
    obtain⟨a2,c2,rfl,_,_⟩:=Kw.in.shape
    clear Kw
    have GK:=MN.out.keeps (Qaa.of_fresh Hc (fun _=>False)) (fun e=>e)
    have GG:=mr.out.keeps (Qaa.of_fresh Hc (fun _=>False)) (fun e=>e)
    have Hw:=Ky.out.keeps (Qaa.of_fresh Hc (fun _=>False)) (fun e=>e)
    have oP:=hid GK
    have jy:=hid GG
    have KM:=hid Hw
    have GI:=hid (HJ.out.trans (Hc.mono HJ.out.size))
    have xa:=GK.cell 0
    have xl:=GK.lt
    have oa:=GG.cell 0
    have ob:=GG.cell 1
    have oc:=GG.cell 2
    have od:=GG.cell 3
    have ol:=GG.lt
    have za:=Hw.cell 0
    have zf:=Hw.free 0
    have zl:=Hw.lt
    clear GK GG Hw Hc
    go_wp2_with fail
    have Hz:=(KM.out.set 0 (.slice ta T.length tcap)).alloc (.cells #[.slice a2 D1.length c2] 27)
    have z9:=Hz.cell 0
    exact bodyPost_ret (v:=.tuple #[.agg #[.slice ta T.length tcap],.int .i64 0]) (by simp[results,Tryz.results39,go_sem,z9]) rfl ⟨.slice ta T.length tcap,by rw[HC.out] <;> rfl,by rw[HC.out];exact((HT.out.new GI.out).set KM.out (by decide) (by decide) 0 _).new ((Below.refl _ _).alloc (Nat.le_refl _) _),(GI.out.setCell (by simp;omega) _).alloc (by have:=GI.out.size;simpa using this) _⟩
 | false=>
  rw[show Qpb T p=((Qpb T p).1,false)from by rw[←hf]]at cQ
  rcases hk with rfl|hk
  ·have HC:=hid (show Qob T ⟨1,p,n,u⟩=Q3c T (QEc p) (Q9g p)from by unfold Qob;rw[if_pos rfl,if_neg (by rw[hf];decide)])
   have mQ:(Q9g p).size≤9223372036854775807:=by
    obtain⟨e,_⟩:=Qxg (l:=p.data.toList) (by rw[hr];exact List.mem_cons_self)
    have h1:=congrArg List.length e
    simp only[List.length_append,List.length_cons]at h1
    have h2:p.size=p.data.toList.length:=by simp
    have h3:(Q9g p).size=(QMe p.data.toList).length:=by unfold Q9g;simp[ByteArray.size]
    omega
   have jS:=hid (fun wx hx=>QXr (fun g=>B≤g) (.slice ta T.length tcap) T (QEc p) (Q9g p) wx hx mQ)
   unfold Qyd at jS
   generalize (Qpb T p).1=fi at *
   generalize QEc p=pp at *
   generalize Q9g p=pn at *
   generalize Q3c T pp pn=D at *
   obtain⟨D1,D2⟩:=D
   clear hf hT hp hv mQ
   go_enter Tryz.func39,Tryz.ntmps39
   go_wp2_with fail
   rw[←GT.out]
   refine(by exact cQ.out W0 oG.out:Calls _ _ _ _ _).mono ?_
   rintro e w1 ⟨rfl,Hb⟩
   have H5:=fP.out.keeps (Qaa.of_fresh Hb (fun _=>False)) (fun e=>e)
   have gW:=fH.out.keeps (Qaa.of_fresh Hb (fun _=>False)) (fun e=>e)
   have Hs:=mU.out.keeps (Qaa.of_fresh Hb (fun _=>False)) (fun e=>e)
   have MN:=hid H5
   have mr:=hid gW
   have Ky:=hid Hs
   have HJ:=hid (G5.out.trans (Hb.mono G5.out.size))
   have xa:=H5.cell 0
   have xl:=H5.lt
   have oa:=gW.cell 0
   have ob:=gW.cell 1
   have oc:=gW.cell 2
   have od:=gW.cell 3
   have ol:=gW.lt
   have za:=Hs.cell 0
   have zf:=Hs.free 0
   have zl:=Hs.lt
   clear H5 gW Hs Hb
   have dI:=hid (HT.out.new HJ.out)
   go_wp2_with fail
   refine(by exact HS.out w1:Calls _ _ _ _ _).mono ?_
   rintro e w2 ⟨rfl,Hc⟩
   clear xa xl oa ob oc od ol za zf zl
   have GK:=MN.out.keeps (Qaa.of_fresh Hc (fun _=>False)) (fun e=>e)
   have GG:=mr.out.keeps (Qaa.of_fresh Hc (fun _=>False)) (fun e=>e)
   have Hw:=Ky.out.keeps (Qaa.of_fresh Hc (fun _=>False)) (fun e=>e)
   have oP:=hid GK
   have jy:=hid GG
   have KM:=hid Hw
   have GI:=hid (HJ.out.trans (Hc.mono HJ.out.size))
   have xa:=GK.cell 0
   have xl:=GK.lt
   have oa:=GG.cell 0
   have ob:=GG.cell 1
   have oc:=GG.cell 2
   have od:=GG.cell 3
   have ol:=GG.lt
   have za:=Hw.cell 0
   have zf:=Hw.free 0
   have zl:=Hw.lt
   clear GK GG Hw Hc
   have dJ:=hid (HT.out.new GI.out)
   go_wp2_with fail
   refine(by exact jS.out w2 dJ.out.in:Calls _ _ _ _ _).mono ?_
   rintro e w3 ⟨v3,rfl,JF,Hi⟩
   clear xa xl oa ob oc od ol za zf zl
   obtain⟨a2,c2,rfl,_,_⟩:=JF.in.shape
   have jc:=hid JF
   clear JF
   have ki:=oP.out.keeps (Qaa.of_fresh Hi (fun _=>False)) (fun e=>e)
   have Mx:=jy.out.keeps (Qaa.of_fresh Hi (fun _=>False)) (fun e=>e)
   have Hz:=KM.out.keeps (Qaa.of_fresh Hi (fun _=>False)) (fun e=>e)
   have HX3:=hid ki
   have fI:=hid Mx
   have KN:=hid Hz
   have KK:=hid (GI.out.trans (Hi.mono GI.out.size))
   have xa:=ki.cell 0
   have xl:=ki.lt
   have oa:=Mx.cell 0
   have ob:=Mx.cell 1
   have oc:=Mx.cell 2
   have od:=Mx.cell 3
   have ol:=Mx.lt
   have za:=Hz.cell 0
   have zf:=Hz.free 0
   have zl:=Hz.lt
   clear ki Mx Hz Hi
   go_wp2_with fail
   have z9:=(KN.out.set 0 (.slice a2 D1.length c2)).cell 0
   exact bodyPost_ret (v:=.tuple #[.agg #[.slice a2 D1.length c2],.int .i64 D2]) (by simp[results,Tryz.results39,go_sem,z9]) rfl ⟨.slice a2 D1.length c2,by rw[HC.out] <;> rfl,by rw[HC.out];exact(jc.out.base (Nat.le_trans hB GI.out.size)).set KN.out (by decide) (by decide) 0 _,KK.out.setCell (by simp;omega) _⟩
  ·have gz:k≠1:=by omega
   have eS:(k == 1)=false:=by simpa using gz
   have HC:=hid (show Qob T ⟨k,p,n,u⟩=([],4)from by unfold Qob;rw[if_neg gz,if_pos hf])
   generalize (Qpb T p).1=fi at *
   clear hf hT hp hv HS hk gz
   go_enter Tryz.func39,Tryz.ntmps39
   go_wp2_with fail
   rw[←GT.out]
   refine(by exact cQ.out W0 oG.out:Calls _ _ _ _ _).mono ?_
   rintro e w1 ⟨rfl,Hb⟩
   have H5:=fP.out.keeps (Qaa.of_fresh Hb (fun _=>False)) (fun e=>e)
   have gW:=fH.out.keeps (Qaa.of_fresh Hb (fun _=>False)) (fun e=>e)
   have Hs:=mU.out.keeps (Qaa.of_fresh Hb (fun _=>False)) (fun e=>e)
   have MN:=hid H5
   have mr:=hid gW
   have Ky:=hid Hs
   have HJ:=hid (G5.out.trans (Hb.mono G5.out.size))
   have xa:=H5.cell 0
   have xl:=H5.lt
   have oa:=gW.cell 0
   have ob:=gW.cell 1
   have oc:=gW.cell 2
   have od:=gW.cell 3
   have ol:=gW.lt
   have za:=Hs.cell 0
   have zf:=Hs.free 0
   have zl:=Hs.lt
   clear H5 gW Hs Hb
   have dI:=hid (HT.out.new HJ.out)
   go_wp2_with fail
   have z9:=(Ky.out.set 0 (.slice none 0 0)).cell 0
   exact bodyPost_ret (v:=.tuple #[.agg #[.slice none 0 0],.int .i64 4]) (by simp[results,Tryz.results39,go_sem,z9]) rfl ⟨.slice none 0 0,by rw[HC.out] <;> rfl,by rw[HC.out];exact Qda.nil _ _,HJ.out.setCell (by simp;omega) _⟩
end Go.Proofs.YtgaboghigefgbaaGreatDoor
