/- The law OverlayTwice: its walk (printed by govt2.py). -/
import Derived.Test.YtgaboghigefgbaaGreatDoorZ52
import Derived.Test.YtgaboghigefgbaaGreatDoorZ46
import Derived.Test.YtgaboghigefgbaaGreatDoorZ42
import Derived.Test.YtgaboghigefgbaaGreatDoorZ43
import Derived.Test.YtgaboghigefgbaaGreatDoorZ45
import Derived.Test.YtgaboghigefgbaaGreatDoorZ41
import Derived.Test.YtgaboghigefgbaaGreatDoorZ35
import Derived.Test.YtgaboghigefgbaaGreatDoorZ48
import Derived.Test.YtgaboghigefgbaaGreatDoorZ20
import Derived.Test.YtgaboghigefgbaaGreatDoorZ53
import Derived.Deep.LoopGhost
set_option linter.all false
set_option maxHeartbeats 8000000
namespace Go.Proofs.YtgaboghigefgbaaGreatDoor
open Go.Lib (hid)
open Go.RowKit
theorem same_self{R R':Nat→Prop}{v u:Value}{T:List Qba}{w:World}(h1:Qpa R w v T)(h2:Qpa R' w u T) :
 Calls Tryz.prog 12 #[.agg #[v],.agg #[u]] w fun e w'=>e = .returned (.bool true)∧Below w.heap.size w w':=
 (Qdq R R' v u T T w h1 h2).mono fun e w' ⟨b,he,hb,hw⟩=>⟨by rw[he,hb.2 rfl],hw⟩
def QNl(t q:ByteArray)(d:Qja):Bool:=eqS d.path t && eqS d.name q
theorem Qjr(t q:ByteArray)(l:List Qja){k:Nat}(hk:k<l.length):(l.take (k+1)).any (QNl t q)=((l.take k).any (QNl t q) || QNl t q l[k]):=by
 rw[List.take_succ_eq_append_getElem hk,List.any_append];simp
theorem QOt{t q:ByteArray}{l:List Qja}(h:l.any (QNl t q)=false):∀d∈l,¬(d.path=t∧d.name=q):=by
 intro d hd e
 have h2:=List.any_eq_false.1 h d hd
 exact h2 (by unfold QNl;rw[(Qxa _ _).2 e.1,(Qxa _ _).2 e.2];rfl)
set_option maxRecDepth 100000 in
theorem QAg(a:Option Addr)(len cap:Nat)(w:World)(hi:QVj w a len)(eT:len≤cap)(hcap:cap≤maxLen)(hnil:a=none→len=0∧cap=0)(lay:Qog w) :
 Calls Tryz.prog 3 #[.slice a len cap] w fun e w'=>e = .returned (.bool true)∧Below w.heap.size w w':=by
 go_enter Tryz.func3,Tryz.ntmps3
 go_wp2_with fail
 refine(QHp a len cap _ hi eT hcap hnil).mono ?_
 rintro e w1 ⟨tb,rfl,GE,Hb⟩
 clear hi hnil
 have hB:=GE.1
 have fg:=GE.lt
 go_wp2_with fail
 refine(QQh w.heap.size tb 8 _ (by exact GE) (by omega) (by omega)).mono ?_
 rintro e w2 ⟨v,T,rfl,hR,hs,hl,Gx,gJ⟩
 obtain⟨va,vc,rfl⟩:=hR.slice
 have Hc:Below w.heap.size w w2:=Hb.trans (gJ.below (by omega) (fun i hi e=>by omega))
 have GB:=Hc.size
 have Hw:=Holds.new w2 #[.slice va T.length vc] 27
 obtain⟨W3,MB⟩:∃x,x=w2.alloc (.cells #[.slice va T.length vc] 27):=⟨_,rfl⟩
 rw[←MB]at Hw
 have Mj:Below w2.heap.size w2 W3:=by rw[MB];exact(Below.refl _ _).alloc (Nat.le_refl _) _
 have K0:=hR.new Mj
 have Kj:Qtc w.heap.size W3 tb:=Gx.keeps (Qaa.of_fresh Mj (fun _=>False)) (fun i e=>e.elim)
 have Hi:=Hc.trans (Mj.mono GB)
 have Hm:w2.heap.size≠tb:=by have:=Gx.lt;omega
 have nY:W3.heap.size=w2.heap.size+1:=by rw[MB];simp
 have sS:T.length≤40:=by omega
 clear hR Gx Mj Hb Hc gJ GE
 have dz:=hid (QDd w.heap.size tb _ (.slice va T.length vc) T ⟨#[99,97,112,101]⟩ W3 Kj K0 hs sS)
 have jR:=hid K0
 have jc:=hid Kj
 have KK:=hid Hi
 have KM:=hid Hw
 have HC:=hid hs
 have fO:=hid MB
 clear K0 Kj Hi Hw hs MB hl
 go_wp2_with fail
 rw[←fO.out]
 refine(by exact dz.out:Calls _ _ _ _ _).mono ?_
 rintro e w4 ⟨ev,es,rfl,hE,nW,hes,Mz,gA⟩
 obtain⟨ea,ec,rfl⟩:=Qea hE
 have Hu:=KK.out.trans (gA.below KK.out.size (fun i hi e=>by omega))
 have M1:=Hu.size
 have gY:=KM.out.keeps gA Hm
 have MU:=jR.out.tape jc.out gA
 have HX:=hid (fun wx (k:Below w4.heap.size w4 wx)=>And.intro (MU.new k).in (And.intro ((Qhc hE).new k) (And.intro (lay.keeps (Qaa.of_fresh (Hu.trans (k.mono M1)) (fun _=>False)) (fun e=>e)) (gY.keeps (Qaa.of_fresh k (fun _=>False)) (fun e=>e)))))
 have G6:=hid Hu
 have z4:=gY.cell 0
 have zl4:=gY.lt
 have fM:=hid nW
 clear MU gA Mz hE dz fO jR jc KK KM Hu gY Hm nY lay
 go_wp2_with fail
 obtain⟨W5,uR⟩:∃x,x=w4.alloc (.cells #[.string ⟨#[99,97,112,101]⟩,.slice ea es.length ec] 31):=⟨_,rfl⟩
 have pA:Below w4.heap.size w4 W5:=by rw[uR];exact(Below.refl _ _).alloc (Nat.le_refl _) _
 have ux:=hid (show Holds W5 w4.heap.size #[.string ⟨#[99,97,112,101]⟩,.slice ea es.length ec] 31 from by rw[uR];exact Holds.new w4 _ _)
 obtain⟨BD,Bl,dd,Dt⟩:=HX.out W5 pA
 have hA:=QDc _ (.slice va T.length vc) T ⟨#[99,97,112,101]⟩ (.slice ea es.length ec) es W5 BD Bl (by decide) fM.out (by omega) dd
 obtain⟨C,hC⟩:∃x,x=QMa T ⟨#[99,97,112,101]⟩ es:=⟨_,rfl⟩
 rw[←hC]at hA
 obtain⟨U,ix,er⟩:=C
 simp only at hA
 have HA:=hid hA
 have HE:=hid hC
 have Me:=hid pA
 have Ax:=hid uR
 clear hA hC pA uR BD Bl dd Dt
 go_wp2_with fail
 rw[←Ax.out]
 refine(by exact HA.out:Calls _ _ _ _ _).mono ?_
 rintro e w6 ⟨v6,rfl,uP,gG⟩
 obtain⟨ua,uc,rfl⟩:=uP.slice
 have bL:=Me.out.trans (gG.mono Me.out.size)
 have m6:=bL.size
 obtain⟨W7,eA⟩:∃x,x=w6.alloc (.cells #[.slice ua U.length uc] 27):=⟨_,rfl⟩
 have k5:Below w6.heap.size w6 W7:=by rw[eA];exact(Below.refl _ _).alloc (Nat.le_refl _) _
 have ii:Holds W7 w6.heap.size #[.slice ua U.length uc] 27:=by rw[eA];exact Holds.new w6 _ _
 have kX:=ux.out.keeps (Qaa.of_fresh gG (fun _=>False)) (fun e=>e)
 have xk:=kX.keeps (Qaa.of_fresh k5 (fun _=>False)) (fun e=>e)
 have aD:=bL.trans (k5.mono m6)
 have bC:=uP.new k5
 have oN:=hid eA
 have o0:=kX.cell 0
 have o1:=kX.cell 1
 have ol:=kX.lt
 clear eA k5 gG kX HA Ax z4 zl4
 by_cases her:er=0
 ·have me:=Qsl (T:=T) (n:=⟨#[99,97,112,101]⟩) (l:=es) (by rw[←HE.out];exact her)
  rw[←HE.out]at me
  obtain⟨xR,nc⟩:=me
  simp only at xR nc
  obtain⟨Da,Bn,sR,uv⟩:=HX.out W7 aD
  have hA:=QDc _ (.slice ua U.length uc) U ⟨#[99,97,112,101]⟩ (.slice ea es.length ec) es W7 bC.in Bn (by decide) fM.out (by omega) sR
  rw[nc]at hA
  simp only at hA
  have HA:=hid hA
  have wu:=hid (fun(d:Qja) (hd:d∈es)=>QBo (T:=T) (n:=⟨#[99,97,112,101]⟩) (l:=es) (by rw[←HE.out];exact her) d hd)
  have wv:=hid (fun(i:Nat) (hi:i<T.length)=>QCo (T:=T) (n:=⟨#[99,97,112,101]⟩) (l:=es) (by rw[←HE.out];exact her) i hi)
  rw[←HE.out]at wu wv
  simp only at wu wv
  have Au:=hid (show U.length≤1000 from by have:=(Qeb (QPa xR)).2;omega)
  have Ct:=hid (HX.out W7 aD)
  have wA:=hid bC
  have fR:=hid ii
  have Af:=hid xk
  have cP:=hid aD
  subst her
  clear xR nc Da Bn sR uv hA bC ii xk aD uP bL
  go_wp2_with fail
  rw[←oN.out]
  refine(by exact HA.out:Calls _ _ _ _ _).mono ?_
  rintro e w8 ⟨v8,rfl,wW,kK⟩
  obtain⟨ra,rc,rfl⟩:=wW.slice
  obtain⟨W9,ig⟩:∃x,x=w8.alloc (.cells #[.slice ra U.length rc] 27):=⟨_,rfl⟩
  have Ml:Below w8.heap.size w8 W9:=by rw[ig];exact(Below.refl _ _).alloc (Nat.le_refl _) _
  have eD:=fR.out.keeps (Qaa.of_fresh kK (fun _=>False)) (fun e=>e)
  have c80:=eD.cell 0
  have c8l:=eD.lt
  have dH:=hid (same_self (wA.out.new (kK.trans (Ml.mono kK.size))).in (wW.new Ml).in)
  have i9:=hid (cP.out.trans ((kK.trans (Ml.mono kK.size)).mono cP.out.size))
  have cT:=hid (eD.keeps (Qaa.of_fresh Ml (fun _=>False)) (fun e=>e))
  have Ah:=hid ((Af.out.keeps (Qaa.of_fresh kK (fun _=>False)) (fun e=>e)).keeps (Qaa.of_fresh Ml (fun _=>False)) (fun e=>e))
  have qI:=hid (wA.out.new (kK.trans (Ml.mono kK.size)))
  have oO:=hid ig
  clear ig Ml eD wW kK HA wA fR Af cP oN Ct o0 o1 ol
  go_wp2_with fail
  rw[←oO.out]
  refine(by exact dH.out:Calls _ _ _ _ _).mono ?_
  rintro e w10 ⟨rfl,Gr⟩
  have KW:=hid (i9.out.trans (Gr.mono i9.out.size))
  have je:=cT.out.keeps (Qaa.of_fresh Gr (fun _=>False)) (fun e=>e)
  have my:=Ah.out.keeps (Qaa.of_fresh Gr (fun _=>False)) (fun e=>e)
  have rx:=qI.out.new Gr
  have HY:=hid (fun wx (k:Below w10.heap.size w10 wx)=>And.intro (rx.new k).in (And.intro (je.keeps (Qaa.of_fresh k (fun _=>False)) (fun e=>e)) (And.intro (my.keeps (Qaa.of_fresh k (fun _=>False)) (fun e=>e)) (HX.out wx (KW.out.trans (k.mono KW.out.size))))))
  have o0:=my.cell 0
  have o1:=my.cell 1
  have ol:=my.lt
  have aZ:=hid (Below.refl w10.heap.size w10)
  clear Gr je my rx dH i9 cT Ah qI oO c80 c8l
  go_wp2_with fail
  go_loopg [65] es.length (fun f x wr=>∃k:Nat,x = .int .i64 k∧k≤es.length∧es.length≤k+f∧Hid (Below w10.heap.size w10 wr))
  case atStart=>exact⟨0,rfl,by omega,by omega,aZ⟩
  case round=>
   obtain⟨k,rfl,hk,hf,HB⟩:=hrel
   clear o0 o1 ol
   by_cases Hh:k<es.length
   ·have k8:(k:Int)<(es.length:Int):=by omega
    obtain⟨_,_,_,_,iq,_,_⟩:=HY.out wr HB.out
    obtain⟨g,o,e1,hg,H7⟩:=Qwc iq (by omega)
    obtain⟨d0,d1,d2,d3⟩:=H7 k Hh
    have hsz:=fM.out _ (List.getElem_mem Hh)
    obtain⟨q,hq,aE,Kw,JF⟩:=wu.out es[k] (List.getElem_mem Hh)
    clear iq H7
    generalize es[k]=x at *
    obtain⟨kd,xp,xn,xv⟩:=x
    simp only at d0 d1 d2 d3 hsz aE Kw JF
    have oC:=hid e1
    obtain⟨W11,MA⟩:∃x,x=wr.alloc (.cells #[.int .i64 kd,.string xp,.string xn,.string xv] 39):=⟨_,rfl⟩
    have jk:Below wr.heap.size wr W11:=by rw[MA];exact(Below.refl _ _).alloc (Nat.le_refl _) _
    have qb:=hid (show Holds W11 wr.heap.size #[.int .i64 kd,.string xp,.string xn,.string xv] 39 from by rw[MA];exact Holds.new wr _ _)
    have M6:=hid (HB.out.trans (jk.mono HB.out.size))
    obtain⟨cE,_,_,_⟩:=HY.out W11 M6.out
    have u4:=QSk _ (.slice ua U.length uc) U xp W11 cE
    rw[aE]at u4
    have ql:=hid u4
    have bd:=hid MA
    obtain⟨_,JL,_,_⟩:=HY.out wr HB.out
    have u0:=JL.cell 0
    have ul:=JL.lt
    have HQ:=hid hq
    have dJ:=hid Kw
    have jc:=hid JF
    clear u4 cE MA jk JL aE Kw JF
    subst e1
    go_wp2_with fail
    rw[←bd.out]
    refine(by exact ql.out:Calls _ _ _ _ _).mono ?_
    rintro e w12 ⟨rfl,MC⟩
    have mS:=hid (M6.out.trans (MC.mono M6.out.size))
    have lI:=qb.out.keeps (Qaa.of_fresh MC (fun _=>False)) (fun e=>e)
    obtain⟨cE,MM,_,_⟩:=HY.out w12 mS.out
    have cF:=cE.mono (R':=fun _=>True) (fun _ _=>trivial)
    obtain⟨ug,uo,upa,upc,eu,Dq,n0,n1,n2,cG,_,_,_,_,_⟩:=cF.at q hq
    obtain⟨rv,rb,JB⟩:∃a b,ofT U[q].props xn=(a,b):=⟨_,_,rfl⟩
    have dJ:=hid (fun h=>JB.symm.trans (dJ.out h))
    have jc:=hid (fun h=>(congrArg Prod.snd JB).symm.trans (jc.out h))
    have mi:Qns w6.heap.size ug uo U.length uc q wr.heap.size 2 xn U[q].parent U[q].name upa U[q].props.length upc U[q].props w12:=⟨by rw[←eu];exact MM.cell 0,n0,n1,n2,lI.cell 2,cG⟩
    have li:=hid mi
    have qq:=hid JB
    have qd:=hid lI
    have BZ:=hid eu
    clear n0 n1 n2 cG MM cE cF JB mi lI MC ql d0 d1 d2 d3 u0 ul bd eu
    go_upto_region 16 with fail
    refine wp_region_any (by kernel_rfl) ?_
    refine Q5a (ops':=QBi) (by kernel_rfl) ?_
    refine Q8l w6.heap.size ug uo U.length uc q wr.heap.size xn _ _ upa _ upc U[q].props rv rb w12 _ _ rfl qq.out HQ.out (by have:=Au.out;omega) rfl rfl rfl li.out ((Below.refl _ w12).drew) ?_
    intro c w13 Ga jB oR mY
    obtain⟨y16,y17,y78,y79,y80,y81,y82,y83,y84,y85,y86,y87,y88,rfl⟩:=Ga.ex [16,17,78,79,80,81,82,83,84,85,86,87,88] (by kernel_rfl)
    simp only[List.setIfInBounds_toArray,List.set_cons_zero,List.set_cons_succ]at jB oR ⊢
    have e16:y16 = .string rv:=jB
    have e17:y17 = .bool rb:=oR
    subst e16 e17
    have iZ:=hid (mS.out.trans (mY.mono mS.out.size))
    have JX:=qd.out.keeps (Qaa.of_fresh mY (fun _=>False)) (fun e=>e)
    have x0:=JX.cell 0
    have x1:=JX.cell 1
    have x2:=JX.cell 2
    have x3:=JX.cell 3
    have xl:=JX.lt
    clear jB oR Ga mY JX qd li qq BZ mS qb M6
    by_cases k2:kd=2
    ·subst k2
     have h:=dJ.out rfl
     simp only[Prod.mk.injEq]at h
     obtain⟨rfl,rfl⟩:=h
     go_wp2_with fail
     go_roundg (gk-1)
     case measure=>omega
     case rel=>exact⟨k+1,by go_num,by omega,by omega,iZ⟩
    ·by_cases k3:kd=3
     ·subst k3
      have h:rb=false:=jc.out rfl
      subst h
      go_wp2_with fail
      go_roundg (gk-1)
      case measure=>omega
      case rel=>exact⟨k+1,by go_num,by omega,by omega,iZ⟩
     ·have b2:(kd == 2)=false:=by rw[beq_eq_false_iff_ne];exact k2
      have b3:(kd == 3)=false:=by rw[beq_eq_false_iff_ne];exact k3
      clear k2 k3
      go_wp2_with fail
      go_roundg (gk-1)
      case measure=>omega
      case rel=>exact⟨k+1,by go_num,by omega,by omega,iZ⟩
   ·have k8:¬(k:Int)<(es.length:Int):=by omega
    obtain⟨_,_,_,_,_,_,ht⟩:=HY.out wr HB.out
    have t0:=ht.cell 0
    have tl:=ht.lt
    clear ht
    go_wp2_with fail
    obtain⟨wq,rfl⟩:∃x:World,x=wr:=⟨_,rfl⟩
    obtain⟨gq,rfl⟩:∃x:Nat,x=gk:=⟨_,rfl⟩
    clear t0 tl k8
    go_loopg [114] T.length (fun f x wr=>∃i:Nat,x = .int .i64 i∧i≤T.length∧T.length≤i+f∧Hid (Below w10.heap.size w10 wr))
    case atStart=>exact⟨0,rfl,by omega,by omega,HB⟩
    case round=>
     obtain⟨i,rfl,hi,u4,pY⟩:=hrel
     by_cases Hh:i<T.length
     ·have eV:(i:Int)<(T.length:Int):=by omega
      obtain⟨_,JL,_,jK,_,_,mq⟩:=HY.out wr pY.out
      have tD:=jK.mono (R':=fun _=>True) (fun _ _=>trivial)
      obtain⟨tg,tto,tpa,tpc,et,htg,n0,n1,n2,aq,_,_,_,_,_⟩:=tD.at i Hh
      obtain⟨q,hq,aE,ku⟩:=wv.out i Hh
      have nO:=Q0p HC.out Hh
      generalize QQa T i=pt at *
      generalize T[i]=nd at *
      obtain⟨np,nn,nps⟩:=nd
      simp only at n0 n1 n2 aq ku
      obtain⟨W21,eh⟩:∃x,x=wr.alloc (.cells #[.int .i64 np,.string nn,.slice tpa nps.length tpc] 46):=⟨_,rfl⟩
      have nH:Below wr.heap.size wr W21:=by rw[eh];exact(Below.refl _ _).alloc (Nat.le_refl _) _
      have qe:=hid (show Holds W21 wr.heap.size #[.int .i64 np,.string nn,.slice tpa nps.length tpc] 46 from by rw[eh];exact Holds.new wr _ _)
      have dm:=hid (pY.out.trans (nH.mono pY.out.size))
      have fb:=Qbi _ (.slice va T.length vc) T (i:Int) W21 (HY.out W21 dm.out).2.2.2.1
      rw[nO]at fb
      have uA:=hid fb
      have qL:=hid eh
      have qu:=hid (aq.new nH)
      have t0:=mq.cell 0
      have tl:=mq.lt
      have HQ:=hid hq
      have cQ:=hid aE
      have jQ:=hid ku
      clear fb eh nH nO aE ku aq jK tD mq JL
      subst et
      go_wp2_with fail
      rw[←qL.out]
      refine(by exact uA.out:Calls _ _ _ _ _).mono ?_
      rintro e w22 ⟨rfl,eE⟩
      have dr:=hid (dm.out.trans (eE.mono dm.out.size))
      obtain⟨uq,oj,_,_⟩:=HY.out w22 dr.out
      have nD:=QSk _ (.slice ua U.length uc) U pt w22 uq
      rw[cQ.out]at nD
      have ql:=hid nD
      have u0:=oj.cell 0
      have ul:=oj.lt
      have qg:=hid (qe.out.keeps (Qaa.of_fresh eE (fun _=>False)) (fun e=>e))
      have qv:=hid (qu.out.new eE)
      clear uq oj nD eE qe qu uA qL dm t0 tl n0 n1 n2
      go_wp2_with fail
      refine(by exact ql.out:Calls _ _ _ _ _).mono ?_
      rintro e w23 ⟨rfl,eF⟩
      have dt:=hid (dr.out.trans (eF.mono dr.out.size))
      have lJ:=qg.out.keeps (Qaa.of_fresh eF (fun _=>False)) (fun e=>e)
      have wa:=hid (qv.out.new eF)
      have x2:=lJ.cell 2
      have xl:=lJ.lt
      have wh:=hid (Below.refl w23.heap.size w23)
      clear eF qg qv dr u0 ul lJ ql
      go_wp2_with fail
      obtain⟨wo,rfl⟩:∃x:World,x=wr:=⟨_,rfl⟩
      obtain⟨go,rfl⟩:∃x:Nat,x=gk:=⟨_,rfl⟩
      clear x2 xl
      go_loopg [133] nps.length (fun f x wr=>∃m:Nat,x = .int .i64 m∧m≤nps.length∧nps.length≤m+f∧Hid (Below w23.heap.size w23 wr))
      case atStart=>exact⟨0,rfl,by omega,by omega,wh⟩
      case round=>
       obtain⟨m,rfl,hm,Br,pZ⟩:=hrel
       by_cases Mo:m<nps.length
       ·have ti:(m:Int)<(nps.length:Int):=by omega
        have fB:=hid (dt.out.trans (pZ.out.mono dt.out.size))
        obtain⟨pg,po,ep,iJ,p0,p1,_,_⟩:=(wa.out.new pZ.out).at m Mo
        have uz:=hid (jQ.out nps[m] (List.getElem_mem Mo))
        generalize nps[m]=pp at *
        obtain⟨pn,pv⟩:=pp
        simp only at p0 p1 uz
        obtain⟨_,_,Jb,_⟩:=HY.out wr fB.out
        have o0:=Jb.cell 0
        have o1:=Jb.cell 1
        have ol:=Jb.lt
        obtain⟨W31,ew⟩:∃x,x=wr.alloc (.cells #[.string pn,.string pv] 49):=⟨_,rfl⟩
        have nI:Below wr.heap.size wr W31:=by rw[ew];exact(Below.refl _ _).alloc (Nat.le_refl _) _
        have qh:=hid (show Holds W31 wr.heap.size #[.string pn,.string pv] 49 from by rw[ew];exact Holds.new wr _ _)
        have du:=hid (fB.out.trans (nI.mono fB.out.size))
        have wi:=hid (show Below W31.heap.size W31 (wr.alloc (.cells #[.string pn,.string pv] 49))from by rw[ew];exact Below.refl _ _)
        have qm:=hid (pZ.out.trans (nI.mono pZ.out.size))
        clear Jb nI ew
        subst ep
        go_wp2_with fail
        obtain⟨wm,rfl⟩:∃x:World,x=wr:=⟨_,rfl⟩
        obtain⟨gm,rfl⟩:∃x:Nat,x=gk:=⟨_,rfl⟩
        clear o0 o1 ol p0 p1 ti
        go_loopg [25,140] es.length (fun f x y wr=>∃j:Nat,x = .bool ((es.take j).any (QNl pt pn))∧y = .int .i64 j∧j≤es.length∧es.length≤j+f∧Hid (Below W31.heap.size W31 wr))
        case atStart=>exact⟨0,by simp,rfl,by omega,by omega,wi⟩
        case round=>
         obtain⟨j,rfl,rfl,hj,sf,i6⟩:=hrel
         by_cases hlj:j<es.length
         ·have eV:(j:Int)<(es.length:Int):=by omega
          have fC:=hid (du.out.trans (i6.out.mono du.out.size))
          obtain⟨_,_,_,_,iq,_,_⟩:=HY.out wr fC.out
          obtain⟨g,o,e1,hg,H7⟩:=Qwc iq (by omega)
          obtain⟨d0,d1,d2,d3⟩:=H7 j hlj
          have HN:=hid (Qjr pt pn es hlj)
          clear iq H7
          generalize es[j]=x at *
          obtain⟨kd,xp,xn,xv⟩:=x
          simp only at d0 d1 d2 d3 HN
          have dj:=hid (i6.out.alloc i6.out.size (.cells #[.int .i64 kd,.string xp,.string xn,.string xv] 39))
          have cV:=qh.out.keeps (Qaa.of_fresh i6.out (fun _=>False)) (fun e=>e)
          have x0:=cV.cell 0
          have xl:=cV.lt
          clear cV
          generalize Gs:(es.take j).any (QNl pt pn)=b at HN ⊢
          have pW:=hid Gs
          clear Gs
          subst e1
          cases b with
          | true=>
           have lj:=hid (show(es.take (j+1)).any (QNl pt pn)=true from by rw[HN.out];rfl)
           go_wp2_with fail
           go_roundg (gk-1)
           case measure=>omega
           case rel=>exact⟨j+1,by rw[lj.out],by go_num,by omega,by omega,dj⟩
          | false=>
           cases hp:eqS xp pt with
           | false=>
            have lj:=hid (show(es.take (j+1)).any (QNl pt pn)=false from by rw[HN.out];unfold QNl;simp only;rw[hp];rfl)
            have mE:(xp.toList == pt.toList)=false:=hp
            clear hp
            go_wp2_with fail
            go_roundg (gk-1)
            case measure=>omega
            case rel=>exact⟨j+1,by rw[lj.out],by go_num,by omega,by omega,dj⟩
           | true=>
            cases kT:eqS xn pn with
            | false=>
             have lj:=hid (show(es.take (j+1)).any (QNl pt pn)=false from by rw[HN.out];unfold QNl;simp only;rw[hp,kT];rfl)
             have mE:(xp.toList == pt.toList)=true:=hp
             have De:(xn.toList == pn.toList)=false:=kT
             clear hp kT
             go_wp2_with fail
             go_roundg (gk-1)
             case measure=>omega
             case rel=>exact⟨j+1,by rw[lj.out],by go_num,by omega,by omega,dj⟩
            | true=>
             have lj:=hid (show(es.take (j+1)).any (QNl pt pn)=true from by rw[HN.out];unfold QNl;simp only;rw[hp,kT];rfl)
             have mE:(xp.toList == pt.toList)=true:=hp
             have De:(xn.toList == pn.toList)=true:=kT
             clear hp kT
             go_wp2_with fail
             go_roundg (gk-1)
             case measure=>omega
             case rel=>exact⟨j+1,by rw[lj.out],by go_num,by omega,by omega,dj⟩
         ·have eV:¬(j:Int)<(es.length:Int):=by omega
          obtain rfl:j=es.length:=by omega
          rw[List.take_length]
          have fC:=hid (du.out.trans (i6.out.mono du.out.size))
          have dw:=hid (qm.out.trans (i6.out.mono qm.out.size))
          have cV:=qh.out.keeps (Qaa.of_fresh i6.out (fun _=>False)) (fun e=>e)
          obtain⟨cE,zJ,_,_⟩:=HY.out wr fC.out
          have cF:=cE.mono (R':=fun _=>True) (fun _ _=>trivial)
          have hq:=HQ.out
          obtain⟨ug,uo,upa,upc,eu,Dq,n0,n1,n2,cG,_,_,_,_,_⟩:=cF.at q hq
          obtain⟨rv,rb,JB⟩:∃a b,ofT U[q].props pn=(a,b):=⟨_,_,rfl⟩
          have uz:=hid (fun h=>JB.symm.trans (uz.out h))
          have mi:Qns w6.heap.size ug uo U.length uc q wm.heap.size 0 pn U[q].parent U[q].name upa U[q].props.length upc U[q].props wr:=⟨by rw[←eu];exact zJ.cell 0,n0,n1,n2,cV.cell 0,cG⟩
          have li:=hid mi
          have qq:=hid JB
          have zR:=hid cV
          generalize Gs:es.any (QNl pt pn)=b
          have pW:=hid Gs
          clear n0 n1 n2 cG zJ cE cF JB mi cV eu Gs
          go_upto_region 36 with fail
          refine wp_region_any (by kernel_rfl) ?_
          refine Q5a (ops':=QCi) (by kernel_rfl) ?_
          refine Q9l w6.heap.size ug uo U.length uc q wm.heap.size pn _ _ upa _ upc U[q].props rv rb wr _ _ rfl qq.out HQ.out (by have:=Au.out;omega) rfl rfl rfl li.out ((Below.refl _ wr).drew) ?_
          intro c w5 Ga qS wF H9
          obtain⟨y28,y29,y159,y160,y161,y162,y163,y164,y165,y166,y167,y168,y169,rfl⟩:=Ga.ex [28,29,159,160,161,162,163,164,165,166,167,168,169] (by kernel_rfl)
          simp only[List.setIfInBounds_toArray,List.set_cons_zero,List.set_cons_succ]at qS wF ⊢
          have e28:y28 = .string rv:=qS
          have e29:y29 = .bool rb:=wF
          subst e28 e29
          have cR:=hid (dw.out.trans (H9.mono dw.out.size))
          have dN:=zR.out.keeps (Qaa.of_fresh H9 (fun _=>False)) (fun e=>e)
          have x0:=dN.cell 0
          have x1:=dN.cell 1
          have xl:=dN.lt
          clear qS wF Ga H9 dN zR li qq eV
          cases b with
          | true=>
           go_wp2_with fail
           go_roundg (gm-1)
           case measure=>omega
           case rel=>exact⟨m+1,by go_num,by omega,by omega,cR⟩
          | false=>
           have h:=uz.out (QOt pW.out)
           simp only[Prod.mk.injEq]at h
           obtain⟨rfl,rfl⟩:=h
           go_wp2_with fail
           go_roundg (gm-1)
           case measure=>omega
           case rel=>exact⟨m+1,by go_num,by omega,by omega,cR⟩
       ·have ti:¬(m:Int)<(nps.length:Int):=by omega
        have fB:=hid (dt.out.trans (pZ.out.mono dt.out.size))
        go_wp2_with fail
        go_roundg (go-1)
        case measure=>omega
        case rel=>exact⟨i+1,by go_num,by omega,by omega,fB⟩
     ·have eV:¬(i:Int)<(T.length:Int):=by omega
      have KJ:=hid (QQb wr (HY.out wr pY.out).2.2.2.2.2.1)
      have zV:=hid (KW.out.trans (pY.out.mono KW.out.size))
      go_wp2_with fail
      refine(by exact KJ.out:Calls _ _ _ _ _).mono ?_
      rintro e wz ⟨rfl,KB⟩
      have jN:=hid (zV.out.trans (KB.mono zV.out.size))
      clear KB KJ
      go_wp2_with fail
      exact bodyPost_ret (v:=.bool true) (by simp[results,Tryz.results3,go_sem]) rfl ⟨rfl,G6.out.trans (jN.out.mono G6.out.size)⟩
 ·have Bp:(er != 0)=true:=by simpa using her
  have KJ:=hid (QQb W7 (HX.out W7 aD).2.2.1)
  have cP:=hid aD
  clear her aD uP bL ii xk bC o0 o1 ol
  go_wp2_with fail
  rw[←oN.out]
  refine(by exact KJ.out:Calls _ _ _ _ _).mono ?_
  rintro e wz ⟨rfl,KB⟩
  have jN:=hid (cP.out.trans (KB.mono cP.out.size))
  clear KB KJ
  go_wp2_with fail
  exact bodyPost_ret (v:=.bool true) (by simp[results,Tryz.results3,go_sem]) rfl ⟨rfl,G6.out.trans (jN.out.mono G6.out.size)⟩
end Go.Proofs.YtgaboghigefgbaaGreatDoor
