/- The law OverlayCommute: its walk (printed by govo2.py). -/
import Derived.Test.YtgaboghigefgbaaGreatDoorZ50
import Derived.Test.YtgaboghigefgbaaGreatDoorZ46
import Derived.Test.YtgaboghigefgbaaGreatDoorZ42
import Derived.Test.YtgaboghigefgbaaGreatDoorZ43
import Derived.Test.YtgaboghigefgbaaGreatDoorZ45
import Derived.Test.YtgaboghigefgbaaGreatDoorZ47
import Derived.Test.YtgaboghigefgbaaGreatDoorZ41
import Derived.Test.YtgaboghigefgbaaGreatDoorZ35
import Derived.Test.YtgaboghigefgbaaGreatDoorZ48
set_option linter.all false
set_option maxHeartbeats 8000000
namespace Go.Proofs.YtgaboghigefgbaaGreatDoor
open Go.Lib (hid)
open Go.RowKit
theorem same_self{R R':Nat→Prop}{v u:Value}{T:List Qba}{w:World}(h1:Qpa R w v T)(h2:Qpa R' w u T) :
 Calls Tryz.prog 12 #[.agg #[v],.agg #[u]] w fun e w'=>e = .returned (.bool true)∧Below w.heap.size w w':=
 (Qdq R R' v u T T w h1 h2).mono fun e w' ⟨b,he,hb,hw⟩=>⟨by rw[he,hb.2 rfl],hw⟩
theorem Q9r{s:ByteArray}(h:eqS s ⟨#[]⟩=false):(s.toList == [])=false:=by
 have h2:(s.toList == (⟨#[]⟩:ByteArray).toList)=false:=h
 rw[show(⟨#[]⟩:ByteArray).toList=[]from by rw[ByteArray.toList_eq]]at h2;exact h2
set_option maxRecDepth 100000 in
theorem QLf(a:Option Addr)(len cap:Nat)(w:World)(hi:QVj w a len)(eT:len≤cap)(hcap:cap≤maxLen)(hnil:a=none→len=0∧cap=0)(lay:Qog w) :
 Calls Tryz.prog 4 #[.slice a len cap] w fun e w'=>e = .returned (.bool true)∧Below w.heap.size w w':=by
 go_enter Tryz.func4,Tryz.ntmps4
 go_wp2_with fail
 refine(QHp a len cap _ hi eT hcap hnil).mono ?_
 rintro e w1 ⟨tb,rfl,GE,Hb⟩
 clear hi hnil
 have hB:=GE.1
 have fg:=GE.lt
 go_wp2_with fail
 refine(QQh w.heap.size tb 6 _ (by exact GE) (by omega) (by omega)).mono ?_
 rintro e w2 ⟨v,T,rfl,hR,hs,hl,Gx,gJ⟩
 obtain⟨va,vc,rfl⟩:=hR.slice
 have Hc:Below w.heap.size w w2:=Hb.trans (gJ.below (by omega) (fun i hi e=>by omega))
 have GB:=Hc.size
 have Hw:=Holds.new w2 #[.slice va T.length vc] 27
 obtain⟨W3,MB⟩:∃x,x=w2.alloc (.cells #[.slice va T.length vc] 27):=⟨_,rfl⟩
 rw[←MB]at Hw
 have Mj:Below w2.heap.size w2 W3:=by rw[MB];exact(Below.refl _ _).alloc (Nat.le_refl _) _
 have K0:=hR.new Mj
 have Kj:Qtc w.heap.size W3 tb:=Gx.keeps (Qaa.of_fresh Mj (fun _=>False)) (fun i e=>e.elim)
 have Hi:=Hc.trans (Mj.mono GB)
 have Hm:w2.heap.size≠tb:=by have:=Gx.lt;omega
 have sS:T.length≤40:=by omega
 clear hR Gx Mj Hb Hc gJ GE
 have jR:=hid K0
 have jc:=hid Kj
 have KK:=hid Hi
 have KM:=hid Hw
 have HC:=hid hs
 have fO:=hid MB
 clear K0 Kj Hi Hw hs MB hl
 go_upto_region 3 with fail
 rw[←fO.out]
 refine wp_region_any (by kernel_rfl) ?_
 refine Q5a (ops':=QDe) (by kernel_rfl) ?_
 have kd:Qaa (fun _=>False) W3 W3.drew:=(Qaa.refl _ W3).drew
 refine Qao w.heap.size tb w2.heap.size w1.heap.size (.slice va T.length vc) T W3.drew _ rfl (jc.out.keeps kd (fun i e=>e.elim)) (jR.out.keeps kd (fun g e=>e.elim)) HC.out sS (KM.out.keeps kd (fun e=>e)) Hm ⟨_,_,_,rfl⟩ rfl rfl ?_
 intro c w4 ev1 ev2 es1 es2 x y Ga h5 h6 hE
 obtain⟨Hx,ue,sY⟩:=hE.r1 rfl
 obtain⟨gd,uf,yG⟩:=hE.r2 rfl
 obtain⟨jL,hx2⟩:=hE.x1 rfl
 obtain⟨de,cK⟩:=hE.y1 rfl
 replace hx2:Holds w4 x #[.string ⟨#[99,97,112,101]⟩,ev1] 31:=hx2
 replace cK:Holds w4 y #[.string ⟨#[104,97,116]⟩,ev2] 31:=cK
 obtain⟨fa,fc,rfl⟩:=Qea Hx
 obtain⟨ga,gc,rfl⟩:=Qea gd
 have gA:Qaa (· = tb) W3 w4:=Qaa.trans (kd.mono (fun _ _ e=>e.elim)) hE.k (fun i _ e=>e)
 have Hu:=KK.out.trans (gA.below KK.out.size (fun i hi e=>by omega))
 have M1:=Hu.size
 have MU:=jR.out.tape jc.out gA
 have gY:=KM.out.keeps gA Hm
 have HX:=hid (fun wx (k:Below w4.heap.size w4 wx)=>And.intro (MU.new k).in (And.intro ((Qhc Hx).new k) (And.intro ((Qhc gd).new k) (And.intro (lay.keeps (Qaa.of_fresh (Hu.trans (k.mono M1)) (fun _=>False)) (fun e=>e)) (And.intro (gY.keeps (Qaa.of_fresh k (fun _=>False)) (fun e=>e)) (And.intro (hx2.keeps (Qaa.of_fresh k (fun _=>False)) (fun e=>e)) (cK.keeps (Qaa.of_fresh k (fun _=>False)) (fun e=>e))))))))
 have G6:=hid Hu
 have dF:=hid ue
 have dG:=hid uf
 have fC:=hid (Below.refl w4.heap.size w4)
 obtain⟨y5,y6,y27,y28,y29,y30,y31,y32,rfl⟩:=Ga.ex [5,6,27,28,29,30,31,32] (by kernel_rfl)
 simp only[List.setIfInBounds_toArray,List.set_cons_zero,List.set_cons_succ]at h5 h6 ⊢
 have e5:y5 = .pointer (some ⟨x,0,none⟩):=h5
 have e6:y6 = .pointer (some ⟨y,0,none⟩):=h6
 subst e5 e6
 clear h5 h6 Ga hE Hx gd ue uf jL hx2 de cK gA Hu MU gY kd jR jc KK KM fO lay
 obtain⟨C,hC⟩:∃q,q=Qgc ⟨#[99,97,112,101]⟩ es1 ⟨#[104,97,116]⟩ es2:=⟨_,rfl⟩
 obtain⟨yS,rY,su,tm,ou,fk,fu⟩:=HX.out w4 fC.out
 have xcw4:=fk.cell 0
 have xdw4:=fk.cell 1
 have xlw4:=fk.lt
 have ycw4:=fu.cell 0
 have ydw4:=fu.cell 1
 have ylw4:=fu.lt
 have zcw4:=ou.cell 0
 have zlw4:=ou.lt
 clear ou fk fu
 have fV:=Q3h ⟨#[99,97,112,101]⟩ (.slice fa es1.length fc) es1 ⟨#[104,97,116]⟩ (.slice ga es2.length gc) es2 w4 rY su (by decide) (by decide) dF.out dG.out (by omega) (by omega) tm
 rw[←hC]at fV
 have ma:=hid fV
 have zQ:=hid hC
 clear fV hC yS rY su tm
 obtain⟨c1,c2,c3⟩:=C
 go_wp2_with fail
 refine(by exact ma.out:Calls _ _ _ _ _).mono ?_
 rintro e w5 ⟨rfl,pA⟩
 have Me:=hid pA
 clear pA ma xcw4 xdw4 xlw4 ycw4 ydw4 ylw4 zcw4 zlw4
 obtain⟨nM,eM,nF,eW,ow,fm,fv⟩:=HX.out w5 Me.out
 have xcw5:=fm.cell 0
 have xdw5:=fm.cell 1
 have xlw5:=fm.lt
 have ycw5:=fv.cell 0
 have ydw5:=fv.cell 1
 have ylw5:=fv.lt
 have zcw5:=ow.cell 0
 have zlw5:=ow.lt
 clear ow fm fv
 cases c3 with
 | true=>
  obtain⟨gz,gJ,Hy⟩:=Qvn (na:=⟨#[99,97,112,101]⟩) (nb:=⟨#[104,97,116]⟩) (a:=es1) (b:=es2) (by rw[←zQ.out])
  have fV:=Q3h ⟨#[104,97,116]⟩ (.slice ga es2.length gc) es2 ⟨#[99,97,112,101]⟩ (.slice fa es1.length fc) es1 w5 nF eM (by decide) (by decide) dG.out dF.out (by omega) (by omega) eW
  generalize Qgc ⟨#[104,97,116]⟩ es2 ⟨#[99,97,112,101]⟩ es1=D at gz gJ Hy fV
  obtain⟨d1,d2,d3⟩:=D
  obtain rfl:d3=true:=gz
  simp only at gJ Hy fV
  have q1:=Q9r gJ
  have q2:=Q9r Hy
  have ma:=hid fV
  clear fV gJ Hy nM eM nF eW
  go_wp2_with fail
  refine(by exact ma.out:Calls _ _ _ _ _).mono ?_
  rintro e w6 ⟨rfl,bL⟩
  have aW:=hid (Me.out.trans (bL.mono Me.out.size))
  have KJ:=hid (QQb w6 (HX.out w6 aW.out).2.2.2.1)
  clear bL ma xcw5 xdw5 xlw5 ycw5 ydw5 ylw5 zcw5 zlw5
  go_wp2_with fail
  refine(by exact KJ.out:Calls _ _ _ _ _).mono ?_
  rintro e wz ⟨rfl,KB⟩
  have jN:=hid (aW.out.trans (KB.mono aW.out.size))
  clear KB KJ
  go_wp2_with fail
  exact bodyPost_ret (v:=.bool true) (by simp[results,Tryz.results4,go_sem]) rfl ⟨rfl,G6.out.trans (jN.out.mono G6.out.size)⟩
 | false=>
  have gV:=QDc _ (.slice va T.length vc) T ⟨#[99,97,112,101]⟩ (.slice fa es1.length fc) es1 w5 nM eM (by decide) dF.out (by omega) eW
  obtain⟨A1,lz⟩:∃q,q=QMa T ⟨#[99,97,112,101]⟩ es1:=⟨_,rfl⟩
  rw[←lz]at gV
  obtain⟨U1,i1,r1⟩:=A1
  simp only at gV
  have Jf:=hid gV
  have oB:=hid lz
  clear gV lz nM eM nF eW
  go_wp2_with fail
  refine(by exact Jf.out:Calls _ _ _ _ _).mono ?_
  rintro e w6 ⟨v6,rfl,xC,gG⟩
  obtain⟨pa,pc,rfl⟩:=xC.slice
  have aW:=hid (Me.out.trans (gG.mono Me.out.size))
  have m6:=aW.out.size
  obtain⟨W7,eA⟩:∃q,q=w6.alloc (.cells #[.slice pa U1.length pc] 27):=⟨_,rfl⟩
  have k5:Below w6.heap.size w6 W7:=by rw[eA];exact(Below.refl _ _).alloc (Nat.le_refl _) _
  have fR:=hid (show Holds W7 w6.heap.size #[.slice pa U1.length pc] 27 from by rw[eA];exact Holds.new w6 _ _)
  have cP:=hid (aW.out.trans (k5.mono m6))
  have bC:=xC.new k5
  have oN:=hid eA
  clear Jf xC gG k5 eA xcw5 xdw5 xlw5 ycw5 ydw5 ylw5 zcw5 zlw5
  obtain⟨_,_,Bs,sR,_,_,_⟩:=HX.out W7 cP.out
  have gF:=QDc _ (.slice pa U1.length pc) U1 ⟨#[104,97,116]⟩ (.slice ga es2.length gc) es2 W7 bC.in Bs (by decide) dG.out (by omega) sR
  obtain⟨A2,lA⟩:∃q,q=QMa U1 ⟨#[104,97,116]⟩ es2:=⟨_,rfl⟩
  rw[←lA]at gF
  obtain⟨U2,i2,r2⟩:=A2
  simp only at gF
  have M5:=hid gF
  have aQ:=hid lA
  clear gF lA bC Bs sR
  obtain⟨yT,yh,yq,yJ,ox,fo,fw⟩:=HX.out w6 aW.out
  have xcw6:=fo.cell 0
  have xdw6:=fo.cell 1
  have xlw6:=fo.lt
  have ycw6:=fw.cell 0
  have ydw6:=fw.cell 1
  have ylw6:=fw.lt
  have zcw6:=ox.cell 0
  have zlw6:=ox.lt
  clear ox fo fw
  clear yT yh yq yJ
  go_wp2_with fail
  rw[←oN.out]
  refine(by exact M5.out:Calls _ _ _ _ _).mono ?_
  rintro e w8 ⟨v8,rfl,ph,kK⟩
  obtain⟨qa,qc,rfl⟩:=ph.slice
  have iW:=fR.out.keeps (Qaa.of_fresh kK (fun _=>False)) (fun e=>e)
  have oD:=hid (cP.out.trans (kK.mono cP.out.size))
  have z80:=iW.cell 0
  have z81:=iW.free 0
  have z82:=iW.lt
  have l0:=ph.set iW (by decide) (by decide) 0 (.slice qa U2.length qc)
  have cT:=hid (iW.set 0 (.slice qa U2.length qc))
  obtain⟨W9,ig⟩:∃q,q=w8.setCell ⟨w6.heap.size,0,none⟩ (.slice qa U2.length qc):=⟨_,rfl⟩
  rw[←ig]at l0 cT
  have i9:=hid (show Below w4.heap.size w4 W9 from by rw[ig];exact oD.out.setCell m6 _)
  have qI:=hid l0
  have oO:=hid ig
  clear ph iW l0 ig oN fR kK M5 xcw6 xdw6 xlw6 ycw6 ydw6 ylw6 zcw6 zlw6
  obtain⟨yU,yi,yr,yK,oy,fq,fx⟩:=HX.out w8 oD.out
  have xcw8:=fq.cell 0
  have xdw8:=fq.cell 1
  have xlw8:=fq.lt
  have ycw8:=fx.cell 0
  have ydw8:=fx.cell 1
  have ylw8:=fx.lt
  have zcw8:=oy.cell 0
  have zlw8:=oy.lt
  clear oy fq fx
  obtain⟨tC,yg,sj,sV,om,fj,ft⟩:=HX.out W9 i9.out
  have xcW9:=fj.cell 0
  have xdW9:=fj.cell 1
  have xlW9:=fj.lt
  have ycW9:=ft.cell 0
  have ydW9:=ft.cell 1
  have ylW9:=ft.lt
  have zcW9:=om.cell 0
  have zlW9:=om.lt
  clear om fj ft
  have gn:=QDc _ (.slice va T.length vc) T ⟨#[104,97,116]⟩ (.slice ga es2.length gc) es2 W9 tC sj (by decide) dG.out (by omega) sV
  obtain⟨A3,lC⟩:∃q,q=QMa T ⟨#[104,97,116]⟩ es2:=⟨_,rfl⟩
  rw[←lC]at gn
  obtain⟨V1,i3,r3⟩:=A3
  simp only at gn
  have cN:=hid gn
  have vM:=hid lC
  rw[oO.out]at xcW9 xdW9 ycW9 ydW9 zcW9
  clear gn lC yU yi yr yK tC yg sj sV
  go_wp2_with fail
  rw[←oO.out]
  refine(by exact cN.out:Calls _ _ _ _ _).mono ?_
  rintro e w10 ⟨v10,rfl,pm,Gr⟩
  obtain⟨sa,sc,rfl⟩:=pm.slice
  have nz:w6.heap.size<w10.heap.size:=Nat.lt_of_lt_of_le cT.out.lt Gr.size
  have KW:=hid (i9.out.trans (Gr.mono i9.out.size))
  have m10:=KW.out.size
  have JR:=hid (cT.out.keeps (Qaa.of_fresh Gr (fun _=>False)) (fun e=>e))
  have bc:=hid (qI.out.new Gr)
  obtain⟨W11,MA⟩:∃q,q=w10.alloc (.cells #[.slice sa V1.length sc] 27):=⟨_,rfl⟩
  have jk:Below w10.heap.size w10 W11:=by rw[MA];exact(Below.refl _ _).alloc (Nat.le_refl _) _
  have qO:=hid (show Holds W11 w10.heap.size #[.slice sa V1.length sc] 27 from by rw[MA];exact Holds.new w10 _ _)
  have bf:=hid (JR.out.keeps (Qaa.of_fresh jk (fun _=>False)) (fun e=>e))
  have qG:=hid (bc.out.new jk)
  have M6:=hid (KW.out.trans (jk.mono m10))
  have rA:=pm.new jk
  have bd:=hid MA
  clear cN pm Gr jk MA JR bc qI cT oO z80 z81 z82 xcw8 xdw8 xlw8 ycw8 ydw8 ylw8 zcw8 zlw8 xcW9 xdW9 xlW9 ycW9 ydW9 ylW9 zcW9 zlW9
  obtain⟨_,rW,_,sO,_,_,_⟩:=HX.out W11 M6.out
  have gQ:=QDc _ (.slice sa V1.length sc) V1 ⟨#[99,97,112,101]⟩ (.slice fa es1.length fc) es1 W11 rA.in rW (by decide) dF.out (by omega) sO
  obtain⟨A4,lD⟩:∃q,q=QMa V1 ⟨#[99,97,112,101]⟩ es1:=⟨_,rfl⟩
  rw[←lD]at gQ
  obtain⟨V2,i4,r4⟩:=A4
  simp only at gQ
  have Mr:=hid gQ
  have zU:=hid lD
  clear gQ lD rA rW sO
  obtain⟨tE,rX,ss,tj,cM,JJ,JK⟩:=HX.out w10 KW.out
  have xcw10:=JJ.cell 0
  have xdw10:=JJ.cell 1
  have xlw10:=JJ.lt
  have ycw10:=JK.cell 0
  have ydw10:=JK.cell 1
  have ylw10:=JK.lt
  have zcw10:=cM.cell 0
  have zlw10:=cM.lt
  clear cM JJ JK
  clear tE rX ss tj
  go_wp2_with fail
  rw[←bd.out]
  refine(by exact Mr.out:Calls _ _ _ _ _).mono ?_
  rintro e w12 ⟨v12,rfl,xD,MC⟩
  obtain⟨ta,tc,rfl⟩:=xD.slice
  have ar:=qO.out.keeps (Qaa.of_fresh MC (fun _=>False)) (fun e=>e)
  have MM:=bf.out.keeps (Qaa.of_fresh MC (fun _=>False)) (fun e=>e)
  have mS:=hid (M6.out.trans (MC.mono M6.out.size))
  have y120:=ar.cell 0
  have y121:=ar.free 0
  have y122:=ar.lt
  have ry:=qG.out.new MC
  have z120:=MM.cell 0
  have z122:=MM.lt
  have zH:=MM.other ⟨w10.heap.size,0,none⟩ (.slice ta V2.length tc) (Nat.ne_of_lt nz)
  have lZ:=ry.set ar (by decide) (by decide) 0 (.slice ta V2.length tc)
  have l4:=xD.set ar (by decide) (by decide) 0 (.slice ta V2.length tc)
  obtain⟨W13,ef⟩:∃q,q=w12.setCell ⟨w10.heap.size,0,none⟩ (.slice ta V2.length tc):=⟨_,rfl⟩
  have G9:=hid (show Below w4.heap.size w4 W13 from by rw[ef];exact mS.out.setCell m10 _)
  rw[←ef]at lZ l4
  have ww:=hid lZ
  have wB:=hid l4
  have be:=hid ef
  have nzb:w6.heap.size≠w10.heap.size:=Nat.ne_of_lt nz
  clear lZ l4 ef zH ry xD ar MM MC Mr bd qO bf qG xcw10 xdw10 xlw10 ycw10 ydw10 ylw10 zcw10 zlw10
  by_cases h1:r1=0
  ·subst h1
   by_cases h2:r2=0
   ·subst h2
    by_cases h3:r3=0
    ·subst h3
     by_cases h4:r4=0
     ·subst h4
      have CV:U2=V2:=by
       have h:=Qmn (T:=T) (na:=⟨#[99,97,112,101]⟩) (nb:=⟨#[104,97,116]⟩) (a:=es1) (b:=es2) (by rw[←zQ.out]) (by rw[←oB.out]) (by rw[←oB.out,←aQ.out]) (by rw[←vM.out]) (by rw[←vM.out,←zU.out])
       rw[←oB.out,←vM.out,←aQ.out,←zU.out]at h
       exact h
      subst CV
      have dH:=hid (same_self ww.out.in wB.out.in)
      go_wp2_with fail
      rw[←be.out]
      refine(by exact dH.out:Calls _ _ _ _ _).mono ?_
      rintro e w14 ⟨rfl,jf⟩
      have jM:=hid (G9.out.trans (jf.mono G9.out.size))
      have KJ:=hid (QQb w14 (HX.out w14 jM.out).2.2.2.1)
      clear jf dH
      go_wp2_with fail
      refine(by exact KJ.out:Calls _ _ _ _ _).mono ?_
      rintro e wz ⟨rfl,KB⟩
      have jN:=hid (jM.out.trans (KB.mono jM.out.size))
      clear KB KJ
      go_wp2_with fail
      exact bodyPost_ret (v:=.bool true) (by simp[results,Tryz.results4,go_sem]) rfl ⟨rfl,G6.out.trans (jN.out.mono G6.out.size)⟩
     ·have b4:(r4 != 0)=true:=by simpa using h4
      clear h4
      have KJ:=hid (QQb W13 (HX.out W13 G9.out).2.2.2.1)
      go_wp2_with fail
      rw[←be.out]
      refine(by exact KJ.out:Calls _ _ _ _ _).mono ?_
      rintro e wz ⟨rfl,KB⟩
      have jN:=hid (G9.out.trans (KB.mono G9.out.size))
      clear KB KJ
      go_wp2_with fail
      exact bodyPost_ret (v:=.bool true) (by simp[results,Tryz.results4,go_sem]) rfl ⟨rfl,G6.out.trans (jN.out.mono G6.out.size)⟩
    ·have b3:(r3 != 0)=true:=by simpa using h3
     clear h3
     have KJ:=hid (QQb W13 (HX.out W13 G9.out).2.2.2.1)
     go_wp2_with fail
     rw[←be.out]
     refine(by exact KJ.out:Calls _ _ _ _ _).mono ?_
     rintro e wz ⟨rfl,KB⟩
     have jN:=hid (G9.out.trans (KB.mono G9.out.size))
     clear KB KJ
     go_wp2_with fail
     exact bodyPost_ret (v:=.bool true) (by simp[results,Tryz.results4,go_sem]) rfl ⟨rfl,G6.out.trans (jN.out.mono G6.out.size)⟩
   ·have b2:(r2 != 0)=true:=by simpa using h2
    clear h2
    have KJ:=hid (QQb W13 (HX.out W13 G9.out).2.2.2.1)
    go_wp2_with fail
    rw[←be.out]
    refine(by exact KJ.out:Calls _ _ _ _ _).mono ?_
    rintro e wz ⟨rfl,KB⟩
    have jN:=hid (G9.out.trans (KB.mono G9.out.size))
    clear KB KJ
    go_wp2_with fail
    exact bodyPost_ret (v:=.bool true) (by simp[results,Tryz.results4,go_sem]) rfl ⟨rfl,G6.out.trans (jN.out.mono G6.out.size)⟩
  ·have b1:(r1 != 0)=true:=by simpa using h1
   clear h1
   have KJ:=hid (QQb W13 (HX.out W13 G9.out).2.2.2.1)
   go_wp2_with fail
   rw[←be.out]
   refine(by exact KJ.out:Calls _ _ _ _ _).mono ?_
   rintro e wz ⟨rfl,KB⟩
   have jN:=hid (G9.out.trans (KB.mono G9.out.size))
   clear KB KJ
   go_wp2_with fail
   exact bodyPost_ret (v:=.bool true) (by simp[results,Tryz.results4,go_sem]) rfl ⟨rfl,G6.out.trans (jN.out.mono G6.out.size)⟩
end Go.Proofs.YtgaboghigefgbaaGreatDoor
