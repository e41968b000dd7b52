/- The law OverlayNames: its walk. -/
import Derived.Test.YtgaboghigefgbaaGreatDoorZ46
import Derived.Test.YtgaboghigefgbaaGreatDoorZ42
import Derived.Test.YtgaboghigefgbaaGreatDoorZ43
import Derived.Test.YtgaboghigefgbaaGreatDoorZ45
import Derived.Test.YtgaboghigefgbaaGreatDoorZ47
import Derived.Test.YtgaboghigefgbaaGreatDoorZ41
import Derived.Test.YtgaboghigefgbaaGreatDoorZ35
import Derived.Test.YtgaboghigefgbaaGreatDoorZ48
set_option linter.all false
set_option maxHeartbeats 8000000
namespace Go.Proofs.YtgaboghigefgbaaGreatDoor
open Go.Lib (hid)
open Go.RowKit
theorem Q0l{T:List Qba}(hT:Qfa T=0)(es:List Qja) :
 QMa T ⟨#[99,97,112,101]⟩ es=QMa T ⟨#[104,97,116]⟩ es∧QMa T ⟨#[110,111,110,101]⟩ []=(T,0,0)∧(Qgc ⟨#[99,97,112,101]⟩ es ⟨#[104,97,116]⟩ es).2.2=false:=
 ⟨Qnn (by decide) (by decide),Qon (by decide) hT,Qwn _ _ _⟩
theorem same_self{R R':Nat→Prop}{v u:Value}{T:List Qba}{w:World}(h1:Qpa R w v T)(h2:Qpa R' w u T) :
 Calls Tryz.prog 12 #[.agg #[v],.agg #[u]] w fun e w'=>e = .returned (.bool true)∧Below w.heap.size w w':=
 (Qdq R R' v u T T w h1 h2).mono fun e w' ⟨b,he,hb,hw⟩=>⟨by rw[he,hb.2 rfl],hw⟩
set_option maxRecDepth 100000 in
theorem Qzg(a:Option Addr)(len cap:Nat)(w:World)(hi:QVj w a len)(eT:len≤cap)(hcap:cap≤maxLen)(hnil:a=none→len=0∧cap=0)(lay:Qog w) :
 Calls Tryz.prog 5 #[.slice a len cap] w fun e w'=>e = .returned (.bool true)∧Below w.heap.size w w':=by
 go_enter Tryz.func5,Tryz.ntmps5
 go_wp2_with fail
 refine(QHp a len cap _ hi eT hcap hnil).mono ?_
 rintro e w1 ⟨tb,rfl,GE,Hb⟩
 clear hi hnil
 have hB:=GE.1
 have fg:=GE.lt
 go_wp2_with fail
 refine(QQh w.heap.size tb 7 _ (by exact GE) (by omega) (by omega)).mono ?_
 rintro e w2 ⟨v,T,rfl,hR,hs,hl,Gx,gJ⟩
 obtain⟨va,vc,rfl⟩:=hR.slice
 have Hc:Below w.heap.size w w2:=Hb.trans (gJ.below (by omega) (fun i hi e=>by omega))
 have GB:=Hc.size
 have Hw:=Holds.new w2 #[.slice va T.length vc] 27
 obtain⟨W3,MB⟩:∃x,x=w2.alloc (.cells #[.slice va T.length vc] 27):=⟨_,rfl⟩
 rw[←MB]at Hw
 have Mj:Below w2.heap.size w2 W3:=by rw[MB];exact(Below.refl _ _).alloc (Nat.le_refl _) _
 have K0:=hR.new Mj
 have Kj:Qtc w.heap.size W3 tb:=Gx.keeps (Qaa.of_fresh Mj (fun _=>False)) (fun i e=>e.elim)
 have Hi:=Hc.trans (Mj.mono GB)
 have Hm:w2.heap.size≠tb:=by have:=Gx.lt;omega
 have nY:W3.heap.size=w2.heap.size+1:=by rw[MB];simp
 have sS:T.length≤40:=by omega
 clear hR Gx Mj Hb Hc gJ GE
 have dz:=hid (QDd w.heap.size tb _ (.slice va T.length vc) T ⟨#[99,97,112,101]⟩ W3 Kj K0 hs sS)
 have jR:=hid K0
 have jc:=hid Kj
 have KK:=hid Hi
 have KM:=hid Hw
 have HP:=hid (Q0l hs)
 have fO:=hid MB
 clear K0 Kj Hi Hw hs MB hl
 go_wp2_with fail
 rw[←fO.out]
 refine(by exact dz.out:Calls _ _ _ _ _).mono ?_
 rintro e w4 ⟨ev,es,rfl,hE,nW,hes,Mz,gA⟩
 obtain⟨ea,ec,rfl⟩:=Qea hE
 have Hu:=KK.out.trans (gA.below KK.out.size (fun i hi e=>by omega))
 have M1:=Hu.size
 have gY:=KM.out.keeps gA Hm
 have MU:=jR.out.tape jc.out gA
 have HX:=hid (fun wx (k:Below w4.heap.size w4 wx)=>And.intro (MU.new k).in (And.intro ((Qhc hE).new k) (And.intro (lay.keeps (Qaa.of_fresh (Hu.trans (k.mono M1)) (fun _=>False)) (fun e=>e)) (gY.keeps (Qaa.of_fresh k (fun _=>False)) (fun e=>e)))))
 have G6:=hid Hu
 have z4:=gY.cell 0
 have zl4:=gY.lt
 have fM:=hid nW
 clear MU gA Mz hE dz fO jR jc KK KM Hu gY Hm nY lay
 go_wp2_with fail
 obtain⟨W6,rC⟩:∃x,x=(w4.alloc (.cells #[.string ⟨#[99,97,112,101]⟩,.slice ea es.length ec] 31)).alloc (.cells #[.string ⟨#[104,97,116]⟩,.slice ea es.length ec] 31):=⟨_,rfl⟩
 have bL:Below w4.heap.size w4 W6:=by rw[rC];exact((Below.refl _ _).alloc (Nat.le_refl _) _).alloc (by simp) _
 have KY:Holds W6 w4.heap.size #[.string ⟨#[99,97,112,101]⟩,.slice ea es.length ec] 31:=by rw[rC];exact(Holds.new w4 _ _).alloc _
 have kX:Holds W6 (w4.heap.size+1) #[.string ⟨#[104,97,116]⟩,.slice ea es.length ec] 31:=by rw[rC];exact Holds.newAt (w:=w4.alloc (.cells #[.string ⟨#[99,97,112,101]⟩,.slice ea es.length ec] 31)) (B:=w4.heap.size+1) (by simp) _ _
 obtain⟨BE,Bm,pK,Du⟩:=HX.out W6 bL
 have KE:=QDc _ (.slice va T.length vc) T ⟨#[99,97,112,101]⟩ (.slice ea es.length ec) es W6 BE Bm (by decide) fM.out (by omega) pK
 have vN:=hid (HP.out es).1
 obtain⟨C,hC⟩:∃x,x=QMa T ⟨#[99,97,112,101]⟩ es:=⟨_,rfl⟩
 rw[←hC]at KE vN
 obtain⟨U,ix,er⟩:=C
 simp only at KE
 have iX:=hid KE
 have aW:=hid bL
 have ux:=hid KY
 have mM:=hid kX
 have Cw:=hid rC
 clear KE bL KY kX BE Bm pK Du hC rC
 go_wp2_with fail
 rw[←Cw.out]
 refine(by exact iX.out:Calls _ _ _ _ _).mono ?_
 rintro e w7 ⟨v7,rfl,bC,gZ⟩
 obtain⟨ua,uc,rfl⟩:=bC.slice
 have aD:=aW.out.trans (gZ.mono aW.out.size)
 obtain⟨W8,uS⟩:∃x,x=w7.alloc (.cells #[.slice ua U.length uc] 27):=⟨_,rfl⟩
 have kQ:Below w7.heap.size w7 W8:=by rw[uS];exact(Below.refl _ _).alloc (Nat.le_refl _) _
 have ii:Holds W8 w7.heap.size #[.slice ua U.length uc] 27:=by rw[uS];exact Holds.new w7 _ _
 have yj:=aD.trans (kQ.mono aD.size)
 have A0:=(mM.out.keeps (Qaa.of_fresh gZ (fun _=>False)) (fun e=>e)).keeps (Qaa.of_fresh kQ (fun _=>False)) (fun e=>e)
 have ro:=(ux.out.keeps (Qaa.of_fresh gZ (fun _=>False)) (fun e=>e)).keeps (Qaa.of_fresh kQ (fun _=>False)) (fun e=>e)
 have Bc:=bC.new kQ
 obtain⟨BF,Bo,sU,iW⟩:=HX.out W8 yj
 have cU:=QDc _ (.slice va T.length vc) T ⟨#[104,97,116]⟩ (.slice ea es.length ec) es W8 BF Bo (by decide) fM.out (by omega) sU
 rw[←vN.out]at cU
 have fz:=hid cU
 have oD:=hid yj
 have Ag:=hid A0
 have qp:=hid ro
 have Cx:=hid uS
 have At:=hid Bc
 have fR:=hid ii
 have o8:=(mM.out.keeps (Qaa.of_fresh gZ (fun _=>False)) (fun e=>e)).cell 0
 have o8b:=(mM.out.keeps (Qaa.of_fresh gZ (fun _=>False)) (fun e=>e)).cell 1
 have o8l:=(mM.out.keeps (Qaa.of_fresh gZ (fun _=>False)) (fun e=>e)).lt
 obtain⟨_,_,_,uv⟩:=HX.out w7 aD
 have z7:=uv.cell 0
 have zl7:=uv.lt
 clear cU yj A0 ro uS Bc ii uv BF Bo sU iW kQ bC gZ aD iX aW ux mM z4 zl4
 go_wp2_with fail
 rw[←Cx.out]
 refine(by exact fz.out:Calls _ _ _ _ _).mono ?_
 rintro e w9 ⟨v9,rfl,l0,GU⟩
 obtain⟨xa,xc,rfl⟩:=l0.slice
 have uZ:=oD.out.trans (GU.mono oD.out.size)
 obtain⟨W10,dZ⟩:∃x,x=w9.alloc (.cells #[.slice xa U.length xc] 27):=⟨_,rfl⟩
 have mC:Below w9.heap.size w9 W10:=by rw[dZ];exact(Below.refl _ _).alloc (Nat.le_refl _) _
 have K5:Holds W10 w9.heap.size #[.slice xa U.length xc] 27:=by rw[dZ];exact Holds.new w9 _ _
 have nt:=uZ.trans (mC.mono uZ.size)
 have kk (b:Nat) (cs:Array Value) (t:TypeId) (h:Holds W8 b cs t):Holds W10 b cs t:=(h.keeps (Qaa.of_fresh GU (fun _=>False)) (fun e=>e)).keeps (Qaa.of_fresh mC (fun _=>False)) (fun e=>e)
 obtain⟨tt,ye,sN,zG⟩:=HX.out W10 nt
 have JT:=QDc _ (.slice va T.length vc) T ⟨#[110,111,110,101]⟩ (.slice none 0 0) [] W10 tt (Qhc (World.ownsRow_nil _ 0 _ _)) (by decide) (fun _ h=>by cases h) (by decide) sN
 rw[(HP.out es).2.1]at JT
 have dh:=hid JT
 have KW:=hid nt
 have ja:=hid (kk _ _ _ Ag.out)
 have Jk:=hid (kk _ _ _ qp.out)
 have fQ:=hid (kk _ _ _ fR.out)
 have cT:=hid K5
 have bc:=hid ((At.out.new GU).new mC)
 have qM:=hid (l0.new mC)
 have wC:=hid dZ
 obtain⟨_,_,_,pS⟩:=HX.out w9 uZ
 have z9:=pS.cell 0
 have zl9:=pS.lt
 clear JT nt kk dZ pS tt ye sN zG mC l0 GU uZ fz oD Ag qp At fR z7 zl7 o8 o8b o8l K5
 go_wp2_with fail
 rw[←wC.out]
 refine(by exact dh.out:Calls _ _ _ _ _).mono ?_
 rintro e w11 ⟨v11,rfl,lW,kA⟩
 obtain⟨ya,yc,rfl⟩:=lW.slice
 have nu:=KW.out.trans (kA.mono KW.out.size)
 obtain⟨W12,ed⟩:∃x,x=w11.alloc (.cells #[.slice ya T.length yc] 27):=⟨_,rfl⟩
 have ae:Below w11.heap.size w11 W12:=by rw[ed];exact(Below.refl _ _).alloc (Nat.le_refl _) _
 have eC:Holds W12 w11.heap.size #[.slice ya T.length yc] 27:=by rw[ed];exact Holds.new w11 _ _
 have nv:=nu.trans (ae.mono nu.size)
 have kk (b:Nat) (cs:Array Value) (t:TypeId) (h:Holds W10 b cs t):Holds w11 b cs t:=(h.keeps (Qaa.of_fresh kA (fun _=>False)) (fun e=>e))
 have k2 (b:Nat) (cs:Array Value) (t:TypeId) (h:Holds W10 b cs t):Holds W12 b cs t:=(kk _ _ _ h).keeps (Qaa.of_fresh ae (fun _=>False)) (fun e=>e)
 obtain⟨tu,nr,nK,MM⟩:=HX.out W12 nv
 have dM:=Q3h ⟨#[99,97,112,101]⟩ (.slice ea es.length ec) es ⟨#[104,97,116]⟩ (.slice ea es.length ec) es W12 nr nr (by decide) (by decide) fM.out fM.out (by omega) (by omega) nK
 have ma:=hid (HP.out es).2.2
 generalize Qgc ⟨#[99,97,112,101]⟩ es ⟨#[104,97,116]⟩ es=C at dM ma
 obtain⟨c1,c2,c3⟩:=C
 obtain rfl:c3=false:=ma.out
 simp only at dM
 have pU:=hid dM
 have mS:=hid nv
 have o0:=(kk _ _ _ Jk.out).cell 0
 have o1:=(kk _ _ _ Jk.out).cell 1
 have ol:=(kk _ _ _ Jk.out).lt
 have p0:=(kk _ _ _ ja.out).cell 0
 have p1:=(kk _ _ _ ja.out).cell 1
 have pl:=(kk _ _ _ ja.out).lt
 have bg:=hid (k2 _ _ _ fQ.out)
 have bh:=hid (k2 _ _ _ cT.out)
 have bf:=hid eC
 have qH:=hid ((bc.out.new kA).new ae)
 have qN:=hid ((qM.out.new kA).new ae)
 have qP:=hid (lW.new ae)
 have qK:=hid ed
 clear dM nv kk k2 ed tu nr nK MM ae lW kA nu dh KW ja Jk bc qM fQ cT z9 zl9 eC
 go_wp2_with fail
 rw[←qK.out]
 refine(by exact pU.out:Calls _ _ _ _ _).mono ?_
 rintro e w13 ⟨rfl,mY⟩
 have rZ:=mS.out.trans (mY.mono mS.out.size)
 have kk (b:Nat) (cs:Array Value) (t:TypeId) (h:Holds W12 b cs t):Holds w13 b cs t:=(h.keeps (Qaa.of_fresh mY (fun _=>False)) (fun e=>e))
 have q7:=(kk _ _ _ bg.out).cell 0
 have q7l:=(kk _ _ _ bg.out).lt
 have q9:=(kk _ _ _ bh.out).cell 0
 have q9l:=(kk _ _ _ bh.out).lt
 have Am:=hid (same_self (qH.out.new mY).in (qN.out.new mY).in)
 have G9:=hid rZ
 have qQ:=hid (qP.out.new mY)
 have ls:=hid (kk _ _ _ bf.out)
 clear kk rZ mY pU mS qH qN qP bf bg bh o0 o1 ol p0 p1 pl ma qK
 go_wp2_with fail
 refine(by exact Am.out:Calls _ _ _ _ _).mono ?_
 rintro e w14 ⟨rfl,jf⟩
 have nA:=G9.out.trans (jf.mono G9.out.size)
 obtain⟨tw,_,_,oi⟩:=HX.out w14 nA
 have z14:=oi.cell 0
 have zl14:=oi.lt
 have y14:=(ls.out.keeps (Qaa.of_fresh jf (fun _=>False)) (fun e=>e)).cell 0
 have yl14:=(ls.out.keeps (Qaa.of_fresh jf (fun _=>False)) (fun e=>e)).lt
 have Ao:=hid (same_self tw (qQ.out.new jf).in)
 have jM:=hid nA
 clear nA tw oi jf Am G9 qQ ls q7 q7l q9 q9l
 go_wp2_with fail
 refine(by exact Ao.out:Calls _ _ _ _ _).mono ?_
 rintro e w15 ⟨rfl,rI⟩
 have nC:=jM.out.trans (rI.mono jM.out.size)
 obtain⟨_,_,sP,_⟩:=HX.out w15 nC
 have KJ:=hid (QQb w15 sP)
 have i8:=hid nC
 clear nC sP rI Ao jM z14 zl14 y14 yl14
 go_wp2_with fail
 refine(by exact KJ.out:Calls _ _ _ _ _).mono ?_
 rintro e w16 ⟨rfl,rJ⟩
 have vO:=hid (i8.out.trans (rJ.mono i8.out.size))
 clear rJ KJ i8
 go_wp2_with fail
 exact bodyPost_ret (v:=.bool true) (by simp[results,Tryz.results5,go_sem]) rfl ⟨rfl,G6.out.trans (vO.out.mono G6.out.size)⟩
end Go.Proofs.YtgaboghigefgbaaGreatDoor
