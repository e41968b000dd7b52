/- The law IncludeLoads: the walk. -/
import Derived.Test.YtofhcgbihonckaaGreatZ30
set_option linter.all false
set_option maxHeartbeats 8000000
namespace Go.Proofs.YtofhcgbihonckaaGreat
open Go.Lib (hid)
open Go.RowKit
theorem Qfm{w:World}{v1 v2 v3 v4 v5:Value}{F1 F2 F3 F4 F5:List Qoa}(h1:Q9g w v1 F1)(h2:Q9g w v2 F2)(h3:Q9g w v3 F3)(h4:Q9g w v4 F4)(h5:Q9g w v5 F5):Qpk (w.alloc (.cells #[v1,v2,v3,v4,v5] 42)) w.heap.size:=by
 have k:=(Below.refl w.heap.size w).alloc (Nat.le_refl _) (.cells #[v1,v2,v3,v4,v5] 42)
 refine⟨_,Qca.new w _ _,fun i hi=>?_⟩
 have hc:i=0∨i=1∨i=2∨i=3∨i=4:=by omega
 rcases hc with rfl|rfl|rfl|rfl|rfl
 ·exact⟨v1,F1,rfl,h1.new k⟩
 ·exact⟨v2,F2,rfl,h2.new k⟩
 ·exact⟨v3,F3,rfl,h3.new k⟩
 ·exact⟨v4,F4,rfl,h4.new k⟩
 ·exact⟨v5,F5,rfl,h5.new k⟩
set_option maxRecDepth 100000 in
theorem Qpf(a0:Option Addr)(len0 cap0:Nat)(ra:Option Addr)(rc:Nat)(FR:List Qoa)(main:ByteArray)(w:World)(hi:Qqi w a0 len0)(hlc:len0≤cap0)(hcap:cap0≤maxLen)(dw:a0=none→len0=0∧cap0=0)
 (hR:QZa w (.slice ra FR.length rc) FR∧∀f∈FR,f.text.size≤maxLen∧f.name.size≤maxLen) (hmain:main.size≤maxLen) (h0:QFf w) :
 Calls Tryz.prog 6 #[.slice a0 len0 cap0,.slice ra FR.length rc,.string main] w fun e w'=>e = .returned (.bool true)∧Below w.heap.size w w':=by
 have LL:=hid (fun(wx:World) (hb:Below w.heap.size w wx)=>h0.keeps (Qaa.of_fresh hb (fun _=>False)) (fun e=>e))
 have HI:=hid hi
 have eu:=hid hR
 have qe:=hid (fun(wx:World) (hb:Below w.heap.size w wx)=>(QJj wx (LL.out _ hb)).mono (R':=fun e w'=>e = .returned (.bool true)∧Below w.heap.size w w') (fun e w' h=>⟨h.1,hb.trans (h.2.mono hb.size)⟩))
 obtain⟨_,_,e0,hrc1,hrc2,pC⟩:=hR.1
 cases e0
 have wK:=hid pC
 clear h0 hi hR pC
 go_enter Tryz.func6,Tryz.ntmps6
 by_cases ny:12<FR.length
 ·have sk:(12:Int)<(FR.length:Int):=by omega
  go_wp2_with fail
  refine(by exact qe.out w (Below.refl _ _):Calls _ _ _ _ _).mono ?_
  rintro e w1 ⟨rfl,Hf⟩
  go_wp2_with fail
  go_ret
  exact⟨rfl,Hf⟩
 ·have sk:¬(12:Int)<(FR.length:Int):=by omega
  go_upto_region 4 with fail
  go_loopg [34] (FR.length) (fun f x wr=>∃k:Nat,x = .int .i64 k∧k≤FR.length∧FR.length≤k+f∧Hid (Below w.heap.size w wr))
  case atStart=>exact⟨0,rfl,by omega,by omega,hid (Below.refl _ _)⟩
  case round=>
   obtain⟨k,rfl,hk,hf,HB⟩:=hrel
   have GM:=HB.out.size
   by_cases Hh:k<FR.length
   ·obtain⟨g,o,e1,hg,Hx⟩:=wK.out (by omega)
    subst e1
    obtain⟨n0,t0⟩:=Hx k Hh
    have c0:=(HB.out.cell (p:=⟨g,o+k*2,none⟩) hg).trans n0
    have c1:=(HB.out.cell (p:=⟨g,o+k*2+1,none⟩) hg).trans t0
    have cx:g<wr.heap.size:=by omega
    have lp:(k:Int)<(FR.length:Int):=by omega
    have GI:=hid (HB.out.alloc HB.out.size (.cells #[.string FR[k].name,.string FR[k].text] 46))
    clear Hx n0 t0
    generalize FR[k].name=nm at *
    generalize FR[k].text=tx at *
    by_cases h5:500<tx.size
    ·have xe:(500:Int)<(tx.size:Int):=by omega
     go_wp2_with fail
     refine(by exact qe.out _ GI.out:Calls _ _ _ _ _).mono ?_
     rintro e w1 ⟨rfl,Hf⟩
     go_wp2_with fail
     go_ret
     exact⟨rfl,Hf⟩
    ·have xe:¬(500:Int)<(tx.size:Int):=by omega
     go_wp2_with fail
     go_roundg (gk-1)
     case measure=>omega
     case rel=>exact⟨k+1,by go_num,by omega,by omega,GI⟩
   ·have lp:¬(k:Int)<(FR.length:Int):=by omega
    go_wp2_with fail
    refine(QSq a0 len0 cap0 _ (QQn HI.out HB.out) hlc hcap dw).mono ?_
    rintro e w1 ⟨tb,rfl,Kv,Hf⟩
    have tI:=Kv.1
    go_wp2_with fail
    refine(Qhl wr.heap.size tb w1 Kv).mono ?_
    rintro e w2 ⟨vF,F,rfl,Hv,nI,KA,jG,gN,ga⟩
    have Ho:Below wr.heap.size wr w2:=Hf.trans (ga.below Hf.size (by intro i hi e;omega))
    obtain⟨fg,fc,rfl,bt,sV,fR⟩:=QVb Hv (by omega)
    have Jz:=hid Hv
    have jt:=hid nI
    have GI:=hid Ho
    have rW:=hid gN
    have J3:=Ho.size
    clear Kv Hf gN Ho Hv nI ga
    obtain⟨j0,jj,kV,kI,JI⟩:=info_parts QVe
    go_wp2_with (at_builtin;refine QHa _ rfl _ _ 42 42 rfl w2.heap.size 46 j0 _ 2 32 Tryz.underlying42 jj kV kI JI rfl (.slice (some ⟨w2.heap.size,0,none⟩) 0 0) 0 [] rfl (Qne rfl (Nat.le_refl _)) (.slice (some ⟨fg,0,none⟩) F.length fc) rfl F.length (QCa F) ?d1 ?d2 ?d3 ?d4 ?_)
    case d1=>exact QZk (World.ownsRow.alloc Jz.out _)
    case d2=>unfold maxLen;omega
    case d3=>omega
    case d4=>simp
    intro v3 w3 kt bu _
    obtain⟨bg,bc,rfl,qp,hbgb,-⟩:=QVb kt (by omega)
    have k23:Qaa (fun _=>False) w2 w3:=((Qaa.refl (fun _=>False) w2).alloc (.cells #[] 46)).grown bu (fun g hg=>.inl (by cases hg;exact Nat.le_refl _))
    have fP:Below w2.heap.size w2 w3:=k23.below (Nat.le_refl _) (fun _ _ e=>e)
    have nk:=hid kt
    have aH:=hid (Qba Jz.out k23 (fun _ _ e=>e))
    have i4:=hid (rW.out.keeps k23 (fun _ e=>e.elim))
    have cA:=hid (GI.out.trans (fP.mono J3))
    have sn:=fP.size
    have xz:(1:Int)≤(F.length:Int):=by omega
    clear kt bu k23 fP fR
    go_wp2_with fail
    refine(Qge _ _ _ _ i4.out xz (by omega)).mono ?_
    rintro e w4 ⟨r,rfl,ly,gi,G6,gD⟩
    obtain⟨q,rfl⟩:∃q:Nat,r=(q:Int):=⟨r.toNat,by omega⟩
    have iw:q<F.length:=by omega
    have aK:=hid (Q8f nk.out i4.out gD)
    have nj:=hid (Q8f aH.out i4.out gD)
    have JL:=hid G6
    have Mg:=hid (cA.out.trans (gD.below cA.out.size (by intro i hi e;have:=i4.out.1;omega)))
    have K9:=gD.size
    obtain⟨bg',bc',e1,hbg4,-,aa⟩:=QVb aK.out (by omega)
    cases e1
    have d1:w4.cell? ⟨bg,q*2+1,none⟩=some (.string F[q].text):=(aa _ (by omega)).trans (Qvc F q iw).2
    have yr:=(Qnb jt.out jG _ (List.getElem_mem iw)).1
    have hqt:=(jt.out q iw).size
    have HQ:=hid (fun(s:ByteArray)=>QQe F q s iw)
    obtain⟨nq,th⟩:∃x,x=F[q].name:=⟨_,rfl⟩
    rw[←th]at HQ
    have iV:=hid th
    clear th
    generalize F[q].text=tq at *
    clear G6 gD aa
    go_wp2_with fail
    refine(QVn _ _ tq _ JL.out (by omega)).mono ?_
    rintro e w5 ⟨s5,rfl,yw,Mt,GL⟩
    have Jc:=hid (Q8f aK.out JL.out GL)
    have aI:=hid (Q8f nj.out JL.out GL)
    have Jw:=hid (Mg.out.trans (GL.below Mg.out.size (by intro i hi e;have:=JL.out.1;omega)))
    have wZ:=GL.size
    obtain⟨bg',bc',e1,hbg5,-,aa⟩:=QVb Jc.out (by omega)
    cases e1
    obtain⟨u1,d1'⟩:∃u,w5.cell? ⟨bg,q*2+1,none⟩=some u:=⟨_,(aa _ (by omega)).trans (Qvc F q iw).2⟩
    have df:=Jc.out.frozenAt (q*2+1)
    clear Mt GL d1 aa
    have k56:Qaa (· = bg) w5 (w5.setCell ⟨bg,q*2+1,none⟩ (.string s5)):=(Qaa.refl (· = bg) w5).setCell (p:=⟨bg,q*2+1,none⟩) (.inr rfl) _
    have aL:=hid (Qck Jc.out (q*2+1) (by omega) (.string s5))
    rw[HQ.out s5]at aL
    have aJ:=hid (Qba aI.out k56 (fun g hg e=>by cases hg;have e':fg=bg:=e;omega))
    have jY:=hid (Jw.out.trans (k56.below Jw.out.size (fun i hi e=>by omega)))
    have xb:w5.heap.size≤(w5.setCell ⟨bg,q*2+1,none⟩ (.string s5)).heap.size:=k56.size
    clear k56
    go_upto_region 14 with fail
    generalize w5.setCell ⟨bg,q*2+1,none⟩ (.string s5)=w6 at *
    obtain⟨fg',fc',e1,sU,-,JS⟩:=QVb aJ.out (by omega)
    cases e1
    have Mw:w6.cell? ⟨fg,0,none⟩=some (.string (F[0]'(by omega)).name):=(JS 0 (by omega)).trans (Qvc F 0 (by omega)).1
    have uc:=hid (Qnb jt.out jG _ (List.getElem_mem (show 0<F.length by omega))).2
    generalize (F[0]'(by omega)).name=nm at *
    clear JS d1' df
    refine wp_region_any (by kernel_rfl) ?_
    refine QAc (ops':=QXc) (by kernel_rfl) ?_
    refine QOi fg F.length fc nm F w6 w6.drew _ (by omega) rfl (by omega) (QMc aJ.out (Nat.zero_le _)) sU Mw rfl ((Below.refl _ _).drew) ?_
    intro c w7 r5 Ky jh c13 bN
    obtain⟨y66,y67,y68,y69,y70,y71,y72,y73,y74,y75,y13,hc⟩:=Ky.ex [66,67,68,69,70,71,72,73,74,75,13] (by kernel_rfl)
    subst hc
    simp only[List.setIfInBounds_toArray,List.set_cons_zero,List.set_cons_succ]at c13 ⊢
    have e13:y13=r5:=c13
    subst e13
    obtain⟨ca,cc,rfl⟩:=Qia bN
    have dL:=hid bN
    have aM:=hid (Qba aL.out (Qaa.of_fresh jh (fun _=>False)) (fun _ _ e=>e))
    have dK:=hid (Qba aJ.out (Qaa.of_fresh jh (fun _=>False)) (fun _ _ e=>e))
    have cf:=hid (jY.out.trans (jh.mono jY.out.size))
    have h67:=jh.size
    have Mh:=hid (HB.out.trans (cf.out.mono HB.out.size))
    clear bN jh c13 Ky Mw
    have ew:=hid (show Q9g w7 (.slice ra FR.length rc) FR from⟨eu.out.1.new Mh.out,by omega,eu.out.2⟩)
    have j6:=hid (show Q9g w7 (.slice (some ⟨fg,0,none⟩) F.length fc) F from⟨Qqd dK.out,by omega,Qnb jt.out jG⟩)
    have eA:=hid (show Q9g w7 (.slice (some ⟨bg,0,none⟩) F.length bc) (F.set q ⟨nq,s5⟩)from⟨Qqd (by rw[List.length_set];exact aM.out),by rw[List.length_set];omega,fun f hf=>by
     rcases List.mem_or_eq_of_mem_set hf with h|h
     ·exact Qnb jt.out jG f h
     ·subst h
      refine⟨by unfold maxLen;show s5.size≤_;omega,?_⟩
      show nq.size≤maxLen
      rw[iV.out]
      exact(Qnb jt.out jG _ (List.getElem_mem iw)).2⟩)
    have eB:=hid (show Q9g w7 (.slice ca (F.length+1) cc) (F++[⟨nm,⟨#[]⟩⟩])from⟨Qqd (by rw[List.length_append];exact dL.out),by rw[List.length_append];simp;omega,fun f hf=>by
     rcases List.mem_append.1 hf with h|h
     ·exact Qnb jt.out jG f h
     ·simp only[List.mem_singleton]at h
      subst h
      exact⟨by unfold maxLen;show ByteArray.size ⟨#[]⟩≤_;decide,uc.out⟩⟩)
    have xA:F.length≤fc:=by
     obtain⟨a',c',e,h9,_⟩:=j6.out.here
     cases e
     exact h9
    have ew:=hid (show Q9g w7 (.slice ra FR.length rc) FR from⟨eu.out.1.new Mh.out,by omega,eu.out.2⟩)
    have j6:=hid (show Q9g w7 (.slice (some ⟨fg,0,none⟩) F.length fc) F from⟨Qqd dK.out,by omega,Qnb jt.out jG⟩)
    have eA:=hid (show Q9g w7 (.slice (some ⟨bg,0,none⟩) F.length bc) (F.set q ⟨nq,s5⟩)from⟨Qqd (by rw[List.length_set];exact aM.out),by rw[List.length_set];omega,fun f hf=>by
     rcases List.mem_or_eq_of_mem_set hf with h|h
     ·exact Qnb jt.out jG f h
     ·subst h
      refine⟨by unfold maxLen;show s5.size≤_;omega,?_⟩
      show nq.size≤maxLen
      rw[iV.out]
      exact(Qnb jt.out jG _ (List.getElem_mem iw)).2⟩)
    have eB:=hid (show Q9g w7 (.slice ca (F.length+1) cc) (F++[⟨nm,⟨#[]⟩⟩])from⟨Qqd (by rw[List.length_append];exact dL.out),by rw[List.length_append];simp;omega,fun f hf=>by
     rcases List.mem_append.1 hf with h|h
     ·exact Qnb jt.out jG f h
     ·simp only[List.mem_singleton]at h
      subst h
      exact⟨by unfold maxLen;show ByteArray.size ⟨#[]⟩≤_;decide,uc.out⟩⟩)
    have xA:F.length≤fc:=by
     obtain⟨a',c',e,h9,_⟩:=j6.out.here
     cases e
     exact h9
    by_cases K5:fc=1
    ·subst K5
     go_upto_region 16 with fail
     have lL:=hid (Qfm (v5:=.slice (some ⟨fg,0,none⟩) 0 0) (ew.out) (j6.out) (eA.out) (eB.out) (⟨Qhh j6.out.here (by omega) (.inr ⟨by omega,some ⟨fg,0,none⟩,0,by omega,rfl⟩),by rw[List.length_drop];omega,fun f hf=>Qnb jt.out jG f (List.mem_of_mem_drop hf)⟩))
     have GS:=hid (Mh.out.trans (((Below.refl w7.heap.size w7).alloc (Nat.le_refl _) (.cells #[.slice ra FR.length rc,.slice (some ⟨fg,0,none⟩) F.length 1,.slice (some ⟨bg,0,none⟩) F.length bc,.slice ca (F.length+1) cc,.slice (some ⟨fg,0,none⟩) 0 0] 42)).mono Mh.out.size))
     generalize w7.alloc (.cells #[.slice ra FR.length rc,.slice (some ⟨fg,0,none⟩) F.length 1,.slice (some ⟨bg,0,none⟩) F.length bc,.slice ca (F.length+1) cc,.slice (some ⟨fg,0,none⟩) 0 0] 42)=w8 at *
     obtain⟨gk1,rfl⟩:∃x:Nat,x=gk:=⟨_,rfl⟩
     obtain⟨wr1,rfl⟩:∃x:World,x=wr:=⟨_,rfl⟩
     obtain⟨LB,fA⟩:∃x:Nat,x=w7.heap.size:=⟨_,rfl⟩
     rw[←fA]at lL
     rw[←fA]
     clear fA
     go_loopg [84] 5 (fun f x wr2=>∃k:Nat,x = .int .i64 k∧k≤5∧5≤k+f∧Hid (Below w8.heap.size w8 wr2))
     case atStart=>exact⟨0,rfl,by omega,by omega,hid (Below.refl _ _)⟩
     case round=>
      obtain⟨j,rfl,hj,xX,mo⟩:=hrel
      have jp:=hid (GS.out.trans (mo.out.mono GS.out.size))
      by_cases Hh:j<5
      ·obtain⟨V,hV,nU⟩:=lL.out.new mo.out
       obtain⟨v,FX,hv,fx⟩:=nU j Hh
       have c0:wr.cell? ⟨LB,j,none⟩=some v:=(hV.cell j).trans hv
       have KR:=hV.lt
       obtain⟨va,vc,rfl,_⟩:=id fx.here
       have qD:(j:Int)<5:=by omega
       have HS:=hid (Qca.new wr #[.string main,.string ⟨#[109,97,105,110]⟩,.string ⟨#[97]⟩] 9)
       have GB:=(Below.refl wr.heap.size wr).alloc (Nat.le_refl _) (.cells #[.string main,.string ⟨#[109,97,105,110]⟩,.string ⟨#[97]⟩] 9)
       have rq:=hid (fx.new GB)
       have mA:=hid GB
       have xh:=mo.out.size
       clear nU hv fx hV GB
       go_upto_region 19 with fail
       generalize wr.alloc (.cells #[.string main,.string ⟨#[109,97,105,110]⟩,.string ⟨#[97]⟩] 9)=w9 at *
       obtain⟨go,rfl⟩:∃x:Nat,x=gk:=⟨_,rfl⟩
       obtain⟨wo,rfl⟩:∃x:World,x=wr:=⟨_,rfl⟩
       obtain⟨SB,ct⟩:∃x:Nat,x=wo.heap.size:=⟨_,rfl⟩
       rw[←ct]at HS
       rw[←ct]
       clear c0 KR ct
       go_loopg [91] 3 (fun f x wr3=>∃k:Nat,x = .int .i64 k∧k≤3∧3≤k+f∧Hid (Below w9.heap.size w9 wr3))
       case atStart=>exact⟨0,rfl,by omega,by omega,hid (Below.refl _ _)⟩
       case round=>
        obtain⟨k3,rfl,Hd,JV,av⟩:=hrel
        have lF:=hid (mA.out.trans (av.out.mono mA.out.size))
        by_cases jH:k3<3
        ·obtain⟨m,hm⟩:∃m,wr.cell? ⟨SB,k3,none⟩=some (.string m):=by
          have h9:=(HS.out.keeps (Qaa.of_fresh av.out (fun _=>False)) (fun e=>e)).cell k3
          have hc:k3=0∨k3=1∨k3=2:=by omega
          rcases hc with rfl|rfl|rfl
          ·exact⟨_,h9⟩
          ·exact⟨_,h9⟩
          ·exact⟨_,h9⟩
         have HM:=hid hm
         have oQ:(k3:Int)<3:=by omega
         clear hm
         go_upto_block 5 with fail
         refine Qnk (c':=QJk 5) (by kernel_rfl) ?_
         refine QKk wr SB k3 _ FX m (rq.out.new av.out) jH HM.out (LL.out _ (jp.out.trans (lF.out.mono jp.out.size))) ?_
         refine hid ?_
         intro x17 x18 x19 x20 x21 x22 x23 x24 x25 x26 x27 x93 x94 x95 x96 x97 x98 x99 x100 x101 x102 x103 x104 x105 x106 x107 x108 x109 x110 x111 x112 x113 x114 x115 x116 x117 x118 x119 x120 x121 x122 x123 x124 x125 x126 x127 x128 x129 x130 x131 x132 x133 x134 x135 x136 x137 x138 x139 x140 x141 x142 x143 x144 x145 wx mR
         have qX:=hid (av.out.trans (mR.mono av.out.size))
         clear mR
         go_wp2_with fail
         go_roundg (gk-1)
         case measure=>omega
         case rel=>exact⟨k3+1,by go_num,by omega,by omega,qX⟩
        ·have oQ:¬(k3:Int)<3:=by omega
         go_wp2_with fail
         go_roundg (go-1)
         case measure=>omega
         case rel=>exact⟨j+1,by go_num,by omega,by omega,hid (mo.out.trans (lF.out.mono mo.out.size))⟩
      ·have qD:¬(j:Int)<5:=by omega
       go_wp2_with fail
       refine(by exact qe.out _ jp.out:Calls _ _ _ _ _).mono ?_
       rintro e w1 ⟨rfl,Hf⟩
       go_wp2_with fail
       go_ret
       exact⟨rfl,Hf⟩
    ·go_upto_region 16 with fail
     have lL:=hid (Qfm (v5:=.slice (some ⟨fg,2,none⟩) (F.length-1) (fc-1)) (ew.out) (j6.out) (eA.out) (eB.out) (⟨Qhh j6.out.here (by omega) (.inl rfl),by rw[List.length_drop];omega,fun f hf=>Qnb jt.out jG f (List.mem_of_mem_drop hf)⟩))
     have GS:=hid (Mh.out.trans (((Below.refl w7.heap.size w7).alloc (Nat.le_refl _) (.cells #[.slice ra FR.length rc,.slice (some ⟨fg,0,none⟩) F.length fc,.slice (some ⟨bg,0,none⟩) F.length bc,.slice ca (F.length+1) cc,.slice (some ⟨fg,2,none⟩) (F.length-1) (fc-1)] 42)).mono Mh.out.size))
     generalize w7.alloc (.cells #[.slice ra FR.length rc,.slice (some ⟨fg,0,none⟩) F.length fc,.slice (some ⟨bg,0,none⟩) F.length bc,.slice ca (F.length+1) cc,.slice (some ⟨fg,2,none⟩) (F.length-1) (fc-1)] 42)=w8 at *
     obtain⟨gk1,rfl⟩:∃x:Nat,x=gk:=⟨_,rfl⟩
     obtain⟨wr1,rfl⟩:∃x:World,x=wr:=⟨_,rfl⟩
     obtain⟨LB,fA⟩:∃x:Nat,x=w7.heap.size:=⟨_,rfl⟩
     rw[←fA]at lL
     rw[←fA]
     clear fA
     go_loopg [84] 5 (fun f x wr2=>∃k:Nat,x = .int .i64 k∧k≤5∧5≤k+f∧Hid (Below w8.heap.size w8 wr2))
     case atStart=>exact⟨0,rfl,by omega,by omega,hid (Below.refl _ _)⟩
     case round=>
      obtain⟨j,rfl,hj,xX,mo⟩:=hrel
      have jp:=hid (GS.out.trans (mo.out.mono GS.out.size))
      by_cases Hh:j<5
      ·obtain⟨V,hV,nU⟩:=lL.out.new mo.out
       obtain⟨v,FX,hv,fx⟩:=nU j Hh
       have c0:wr.cell? ⟨LB,j,none⟩=some v:=(hV.cell j).trans hv
       have KR:=hV.lt
       obtain⟨va,vc,rfl,_⟩:=id fx.here
       have qD:(j:Int)<5:=by omega
       have HS:=hid (Qca.new wr #[.string main,.string ⟨#[109,97,105,110]⟩,.string ⟨#[97]⟩] 9)
       have GB:=(Below.refl wr.heap.size wr).alloc (Nat.le_refl _) (.cells #[.string main,.string ⟨#[109,97,105,110]⟩,.string ⟨#[97]⟩] 9)
       have rq:=hid (fx.new GB)
       have mA:=hid GB
       have xh:=mo.out.size
       clear nU hv fx hV GB
       go_upto_region 19 with fail
       generalize wr.alloc (.cells #[.string main,.string ⟨#[109,97,105,110]⟩,.string ⟨#[97]⟩] 9)=w9 at *
       obtain⟨go,rfl⟩:∃x:Nat,x=gk:=⟨_,rfl⟩
       obtain⟨wo,rfl⟩:∃x:World,x=wr:=⟨_,rfl⟩
       obtain⟨SB,ct⟩:∃x:Nat,x=wo.heap.size:=⟨_,rfl⟩
       rw[←ct]at HS
       rw[←ct]
       clear c0 KR ct
       go_loopg [91] 3 (fun f x wr3=>∃k:Nat,x = .int .i64 k∧k≤3∧3≤k+f∧Hid (Below w9.heap.size w9 wr3))
       case atStart=>exact⟨0,rfl,by omega,by omega,hid (Below.refl _ _)⟩
       case round=>
        obtain⟨k3,rfl,Hd,JV,av⟩:=hrel
        have lF:=hid (mA.out.trans (av.out.mono mA.out.size))
        by_cases jH:k3<3
        ·obtain⟨m,hm⟩:∃m,wr.cell? ⟨SB,k3,none⟩=some (.string m):=by
          have h9:=(HS.out.keeps (Qaa.of_fresh av.out (fun _=>False)) (fun e=>e)).cell k3
          have hc:k3=0∨k3=1∨k3=2:=by omega
          rcases hc with rfl|rfl|rfl
          ·exact⟨_,h9⟩
          ·exact⟨_,h9⟩
          ·exact⟨_,h9⟩
         have HM:=hid hm
         have oQ:(k3:Int)<3:=by omega
         clear hm
         go_upto_block 5 with fail
         refine Qnk (c':=QJk 5) (by kernel_rfl) ?_
         refine QKk wr SB k3 _ FX m (rq.out.new av.out) jH HM.out (LL.out _ (jp.out.trans (lF.out.mono jp.out.size))) ?_
         refine hid ?_
         intro x17 x18 x19 x20 x21 x22 x23 x24 x25 x26 x27 x93 x94 x95 x96 x97 x98 x99 x100 x101 x102 x103 x104 x105 x106 x107 x108 x109 x110 x111 x112 x113 x114 x115 x116 x117 x118 x119 x120 x121 x122 x123 x124 x125 x126 x127 x128 x129 x130 x131 x132 x133 x134 x135 x136 x137 x138 x139 x140 x141 x142 x143 x144 x145 wx mR
         have qX:=hid (av.out.trans (mR.mono av.out.size))
         clear mR
         go_wp2_with fail
         go_roundg (gk-1)
         case measure=>omega
         case rel=>exact⟨k3+1,by go_num,by omega,by omega,qX⟩
        ·have oQ:¬(k3:Int)<3:=by omega
         go_wp2_with fail
         go_roundg (go-1)
         case measure=>omega
         case rel=>exact⟨j+1,by go_num,by omega,by omega,hid (mo.out.trans (lF.out.mono mo.out.size))⟩
      ·have qD:¬(j:Int)<5:=by omega
       go_wp2_with fail
       refine(by exact qe.out _ jp.out:Calls _ _ _ _ _).mono ?_
       rintro e w1 ⟨rfl,Hf⟩
       go_wp2_with fail
       go_ret
       exact⟨rfl,Hf⟩
end Go.Proofs.YtofhcgbihonckaaGreat
