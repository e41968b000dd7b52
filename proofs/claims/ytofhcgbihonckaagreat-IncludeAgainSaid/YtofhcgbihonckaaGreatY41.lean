/- Contracts of include: Load. -/
import Derived.Test.YtofhcgbihonckaaGreatY26
import Derived.Test.YtofhcgbihonckaaGreatY19
import Derived.BigQuiet
import Derived.Deep.AppendSrc
import Derived.Deep.LoopGhost
import Derived.Deep.DeepCutAuto
import Derived.Deep.CutBlock
import Derived.Deep.CutRange
set_option linter.all false
set_option maxHeartbeats 8000000
namespace Go.Proofs.YtofhcgbihonckaaGreat
open Go.Lib (hid)
open Go.RowKit
def Qof(F:List QFa)(main:ByteArray)(w:World)(e:Ending)(w':World):Prop:=
 ∃v,e = .returned (.tuple #[v,QJb (QAd F main).2.1,.int .i64 (QAd F main).2.2])∧Qsa w' w.heap.size v (QAd F main).1∧Below w.heap.size w w'
set_option maxRecDepth 100000 in
theorem QLj(fv:Value)(F:List QFa)(main:ByteArray)(w:World)(hF:QKb w fv F)(gB:0<F.length→∀g,fv.ownBlock=some g→g<w.heap.size)(hl:F.length≤1000)(hT:∀f∈F,f.text.size≤maxLen∧f.name.size≤maxLen)(lay:Qhf w)(eP:0<w.heap.size) :
 Calls Tryz.prog 19 #[fv,.string main] w (Qof F main w):=by
 have gJ:=(Below.refl w.heap.size w).alloc (Nat.le_refl _) (.cells #[.int .i64 0,.int .i64 0,.int .i64 0] 27)
 have c8:=hid (Qca.new w #[.int .i64 0,.int .i64 0,.int .i64 0] 27)
 have Ge:(w.alloc (.cells #[.int .i64 0,.int .i64 0,.int .i64 0] 27)).heap.size=w.heap.size+1:=by simp
 have ME:=Q9h fv F main _ (hF.new gJ) (fun h0 g hg=>by have:=gB h0 g hg;omega) hl hT (lay.keeps (Qaa.of_fresh gJ (fun _=>False)) (fun e=>e)) (by omega)
 have jN:=hid (show Calls Tryz.prog 40 #[fv,.string main] (w.alloc (.cells #[.int .i64 0,.int .i64 0,.int .i64 0] 27)) (fun e w'=>∃x v,e = .returned (.tuple #[.pointer x,v,QJb (QAd F main).2.1,.int .i64 (QAd F main).2.2])∧Qsa w' (w.heap.size+1) v (QAd F main).1∧(QAd F main).1.length≤6000∧(∀x∈(QAd F main).1,OkD x.2)∧Below (w.heap.size+1) (w.alloc (.cells #[.int .i64 0,.int .i64 0,.int .i64 0] 27)) w')from ME.mono (by
  rintro e w' ⟨hb,Gu⟩
  rw[Ge]at hb
  unfold QAd
  cases hR:Qld F main with
  | error x=>
   rw[hR]at Gu
   obtain⟨x,rfl⟩:=Gu
   exact⟨_,_,rfl,Qsa.nil _ _,by simp,by simp,hb⟩
  | ok x=>
   rw[hR]at Gu
   obtain⟨lb,mb,v,ov,rv,rfl,Hb,_,_⟩:=Gu
   rw[Ge]at Hb
   obtain⟨q1,q2⟩:=QSm hR
   exact⟨_,_,rfl,Hb,q1,q2,hb⟩))
 have jK:=hid gJ
 unfold Qof
 generalize QAd F main=R at *
 obtain⟨D,⟨p1,p2,p3⟩,er⟩:=R
 unfold QJb at jN ⊢
 clear hF gB hT lay ME gJ
 go_enter Tryz.func19,Tryz.ntmps19
 go_upto_region 1 with fail
 generalize w.alloc (.cells #[.int .i64 0,.int .i64 0,.int .i64 0] 27)=w0 at *
 go_wp2_with fail
 refine(by exact jN.out:Calls _ _ _ _ _).mono ?_
 rintro e w1 ⟨x,v,rfl,Hb,uq,mg,He⟩
 have k1:Qaa (fun _=>False) w0 w1:=Qaa.of_fresh (Ge ▸ He) _
 have KO:=c8.out.keeps k1 (fun e=>e)
 have GU:=KO.alloc (.cells #[.int .i64 p1,.int .i64 p2,.int .i64 p3] 27)
 have JW:=Qca.new w1 #[.int .i64 p1,.int .i64 p2,.int .i64 p3] 27
 have gj:=Hb.new ((Below.refl w1.heap.size w1).alloc (Nat.le_refl _) (.cells #[.int .i64 p1,.int .i64 p2,.int .i64 p3] 27))
 have Hn:Below w.heap.size w (w1.alloc (.cells #[.int .i64 p1,.int .i64 p2,.int .i64 p3] 27)):=(jK.out.trans (He.mono (by omega))).alloc (by have:=He.size;omega) _
 obtain⟨v1,v2,rfl⟩:=Hb.slice
 have M8:=hid GU
 have jZ:=hid JW
 have ij:=hid gj
 have GI:=hid Hn
 have Kh:=hid mg
 have hws1:=He.size
 have hsz2:(w1.alloc (.cells #[.int .i64 p1,.int .i64 p2,.int .i64 p3] 27)).heap.size=w1.heap.size+1:=by simp
 clear Hb He k1 KO GU JW gj Hn mg
 go_upto_region 2 with fail
 generalize w1.alloc (.cells #[.int .i64 p1,.int .i64 p2,.int .i64 p3] 27)=w2 at *
 have sM:=hid (fun(wx:World) (hx:Qsa wx (w.heap.size+1) (.slice v1 D.length v2) D)=>Qlk (w.heap.size+1) (.slice v1 D.length v2) D wx hx uq Kh.out)
 obtain⟨b0,b1,b2,g0,g1,g2,gl⟩:=three M8.out
 obtain⟨q0,q1,q2,i0,i1,i2,il⟩:=three jZ.out
 go_region_with (go_at_call 41;refine(sM.out _ (by exact ij.out.new (Below.refl w2.heap.size w2).drew)).mono ?_;rintro e w7 ⟨rv,rfl,Hl,GO⟩;obtain⟨rva,rvc,qp⟩:=Hl.slice;subst qp;have Gv:Below w2.heap.size w2 w7:=(Below.refl w2.heap.size w2).drew.trans GO;have kP:=M8.out.keeps (Qaa.of_fresh Gv (fun _=>False)) (fun e=>e);have kQ:=jZ.out.keeps (Qaa.of_fresh Gv (fun _=>False)) (fun e=>e);obtain⟨c0,c1,c2,h0,h1,h2,cl⟩:=three kP;obtain⟨d0,d1,d2,j0,j1,j2,dl⟩:=three kQ)
 all_goals
  have Hh:=((kP.set 0 (.int .i64 p1)).set 1 (.int .i64 p2)).set 2 (.int .i64 p3)
  obtain⟨r0,r1,r2,-⟩:=three (show Qca _ w.heap.size #[.int .i64 p1,.int .i64 p2,.int .i64 p3] 27 from Hh)
  have kq:Qaa (· = w.heap.size) w7 (((w7.setCell ⟨w.heap.size,0,none⟩ (.int .i64 p1)).setCell ⟨w.heap.size,1,none⟩ (.int .i64 p2)).setCell ⟨w.heap.size,2,none⟩ (.int .i64 p3)):=(((Qaa.refl (· = w.heap.size) w7).setCell (p:=⟨w.heap.size,0,none⟩) (.inr rfl) _).setCell (p:=⟨w.heap.size,1,none⟩) (.inr rfl) _).setCell (p:=⟨w.heap.size,2,none⟩) (.inr rfl) _
  have td:=hid ((Hl.lower (b2:=w.heap.size) (by show w.heap.size≤w2.heap.size;omega)).side kq (fun b e=>by subst e;exact⟨_,kP⟩))
  have mK:=hid ((((GI.out.trans (Gv.mono (by omega))).setCell (p:=⟨w.heap.size,0,none⟩) (Nat.le_refl _) (.int .i64 p1)).setCell (p:=⟨w.heap.size,1,none⟩) (Nat.le_refl _) (.int .i64 p2)).setCell (p:=⟨w.heap.size,2,none⟩) (Nat.le_refl _) (.int .i64 p3))
  clear Hh kq Hl GO Gv kP kQ
  go_wp2_with fail
  exact bodyPost_ret (v:=.tuple #[.slice rva D.length rvc,.agg #[.int .i64 p1,.int .i64 p2,.int .i64 p3],.int .i64 er]) (by simp[results,Tryz.results19,go_sem,r0,r1,r2]) rfl ⟨_,rfl,td.out,mK.out⟩
theorem QRm{F:List QFa}{m:ByteArray}{p:QOk}{er:Int}(h:Qld F m = .error (p,er)):er≠0:=by
 unfold Qld at h
 split at h
 ·cases h;decide
 ·split at h
  ·cases h;decide
  ·split at h
   ·cases h;decide
   ·exact Q5i F _ _ _ _ _ _ _ _ h
def QCf(F:List QFa)(main:ByteArray)(w:World)(e:Ending)(w':World):Prop:=
 ∃v,e = .returned (.tuple #[v,.int .i64 (Qwg F main).2])∧w'.ownsRow w.heap.size 9 1 v (Qwg F main).1.length (Qad (Qwg F main).1)∧Below w.heap.size w w'
set_option maxRecDepth 100000 in
theorem Qjl(fv:Value)(F:List QFa)(main:ByteArray)(w:World)(hF:QKb w fv F)(gB:0<F.length→∀g,fv.ownBlock=some g→g<w.heap.size)(hl:F.length≤1000)(hT:∀f∈F,f.text.size≤maxLen∧f.name.size≤maxLen)(lay:Qhf w)(eP:0<w.heap.size) :
 Calls Tryz.prog 23 #[fv,.string main] w (QCf F main w):=by
 have ME:=Q9h fv F main w hF gB hl hT lay eP
 have Hq:∀p er,Qld F main = .error (p,er)→er≠0:=fun p er h=>QRm h
 unfold QCf Qwg
 obtain⟨fa,fc,rfl,_⟩:=hF
 generalize Qld F main=R at *
 have jN:=hid ME
 unfold QWk at jN
 have MJ:=hid Hq
 clear ME gB hT lay Hq
 cases R with
 | error x=>
  obtain⟨⟨p1,p2,p3⟩,er⟩:=x
  have pL:(er != 0)=true:=by rw[bne_iff_ne];exact MJ.out _ _ rfl
  unfold QJb at jN
  go_enter Tryz.func23,Tryz.ntmps23
  go_wp2_with fail
  refine(by exact jN.out:Calls _ _ _ _ _).mono ?_
  rintro e w1 ⟨He,x,rfl⟩
  have MQ:=hid (He.alloc He.size (.cells #[.int .i64 p1,.int .i64 p2,.int .i64 p3] 27))
  clear He
  go_wp2_with fail
  go_ret2
  exact⟨_,rfl,World.ownsRow_nil _ _ _ _,MQ.out⟩
 | ok x=>
  obtain⟨ord,giv,out⟩:=x
  unfold QJb at jN
  go_enter Tryz.func23,Tryz.ntmps23
  go_wp2_with fail
  refine(by exact jN.out:Calls _ _ _ _ _).mono ?_
  rintro e w1 ⟨He,lb,mb,v,ov,rv,rfl,Hb,hH,lO⟩
  have MQ:=hid (He.alloc He.size (.cells #[.int .i64 0,.int .i64 0,.int .i64 0] 27))
  obtain⟨v1,v2,rfl⟩:=Hb.slice
  have GX:=hH.alloc (.cells #[.int .i64 0,.int .i64 0,.int .i64 0] 27)
  have c3:(w1.alloc (.cells #[.int .i64 0,.int .i64 0,.int .i64 0] 27)).cell? ⟨lb,3,none⟩=some rv:=GX.cell 3
  have cl:=GX.lt
  have HO:=hid (World.ownsRow.alloc lO (.cells #[.int .i64 0,.int .i64 0,.int .i64 0] 27))
  clear He Hb hH GX lO
  go_wp2_with fail
  go_ret2
  exact⟨_,rfl,HO.out,MQ.out⟩
theorem below_drewN{B:Nat}{w w':World}(h:Below B w w')(n:Nat):Below B w (w'.drewN n):=⟨h.os,h.tape,h.output,h.size,h.block⟩
theorem Q3i(a1 a2:Option Addr)(c1 c2:Nat)(l:List ByteArray)(w:World)(hl:l.length≤1000)(hr:∀(i:Nat) (hi:i<l.length),∃g g',a1=some ⟨g,0,none⟩∧a2=some ⟨g',0,none⟩∧g<w.heap.size∧g'<w.heap.size∧w.cell? ⟨g,i,none⟩=some (.string l[i])∧w.cell? ⟨g',i,none⟩=some (.string l[i])) :
 Calls Tryz.prog 25 #[.slice a1 l.length c1,.slice a2 l.length c2] w fun e w'=>e = .returned (.bool true)∧Below w.heap.size w w':=by
 have HR:=hid hr
 clear hr
 go_enter Tryz.func25,Tryz.ntmps25
 go_wp2_with fail
 go_loopg [13] (l.length) (fun f x wr=>∃k:Nat,x = .int .i64 k∧k≤l.length∧l.length≤k+f∧Below w.heap.size w wr)
 case atStart=>exact⟨0,rfl,by omega,by omega,Below.refl _ _⟩
 case round=>
  obtain⟨k,rfl,hk,hf,hb⟩:=hrel
  have kc:=hb.size
  by_cases Hj:k<l.length
  ·obtain⟨g,g',rfl,rfl,hg,hg',c0,c0'⟩:=HR.out k Hj
   have d0:=(hb.cell (p:=⟨g,k,none⟩) hg).trans c0
   have d0':=(hb.cell (p:=⟨g',k,none⟩) hg').trans c0'
   have cx:g<wr.heap.size:=by omega
   have hgr':g'<wr.heap.size:=by omega
   have pX:(k:Int)<(l.length:Int):=by omega
   have HB:=hid hb
   generalize l[k]=nm at *
   have Mg:(nm.toList == nm.toList)=true:=by simp
   clear c0 c0' hb
   go_wp2_with fail
   go_quiet (fail)
   go_wp2_with fail
   go_roundg (gk-1)
   case measure=>omega
   case rel=>exact⟨k+1,by go_num,by omega,by omega,below_drewN HB.out _⟩
  ·have pX:¬(k:Int)<(l.length:Int):=by omega
   go_wp2_with fail
   go_ret
   exact⟨rfl,hb⟩
theorem Q2i(b1 g2 c2:Nat)(l:List ByteArray)(v1:Value)(w:World)(h1:w.ownsRow b1 9 1 v1 l.length (Qad l))(h2:Qca w g2 (Qad l).toArray 9)(hl:l.length≤1000) :
 Calls Tryz.prog 25 #[v1,.slice (some ⟨g2,0,none⟩) l.length c2] w fun e w'=>e = .returned (.bool true)∧Below w.heap.size w w':=by
 obtain⟨a1,c1,rfl⟩:=Qma h1
 refine Q3i a1 _ c1 c2 l w hl (fun i hi=>?_)
 obtain⟨g,cap,e1,hg,_,hc⟩:=QWd h1 (by omega)
 cases e1
 have h9:=hc i (by omega)
 refine⟨g,g2,rfl,rfl,hg,h2.lt,?_,?_⟩
 ·rw[h9];unfold Qad;simp[hi]
 ·rw[h2.cell i];unfold Qad;simp[hi]
def exF:List QFa:=[⟨⟨#[109,97,105,110]⟩,⟨#[47,105,110,99,108,117,100,101,47,32,34,97,34,59,32,47,32,123,32,112,59,32,125,59]⟩⟩,⟨⟨#[97]⟩,⟨#[47,32,123,32,113,59,32,125,59]⟩⟩]
theorem QMm:(QAd exF ⟨#[109,97,105,110]⟩).2=((0,0,0),0)∧(QAd exF ⟨#[109,97,105,110]⟩).1.length=6∧((QAd exF ⟨#[109,97,105,110]⟩).1[1]?).map (fun x=>(x.1,x.2.name))=some (1,⟨#[113]⟩)∧((QAd exF ⟨#[109,97,105,110]⟩).1[4]?).map (fun x=>(x.1,x.2.name))=some (0,⟨#[112]⟩):=
 ⟨by kernel_rfl,by kernel_rfl,by kernel_rfl,by kernel_rfl⟩
theorem Q4i{w:World}(h:Qhf w):0<w.heap.size:=by
 obtain⟨m,h⟩:=h
 have:=World.block_lt_of_cell? w _ h
 exact this
theorem QLm{w:World}{base:Nat}{v:Value}{D:List FdT}(h:Qsa w base v D)(hl:D.length=6)(h1:(D[1]?).map (fun x=>(x.1,x.2.name))=some (1,⟨#[113]⟩))(h4:(D[4]?).map (fun x=>(x.1,x.2.name))=some (0,⟨#[112]⟩)) :
 ∃g c,v = .slice (some ⟨g,0,none⟩) 6 c∧w.cell? ⟨g,9,none⟩=some (.string ⟨#[113]⟩)∧w.cell? ⟨g,11,none⟩=some (.int .i64 1)∧w.cell? ⟨g,30,none⟩=some (.string ⟨#[112]⟩)∧w.cell? ⟨g,32,none⟩=some (.int .i64 0)∧g<w.heap.size:=by
 obtain⟨g,c,pv,rfl,g1,_,_,_,b2,_,b4,_⟩:=h.at 1 (by omega)
 obtain⟨g',c',pv',e,_,_,_,_,d2,_,d4,_⟩:=h.at 4 (by omega)
 cases e
 rw[List.getElem?_eq_getElem (by omega)]at h1 h4
 simp only[Option.map_some,Option.some.injEq,Prod.mk.injEq]at h1 h4
 rw[hl]
 exact⟨g,c,rfl,by rw[←h1.2];exact b2,by rw[←h1.1];exact b4,by rw[←h4.2];exact d2,by rw[←h4.1];exact d4,g1⟩
set_option maxRecDepth 100000 in
theorem Q1i(w:World)(h0:Qhf w):Calls Tryz.prog 20 #[] w fun e w'=>e = .returned (.bool true)∧Below w.heap.size w w':=by
 have gJ:=(Below.refl w.heap.size w).alloc (Nat.le_refl _) (.cells #[.string ⟨#[109,97,105,110]⟩,.string ⟨#[47,105,110,99,108,117,100,101,47,32,34,97,34,59,32,47,32,123,32,112,59,32,125,59]⟩,.string ⟨#[97]⟩,.string ⟨#[47,32,123,32,113,59,32,125,59]⟩] 46)
 have hH:=Qca.new w #[.string ⟨#[109,97,105,110]⟩,.string ⟨#[47,105,110,99,108,117,100,101,47,32,34,97,34,59,32,47,32,123,32,112,59,32,125,59]⟩,.string ⟨#[97]⟩,.string ⟨#[47,32,123,32,113,59,32,125,59]⟩] 46
 generalize KR:w.alloc (.cells #[.string ⟨#[109,97,105,110]⟩,.string ⟨#[47,105,110,99,108,117,100,101,47,32,34,97,34,59,32,47,32,123,32,112,59,32,125,59]⟩,.string ⟨#[97]⟩,.string ⟨#[47,32,123,32,113,59,32,125,59]⟩] 46)=w1 at *
 have hF:QKb w1 (.slice (some ⟨w.heap.size,0,none⟩) 2 2) exF:=⟨_,2,rfl,by decide,by decide,fun _=>⟨w.heap.size,0,rfl,hH.lt,fun i hi=>by
  have h2:i=0∨i=1:=by have:exF.length=2:=rfl;omega
  rcases h2 with rfl|rfl
  ·exact⟨hH.cell 0,hH.cell 1⟩
  ·exact⟨hH.cell 2,hH.cell 3⟩⟩⟩
 have aC:=Q4i h0
 have gz:=QLj _ exF ⟨#[109,97,105,110]⟩ w1 hF (fun _ g e=>by have e2:w.heap.size=g:=Option.some.inj e;have:=hH.lt;omega) (by decide) (by decide) (h0.keeps (Qaa.of_fresh gJ (fun _=>False)) (fun e=>e)) (by have:=hH.lt;omega)
 obtain⟨x1,x2,x3,x4⟩:=QMm
 unfold Qof at gz
 generalize QAd exF ⟨#[109,97,105,110]⟩=R at *
 obtain⟨D,⟨p1,p2,p3⟩,er⟩:=R
 simp only[Prod.mk.injEq]at x1 x2 x3 x4
 obtain⟨⟨rfl,rfl,rfl⟩,rfl⟩:=x1
 unfold QJb at gz
 have kB:=hid gz
 have jK:=hid gJ
 have kn:=hid KR
 clear h0 hF gz hH gJ KR
 go_enter Tryz.func20,Tryz.ntmps20
 go_wp2_with fail
 rw[kn.out]
 refine(by exact kB.out:Calls _ _ _ _ _).mono ?_
 rintro e w2 ⟨v,rfl,hD,hb⟩
 obtain⟨g,c,rfl,e1,e2,e3,e4,g1⟩:=QLm hD x2 x3 x4
 have sI:=hid ((jK.out.trans (hb.mono jK.out.size)).alloc (by have:=hb.size;have:=jK.out.size;omega) (.cells #[.int .i64 0,.int .i64 0,.int .i64 0] 27))
 clear hD x2 x3 x4 hb
 go_wp2_with fail
 go_ret
 exact⟨rfl,sI.out⟩
end Go.Proofs.YtofhcgbihonckaaGreat
