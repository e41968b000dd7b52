/- The reader of source: note. | The reader of source: taken. | The reader of source: Primary at a place of the tokens. | The reader of source: bytes. | The reader of source: cells (printed by gsrcg.py). | The reader of source: part (printed by gsrch.py). | The reader of source: deletes. | The reader of source: named. | The reader of source: body. | The reader of source: member (printed by gsrcl.py). | The reader of source: all of its parts; top (printed by gsrcl.py). -/
import Derived.Test.YtgaboghigefgbaaGreatDoorZ16
import Derived.Deep.RegionLaw
import Derived.Deep.AppendLies
import Derived.Test.YtgaboghigefgbaaGreatDoorZ11
import Derived.Laws.IdiomStrings
import Derived.Test.YtgaboghigefgbaaGreatDoorZ18
set_option linter.all false
set_option maxHeartbeats 8000000
namespace Go.Proofs.YtgaboghigefgbaaGreatDoor
open Go.Lib (hid)
open Go.RowKit
theorem QSs:(Tryz.prog.info? 123).map (fun i=>(i.zero,i.size,i.bytes))=some (some (.agg #[.int .i64 0,.string ⟨#[]⟩,.string ⟨#[]⟩,.slice none 0 0,.int .i64 0,.int .i64 0,.int .i64 0]),7,88):=by kernel_rfl
def Qdd(file:Int)(d:Qxc)(pv:Value):Value:=.agg #[.int .i64 d.kind,.string d.label,.string d.name,pv,.int .i64 file,.int .i64 d.line,.int .i64 d.col]
def QWf(file:Int)(d:Qxc)(pv:Value):Array Value:=#[.int .i64 d.kind,.string d.label,.string d.name,pv,.int .i64 file,.int .i64 d.line,.int .i64 d.col]
theorem Qpd{w:World}{B:Nat}{x0 x1 x2 x3 x4 x5 x6:Value}{t:TypeId}(h:Holds w B #[x0,x1,x2,x3,x4,x5,x6] t) :
 w.cell? ⟨B,0,none⟩=some x0∧w.cell? ⟨B,1,none⟩=some x1∧w.cell? ⟨B,2,none⟩=some x2∧w.cell? ⟨B,3,none⟩=some x3∧w.cell? ⟨B,4,none⟩=some x4∧w.cell? ⟨B,5,none⟩=some x5∧w.cell? ⟨B,6,none⟩=some x6:=
 ⟨h.cell 0,h.cell 1,h.cell 2,h.cell 3,h.cell 4,h.cell 5,h.cell 6⟩
theorem QFa{w:World}{base:Nat}{e t:TypeId}{size:Nat}{v:Value}{n b:Nat}{xs:List Value}{cs:Array Value}(h:w.ownsRow base e size v n xs)(hH:Holds w b cs t)(Hm:t≠e):v.ownBlock≠some b:=by
 intro e2
 obtain⟨_,_,cur,h2⟩:=Qmd h e2
 exact QId hH h2 Hm rfl
theorem QOp{w w1 w8:World}{r base:Nat}{file:Int}{lv x ov fp v8:Value}{D:List Qxc}{d:Qxc}{pv:Value}{vs:List Value}{o:Obj}(h:QIo w r base file lv x ov fp D)(hp:QSa w base pv d.parts)(k1:Qaa (fun _=>False) w w1)
 (JI:vs.length=D.length) (Ho:w.ownsRow base 123 7 ov D.length (QPb file D vs)) (Gb:∀k (h:k<D.length) (h2:k<vs.length),QSa w base vs[k] D[k].parts)
 (Hj:w8.ownsRow base 123 7 v8 (D.length+1) (QPb file D vs++[.int .i64 d.kind,.string d.label,.string d.name,pv,.int .i64 file,.int .i64 d.line,.int .i64 d.col])) (hg:(w1.alloc o).grownBy w8 ov.ownBlock) :
 r<w8.heap.size∧w8.frozen? ⟨r,2,none⟩=false∧w8.cell? ⟨r,2,none⟩=some ov∧QIo (w8.setCell ⟨r,2,none⟩ v8) r base file lv x v8 fp (D++[d])∧Qaa (fun b=>b=r∨ov.ownBlock=some b) w (w8.setCell ⟨r,2,none⟩ v8):=by
 have k2:Qaa (fun b=>ov.ownBlock=some b) w w8:=((k1.alloc o).mono (fun _ _ e=>e.elim)).grown hg (fun i e=>.inr e)
 have Hm:=QFa Ho h.1 (by decide)
 have h8:Holds w8 r #[lv,x,ov,fp] 148:=h.1.keeps k2 Hm
 have me:∀{v:Value} {ps:List Qzf},QSa w base v ps→QSa w8 base v ps:=by
  intro v ps kR
  obtain⟨us,u1,u2,u3⟩:=kR
  refine⟨us,u1,Qca u2 k2 (fun g iw e=>?_),fun j a b=>Qca (u3 j a b) k2 (fun g iw e=>?_)⟩
  ·obtain⟨_,_,cur,q⟩:=Qmd Ho e
   exact QFa u2 q (by decide) iw
  ·obtain⟨_,_,cur,q⟩:=Qmd Ho e
   exact QFa (u3 j a b) q (by decide) iw
 have h9:=h8.set 2 v8
 have k3:=(Qaa.refl (· = r) w8).setCell (p:=⟨r,2,none⟩) (.inr rfl) v8
 have ha:=Qyc.one h8 (by decide) (by decide) (by decide)
 refine⟨h8.lt,h8.free 2,h8.cell 2,⟨h9,?_,h.2.2.1,Nat.le_trans h.2.2.2 (Nat.le_trans k2.size k3.size)⟩,(k2.mono (fun _ _ e=>.inr e)).setCell (.inr (.inl rfl)) v8⟩
 refine QNb.keeps ?_ k3 ha
 refine⟨vs++[pv],by simp[JI],?_,?_⟩
 ·rw[QVf file D vs d pv JI]
  simpa using Hj
 ·intro j hj Gu
  by_cases e:j<D.length
  ·rw[List.getElem_append_left (by omega),List.getElem_append_left e]
   exact me (Gb j e (by omega))
  ·have Gd:j=D.length:=by simp at hj;omega
   subst Gd
   rw[List.getElem_append_right (by omega),List.getElem_append_right (by omega)]
   simp only[JI,Nat.sub_self,List.getElem_cons_zero]
   exact me hp
set_option maxRecDepth 100000 in
theorem Qlg(w:World)(r base:Nat)(file:Int)(lv x ov fp:Value)(D:List Qxc)(d:Qxc)(pv:Value)(h:QIo w r base file lv x ov fp D)(hp:QSa w base pv d.parts)(hl:D.length≤20000) :
 Calls Tryz.prog 199 #[.pointer (some ⟨r,0,none⟩),Qdd file d pv] w fun e w'=>e = .returned (.tuple #[])∧∃ov',QIo w' r base file lv x ov' fp (D++[d])∧Qaa (fun b=>b=r∨ov.ownBlock=some b) w w':=by
 obtain⟨pa,pc,rfl⟩:=hp.slice
 obtain⟨oa,oc,rfl⟩:=h.2.1.slice
 obtain⟨vs,JI,Ho,Gb⟩:=id h.2.1
 have H3:=h.2.2.2
 have hH:=h.1
 have M9:=hid (fun(w1 w8:World) (v8:Value) (o:Obj) k1 Hj hg=>QOp (w1:=w1) (w8:=w8) (v8:=v8) (o:=o) h hp k1 JI Ho Gb Hj hg)
 have Gj:=World.ownsRow.alloc Ho (.cells (QWf file d (.slice pa d.parts.length pc)) 123)
 have hN:=Holds.new w (QWf file d (.slice pa d.parts.length pc)) 123
 have Gm:=hH.alloc (.cells (QWf file d (.slice pa d.parts.length pc)) 123)
 have k1:=(Qaa.refl (fun _=>False) w).alloc (.cells (QWf file d (.slice pa d.parts.length pc)) 123)
 unfold Qdd
 unfold QWf at Gj hN Gm k1
 clear Gb Ho h hp hH
 generalize QPb file D vs=xs at *
 obtain⟨dk,dl,dn,dp,dli,dc⟩:=d
 simp only at *
 obtain⟨i0,hi,H4,Hp,gj⟩:=info_parts QSs
 go_enter Tryz.func199,Tryz.ntmps199
 go_wp2_with fail
 generalize w.alloc (.cells #[.int .i64 dk,.string dl,.string dn,.slice pa dp.length pc,.int .i64 file,.int .i64 dli,.int .i64 dc] 123)=wb at *
 obtain⟨m0,m1,m2,m3,m4,m5,m6⟩:=Qpd hN
 have c2:wb.cell? ⟨r,2,none⟩=some (.slice oa D.length oc):=Gm.cell 2
 have crl:=Gm.lt
 have im:=hN.lt
 have KB:=Nat.le_trans H3 k1.size
 have gI:=hid (World.ownsRow.alloc (show wb.drew.ownsRow base 123 7 (.slice oa D.length oc) D.length xs from Gj) (.cells #[.int .i64 dk,.string dl,.string dn,.slice pa dp.length pc,.int .i64 file,.int .i64 dli,.int .i64 dc] 123))
 clear Gj Gm hN
 go_region_law (refine step_append_lies _ (by rfl) _ _ _ (by rfl) base 123 i0 _ 7 88 Tryz.underlying115 hi H4 Hp gj rfl (by omega) _ D.length xs (by rfl) gI.out ⟨wb.heap.size,0,none⟩ 1 1 [.int .i64 dk,.string dl,.string dn,.slice pa dp.length pc,.int .i64 file,.int .i64 dli,.int .i64 dc] (by rfl) (by rfl) (World.news_of_block (cs:=#[.int .i64 dk,.string dl,.string dn,.slice pa dp.length pc,.int .i64 file,.int .i64 dli,.int .i64 dc]) (t:=123) (fr:=(0,0)) (heap_alloc_new wb.drew _)) (by simp[Value.oneCell']) (by omega) (by unfold maxLen;omega) (by omega) (by simp;omega) (wb.heap.size+1) (by simp) ?_;intro gg cap2 w8 kD Hd Gp th;obtain⟨y0,y1,y2,y3,y4⟩:=M9.out wb.drew w8 _ _ k1.drew kD Hd)
 all_goals
  go_wp2_with fail
  go_end0
  exact⟨rfl,_,y3,y4⟩
def QJi(f:Nat)(right:List UInt8→Bool):Prop:=
 (∀args w,(callFunc f args).run Tryz.prog w = .ok (.enter f args) w)∧∀(s:ByteArray) (w:World),s.size≤16000→Calls Tryz.prog f #[.string s] w fun e w'=>e = .returned (.bool (right s.data.toList))∧w=w'
theorem Qwp{L:List Tok}{i:Nat}{kind:Int}:isK L i kind []=decide ((tkN L i).kind=kind):=by unfold isK;simp
set_option maxRecDepth 100000 in
theorem Qrd(w:World)(r base:Nat)(file:Int)(L:List Tok)(lv ov:Value)(i:Nat)(D:List Qxc)(h:Q7a w r base file L lv ov i D)(kind:Int)(kQ:kind≠8)(f:Nat)(right:List UInt8→Bool)(hf:QJi f right) :
 Calls Tryz.prog 161 #[.pointer (some ⟨r,0,none⟩),.int .i64 kind,.func (.func f) #[] #[]] w (QAd r base file L lv ov i D kind right w):=by
 have He:Below w.heap.size w (w.alloc (.cells #[.int .i64 0,.string ⟨#[]⟩,.int .i64 0,.int .i64 0,.int .i64 0,.int .i64 0] 150)):=(Below.refl _ _).alloc (Nat.le_refl _) _
 have mc:=Holds.new w #[.int .i64 0,.string ⟨#[]⟩,.int .i64 0,.int .i64 0,.int .i64 0,.int .i64 0] 150
 have ht:=QOj _ r base file L lv ov i D (h.keeps (Qaa.of_fresh He (fun _=>False))) kind [] kQ
 have uH:=fun wx hx=>Q7c wx r base file L lv ov (i+1) D hx i 1
 have jq:=h.holds.lt
 have bG:=h.size
 have fg:=h.ok.at i
 have hR:=hid (show QZc L kind right i=if (tkN L i).kind=kind then(if right (tkN L i).text=true then .ok (i+1)else .error (i,1))else .error (i,6)from rfl)
 obtain⟨aC,hf⟩:=hf
 unfold Qth at ht
 rw[Qwp]at ht
 unfold QAd
 unfold QHb at ht uH ⊢
 generalize QZc L kind right i=R at *
 generalize tkN L i=t at *
 obtain⟨t0,t1,t2,t3,t4⟩:=t
 simp only at ht uH fg hR ⊢
 have J8:∀wx,Calls Tryz.prog f #[.string ⟨t1.toArray⟩] wx fun e w'=>e = .returned (.bool (right t1))∧wx=w':=fun wx=>hf ⟨t1.toArray⟩ wx (by simpa[ByteArray.size]using fg)
 have GD:=hid uH
 clear hf uH h fg
 go_enter Tryz.func161,Tryz.ntmps161
 go_wp2_with fail
 generalize w.alloc (.cells #[.int .i64 0,.string ⟨#[]⟩,.int .i64 0,.int .i64 0,.int .i64 0,.int .i64 0] 150)=w0 at *
 refine ht.mono ?_
 rintro e w1 ⟨rfl,gz,de,JA⟩
 have Gg:Qaa (· = r) w w1:=((Qaa.of_fresh He (fun _=>False)).mono (fun _ _ e=>e.elim)).trans gz (fun _ _ e=>e)
 have iM:w.heap.size≠r:=by omega
 have JZ:=mc.keeps gz iM
 have oJ:=hid (JZ.alloc (.cells #[.int .i64 t0,.string ⟨t1.toArray⟩,.int .i64 t2,.int .i64 file,.int .i64 t3,.int .i64 t4] 150))
 have aX:=hid (Holds.new w1 #[.int .i64 t0,.string ⟨t1.toArray⟩,.int .i64 t2,.int .i64 file,.int .i64 t3,.int .i64 t4] 150)
 have jO:=hid (Gg.alloc (.cells #[.int .i64 t0,.string ⟨t1.toArray⟩,.int .i64 t2,.int .i64 file,.int .i64 t3,.int .i64 t4] 150))
 have qR:=mc.lt
 have Cz:=gz.size
 have Hx:w1.heap.size≠r:=by omega
 have Gk:w1.heap.size≠w.heap.size:=by omega
 have HY:=hid de
 have HN:=hid JA
 clear He mc ht gz JZ Gg de JA
 obtain⟨m0,m1,m2,m3,m4,m5⟩:=Qra aX.out
 obtain⟨n0,n1,n2,n3,n4,n5⟩:=Qra oJ.out
 obtain⟨f0,f1,f2,f3,f4,f5⟩:=Qkg oJ.out
 have l2:=oJ.out.lt
 have l3:=aX.out.lt
 have Hn:∀(wx:World),Holds wx w.heap.size #[.int .i64 0,.string ⟨#[]⟩,.int .i64 0,.int .i64 0,.int .i64 0,.int .i64 0] 150→Qaa (· = r) w wx→
  Holds (Q9m wx w.heap.size (.int .i64 t0) (.string ⟨t1.toArray⟩) (.int .i64 t2) (.int .i64 file) (.int .i64 t3) (.int .i64 t4)) w.heap.size #[.int .i64 t0,.string ⟨t1.toArray⟩,.int .i64 t2,.int .i64 file,.int .i64 t3,.int .i64 t4] 150∧
  Qaa (· = r) w (Q9m wx w.heap.size (.int .i64 t0) (.string ⟨t1.toArray⟩) (.int .i64 t2) (.int .i64 file) (.int .i64 t3) (.int .i64 t4))∧
  (Q7a wx r base file L lv ov (i+1) D→Q7a (Q9m wx w.heap.size (.int .i64 t0) (.string ⟨t1.toArray⟩) (.int .i64 t2) (.int .i64 file) (.int .i64 t3) (.int .i64 t4)) r base file L lv ov (i+1) D)∧
  (∀c,QBb wx r file L lv ov i c→QBb (Q9m wx w.heap.size (.int .i64 t0) (.string ⟨t1.toArray⟩) (.int .i64 t2) (.int .i64 file) (.int .i64 t3) (.int .i64 t4)) r file L lv ov i c):=by
  intro wx hH hk
  refine⟨QNj hH _ _ _ _ _ _,Q9d hk (.inl (Nat.le_refl _)) _ _ _ _ _ _,fun hs=>?_,fun c hb=>hb.six hH _ _ _ _ _ _⟩
  have k6:=Q9d (S:=(· = w.heap.size)) (Qaa.refl _ wx) (B:=w.heap.size) (.inr rfl) (.int .i64 t0) (.string ⟨t1.toArray⟩) (.int .i64 t2) (.int .i64 file) (.int .i64 t3) (.int .i64 t4)
  have me:=Qyc.one hH (by decide) (by decide) (by decide)
  exact⟨hs.holds.keeps k6 (Ne.symm iM),hs.toks.keeps k6 (fun b e=>by cases e;exact bG),hs.defs.keeps k6 me,hs.low,Nat.le_trans hs.size k6.size,hs.lt,hs.ok,hs.cnt⟩
 have gX:=hid Hn
 clear Hn
 by_cases hk:t0=kind
 ·subst hk
  have M5:=hid ((HY.out (decide_eq_true rfl)).alloc (.cells #[.int .i64 t0,.string ⟨t1.toArray⟩,.int .i64 t2,.int .i64 file,.int .i64 t3,.int .i64 t4] 150))
  have mW:=hR.out
  rw[if_pos rfl]at mW
  cases hg:right t1 with
  | true=>
   rw[hg,if_pos rfl]at mW
   subst mW
   rw[hg]at J8
   have vQ:=hid J8
   clear J8 hg hR
   go_wp2_with fail
   refine(vQ.out _).mono ?_
   rintro e w2 ⟨rfl,rfl⟩
   go_wp2_with fail
   obtain⟨z1,z2,z3,_⟩:=gX.out _ oJ.out jO.out
   replace z3:=z3 M5.out
   unfold Q9m at z1 z2 z3
   obtain⟨q0,q1,q2,q3,q4,q5⟩:=Qra z1
   exact bodyPost_ret (v:=.tuple #[.agg #[.int .i64 t0,.string ⟨t1.toArray⟩,.int .i64 t2,.int .i64 file,.int .i64 t3,.int .i64 t4],.bool true]) (by simp[results,Tryz.results161,go_sem,q0,q1,q2,q3,q4,q5]) rfl ⟨z2,rfl,z3⟩
  | false=>
   rw[hg,if_neg (by simp)]at mW
   subst mW
   rw[hg]at J8
   have vQ:=hid J8
   clear J8 hg hR
   go_wp2_with fail
   refine(vQ.out _).mono ?_
   rintro e w2 ⟨rfl,rfl⟩
   go_wp2_with fail
   go_region_with (go_at_call 168;refine(GD.out _ (by exact M5.out.keeps ((Qaa.refl _ _).drew))).mono ?_;rintro e w4 ⟨rfl,Hq,gA⟩;have cX:=oJ.out.drew.keeps gA iM;have mx:=aX.out.drew.keeps gA Hx;obtain⟨y0,y1,y2,y3,y4,y5⟩:=Qra mx;obtain⟨v0,v1,v2,v3,v4,v5⟩:=Qra cX;obtain⟨p0,p1,p2,p3,p4,p5⟩:=Qkg cX;have Bx:=cX.lt)
   all_goals
    go_wp2_with fail
    obtain⟨z1,z2,_,z3⟩:=gX.out _ cX (jO.out.drew.trans gA (fun _ _ e=>e))
    replace z3:=z3 1 Hq
    unfold Q9m at z1 z2 z3
    obtain⟨q0,q1,q2,q3,q4,q5⟩:=Qra z1
    exact bodyPost_ret (v:=.tuple #[.agg #[.int .i64 t0,.string ⟨t1.toArray⟩,.int .i64 t2,.int .i64 file,.int .i64 t3,.int .i64 t4],.bool false]) (by simp[results,Tryz.results161,go_sem,q0,q1,q2,q3,q4,q5]) rfl ⟨z2,rfl,z3⟩
 ·have sH:decide (t0=kind)=false:=decide_eq_false hk
  have mW:=hR.out
  rw[if_neg hk]at mW
  subst mW
  have GI:=hid ((HN.out sH).alloc (.cells #[.int .i64 t0,.string ⟨t1.toArray⟩,.int .i64 t2,.int .i64 file,.int .i64 t3,.int .i64 t4] 150))
  rw[sH]
  clear J8 hR hk
  go_wp2_with fail
  obtain⟨z1,z2,_,z3⟩:=gX.out _ oJ.out jO.out
  replace z3:=z3 6 GI.out
  unfold Q9m at z1 z2 z3
  obtain⟨q0,q1,q2,q3,q4,q5⟩:=Qra z1
  exact bodyPost_ret (v:=.tuple #[.agg #[.int .i64 t0,.string ⟨t1.toArray⟩,.int .i64 t2,.int .i64 file,.int .i64 t3,.int .i64 t4],.bool false]) (by simp[results,Tryz.results161,go_sem,q0,q1,q2,q3,q4,q5]) rfl ⟨z2,rfl,z3⟩
theorem Quh.tokAt{B:Nat}{w:World}{v:Value}{file:Int}{L:List Tok}(h:Quh B w v file L)(hB:B≤w.heap.size)(ho:LOk L):QYj (fun x=>x<w.heap.size) w v (L.map tkX):=by
 obtain⟨g,cap,rfl,hg,hc⟩:=h
 refine⟨_,cap,by rw[List.length_map],fun t ht=>?_,fun _=>⟨g,0,rfl,by omega,fun j hj=>?_⟩⟩
 ·obtain⟨u,hu,rfl⟩:=List.mem_map.1 ht
  have:=ho.text u hu
  show(⟨u.text.toArray⟩:ByteArray).size≤maxLen
  simp[ByteArray.size,maxLen];omega
 ·rw[List.length_map]at hj
  have e0:=hc j hj 0 _ rfl
  have e1:=hc j hj 1 _ rfl
  have e2:=hc j hj 2 _ rfl
  rw[List.getElem_map,show 0+j*6=6*j+0 from by omega]
  exact⟨e0,e1,e2⟩
theorem QHl(L:List (Int × ByteArray × Int))(v:Value)(i:Nat)(w:World)(hv:QYj (fun x=>x<w.heap.size) w v L)(hL:L.length≤1000000000)(hi:i<L.length) :
 Calls Tryz.prog 230 #[v,.int .i64 i] w fun e w'=>∃res,Rd L .prim 0 i res∧e = .returned (.tuple #[.int .i64 (QUj res).1,.int .i64 (QUj res).2.1,.int .i64 (QUj res).2.2])∧Below w.heap.size w w':=by
 have h:=Qqj L v i w hv hL hi
 go_enter Tryz.func230,Tryz.ntmps230
 go_wp2_with fail
 refine h.mono ?_
 rintro e w' ⟨res,hr,he,hb⟩
 generalize hR:QUj res=R at he
 obtain⟨r1,r2,r3⟩:=R
 subst he
 have HR:=hid hr
 have HE:=hid hR
 clear hr hR
 go_wp2_with fail
 go_ret3
 exact⟨res,HR.out,by rw[HE.out];rfl,hb⟩
theorem Qpm(L:List Tok)(lv:Value)(B i:Nat)(file:Int)(w:World)(h:Quh B w lv file L)(hB:B≤w.heap.size)(ho:LOk L)(hi:i<L.length) :
 Calls Tryz.prog 230 #[lv,.int .i64 i] w fun e w'=>e = .returned (.tuple #[.int .i64 (QCg L i).1,.int .i64 (QCg L i).2.1,.int .i64 (QCg L i).2.2])∧Below w.heap.size w w':=by
 refine(QHl (L.map tkX) lv i w (h.tokAt hB ho) (by rw[List.length_map];have:=ho.len;omega) (by rw[List.length_map];exact hi)).mono ?_
 rintro e w' ⟨res,hr,rfl,hb⟩
 have:QUj res=QCg L i:=by unfold QCg;rw[hr.evF trivial]
 rw[this]
 exact⟨rfl,hb⟩
theorem Qdo{L:List Tok}(ho:LOk L){i:Nat}(hi:i<L.length)(h:(QCg L i).2.2=0):∃j:Nat,(QCg L i).2.1=j∧i<j∧j<L.length:=by
 unfold QCg at h ⊢
 have hr:=Qas (L.map tkX) .prim 0 i trivial
 obtain⟨r,e1,e2⟩:=QNm (L.map tkX) (40*(L.map tkX).length+40) .prim 0 i trivial (by simp only[Qhd];omega)
 have hE:evF (L.map tkX) .prim 0 i=r:=by unfold evF;rw[e1];rfl
 rw[hE]at h hr ⊢
 cases r with
 | none=>simp[QUj]at h
 | some q=>
  have Hh:=(e2 q rfl).2 rfl
  obtain⟨ts,t,e,h8⟩:=ho.last
  have hb:q.2.1≤ts.length:=by
   refine Q9p hr (k:=ts.length) (t:=tkX t) ?_ h8 ?_
   ·rw[e];simp
   ·rw[e]at hi;simp at hi;omega
  obtain⟨v,j,p,g,d⟩:=q
  simp only[QUj]at h Hh hb ⊢
  refine⟨j,?_,Hh,by rw[e];simp;omega⟩
  cases p <;> cases g <;> cases d <;> simp at h ⊢
theorem Qqp:(Tryz.prog.info? 5).map (fun i=>(i.zero,i.size,i.bytes))=some (some (.int .u8 0),1,1):=by kernel_rfl
theorem Qxl{w:World}{base:Nat}{v:Value}{acc:List UInt8}(h:w.ownsRow base 5 1 v acc.length (Lib.byteCells acc)) :
 (convert 88 9 v).run Tryz.prog w = .ok (.string ⟨acc.toArray⟩) w:=by
 rcases h.2 with⟨rfl,h0⟩|⟨g,cap,cur,rfl,hb,hh,hcap,hr⟩
 ·have:acc=[]:=List.eq_nil_of_length_eq_zero h0
  subst this
  exact run_convert_bytes_nil w _ _ Tryz.underlying88 Tryz.underlying5 0 0 _ Tryz.underlying9
 ·refine run_convert_bytes_back w _ _ _ ⟨g,0,none⟩ cap acc Tryz.underlying88 Tryz.underlying5 Tryz.underlying9 ?_
  intro j hj
  exact h.cells (g:=g) rfl j _ (by simp[Lib.byteCells,hj])
def QCj(p:Qzf)(cv:Value):Value:=.agg #[.int .i64 p.kind,cv,.string p.text]
def QKu(v:Value):Prop:=∃(a:Int) (x:Option Addr) (n c:Nat) (s:ByteArray),v = .agg #[.int .i64 a,.slice x n c,.string s]
def Qpg(R:Rs (Nat × Qzf))(r base:Nat)(file:Int)(L:List Tok)(lv ov:Value)(i:Nat)(D:List Qxc)(w:World)(e:Ending)(w':World):Prop:=
 Qaa (· = r) w w'∧match R with
  | .ok (j,p)=>∃cv,e = .returned (.tuple #[QCj p cv,.bool true])∧QRa w' w.heap.size cv p.cells∧Q7a w' r base file L lv ov j D∧i<j
  | .error (k,c)=>∃v,e = .returned (.tuple #[v,.bool false])∧QKu v∧QBb w' r file L lv ov k c
def Qqh(w:World)(B:Nat)(x0 x1 x2:Value):World:=((w.setCell ⟨B,0,none⟩ x0).setCell ⟨B,1,none⟩ x1).setCell ⟨B,2,none⟩ x2
theorem Qib{w:World}{B:Nat}{a b c:Value}{t:TypeId}(h:Holds w B #[a,b,c] t)(x0 x1 x2:Value):Holds (Qqh w B x0 x1 x2) B #[x0,x1,x2] t:=by
 have:=((h.set 0 x0).set 1 x1).set 2 x2
 exact this
theorem QLa{w:World}{a:World}{B:Nat}{S:Nat→Prop}(h:Qaa S a w)(hB:a.heap.size≤B∨S B)(x0 x1 x2:Value):Qaa S a (Qqh w B x0 x1 x2):=
 ((h.setCell (p:=⟨B,0,none⟩) hB x0).setCell (p:=⟨B,1,none⟩) hB x1).setCell (p:=⟨B,2,none⟩) hB x2
theorem Qbd{w:World}{b B:Nat}{cs:Array Value}{t:TypeId}(h:Holds w b cs t)(Hm:b≠B)(x0 x1 x2:Value):Holds (Qqh w B x0 x1 x2) b cs t:=
 ((h.other ⟨B,0,none⟩ x0 Hm).other ⟨B,1,none⟩ x1 Hm).other ⟨B,2,none⟩ x2 Hm
theorem three{w:World}{B:Nat}{x0 x1 x2:Value}{t:TypeId}(h:Holds w B #[x0,x1,x2] t) :
 w.cell? ⟨B,0,none⟩=some x0∧w.cell? ⟨B,1,none⟩=some x1∧w.cell? ⟨B,2,none⟩=some x2∧w.frozen? ⟨B,0,none⟩=false∧w.frozen? ⟨B,1,none⟩=false∧w.frozen? ⟨B,2,none⟩=false∧B<w.heap.size:=
 ⟨h.cell 0,h.cell 1,h.cell 2,h.free 0,h.free 1,h.free 2,h.lt⟩
section
variable{w0 w w':World}{r base:Nat}{file:Int}{L:List Tok}{lv ov:Value}{i:Nat}{D:List Qxc}
theorem Q7a.from(h:Q7a w0 r base file L lv ov i D)(k:Qaa (· = r) w0 w){j:Nat}(hH:Holds w r #[lv,.int .i64 j,ov,.pointer none] 148)(hj:j<L.length)(kt:i≤j):Q7a w r base file L lv ov j D:=h.turn k hH hj kt
theorem Q7a.step(h:Q7a w0 r base file L lv ov i D)(hj:i+1<L.length):Q7a (w0.setCell ⟨r,1,none⟩ (.int .i64 ((i:Int)+1))) r base file L lv ov (i+1) D∧Qaa (· = r) w0 (w0.setCell ⟨r,1,none⟩ (.int .i64 ((i:Int)+1))):=by
 have k:=(Qaa.refl (· = r) w0).setCell (p:=⟨r,1,none⟩) (.inr rfl) (.int .i64 ((i:Int)+1))
 have e1:(i:Int)+1=((i+1:Nat):Int):=by omega
 have hH:=h.holds.set 1 (.int .i64 ((i:Int)+1))
 exact⟨h.turn k (by rw[←e1];exact hH) hj (by omega),k⟩
theorem Q7a.at1(h:Q7a w r base file L lv ov i D):w.cell? ⟨r,1,none⟩=some (.int .i64 i)∧w.frozen? ⟨r,1,none⟩=false∧r<w.heap.size∧i<6001:=⟨h.holds.cell 1,h.holds.free 1,h.holds.lt,by have:=h.ok.len;have:=h.lt;omega⟩
end
theorem Qke{L:List Tok}{i:Nat}{kind:Int}{s:List UInt8}(ho:LOk L)(hi:i<L.length)(h:isK L i kind s=true)(hk:kind≠8):i+1<L.length:=
 ho.next hi (by unfold isK at h;simp only[Bool.and_eq_true,decide_eq_true_eq]at h;rw[h.1];exact hk)
theorem QBb.three{w:World}{r B:Nat}{file:Int}{L:List Tok}{lv ov:Value}{k:Nat}{c:Int}{cs:Array Value}(h:QBb w r file L lv ov k c)(hB:Holds w B cs 196)(x0 x1 x2:Value):QBb (Qqh w B x0 x1 x2) r file L lv ov k c:=
 h.one hB (by decide) (by decide) (QLa (S:=(· = B)) (Qaa.refl _ w) (.inr rfl) x0 x1 x2)
theorem Q1o(acc:List UInt8)(v:Int):Lib.byteCells (acc++[(v % 256).toNat.toUInt8])=Lib.byteCells acc++[.int .u8 (v % 256)]:=by
 have:(((v % 256).toNat.toUInt8.toNat:Nat):Int)=v % 256:=by
  show(((UInt8.ofNat (v % 256).toNat).toNat:Nat):Int)=v % 256
  rw[UInt8.toNat_ofNat',Nat.mod_eq_of_lt (by omega)];omega
 unfold Lib.byteCells
 rw[List.map_append]
 congr 1
 show [Value.int .u8 (((v % 256).toNat.toUInt8.toNat:Nat):Int)]=_
 rw[this]
set_option maxRecDepth 100000 in
theorem Qjq(w:World)(r base:Nat)(file:Int)(L:List Tok)(lv ov:Value)(i:Nat)(D:List Qxc)(h:Q7a w r base file L lv ov i D) :
 Calls Tryz.prog 229 #[.pointer (some ⟨r,0,none⟩)] w (Qpg (match QAh L (Q0d L) i []with | .ok (j,b)=>.ok (j,⟨3,[],⟨b.toArray⟩⟩) | .error e=>.error e) r base file L lv ov i D w):=by
 have He:Below w.heap.size w ((w.alloc (.cells #[.int .i64 0,.slice none 0 0,.string ⟨#[]⟩] 196)).alloc (.cells #[.int .i64 3,.slice none 0 0,.string ⟨#[]⟩] 196)):=((Below.refl _ _).alloc (Nat.le_refl _) _).alloc (by simp) _
 have GH:=(Holds.new w #[.int .i64 0,.slice none 0 0,.string ⟨#[]⟩] 196).alloc (.cells #[.int .i64 3,.slice none 0 0,.string ⟨#[]⟩] 196)
 have pb:=Holds.newAt (w:=w.alloc (.cells #[.int .i64 0,.slice none 0 0,.string ⟨#[]⟩] 196)) (B:=w.heap.size+1) (by simp) #[.int .i64 3,.slice none 0 0,.string ⟨#[]⟩] 196
 have GJ:=h.keeps (Qaa.of_fresh He (fun _=>False))
 have k0:Qaa (· = r) w _:=Qaa.of_fresh He (· = r)
 have jq:=h.holds.lt
 have GW:=h.lt
 have Ke:=hid h.ok
 have c9:L.length<i+Q0d L:=by unfold Q0d;omega
 generalize hN:Q0d L=N at *
 generalize Hl:QAh L N i []=RR at *
 have qC:=hid Hl
 have HH:=hid h
 clear hN Hl h
 go_enter Tryz.func229,Tryz.ntmps229
 go_wp2_with fail
 generalize (w.alloc (.cells #[.int .i64 0,.slice none 0 0,.string ⟨#[]⟩] 196)).alloc (.cells #[.int .i64 3,.slice none 0 0,.string ⟨#[]⟩] 196)=w0 at *
 go_loopg [5] N (fun f x wr=>∃(j:Nat) (acc:List UInt8),Hid (QAh L f j acc=RR)∧L.length<j+f∧i≤j∧acc.length≤j∧wr.ownsRow (w.heap.size+1+1) 5 1 x acc.length (Lib.byteCells acc)∧Q7a wr r base file L lv ov j D∧Qaa (· = r) w wr∧
  Holds wr w.heap.size #[.int .i64 0,.slice none 0 0,.string ⟨#[]⟩] 196∧Holds wr (w.heap.size+1) #[.int .i64 3,.slice none 0 0,.string ⟨#[]⟩] 196)
 case atStart=>exact⟨i,[],qC,c9,Nat.le_refl _,Nat.zero_le _,World.ownsRow_nil _ _ _ _,GJ,k0,GH,pb⟩
 case round=>
  obtain⟨j,acc,hR,sf,kt,mX,Hj,hA,hK,hZ,hP⟩:=hrel
  have Gd:=hA.lt
  have jn:=Ke.out.len
  obtain⟨f,hf⟩:∃f,gk=f+1:=⟨gk-1,by omega⟩
  have hS:=hR.out
  rw[hf,QAh]at hS
  have G7:=QJd wr r base file L lv ov j D hA 4 [93]
  go_wp2_with fail
  refine G7.mono ?_
  rintro e w1 ⟨rfl,Hb⟩
  have kb1:Qaa (fun _=>False) wr w1:=Qaa.of_fresh Hb _
  have gV:=hA.keeps kb1
  have Hs:=hZ.keeps kb1 (fun e=>e)
  have MS:=hP.keeps kb1 (fun e=>e)
  have Gg:=hK.trans kb1 (S:=(· = r)) (fun _ _ e=>e.elim)
  have Gn:=Qca Hj kb1 (fun _ _ e=>e)
  have jH:=Gg.size
  have CY:=Hs.lt
  have CQ:=MS.lt
  clear G7 hR Hb hA hZ hP hK Hj
  obtain⟨c1,c1f,crl,cj⟩:=gV.at1
  have KS:r≠w.heap.size:=by omega
  have JE:r≠w.heap.size+1:=by omega
  cases hk:isK L j 4 [93]with
  | true=>
   rw[hk,if_pos rfl]at hS
   subst hS
   obtain⟨gF,k2⟩:=gV.step (Qke Ke.out Gd hk (by decide))
   have Ht:=Qca Gn k2 (fun g hg e=>by cases e;exact QFa Gn gV.holds (by decide) hg)
   have jI:=Qxl Ht
   have Hw:=Hs.keeps k2 (Ne.symm KS)
   have Kf:=MS.keeps k2 (Ne.symm JE)
   have gf:=Gg.trans k2 (S:=(· = r)) (fun _ _ e=>e)
   have Gm:=gF.holds
   have yu:i≤j+1:=by omega
   have M5:=hid gF
   have GR:=gF.lt
   obtain⟨va,vc,rfl⟩:=Qea Ht
   obtain⟨m0,m1,m2,mf0,mf1,mf2,ml⟩:=three Kf
   obtain⟨n0,n1,n2,nf0,nf1,nf2,nl⟩:=three Hw
   have KM:=hid Hw
   have jO:=hid gf
   clear Gn Ht gV gF Hs MS Gg k2 kb1 Hw Kf gf
   go_wp2_with fail
   have z1:=Qib (KM.out.other ⟨w.heap.size+1,2,none⟩ (.string ⟨acc.toArray⟩) (by simp)) (.int .i64 3) (.slice none 0 0) (.string ⟨acc.toArray⟩)
   have z2:=QLa (jO.out.setCell (p:=⟨w.heap.size+1,2,none⟩) (.inl (by simp)) (.string ⟨acc.toArray⟩)) (B:=w.heap.size) (.inl (Nat.le_refl _)) (.int .i64 3) (.slice none 0 0) (.string ⟨acc.toArray⟩)
   have z3:=HH.out.from z2 (Qbd (Gm.other ⟨w.heap.size+1,2,none⟩ (.string ⟨acc.toArray⟩) JE) KS (.int .i64 3) (.slice none 0 0) (.string ⟨acc.toArray⟩)) GR yu
   unfold Qqh at z1 z2 z3
   obtain⟨q0,q1,q2,_⟩:=three z1
   exact bodyPost_ret (v:=.tuple #[.agg #[.int .i64 3,.slice none 0 0,.string ⟨acc.toArray⟩],.bool true]) (by simp[results,Tryz.results229,go_sem,q0,q1,q2]) rfl ⟨z2,_,rfl,QRa.none _ _,z3,by omega⟩
  | false=>
   rw[hk,if_neg (by simp)]at hS
   have ht:=QOj w1 r base file L lv ov j D gV 2 [] (by decide)
   have GD:=hid (fun wx hx=>Q7c wx r base file L lv ov (j+1) D hx j 2)
   unfold Qth at ht
   rw[Qwp]at ht
   unfold QHb at ht GD
   generalize tkN L j=t at *
   obtain⟨t0,t1,t2,t3,t4⟩:=t
   simp only at ht GD hS
   go_wp2_with fail
   refine ht.mono ?_
   rintro e w2 ⟨rfl,gJ,cK,tz⟩
   have Hw:=Hs.keeps gJ (Ne.symm KS)
   have Kf:=MS.keeps gJ (Ne.symm JE)
   have gf:=Gg.trans gJ (S:=(· = r)) (fun _ _ e=>e)
   have Ht:=Qca Gn gJ (fun g hg e=>by cases e;exact QFa Gn gV.holds (by decide) hg)
   have Je:=gJ.size
   have HY:=hid cK
   have HN:=hid tz
   clear ht gJ cK tz Gn Hs MS Gg gV c1 c1f kb1
   by_cases h2:t0=2
   ·subst h2
    rw[if_neg (by simp)]at hS
    have gn:=(HY.out (decide_eq_true rfl)).alloc (.cells #[.int .i64 2,.string ⟨t1.toArray⟩,.int .i64 t2,.int .i64 file,.int .i64 t3,.int .i64 t4] 150)
    have Hz:=Hw.alloc (.cells #[.int .i64 2,.string ⟨t1.toArray⟩,.int .i64 t2,.int .i64 file,.int .i64 t3,.int .i64 t4] 150)
    have KZ:=Kf.alloc (.cells #[.int .i64 2,.string ⟨t1.toArray⟩,.int .i64 t2,.int .i64 file,.int .i64 t3,.int .i64 t4] 150)
    have gu:=gf.alloc (.cells #[.int .i64 2,.string ⟨t1.toArray⟩,.int .i64 t2,.int .i64 file,.int .i64 t3,.int .i64 t4] 150)
    have GQ:=Holds.new w2 #[.int .i64 2,.string ⟨t1.toArray⟩,.int .i64 t2,.int .i64 file,.int .i64 t3,.int .i64 t4] 150
    have GX:=World.ownsRow.alloc Ht (.cells #[.int .i64 2,.string ⟨t1.toArray⟩,.int .i64 t2,.int .i64 file,.int .i64 t3,.int .i64 t4] 150)
    obtain⟨m0,m1,m2,mf0,mf1,mf2,ml⟩:=three KZ
    obtain⟨n0,n1,n2,nf0,nf1,nf2,nl⟩:=three Hz
    obtain⟨y0,y1,y2,y3,y4,y5⟩:=Qra GQ
    have yl:=GQ.lt
    have KU:=gu.size
    have JL:w.heap.size≠r:=Ne.symm KS
    have ku:w.heap.size+1≠r:=Ne.symm JE
    have MY:w2.heap.size≠r:=by omega
    by_cases hv:255<t2
    ·rw[if_pos hv]at hS
     subst hS
     have cN:=hid gn
     have KN:=hid Hz
     have qw:=hid KZ
     have Ab:=hid GQ
     have Mg:=hid gu
     rw[decide_eq_true rfl]
     clear Hw Kf gf Ht gn Hz KZ gu GQ GX
     go_wp2_with fail
     go_region_with (go_at_call 168;refine(GD.out _ (by exact cN.out.keeps ((Qaa.refl _ _).drew))).mono ?_;rintro e w4 ⟨rfl,Hq,gA⟩;have gY:=KN.out.drew.keeps gA JL;have jW:=qw.out.drew.keeps gA ku;have mx:=Ab.out.drew.keeps gA MY;obtain⟨a0,a1,a2,af0,af1,af2,al⟩:=three gY;obtain⟨b0,b1,b2,bf0,bf1,bf2,bl⟩:=three jW;obtain⟨d0,d1,d2,d3,d4,d5⟩:=Qra mx)
     all_goals
      go_wp2_with fail
      have z1:=Qib gY (.int .i64 3) (.slice none 0 0) (.string ⟨#[]⟩)
      have z2:=QLa (Mg.out.drew.trans gA (S:=(· = r)) (fun _ _ e=>e)) (B:=w.heap.size) (.inl (Nat.le_refl _)) (.int .i64 3) (.slice none 0 0) (.string ⟨#[]⟩)
      have z3:=Hq.three gY (.int .i64 3) (.slice none 0 0) (.string ⟨#[]⟩)
      unfold Qqh at z1 z2 z3
      obtain⟨q0,q1,q2,_⟩:=three z1
      exact bodyPost_ret (v:=.tuple #[.agg #[.int .i64 3,.slice none 0 0,.string ⟨#[]⟩],.bool false]) (by simp[results,Tryz.results229,go_sem,q0,q1,q2]) rfl ⟨z2,_,rfl,⟨3,none,0,0,⟨#[]⟩,rfl⟩,z3⟩
    ·rw[if_neg hv]at hS
     have n7:¬(255:Int)<t2:=hv
     have cN:=hid gn
     have KN:=hid Hz
     have qw:=hid KZ
     have Mg:=hid gu
     rw[decide_eq_true rfl]
     obtain⟨va,vc,rfl⟩:=Qea GX
     obtain⟨i0,hi,H4,Hp,gj⟩:=info_parts Qqp
     have gi:w.heap.size+1+1≤(w2.alloc (.cells #[.int .i64 2,.string ⟨t1.toArray⟩,.int .i64 t2,.int .i64 file,.int .i64 t3,.int .i64 t4] 150)).heap.size:=by simp;omega
     have gI:=hid (World.ownsRow.alloc GX (.cells #[.int .u8 (t2 % 256)] 5))
     have qt:=hid GX
     clear Hw Kf gf Ht gn Hz KZ gu GQ GX hv
     go_wp2_with (at_builtin;refine wpList_append_own _ rfl _ _ 88 rfl (w.heap.size+1+1) 5 i0 (.int .u8 0) 1 1 Tryz.underlying88 hi H4 Hp gj rfl (by decide) _ _ _ rfl (by exact gI.out) ⟨w2.heap.size+1,0,none⟩ 1 1 [.int .u8 (t2 % 256)] rfl rfl ?c1 ?c2 ?c3 ?c4 ?c5 ?_)
     case c1=>exact Q2a _ _ _ _ (by simp) _ rfl
     case c2=>intro u hu;simp at hu;subst hu;rfl
     case c3=>unfold maxLen;omega
     case c4=>omega
     case c5=>simp;omega
     intro v' w4 Hg Hd _
     have gA:Qaa (· = r) w w4:=(Mg.out.alloc (.cells #[.int .u8 (t2 % 256)] 5)).grown Hd (fun g hg=>by have:=(Qmd gI.out hg).2.1;left;omega)
     have MZ:=fun(b:Nat) (xs:Array Value) (t:TypeId) (hx:Holds (w2.alloc (.cells #[.int .i64 2,.string ⟨t1.toArray⟩,.int .i64 t2,.int .i64 file,.int .i64 t3,.int .i64 t4] 150)) b xs t) (Hm:t≠5)=>(hx.alloc (.cells #[.int .u8 (t2 % 256)] 5)).grown Hd (QFa qt.out hx Hm)
     have gY:=MZ _ _ _ KN.out (by decide)
     have jW:=MZ _ _ _ qw.out (by decide)
     have jD:=MZ _ _ _ cN.out.holds (by decide)
     have gQ:=HH.out.from gA jD cN.out.lt (by omega)
     have gv:w4.ownsRow (w.heap.size+1+1) 5 1 v' (acc++[(t2 % 256).toNat.toUInt8]).length (Lib.byteCells (acc++[(t2 % 256).toNat.toUInt8])):=by
      rw[Q1o acc t2,List.length_append]
      exact Hg
     have Mr:=hid gQ
     have MO:=hid gY
     have Cm:=hid jW
     have M7:=hid gA
     have HS:=hid hS
     have vY:=hid gv
     obtain⟨va',vc',rfl⟩:=Qea gv
     clear Hg Hd MZ gY jW jD gQ gA gv hS gI qt gi
     go_wp2_with fail
     go_roundg (gk-1)
     case measure=>omega
     case rel=>
      refine⟨j+1,_,?_,by omega,by omega,by simp;omega,vY.out,Mr.out,M7.out,MO.out,Cm.out⟩
      rw[hf,Nat.add_sub_cancel]
      exact HS
   ·rw[if_pos h2]at hS
    subst hS
    rw[decide_eq_false h2]
    have HB:=hid ((HN.out (decide_eq_false h2)).alloc (.cells #[.int .i64 t0,.string ⟨t1.toArray⟩,.int .i64 t2,.int .i64 file,.int .i64 t3,.int .i64 t4] 150))
    have Hz:=Hw.alloc (.cells #[.int .i64 t0,.string ⟨t1.toArray⟩,.int .i64 t2,.int .i64 file,.int .i64 t3,.int .i64 t4] 150)
    have KZ:=Kf.alloc (.cells #[.int .i64 t0,.string ⟨t1.toArray⟩,.int .i64 t2,.int .i64 file,.int .i64 t3,.int .i64 t4] 150)
    have Mg:=hid (gf.alloc (.cells #[.int .i64 t0,.string ⟨t1.toArray⟩,.int .i64 t2,.int .i64 file,.int .i64 t3,.int .i64 t4] 150))
    obtain⟨m0,m1,m2,mf0,mf1,mf2,ml⟩:=three KZ
    obtain⟨n0,n1,n2,nf0,nf1,nf2,nl⟩:=three Hz
    have KN:=hid Hz
    clear Hw Kf gf Ht Hz KZ h2
    go_wp2_with fail
    have z1:=Qib KN.out (.int .i64 3) (.slice none 0 0) (.string ⟨#[]⟩)
    have z2:=QLa Mg.out (B:=w.heap.size) (.inl (Nat.le_refl _)) (.int .i64 3) (.slice none 0 0) (.string ⟨#[]⟩)
    have z3:=HB.out.three KN.out (.int .i64 3) (.slice none 0 0) (.string ⟨#[]⟩)
    unfold Qqh at z1 z2 z3
    obtain⟨q0,q1,q2,_⟩:=three z1
    exact bodyPost_ret (v:=.tuple #[.agg #[.int .i64 3,.slice none 0 0,.string ⟨#[]⟩],.bool false]) (by simp[results,Tryz.results229,go_sem,q0,q1,q2]) rfl ⟨z2,_,rfl,⟨3,none,0,0,⟨#[]⟩,rfl⟩,z3⟩
theorem QQm:(Tryz.prog.info? 198).map (fun i=>(i.zero,i.size,i.bytes))=some (some (.agg #[.int .i64 0,.string ⟨#[]⟩]),2,24):=by kernel_rfl
theorem QMc:QJi 162 Qtb:=⟨enters_of Tryz.func162 (by kernel_rfl) rfl,fun s w hs=>Qvm s w (by unfold maxLen;omega)⟩
set_option maxRecDepth 100000 in
theorem Qkq(w:World)(r base:Nat)(file:Int)(L:List Tok)(lv ov:Value)(i:Nat)(D:List Qxc)(h:Q7a w r base file L lv ov i D) :
 Calls Tryz.prog 228 #[.pointer (some ⟨r,0,none⟩)] w (Qpg (match QSg L (Q0d L) i []with | .ok (j,b)=>.ok (j,⟨1,b,⟨#[]⟩⟩) | .error e=>.error e) r base file L lv ov i D w):=by
 have He:Below w.heap.size w ((w.alloc (.cells #[.int .i64 0,.slice none 0 0,.string ⟨#[]⟩] 196)).alloc (.cells #[.int .i64 1,.slice none 0 0,.string ⟨#[]⟩] 196)):=((Below.refl _ _).alloc (Nat.le_refl _) _).alloc (by simp) _
 have GH:=(Holds.new w #[.int .i64 0,.slice none 0 0,.string ⟨#[]⟩] 196).alloc (.cells #[.int .i64 1,.slice none 0 0,.string ⟨#[]⟩] 196)
 have pb:=Holds.newAt (w:=w.alloc (.cells #[.int .i64 0,.slice none 0 0,.string ⟨#[]⟩] 196)) (B:=w.heap.size+1) (by simp) #[.int .i64 1,.slice none 0 0,.string ⟨#[]⟩] 196
 have GJ:=h.keeps (Qaa.of_fresh He (fun _=>False))
 have k0:Qaa (· = r) w _:=Qaa.of_fresh He (· = r)
 obtain⟨gL,cL,rfl,_⟩:=id h.toks
 have jq:=h.holds.lt
 have GW:=h.lt
 have bG:=h.size
 have Ke:=hid h.ok
 have c9:L.length<i+Q0d L:=by unfold Q0d;omega
 generalize hN:Q0d L=N at *
 generalize Hl:QSg L N i []=RR at *
 have qC:=hid Hl
 have HH:=hid h
 clear hN Hl h
 go_enter Tryz.func228,Tryz.ntmps228
 go_wp2_with fail
 generalize (w.alloc (.cells #[.int .i64 0,.slice none 0 0,.string ⟨#[]⟩] 196)).alloc (.cells #[.int .i64 1,.slice none 0 0,.string ⟨#[]⟩] 196)=w0 at *
 go_loopg [] N (fun f wr=>∃(j:Nat) (acc:List Q4g) (cv:Value),Hid (QSg L f j acc=RR)∧L.length<j+f∧i≤j∧acc.length≤j∧QRa wr (w.heap.size+1+1) cv acc∧Q7a wr r base file L (.slice (some ⟨gL,0,none⟩) L.length cL) ov j D∧Qaa (· = r) w wr∧
  Holds wr w.heap.size #[.int .i64 0,.slice none 0 0,.string ⟨#[]⟩] 196∧Holds wr (w.heap.size+1) #[.int .i64 1,cv,.string ⟨#[]⟩] 196)
 case atStart=>exact⟨i,[],.slice none 0 0,qC,c9,Nat.le_refl _,Nat.zero_le _,QRa.none _ _,GJ,k0,GH,pb⟩
 case round=>
  obtain⟨j,acc,cv,hR,sf,kt,mX,Hj,hA,hK,hZ,hP⟩:=hrel
  obtain⟨va,vc,rfl⟩:=Qea Hj
  have Gd:=hA.lt
  have jn:=Ke.out.len
  obtain⟨f,hf⟩:∃f,gk=f+1:=⟨gk-1,by omega⟩
  have hS:=hR.out
  rw[hf,QSg]at hS
  have G7:=QJd wr r base file L (.slice (some ⟨gL,0,none⟩) L.length cL) ov j D hA 4 [62]
  go_wp2_with fail
  refine G7.mono ?_
  rintro e w1 ⟨rfl,Hb⟩
  have kb1:Qaa (fun _=>False) wr w1:=Qaa.of_fresh Hb _
  have gV:=hA.keeps kb1
  have Hs:=hZ.keeps kb1 (fun e=>e)
  have MS:=hP.keeps kb1 (fun e=>e)
  have Gg:=hK.trans kb1 (S:=(· = r)) (fun _ _ e=>e.elim)
  have Gn:=Qca Hj kb1 (fun _ _ e=>e)
  have jH:=Gg.size
  have CY:=Hs.lt
  have CQ:=MS.lt
  clear G7 hR Hb hA hZ hP hK Hj
  obtain⟨c1,c1f,crl,cj⟩:=gV.at1
  have KS:r≠w.heap.size:=by omega
  have JE:r≠w.heap.size+1:=by omega
  cases hk:isK L j 4 [62]with
  | true=>
   rw[hk,if_pos rfl]at hS
   subst hS
   obtain⟨gF,k2⟩:=gV.step (Qke Ke.out Gd hk (by decide))
   have Ht:=Qca Gn k2 (fun g hg e=>by cases e;exact QFa Gn gV.holds (by decide) hg)
   have Hw:=Hs.keeps k2 (Ne.symm KS)
   have Kf:=MS.keeps k2 (Ne.symm JE)
   have gf:=Gg.trans k2 (S:=(· = r)) (fun _ _ e=>e)
   have Gm:=gF.holds
   have GR:=gF.lt
   obtain⟨m0,m1,m2,mf0,mf1,mf2,ml⟩:=three Kf
   obtain⟨n0,n1,n2,nf0,nf1,nf2,nl⟩:=three Hw
   have KM:=hid Hw
   have jO:=hid gf
   have jy:=hid (Q8b Ht (show w.heap.size≤w.heap.size+1+1 by omega))
   have dE:=hid Ht
   clear Gn Ht gV gF Hs MS Gg k2 kb1 Hw Kf gf
   go_wp2_with fail
   have z1:=Qib KM.out (.int .i64 1) (.slice va acc.length vc) (.string ⟨#[]⟩)
   have z2:=QLa jO.out (B:=w.heap.size) (.inl (Nat.le_refl _)) (.int .i64 1) (.slice va acc.length vc) (.string ⟨#[]⟩)
   have z3:=HH.out.from z2 (Qbd Gm KS (.int .i64 1) (.slice va acc.length vc) (.string ⟨#[]⟩)) GR (by omega)
   have z4:=Qca jy.out (QLa (S:=(· = w.heap.size)) (Qaa.refl _ _) (.inr rfl) (.int .i64 1) (.slice va acc.length vc) (.string ⟨#[]⟩)) (fun g hg e=>by have:=(Qmd dE.out hg).2.1;omega)
   unfold Qqh at z4
   unfold Qqh at z1 z2 z3
   obtain⟨q0,q1,q2,_⟩:=three z1
   exact bodyPost_ret (v:=.tuple #[.agg #[.int .i64 1,.slice va acc.length vc,.string ⟨#[]⟩],.bool true]) (by simp[results,Tryz.results228,go_sem,q0,q1,q2]) rfl ⟨z2,_,rfl,z4,z3,by omega⟩
  | false=>
   rw[hk,if_neg (by simp)]at hS
   have Gi:=Q8c w1 r base file L (.slice (some ⟨gL,0,none⟩) L.length cL) ov j D gV
   have kV:=hid (fun wx hx=>Qrd wx r base file L (.slice (some ⟨gL,0,none⟩) L.length cL) ov j D hx 6 (by decide) 162 Qtb QMc)
   have mq:QZc L 6 Qtb j=if (tkN L j).kind=6 then(if Qtb (tkN L j).text=true then .ok (j+1)else .error (j,1))else .error (j,6):=rfl
   have GD:=hid (fun wx hx c=>Q7c wx r base file L (.slice (some ⟨gL,0,none⟩) L.length cL) ov j D hx j c)
   have jQ:=hid (fun(wx:World) (hx:Q7a wx r base file L (.slice (some ⟨gL,0,none⟩) L.length cL) ov j D)=>Qpm L (.slice (some ⟨gL,0,none⟩) L.length cL) base j file wx hx.toks hx.size Ke.out Gd)
   have oL:=hid (Qdo Ke.out Gd)
   have eY:=Ke.out.next Gd
   unfold txN at hS
   unfold QAd at kV
   unfold QHb at Gi kV GD
   rw[mq]at kV
   clear mq
   generalize tkN L j=t at *
   obtain⟨t0,t1,t2,t3,t4⟩:=t
   simp only at Gi kV GD hS eY
   go_wp2_with fail
   refine Gi.mono ?_
   rintro e w2 ⟨rfl,Hc⟩
   have k2:Qaa (fun _=>False) w1 (w2.alloc (.cells #[.int .i64 t0,.string ⟨t1.toArray⟩,.int .i64 t2,.int .i64 file,.int .i64 t3,.int .i64 t4] 150)):=(Qaa.of_fresh Hc (fun _=>False)).alloc (.cells #[.int .i64 t0,.string ⟨t1.toArray⟩,.int .i64 t2,.int .i64 file,.int .i64 t3,.int .i64 t4] 150)
   have HA:=hid (gV.keeps k2)
   have HZ:=hid (Hs.keeps k2 (fun e=>e))
   have HP:=hid (MS.keeps k2 (fun e=>e))
   have HK:=hid (Gg.trans k2 (S:=(· = r)) (fun _ _ e=>e.elim))
   have HR:=hid (Qca Gn k2 (fun _ _ e=>e))
   have HM:=hid (Holds.new w2 #[.int .i64 t0,.string ⟨t1.toArray⟩,.int .i64 t2,.int .i64 file,.int .i64 t3,.int .i64 t4] 150)
   have HB:=hid (show w.heap.size+1+1≤(w2.alloc (.cells #[.int .i64 t0,.string ⟨t1.toArray⟩,.int .i64 t2,.int .i64 file,.int .i64 t3,.int .i64 t4] 150)).heap.size by have:=k2.size;omega)
   obtain⟨B,hB⟩:∃z,z=w2.heap.size:=⟨_,rfl⟩
   have uE:B≠r:=by have:=Hc.size;omega
   have hBz:w.heap.size+1+1≤B:=by have:=Hc.size;omega
   have JL:w.heap.size≠r:=Ne.symm KS
   have ku:w.heap.size+1≠r:=Ne.symm JE
   rw[←hB]at HM
   clear Gi Hc k2 gV Hs MS Gg Gn kb1 c1 c1f
   by_cases h6:t0=6
   ·subst h6
    obtain⟨y0,y1,y2,y3,y4,y5⟩:=Qra HM.out
    rw[hB]at y0 y1 y2 y3 y4 y5
    cases hg:Qtb t1 with
    | true=>
     rw[hg,if_pos rfl,if_pos rfl]at hS
     go_wp2_with fail
     refine(kV.out _ HA.out).mono ?_
     rintro e w3 ⟨Hy,hm⟩
     simp only[reduceIte,hg]at hm
     obtain⟨rfl,gn⟩:=hm
     have Hz:=HZ.out.keeps Hy JL
     have KZ:=HP.out.keeps Hy ku
     have GQ:=HM.out.keeps Hy uE
     have gu:=HK.out.trans Hy (S:=(· = r)) (fun _ _ e=>e)
     have K0:=Qca HR.out Hy (fun g hg e=>by cases e;exact QFa HR.out HA.out.holds (by decide) hg)
     have HZ:=hid (Hz.alloc (.cells #[.int .i64 6,.string ⟨t1.toArray⟩,.int .i64 t2,.int .i64 file,.int .i64 t3,.int .i64 t4] 150))
     have HP:=hid (KZ.alloc (.cells #[.int .i64 6,.string ⟨t1.toArray⟩,.int .i64 t2,.int .i64 file,.int .i64 t3,.int .i64 t4] 150))
     have HM:=hid (GQ.alloc (.cells #[.int .i64 6,.string ⟨t1.toArray⟩,.int .i64 t2,.int .i64 file,.int .i64 t3,.int .i64 t4] 150))
     have HK:=hid (gu.alloc (.cells #[.int .i64 6,.string ⟨t1.toArray⟩,.int .i64 t2,.int .i64 file,.int .i64 t3,.int .i64 t4] 150))
     have HA:=hid (gn.alloc (.cells #[.int .i64 6,.string ⟨t1.toArray⟩,.int .i64 t2,.int .i64 file,.int .i64 t3,.int .i64 t4] 150))
     have HR:=hid (World.ownsRow.alloc K0 (.cells #[.int .i64 6,.string ⟨t1.toArray⟩,.int .i64 t2,.int .i64 file,.int .i64 t3,.int .i64 t4] 150))
     have HB:=hid (show w.heap.size+1+1≤w3.heap.size+1 by have:=Hy.size;have:=HB.out;omega)
     clear Hz KZ GQ gu K0 gn Hy kV GD jQ oL y0 y1 y2 y3 y4 y5 hg eY
     obtain⟨y0,y1,y2,y3,y4,y5⟩:=Qra HM.out
     rw[hB]at y0 y1 y2 y3 y4 y5
     have gI:=hid (World.ownsRow.alloc HR.out (.cells #[.int .i64 0,.string ⟨t1.toArray⟩] 198))
     obtain⟨i0,hi,H4,Hp,gj⟩:=info_parts QQm
     have gi:w.heap.size+1+1≤w3.heap.size+1:=HB.out
     have crl:=HA.out.holds.lt
     obtain⟨m0,m1,m2,mf0,mf1,mf2,ml⟩:=three HP.out
     go_wp2_with (at_builtin;refine wpList_append_own _ rfl _ _ 194 rfl (w.heap.size+1+1) 198 i0 _ 2 24 Tryz.underlying194 hi H4 Hp gj rfl (by decide) _ _ _ rfl (by exact gI.out) ⟨w3.heap.size+1,0,none⟩ 1 1 [.int .i64 0,.string ⟨t1.toArray⟩] rfl rfl (Q2a _ _ _ _ (by simp) _ rfl) (by intro u hu;simp only[List.mem_cons,List.not_mem_nil,or_false]at hu;rcases hu with rfl|rfl <;> rfl) (by unfold maxLen;omega) (by omega) (by simp;omega) ?_)
     intro v' w9 Hg Hd _
     obtain⟨va',vc',rfl⟩:=Qea Hg
     have Ml:Qaa (· = r) w w9:=(HK.out.alloc (.cells #[.int .i64 0,.string ⟨t1.toArray⟩] 198)).grown Hd (fun g hg=>by have:=(Qmd gI.out hg).2.1;left;omega)
     have MZ:=fun(b:Nat) (xs:Array Value) (t:TypeId) (hx:Holds (w3.alloc (.cells #[.int .i64 6,.string ⟨t1.toArray⟩,.int .i64 t2,.int .i64 file,.int .i64 t3,.int .i64 t4] 150)) b xs t) (Hm:t≠198)=>(hx.alloc (.cells #[.int .i64 0,.string ⟨t1.toArray⟩] 198)).grown Hd (QFa HR.out hx Hm)
     have K5:=MZ _ _ _ HZ.out (by decide)
     have lT:=MZ _ _ _ HP.out (by decide)
     have fY:=MZ _ _ _ HA.out.holds (by decide)
     obtain⟨mm0,mm1,mm2,mg0,mg1,mg2,mgl⟩:=three lT
     have mK:QRa w9 (w.heap.size+1+1) (.slice va' (acc.length+1) vc') (acc++[⟨0,⟨t1.toArray⟩⟩]):=by
      unfold QRa
      rw[Qjf,List.length_append]
      exact Hg
     have bw:=lT.set 1 (.slice va' (acc.length+1) vc')
     have k10:=(Qaa.refl (· = w.heap.size+1) w9).setCell (p:=⟨w.heap.size+1,1,none⟩) (.inr rfl) (.slice va' (acc.length+1) vc')
     have GA:=Qca mK k10 (fun g hg e=>by have:=(Qmd mK hg).2.1;omega)
     have je:=K5.keeps k10 (by omega)
     have Kh:=fY.keeps k10 JE
     have mC:=Ml.setCell (p:=⟨w.heap.size+1,1,none⟩) (.inl (by simp)) (.slice va' (acc.length+1) vc')
     have mT:=hid GA
     have aY:=hid bw
     have JR:=hid je
     have dA:=hid Kh
     have JP:=hid mC
     have HS:=hid hS
     have zn:=Kh.cell 1
     have t9:=Kh.free 1
     have ub:=Kh.lt
     clear Hg Hd MZ K5 lT fY Ml mK bw k10 GA je Kh mC hS gI m0 m1 m2 mf0 mf1 mf2 ml gi
     go_wp2_with fail
     go_roundg (gk-1)
     case measure=>omega
     case rel=>
      refine⟨j+1,_,_,?_,by omega,by omega,by simp;omega,mT.out,HH.out.from JP.out dA.out HA.out.lt (by omega),JP.out,JR.out,aY.out⟩
      rw[hf,Nat.add_sub_cancel]
      exact HS
    | false=>
     rw[hg,if_pos rfl,if_neg (by simp)]at hS
     subst hS
     go_wp2_with fail
     refine(kV.out _ HA.out).mono ?_
     rintro e w3 ⟨Hy,hm⟩
     simp only[reduceIte,hg,Bool.false_eq_true]at hm
     obtain⟨rfl,Hq⟩:=hm
     have Hz:=(HZ.out.keeps Hy JL).alloc (.cells #[.int .i64 6,.string ⟨t1.toArray⟩,.int .i64 t2,.int .i64 file,.int .i64 t3,.int .i64 t4] 150)
     have KZ:=(HP.out.keeps Hy ku).alloc (.cells #[.int .i64 6,.string ⟨t1.toArray⟩,.int .i64 t2,.int .i64 file,.int .i64 t3,.int .i64 t4] 150)
     have gu:=(HK.out.trans Hy (S:=(· = r)) (fun _ _ e=>e)).alloc (.cells #[.int .i64 6,.string ⟨t1.toArray⟩,.int .i64 t2,.int .i64 file,.int .i64 t3,.int .i64 t4] 150)
     have ik:=Hq.alloc (.cells #[.int .i64 6,.string ⟨t1.toArray⟩,.int .i64 t2,.int .i64 file,.int .i64 t3,.int .i64 t4] 150)
     have HZ:=hid Hz
     have HK:=hid gu
     have cO:=hid ik
     obtain⟨m0,m1,m2,mf0,mf1,mf2,ml⟩:=three KZ
     obtain⟨n0,n1,n2,nf0,nf1,nf2,nl⟩:=three Hz
     clear Hz KZ gu ik Hq Hy kV GD jQ oL y0 y1 y2 y3 y4 y5 hg eY
     go_wp2_with fail
     have z1:=Qib HZ.out (.int .i64 1) (.slice va acc.length vc) (.string ⟨#[]⟩)
     have z2:=QLa HK.out (B:=w.heap.size) (.inl (Nat.le_refl _)) (.int .i64 1) (.slice va acc.length vc) (.string ⟨#[]⟩)
     have z3:=cO.out.three HZ.out (.int .i64 1) (.slice va acc.length vc) (.string ⟨#[]⟩)
     unfold Qqh at z1 z2 z3
     obtain⟨q0,q1,q2,_⟩:=three z1
     exact bodyPost_ret (v:=.tuple #[.agg #[.int .i64 1,.slice va acc.length vc,.string ⟨#[]⟩],.bool false]) (by simp[results,Tryz.results228,go_sem,q0,q1,q2]) rfl ⟨z2,_,rfl,⟨1,va,acc.length,vc,⟨#[]⟩,rfl⟩,z3⟩
   ·rw[if_neg h6]at hS
    obtain⟨y0,y1,y2,y3,y4,y5⟩:=Qra HM.out
    rw[hB]at y0 y1 y2 y3 y4 y5
    generalize QCg L j=PX at *
    obtain⟨p1,p2,p3⟩:=PX
    simp only at hS jQ oL
    have c0:=HA.out.holds.cell 0
    have c1:=HA.out.holds.cell 1
    have crl:=HA.out.holds.lt
    clear kV eY
    go_wp2_with fail
    go_region_with (go_at_call 230;refine(jQ.out _ (by exact HA.out.keeps ((Qaa.refl _ _).drew))).mono ?_;rintro e w3 ⟨rfl,Hi⟩)
    all_goals
     have kb3:Qaa (fun _=>False) (w2.alloc (.cells #[.int .i64 t0,.string ⟨t1.toArray⟩,.int .i64 t2,.int .i64 file,.int .i64 t3,.int .i64 t4] 150)) w3:=((Qaa.refl (fun _=>False) (w2.alloc (.cells #[.int .i64 t0,.string ⟨t1.toArray⟩,.int .i64 t2,.int .i64 file,.int .i64 t3,.int .i64 t4] 150))).drew).trans (Qaa.of_fresh Hi (fun _=>False)) (fun _ _ e=>e)
     have AJ:=HA.out.keeps kb3
     have HB:=hid (show w.heap.size+1+1≤w3.heap.size from Nat.le_trans HB.out kb3.size)
     have HZ:=hid (HZ.out.keeps kb3 (fun e=>e))
     have HP:=hid (HP.out.keeps kb3 (fun e=>e))
     have HM:=hid (HM.out.keeps kb3 (fun e=>e))
     have HK:=hid (HK.out.trans kb3 (S:=(· = r)) (fun _ _ e=>e.elim))
     have HR:=hid (Qca HR.out kb3 (fun _ _ e=>e))
     have HA:=hid AJ
     clear Hi kb3 AJ c0 c1 y0 y1 y2 y3 y4 y5 crl
     have crl:=HA.out.holds.lt
     by_cases h0:p3=0
     ·subst h0
      rw[if_neg (by simp)]at hS
      obtain⟨k,rfl,sC,yA⟩:=oL.out rfl
      simp only[Int.toNat_natCast]at hS
      have gI:=hid (World.ownsRow.alloc HR.out (.cells #[.int .i64 p1,.string ⟨#[]⟩] 198))
      obtain⟨i0,hi,H4,Hp,gj⟩:=info_parts QQm
      have gi:w.heap.size+1+1≤w3.heap.size:=HB.out
      have crl:=HA.out.holds.lt
      obtain⟨m0,m1,m2,mf0,mf1,mf2,ml⟩:=three HP.out
      go_wp2_with (at_builtin;refine wpList_append_own _ rfl _ _ 194 rfl (w.heap.size+1+1) 198 i0 _ 2 24 Tryz.underlying194 hi H4 Hp gj rfl (by decide) _ _ _ rfl (by exact gI.out) ⟨w3.heap.size,0,none⟩ 1 1 [.int .i64 p1,.string ⟨#[]⟩] rfl rfl (Q2a _ _ _ _ (by simp) _ rfl) (by intro u hu;simp only[List.mem_cons,List.not_mem_nil,or_false]at hu;rcases hu with rfl|rfl <;> rfl) (by unfold maxLen;omega) (by omega) (by simp;omega) ?_)
      intro v' w9 Hg Hd _
      obtain⟨va',vc',rfl⟩:=Qea Hg
      have Ml:Qaa (· = r) w w9:=(HK.out.alloc (.cells #[.int .i64 p1,.string ⟨#[]⟩] 198)).grown Hd (fun g hg=>by have:=(Qmd gI.out hg).2.1;left;omega)
      have MZ:=fun(b:Nat) (xs:Array Value) (t:TypeId) (hx:Holds w3 b xs t) (Hm:t≠198)=>(hx.alloc (.cells #[.int .i64 p1,.string ⟨#[]⟩] 198)).grown Hd (QFa HR.out hx Hm)
      have K5:=MZ _ _ _ HZ.out (by decide)
      have lT:=MZ _ _ _ HP.out (by decide)
      have fY:=MZ _ _ _ HA.out.holds (by decide)
      obtain⟨mm0,mm1,mm2,mg0,mg1,mg2,mgl⟩:=three lT
      have mK:QRa w9 (w.heap.size+1+1) (.slice va' (acc.length+1) vc') (acc++[⟨p1,⟨#[]⟩⟩]):=by
       unfold QRa
       rw[Qjf,List.length_append]
       exact Hg
      have bw:=lT.set 1 (.slice va' (acc.length+1) vc')
      have k10:=(Qaa.refl (· = w.heap.size+1) w9).setCell (p:=⟨w.heap.size+1,1,none⟩) (.inr rfl) (.slice va' (acc.length+1) vc')
      have GA:=Qca mK k10 (fun g hg e=>by have:=(Qmd mK hg).2.1;omega)
      have je:=K5.keeps k10 (by omega)
      have Kh:=fY.keeps k10 JE
      have mC:=Ml.setCell (p:=⟨w.heap.size+1,1,none⟩) (.inl (by simp)) (.slice va' (acc.length+1) vc')
      have mT:=hid GA
      have aY:=hid bw
      have JR:=hid je
      have dA:=hid Kh
      have JP:=hid mC
      have HS:=hid hS
      have zn:=Kh.cell 1
      have t9:=Kh.free 1
      have ub:=Kh.lt
      clear Hg Hd MZ K5 lT fY Ml mK bw k10 GA je Kh mC hS gI m0 m1 m2 mf0 mf1 mf2 ml gi
      go_wp2_with fail
      have kf:=(Qaa.refl (· = r) (w9.setCell ⟨w.heap.size+1,1,none⟩ (.slice va' (acc.length+1) vc'))).setCell (p:=⟨r,1,none⟩) (.inr rfl) (.int .i64 (k:Int))
      have nT:=Qca mT.out kf (fun g hg e=>by cases e;exact QFa mT.out dA.out (by decide) hg)
      have wX:=dA.out.set 1 (.int .i64 (k:Int))
      have rh:=JP.out.trans kf (S:=(· = r)) (fun _ _ e=>e)
      have eC:=JR.out.keeps kf JL
      have xm:=aY.out.keeps kf ku
      have wT:=HH.out.from rh wX yA (by omega)
      go_roundg (gk-1)
      case measure=>omega
      case rel=>
       refine⟨k,_,_,?_,by omega,by omega,by simp;omega,nT,wT,rh,eC,xm⟩
       rw[hf,Nat.add_sub_cancel]
       exact HS
     ·rw[if_pos h0]at hS
      subst hS
      have CA:(p3 != 0)=true:=by simpa using h0
      have h0n:¬p3=0:=h0
      clear h0
      obtain⟨y0,y1,y2,y3,y4,y5⟩:=Qra HM.out
      rw[hB]at y0 y1 y2 y3 y4 y5
      obtain⟨m0,m1,m2,mf0,mf1,mf2,ml⟩:=three HP.out
      have vP:=hid (fun wx hx=>GD.out wx hx p3)
      go_wp2_with fail
      go_region_with (go_at_call 168;refine(vP.out _ (by exact HA.out.keeps ((Qaa.refl _ _).drew))).mono ?_;rintro e w4 ⟨rfl,Hq,gA⟩;have gY:=HZ.out.drew.keeps gA JL;have jW:=HP.out.drew.keeps gA ku;have mx:=HM.out.drew.keeps gA uE;obtain⟨a0,a1,a2,af0,af1,af2,al⟩:=three gY;obtain⟨b0,b1,b2,bf0,bf1,bf2,bl⟩:=three jW;obtain⟨d0,d1,d2,d3,d4,d5⟩:=Qra mx;rw[hB]at d0 d1 d2 d3 d4 d5)
      all_goals
       go_wp2_with fail
       have z1:=Qib gY (.int .i64 1) (.slice va acc.length vc) (.string ⟨#[]⟩)
       have z2:=QLa (HK.out.drew.trans gA (S:=(· = r)) (fun _ _ e=>e)) (B:=w.heap.size) (.inl (Nat.le_refl _)) (.int .i64 1) (.slice va acc.length vc) (.string ⟨#[]⟩)
       have z3:=Hq.three gY (.int .i64 1) (.slice va acc.length vc) (.string ⟨#[]⟩)
       unfold Qqh at z1 z2 z3
       obtain⟨q0,q1,q2,_⟩:=three z1
       exact bodyPost_ret (v:=.tuple #[.agg #[.int .i64 1,.slice va acc.length vc,.string ⟨#[]⟩],.bool false]) (by simp[results,Tryz.results228,go_sem,q0,q1,q2]) rfl ⟨z2,_,rfl,⟨1,va,acc.length,vc,⟨#[]⟩,rfl⟩,z3⟩
set_option maxRecDepth 100000 in
theorem QUr(w:World)(r base:Nat)(file:Int)(L:List Tok)(lv ov:Value)(i:Nat)(D:List Qxc)(h:Q7a w r base file L lv ov i D) :
 Calls Tryz.prog 224 #[.pointer (some ⟨r,0,none⟩)] w (Qpg (QYp L i) r base file L lv ov i D w):=by
 have He:Below w.heap.size w (w.alloc (.cells #[.int .i64 0,.slice none 0 0,.string ⟨#[]⟩] 196)):=(Below.refl _ _).alloc (Nat.le_refl _) _
 have GH:=Holds.new w #[.int .i64 0,.slice none 0 0,.string ⟨#[]⟩] 196
 obtain⟨gL,cL,rfl,_⟩:=id h.toks
 have Gi:=Q8c _ r base file L (.slice (some ⟨gL,0,none⟩) L.length cL) ov i D (h.keeps (Qaa.of_fresh He (fun _=>False)))
 have jq:=h.holds.lt
 have GW:=h.lt
 have bG:=h.size
 have Ke:=hid h.ok
 have tF:=Ke.out.next GW
 have HH:=hid h
 have kV:=hid (fun wx hx=>Qrd wx r base file L (.slice (some ⟨gL,0,none⟩) L.length cL) ov i D hx 6 (by decide) 162 Qtb QMc)
 have mq:QZc L 6 Qtb i=if (tkN L i).kind=6 then(if Qtb (tkN L i).text=true then .ok (i+1)else .error (i,1))else .error (i,6):=rfl
 have GD:=hid (fun wx hx=>Q7c wx r base file L (.slice (some ⟨gL,0,none⟩) L.length cL) ov i D hx i 6)
 have Hl:∃R,QYp L i=R:=⟨_,rfl⟩
 obtain⟨RR,Hl⟩:=Hl
 rw[Hl]
 unfold QYp txN at Hl
 unfold QAd at kV
 unfold QHb at Gi kV GD
 rw[mq]at kV
 clear mq h
 generalize tkN L i=t at *
 obtain⟨t0,t1,t2,t3,t4⟩:=t
 simp only at Gi kV GD Hl tF
 go_enter Tryz.func224,Tryz.ntmps224
 go_wp2_with fail
 refine Gi.mono ?_
 rintro e w1 ⟨rfl,Hb⟩
 have k1:Qaa (fun _=>False) w w1:=(Qaa.of_fresh He (fun _=>False)).trans (Qaa.of_fresh Hb (fun _=>False)) (fun _ _ e=>e)
 have gV:=HH.out.keeps k1
 have Hs:=GH.keeps (Qaa.of_fresh Hb (fun _=>False)) (fun e=>e)
 have KS:r≠w.heap.size:=by omega
 have gF:=gV.alloc (.cells #[.int .i64 t0,.string ⟨t1.toArray⟩,.int .i64 t2,.int .i64 file,.int .i64 t3,.int .i64 t4] 150)
 have Hw:=Hs.alloc (.cells #[.int .i64 t0,.string ⟨t1.toArray⟩,.int .i64 t2,.int .i64 file,.int .i64 t3,.int .i64 t4] 150)
 have gf:=(k1.mono (S:=(· = r)) (fun _ _ e=>e.elim)).alloc (.cells #[.int .i64 t0,.string ⟨t1.toArray⟩,.int .i64 t2,.int .i64 file,.int .i64 t3,.int .i64 t4] 150)
 have GZ:=Holds.new w1 #[.int .i64 t0,.string ⟨t1.toArray⟩,.int .i64 t2,.int .i64 file,.int .i64 t3,.int .i64 t4] 150
 have fy:=Hs.lt
 have MY:w1.heap.size≠r:=by have:=gV.holds.lt;omega
 obtain⟨y0,y1,y2,y3,y4,y5⟩:=Qra GZ
 clear Gi He GH Hb k1 gV Hs
 by_cases h3:t0=3
 ·subst h3
  rw[if_pos rfl]at Hl
  subst Hl
  have Hh:=tF (by decide)
  obtain⟨gn,k3⟩:=gF.step Hh
  have GQ:=GZ.keeps k3 MY
  have Hz:=Hw.keeps k3 (Ne.symm KS)
  have gu:=gf.trans k3 (S:=(· = r)) (fun _ _ e=>e)
  obtain⟨c1,c1f,crl,_⟩:=gF.at1
  obtain⟨x0,x1,x2,x3,x4,x5⟩:=Qra GQ
  obtain⟨n0,n1,n2,nf0,nf1,nf2,nl⟩:=three Hz
  have KN:=hid Hz
  have Mg:=hid gu
  have kh:=gn.holds
  clear gF Hw gf GZ GQ Hz gu k3 gn
  go_wp2_with fail
  have z1:=Qib KN.out (.int .i64 2) (.slice none 0 0) (.string ⟨t1.toArray⟩)
  have z2:=QLa Mg.out (B:=w.heap.size) (.inl (Nat.le_refl _)) (.int .i64 2) (.slice none 0 0) (.string ⟨t1.toArray⟩)
  have z3:=HH.out.from z2 (Qbd kh KS (.int .i64 2) (.slice none 0 0) (.string ⟨t1.toArray⟩)) Hh (by omega)
  unfold Qqh at z1 z2 z3
  obtain⟨q0,q1,q2,_⟩:=three z1
  exact bodyPost_ret (v:=.tuple #[.agg #[.int .i64 2,.slice none 0 0,.string ⟨t1.toArray⟩],.bool true]) (by simp[results,Tryz.results224,go_sem,q0,q1,q2]) rfl ⟨z2,_,rfl,QRa.none _ _,z3,by omega⟩
 ·rw[if_neg h3]at Hl
  by_cases h6:t0=6
  ·subst h6
   rw[if_pos rfl]at Hl
   cases hg:Qtb t1 with
   | true=>
    rw[hg,if_pos rfl]at Hl
    subst Hl
    go_wp2_with fail
    refine(kV.out _ gF).mono ?_
    rintro e w3 ⟨Hy,hm⟩
    simp only[reduceIte,hg]at hm
    obtain⟨rfl,gn⟩:=hm
    have GQ:=(GZ.keeps Hy MY).alloc (.cells #[.int .i64 6,.string ⟨t1.toArray⟩,.int .i64 t2,.int .i64 file,.int .i64 t3,.int .i64 t4] 150)
    have Hz:=(Hw.keeps Hy (Ne.symm KS)).alloc (.cells #[.int .i64 6,.string ⟨t1.toArray⟩,.int .i64 t2,.int .i64 file,.int .i64 t3,.int .i64 t4] 150)
    have gu:=(gf.trans Hy (S:=(· = r)) (fun _ _ e=>e)).alloc (.cells #[.int .i64 6,.string ⟨t1.toArray⟩,.int .i64 t2,.int .i64 file,.int .i64 t3,.int .i64 t4] 150)
    have gQ:=gn.alloc (.cells #[.int .i64 6,.string ⟨t1.toArray⟩,.int .i64 t2,.int .i64 file,.int .i64 t3,.int .i64 t4] 150)
    have Mr:=hid gQ
    obtain⟨x0,x1,x2,x3,x4,x5⟩:=Qra GQ
    obtain⟨n0,n1,n2,nf0,nf1,nf2,nl⟩:=three Hz
    have KN:=hid Hz
    have Mg:=hid gu
    clear gF Hw gf GZ GQ Hz gu Hy gn gQ y0 y1 y2 y3 y4 y5
    go_wp2_with fail
    have z1:=Qib KN.out (.int .i64 4) (.slice none 0 0) (.string ⟨t1.toArray⟩)
    have z2:=QLa Mg.out (B:=w.heap.size) (.inl (Nat.le_refl _)) (.int .i64 4) (.slice none 0 0) (.string ⟨t1.toArray⟩)
    have z3:=HH.out.from z2 (Qbd Mr.out.holds KS (.int .i64 4) (.slice none 0 0) (.string ⟨t1.toArray⟩)) Mr.out.lt (by omega)
    unfold Qqh at z1 z2 z3
    obtain⟨q0,q1,q2,_⟩:=three z1
    exact bodyPost_ret (v:=.tuple #[.agg #[.int .i64 4,.slice none 0 0,.string ⟨t1.toArray⟩],.bool true]) (by simp[results,Tryz.results224,go_sem,q0,q1,q2]) rfl ⟨z2,_,rfl,QRa.none _ _,z3,by omega⟩
   | false=>
    rw[hg,if_neg (by simp)]at Hl
    subst Hl
    go_wp2_with fail
    refine(kV.out _ gF).mono ?_
    rintro e w3 ⟨Hy,hm⟩
    simp only[reduceIte,hg,Bool.false_eq_true]at hm
    obtain⟨rfl,gn⟩:=hm
    have GQ:=(GZ.keeps Hy MY).alloc (.cells #[.int .i64 6,.string ⟨t1.toArray⟩,.int .i64 t2,.int .i64 file,.int .i64 t3,.int .i64 t4] 150)
    have Hz:=(Hw.keeps Hy (Ne.symm KS)).alloc (.cells #[.int .i64 6,.string ⟨t1.toArray⟩,.int .i64 t2,.int .i64 file,.int .i64 t3,.int .i64 t4] 150)
    have gu:=(gf.trans Hy (S:=(· = r)) (fun _ _ e=>e)).alloc (.cells #[.int .i64 6,.string ⟨t1.toArray⟩,.int .i64 t2,.int .i64 file,.int .i64 t3,.int .i64 t4] 150)
    have gQ:=gn.alloc (.cells #[.int .i64 6,.string ⟨t1.toArray⟩,.int .i64 t2,.int .i64 file,.int .i64 t3,.int .i64 t4] 150)
    have Mr:=hid gQ
    obtain⟨x0,x1,x2,x3,x4,x5⟩:=Qra GQ
    obtain⟨n0,n1,n2,nf0,nf1,nf2,nl⟩:=three Hz
    have KN:=hid Hz
    have Mg:=hid gu
    clear gF Hw gf GZ GQ Hz gu Hy gn gQ y0 y1 y2 y3 y4 y5
    go_wp2_with fail
    have z1:=Qib KN.out (.int .i64 4) (.slice none 0 0) (.string ⟨t1.toArray⟩)
    have z2:=QLa Mg.out (B:=w.heap.size) (.inl (Nat.le_refl _)) (.int .i64 4) (.slice none 0 0) (.string ⟨t1.toArray⟩)
    have z3:=Mr.out.three KN.out (.int .i64 4) (.slice none 0 0) (.string ⟨t1.toArray⟩)
    unfold Qqh at z1 z2 z3
    obtain⟨q0,q1,q2,_⟩:=three z1
    exact bodyPost_ret (v:=.tuple #[.agg #[.int .i64 4,.slice none 0 0,.string ⟨t1.toArray⟩],.bool false]) (by simp[results,Tryz.results224,go_sem,q0,q1,q2]) rfl ⟨z2,_,rfl,⟨4,none,0,0,⟨t1.toArray⟩,rfl⟩,z3⟩
  ·rw[if_neg h6]at Hl
   have G7:=QJd _ r base file L (.slice (some ⟨gL,0,none⟩) L.length cL) ov i D gF 4 [60]
   go_wp2_with fail
   refine(by exact G7:Calls _ _ _ _ _).mono ?_
   rintro e w2 ⟨rfl,Hc⟩
   have kb2:Qaa (fun _=>False) _ w2:=Qaa.of_fresh Hc _
   have gn:=gF.keeps kb2
   have Hz:=Hw.keeps kb2 (fun e=>e)
   have gu:=gf.trans kb2 (S:=(· = r)) (fun _ _ e=>e.elim)
   have GQ:=GZ.keeps kb2 (fun e=>e)
   clear G7 Hc kb2 gF Hw gf GZ y0 y1 y2 y3 y4 y5
   cases hk:isK L i 4 [60]with
   | true=>
    rw[hk,if_pos rfl]at Hl
    obtain⟨gQ,k4⟩:=gn.step (Qke Ke.out GW hk (by decide))
    have Gb:=Qkq _ r base file L (.slice (some ⟨gL,0,none⟩) L.length cL) ov (i+1) D gQ
    unfold Qpg at Gb
    have kW:=gu.trans k4 (S:=(· = r)) (fun _ _ e=>e)
    have gY:=Hz.keeps k4 (Ne.symm KS)
    obtain⟨c1,c1f,crl,_⟩:=gn.at1
    have fh:=kW.size
    have MO:=hid gY
    have M7:=hid kW
    clear gu Hz gn gQ k4 gY kW
    generalize QSg L (Q0d L) (i+1) []=R at *
    cases R with
    | ok q=>
     obtain⟨j,q⟩:=q
     simp only at Hl Gb
     subst Hl
     go_wp2_with fail
     refine(by exact Gb:Calls _ _ _ _ _).mono ?_
     rintro e w5 ⟨Gl,cv,rfl,Ho,kI,vd⟩
     unfold QCj
     have gK:=MO.out.keeps Gl (Ne.symm KS)
     have gR:=M7.out.trans Gl (S:=(· = r)) (fun _ _ e=>e)
     have mJ:QRa w5 w.heap.size cv (q):=Ho.lower fh
     have wY:=kI.holds
     have dd:=kI.lt
     obtain⟨va,vc,rfl⟩:=mJ.slice
     obtain⟨n0,n1,n2,nf0,nf1,nf2,nl⟩:=three gK
     have qA:=hid mJ
     have JS:=hid gK
     have dB:=hid gR
     clear Gb Ho mJ kI Gl gK gR
     go_wp2_with fail
     have z1:=Qib JS.out (.int .i64 1) (.slice va q.length vc) (.string ⟨#[]⟩)
     have z2:=QLa dB.out (B:=w.heap.size) (.inl (Nat.le_refl _)) (.int .i64 1) (.slice va q.length vc) (.string ⟨#[]⟩)
     have z3:=HH.out.from z2 (Qbd wY KS (.int .i64 1) (.slice va q.length vc) (.string ⟨#[]⟩)) dd (by omega)
     have z4:=Qca qA.out (QLa (S:=(· = w.heap.size)) (Qaa.refl _ _) (.inr rfl) (.int .i64 1) (.slice va q.length vc) (.string ⟨#[]⟩)) (fun g hg e=>by cases e;exact QFa qA.out JS.out (by decide) hg)
     unfold Qqh at z4
     unfold Qqh at z1 z2 z3
     obtain⟨q0,q1,q2,_⟩:=three z1
     exact bodyPost_ret (v:=.tuple #[.agg #[.int .i64 1,.slice va q.length vc,.string ⟨#[]⟩],.bool true]) (by simp[results,Tryz.results224,go_sem,q0,q1,q2]) rfl ⟨z2,_,rfl,z4,z3,by omega⟩
    | error q=>
     obtain⟨k,c⟩:=q
     simp only at Hl Gb
     subst Hl
     go_wp2_with fail
     refine(by exact Gb:Calls _ _ _ _ _).mono ?_
     rintro e w5 ⟨Gl,v,rfl,⟨ea,ex,en,ec,es,rfl⟩,Hq⟩
     have gK:=MO.out.keeps Gl (Ne.symm KS)
     have gR:=M7.out.trans Gl (S:=(· = r)) (fun _ _ e=>e)
     obtain⟨n0,n1,n2,nf0,nf1,nf2,nl⟩:=three gK
     have JS:=hid gK
     have dB:=hid gR
     have cO:=hid Hq
     clear Gb Gl gK gR Hq
     go_wp2_with fail
     have z1:=Qib JS.out (.int .i64 ea) (.slice ex en ec) (.string es)
     have z2:=QLa dB.out (B:=w.heap.size) (.inl (Nat.le_refl _)) (.int .i64 ea) (.slice ex en ec) (.string es)
     have z3:=cO.out.three JS.out (.int .i64 ea) (.slice ex en ec) (.string es)
     unfold Qqh at z1 z2 z3
     obtain⟨q0,q1,q2,_⟩:=three z1
     exact bodyPost_ret (v:=.tuple #[.agg #[.int .i64 ea,.slice ex en ec,.string es],.bool false]) (by simp[results,Tryz.results224,go_sem,q0,q1,q2]) rfl ⟨z2,_,rfl,⟨ea,ex,en,ec,es,rfl⟩,z3⟩
   | false=>
    rw[hk,if_neg (by simp)]at Hl
    have ab:=QJd _ r base file L (.slice (some ⟨gL,0,none⟩) L.length cL) ov i D gn 4 [91]
    go_wp2_with fail
    refine(by exact ab:Calls _ _ _ _ _).mono ?_
    rintro e w3 ⟨rfl,Hi⟩
    have kb3:Qaa (fun _=>False) _ w3:=Qaa.of_fresh Hi _
    have gn:=gn.keeps kb3
    have Hz:=Hz.keeps kb3 (fun e=>e)
    have gu:=gu.trans kb3 (S:=(· = r)) (fun _ _ e=>e.elim)
    have GQ:=GQ.keeps kb3 (fun e=>e)
    clear ab Hi kb3 hk
    cases hk:isK L i 4 [91]with
    | true=>
     rw[hk,if_pos rfl]at Hl
     obtain⟨gQ,k4⟩:=gn.step (Qke Ke.out GW hk (by decide))
     have Gb:=Qjq _ r base file L (.slice (some ⟨gL,0,none⟩) L.length cL) ov (i+1) D gQ
     unfold Qpg at Gb
     have kW:=gu.trans k4 (S:=(· = r)) (fun _ _ e=>e)
     have gY:=Hz.keeps k4 (Ne.symm KS)
     obtain⟨c1,c1f,crl,_⟩:=gn.at1
     have fh:=kW.size
     have MO:=hid gY
     have M7:=hid kW
     clear gu Hz gn gQ k4 gY kW
     generalize QAh L (Q0d L) (i+1) []=R at *
     cases R with
     | ok q=>
      obtain⟨j,q⟩:=q
      simp only at Hl Gb
      subst Hl
      go_wp2_with fail
      refine(by exact Gb:Calls _ _ _ _ _).mono ?_
      rintro e w5 ⟨Gl,cv,rfl,Ho,kI,vd⟩
      unfold QCj
      have gK:=MO.out.keeps Gl (Ne.symm KS)
      have gR:=M7.out.trans Gl (S:=(· = r)) (fun _ _ e=>e)
      have mJ:QRa w5 w.heap.size cv ([]):=Ho.lower fh
      have wY:=kI.holds
      have dd:=kI.lt
      obtain⟨va,vc,rfl⟩:=mJ.slice
      obtain⟨n0,n1,n2,nf0,nf1,nf2,nl⟩:=three gK
      have qA:=hid mJ
      have JS:=hid gK
      have dB:=hid gR
      clear Gb Ho mJ kI Gl gK gR
      go_wp2_with fail
      have z1:=Qib JS.out (.int .i64 3) (.slice va 0 vc) (.string ⟨q.toArray⟩)
      have z2:=QLa dB.out (B:=w.heap.size) (.inl (Nat.le_refl _)) (.int .i64 3) (.slice va 0 vc) (.string ⟨q.toArray⟩)
      have z3:=HH.out.from z2 (Qbd wY KS (.int .i64 3) (.slice va 0 vc) (.string ⟨q.toArray⟩)) dd (by omega)
      have z4:=Qca qA.out (QLa (S:=(· = w.heap.size)) (Qaa.refl _ _) (.inr rfl) (.int .i64 3) (.slice va 0 vc) (.string ⟨q.toArray⟩)) (fun g hg e=>by cases e;exact QFa qA.out JS.out (by decide) hg)
      unfold Qqh at z4
      unfold Qqh at z1 z2 z3
      obtain⟨q0,q1,q2,_⟩:=three z1
      exact bodyPost_ret (v:=.tuple #[.agg #[.int .i64 3,.slice va 0 vc,.string ⟨q.toArray⟩],.bool true]) (by simp[results,Tryz.results224,go_sem,q0,q1,q2]) rfl ⟨z2,_,rfl,z4,z3,by omega⟩
     | error q=>
      obtain⟨k,c⟩:=q
      simp only at Hl Gb
      subst Hl
      go_wp2_with fail
      refine(by exact Gb:Calls _ _ _ _ _).mono ?_
      rintro e w5 ⟨Gl,v,rfl,⟨ea,ex,en,ec,es,rfl⟩,Hq⟩
      have gK:=MO.out.keeps Gl (Ne.symm KS)
      have gR:=M7.out.trans Gl (S:=(· = r)) (fun _ _ e=>e)
      obtain⟨n0,n1,n2,nf0,nf1,nf2,nl⟩:=three gK
      have JS:=hid gK
      have dB:=hid gR
      have cO:=hid Hq
      clear Gb Gl gK gR Hq
      go_wp2_with fail
      have z1:=Qib JS.out (.int .i64 ea) (.slice ex en ec) (.string es)
      have z2:=QLa dB.out (B:=w.heap.size) (.inl (Nat.le_refl _)) (.int .i64 ea) (.slice ex en ec) (.string es)
      have z3:=cO.out.three JS.out (.int .i64 ea) (.slice ex en ec) (.string es)
      unfold Qqh at z1 z2 z3
      obtain⟨q0,q1,q2,_⟩:=three z1
      exact bodyPost_ret (v:=.tuple #[.agg #[.int .i64 ea,.slice ex en ec,.string es],.bool false]) (by simp[results,Tryz.results224,go_sem,q0,q1,q2]) rfl ⟨z2,_,rfl,⟨ea,ex,en,ec,es,rfl⟩,z3⟩
    | false=>
     rw[hk,if_neg (by simp)]at Hl
     subst Hl
     obtain⟨x0,x1,x2,x3,x4,x5⟩:=Qra GQ
     have hf:=GD.out _ gn
     have Ab:=hid GQ
     have KN:=hid Hz
     have Mg:=hid gu
     clear GQ Hz gu gn
     go_wp2_with fail
     refine(by exact hf:Calls _ _ _ _ _).mono ?_
     rintro e w4 ⟨rfl,Hq,gA⟩
     have gY:=KN.out.keeps gA (Ne.symm KS)
     have kW:=Mg.out.trans gA (S:=(· = r)) (fun _ _ e=>e)
     obtain⟨n0,n1,n2,nf0,nf1,nf2,nl⟩:=three gY
     have MO:=hid gY
     have M7:=hid kW
     have cO:=hid Hq
     clear hf gA gY kW Hq
     go_wp2_with fail
     have z1:=Qib MO.out (.int .i64 0) (.slice none 0 0) (.string ⟨#[]⟩)
     have z2:=QLa M7.out (B:=w.heap.size) (.inl (Nat.le_refl _)) (.int .i64 0) (.slice none 0 0) (.string ⟨#[]⟩)
     have z3:=cO.out.three MO.out (.int .i64 0) (.slice none 0 0) (.string ⟨#[]⟩)
     unfold Qqh at z1 z2 z3
     obtain⟨q0,q1,q2,_⟩:=three z1
     exact bodyPost_ret (v:=.tuple #[.agg #[.int .i64 0,.slice none 0 0,.string ⟨#[]⟩],.bool false]) (by simp[results,Tryz.results224,go_sem,q0,q1,q2]) rfl ⟨z2,_,rfl,⟨0,none,0,0,⟨#[]⟩,rfl⟩,z3⟩
def Qzc(R:Rs (Nat × List Qxc))(r base:Nat)(file:Int)(L:List Tok)(lv:Value)(i:Nat)(D:List Qxc)(w:World)(e:Ending)(w':World):Prop:=
 Below base w w'∧match R with
  | .ok (j,ds)=>e = .returned (.bool true)∧∃ov',Q7a w' r base file L lv ov' j (D++ds)∧i<j
  | .error (k,c)=>e = .returned (.bool false)∧∃ov',QBb w' r file L lv ov' k c
section
variable{w w':World}{r base:Nat}{file:Int}{L:List Tok}{lv ov:Value}{i:Nat}{D:List Qxc}
theorem Q7a.below(h:Q7a w r base file L lv ov i D)(k:Qaa (· = r) w w'):Below base w w':=k.below h.size (fun j hj e=>by have:=h.low;omega)
theorem QIo.noteBelow{x fp:Value}(h:QIo w r base file lv x ov fp D)(k:Qaa (fun b=>b=r∨ov.ownBlock=some b) w w'):Below base w w':=by
 refine k.below h.2.2.2 (fun j hj e=>?_)
 rcases e with rfl|e
 ·have:=h.2.2.1;omega
 ·obtain⟨vs,_,Ho,_⟩:=h.2.1
  have:=(Qmd Ho e).2.1
  omega
theorem Q7a.bad(h:Q7a w r base file L lv ov i D)(k:Qaa (· = r) w w'){q:Nat}{c:Int}(hb:QBb w' r file L lv ov q c) :
 ∃x f,QIo w' r base file lv x ov (.pointer (some ⟨f,0,none⟩)) D∧Holds w' f #[.int .i64 file,.int .i64 (tkN L q).line,.int .i64 (tkN L q).col,.int .i64 c] 153:=by
 obtain⟨x,f,h1,h2⟩:=hb
 exact⟨x,f,⟨h1,h.defs.keeps k (Qyc.one h.holds (by decide) (by decide) (by decide)),h.low,Nat.le_trans h.size k.size⟩,h2⟩
theorem Q7a.noted{ov':Value}{d:Qxc}(h:Q7a w r base file L lv ov i D)(hr:QIo w' r base file lv (.int .i64 i) ov' (.pointer none) (D++[d]))(k:Qaa (fun b=>b=r∨ov.ownBlock=some b) w w')(hc:D.length+1≤i):Q7a w' r base file L lv ov' i (D++[d]):=
 ⟨hr.1,h.toks.keeps k (fun b e=>by
  rcases e with rfl|e
  ·exact h.low
  ·obtain⟨vs,_,Ho,_⟩:=h.defs
   exact(Qmd Ho e).2.1),hr.2.1,hr.2.2.1,hr.2.2.2,h.lt,h.ok,by simp;omega⟩
theorem QXo{x:Value}{f:Nat}{ov':Value}{d:Qxc}{q:Nat}{c:Int}(h:QIo w r base file lv x ov (.pointer (some ⟨f,0,none⟩)) D)(hf:Holds w f #[.int .i64 file,.int .i64 (tkN L q).line,.int .i64 (tkN L q).col,.int .i64 c] 153)
 (hr:QIo w' r base file lv x ov' (.pointer (some ⟨f,0,none⟩)) (D++[d])) (k:Qaa (fun b=>b=r∨ov.ownBlock=some b) w w'):QBb w' r file L lv ov' q c:=by
 refine⟨x,f,hr.1,hf.keeps k (fun e=>?_)⟩
 rcases e with rfl|e
 ·exact QId h.1 hf (by decide) rfl
 ·obtain⟨vs,_,Ho,_⟩:=h.2.1
  exact QFa Ho hf (by decide) e
end
theorem Q9k{L:List Tok}{kind:Int}{right:List UInt8→Bool}{i j:Nat}(h:QZc L kind right i = .ok j):j=i+1:=by
 unfold QZc at h
 split at h
 ·split at h
  ·cases h;rfl
  ·cases h
 ·cases h
set_option maxRecDepth 100000 in
theorem Qye(w:World)(r base:Nat)(file:Int)(L:List Tok)(lv ov:Value)(i:Nat)(D:List Qxc)(h:Q7a w r base file L lv ov i D)(kind what:Int)(before:List UInt8)(f:Nat)(right:List UInt8→Bool)(hf:QJi f right)(hw8:what≠8)(kQ:(tkN L i).kind≠8)(im:before.length≤10) :
 Calls Tryz.prog 166 #[.pointer (some ⟨r,0,none⟩),.int .i64 kind,.int .i64 what,.string ⟨before.toArray⟩,.func (.func f) #[] #[]] w (Qzc (Qzs L kind what before right i) r base file L lv i D w):=by
 have Gi:=Q8c _ r base file L lv ov i D h
 have Hh:=h.ok.next h.lt kQ
 have AS:=h
 have Hl:∃R,Qzs L kind what before right i=R:=⟨_,rfl⟩
 obtain⟨RR,Hl⟩:=Hl
 rw[Hl]
 unfold Qzs at Hl
 have hx2:=h.ok.at (i+1)
 have Bf:=Qvh before (tkN L (i+1)).text (by omega)
 unfold QKo at Bf
 unfold QHb at Gi
 have xA:=hid (fun j=>Q9k (L:=L) (kind:=what) (right:=right) (i:=i+1) (j:=j))
 generalize GC:tkN L i=t at *
 obtain⟨t0,t1,t2,t3,t4⟩:=t
 simp only at Gi Hl
 have kV:=hid GC
 have HH:=hid AS
 have jq:=h.holds.lt
 have nj:=h.cnt
 have GW:L.length≤6001:=h.ok.len
 clear kQ AS GC h
 go_enter Tryz.func166,Tryz.ntmps166
 go_wp2_with fail
 refine Gi.mono ?_
 rintro e w1 ⟨rfl,Hb⟩
 have k1:Qaa (fun _=>False) w (w1.alloc (.cells #[.int .i64 t0,.string ⟨t1.toArray⟩,.int .i64 t2,.int .i64 file,.int .i64 t3,.int .i64 t4] 150)):=(Qaa.of_fresh Hb (fun _=>False)).alloc _
 have gV:=HH.out.keeps k1
 have MQ:=Holds.new w1 #[.int .i64 t0,.string ⟨t1.toArray⟩,.int .i64 t2,.int .i64 file,.int .i64 t3,.int .i64 t4] 150
 have MY:w1.heap.size≠r:=by have:=Hb.size;omega
 obtain⟨gF,k2⟩:=gV.step Hh
 have GZ:=MQ.keeps k2 MY
 have gf:=(k1.mono (S:=(· = r)) (fun _ _ e=>e.elim)).trans k2 (S:=(· = r)) (fun _ _ e=>e)
 obtain⟨c1,c1f,crl,_⟩:=gV.at1
 have cD:=Qrd _ r base file L lv ov (i+1) D gF what hw8 f right hf
 unfold QAd QHb at cD
 have M5:=hid gF
 have aX:=hid GZ
 have jO:=hid gf
 clear Gi Hb k1 gV MQ k2 gF GZ gf
 generalize QZc L what right (i+1)=TR at *
 generalize tkN L (i+1)=s at *
 obtain⟨s0,s1,s2,s3,s4⟩:=s
 simp only at cD Hl hx2 Bf
 generalize Hv:before++s1=nm at *
 go_wp2_with fail
 refine(by exact cD:Calls _ _ _ _ _).mono ?_
 rintro e w3 ⟨Hy,hm⟩
 have gu:=(jO.out.trans Hy (S:=(· = r)) (fun _ _ e=>e)).alloc (.cells #[.int .i64 s0,.string ⟨s1.toArray⟩,.int .i64 s2,.int .i64 file,.int .i64 s3,.int .i64 s4] 150)
 have GQ:=(aX.out.keeps Hy MY).alloc (.cells #[.int .i64 s0,.string ⟨s1.toArray⟩,.int .i64 s2,.int .i64 file,.int .i64 s3,.int .i64 s4] 150)
 have MT:=Holds.new w3 #[.int .i64 s0,.string ⟨s1.toArray⟩,.int .i64 s2,.int .i64 file,.int .i64 s3,.int .i64 s4] 150
 obtain⟨m0,m1,m2,m3,m4,m5⟩:=Qra GQ
 obtain⟨n0,n1,n2,n3,n4,n5⟩:=Qra MT
 clear cD
 cases TR with
 | ok j=>
  simp only at hm Hl
  obtain⟨rfl,gn⟩:=hm
  have gQ:=gn.alloc (.cells #[.int .i64 s0,.string ⟨s1.toArray⟩,.int .i64 s2,.int .i64 file,.int .i64 s3,.int .i64 s4] 150)
  have G8:=Qlg _ r base file lv (.int .i64 j) ov (.pointer none) D ⟨kind,⟨#[]⟩,⟨nm.toArray⟩,[],t3,t4⟩ (.slice none 0 0) gQ.raw (QSa.none _ _) (by have:=gQ.cnt;have:=gQ.lt;have:=gQ.ok.len;omega)
  unfold Qdd at G8
  have hj:=xA.out j rfl
  subst hj
  go_wp2_with fail
  refine(by exact G8:Calls _ _ _ _ _).mono ?_
  rintro e w4 ⟨rfl,ov',mI,gA⟩
  have kI:=gQ.noted mI gA (by omega)
  have Mi:=(HH.out.below gu).trans (gQ.raw.noteBelow gA)
  have Hr:=QKd w4 r base file L lv ov' (i+1+1) _ kI [59]
  unfold Qcd at Hr
  unfold Qbh at Hl
  have HB:=hid Mi
  have pV:=hid kI
  clear G8 mI gA Mi kI gQ gn Hy gu GQ MT jO aX M5
  cases hk:isK L (i+1+1) 4 [59]with
  | true=>
   rw[hk,if_pos rfl]at Hl
   simp only at Hl
   subst Hl
   rw[hk]at Hr
   go_wp2_with fail
   refine(by exact Hr:Calls _ _ _ _ _).mono ?_
   rintro e w5 ⟨rfl,Gl,hy,_⟩
   have KE:=hy (by trivial)
   have gG:=HB.out.trans (pV.out.below Gl)
   clear Hr hy
   go_wp2_with fail
   go_ret
   exact⟨gG,rfl,ov',KE,by omega⟩
  | false=>
   rw[hk,if_neg (by simp)]at Hl
   simp only at Hl
   subst Hl
   rw[hk]at Hr
   go_wp2_with fail
   refine(by exact Hr:Calls _ _ _ _ _).mono ?_
   rintro e w5 ⟨rfl,Gl,_,hn⟩
   have KE:=hn (by trivial)
   have gG:=HB.out.trans (pV.out.below Gl)
   clear Hr hn
   go_wp2_with fail
   go_ret
   exact⟨gG,rfl,ov',KE⟩
 | error q=>
  obtain⟨k,c⟩:=q
  simp only at hm Hl
  obtain⟨rfl,Hq⟩:=hm
  obtain⟨x,ff,nS,m9⟩:=HH.out.bad gu (Hq.alloc (.cells #[.int .i64 s0,.string ⟨s1.toArray⟩,.int .i64 s2,.int .i64 file,.int .i64 s3,.int .i64 s4] 150))
  have G8:=Qlg _ r base file lv x ov (.pointer (some ⟨ff,0,none⟩)) D ⟨kind,⟨#[]⟩,⟨nm.toArray⟩,[],t3,t4⟩ (.slice none 0 0) nS (QSa.none _ _) (by omega)
  unfold Qdd at G8
  subst Hl
  go_wp2_with fail
  refine(by exact G8:Calls _ _ _ _ _).mono ?_
  rintro e w4 ⟨rfl,ov',mI,gA⟩
  have mB:=HH.out.below gu
  have Mi:=nS.noteBelow gA
  have Hn:=QXo (L:=L) nS m9 mI gA
  go_wp2_with fail
  go_ret
  exact⟨mB.trans Mi,rfl,ov',Hn⟩
theorem Qlr:(Tryz.prog.info? 196).map (fun i=>(i.zero,i.size,i.bytes))=some (some (.agg #[.int .i64 0,.slice none 0 0,.string ⟨#[]⟩]),3,48):=by kernel_rfl
def QMq(r base:Nat)(file:Int)(L:List Tok)(lv:Value)(n:Nat):Prop:=∀(w:World) (ov:Value) (i:Nat) (D:List Qxc) (d:Qxc) (dp:Nat),Q7a w r base file L lv ov i D→d.parts=[]→3*(L.length-i)≤n→dp≤100→
 Calls Tryz.prog 164 #[.pointer (some ⟨r,0,none⟩),Qdd file d (.slice none 0 0),.int .i64 dp] w (Qzc (Qch L n (.body d dp) i) r base file L lv i D w)
def Qpl(r base:Nat)(file:Int)(L:List Tok)(lv:Value)(n:Nat):Prop:=∀(w:World) (ov:Value) (i:Nat) (D:List Qxc) (dp:Nat),Q7a w r base file L lv ov i D→3*(L.length-i)≤n→dp≤50→
 Calls Tryz.prog 200 #[.pointer (some ⟨r,0,none⟩),.int .i64 dp] w (Qzc (Qch L n (.member dp) i) r base file L lv i D w)
def QMo(r base:Nat)(file:Int)(L:List Tok)(lv:Value)(n:Nat):Prop:=∀(w:World) (ov:Value) (i:Nat) (D:List Qxc) (dp:Nat),Q7a w r base file L lv ov i D→(tkN L i).kind=1→3*(L.length-i)≤n+1→dp≤99→
 Calls Tryz.prog 215 #[.pointer (some ⟨r,0,none⟩),QHb file (tkN L i),.int .i64 dp] w (Qzc (Qch L n (.named dp) i) r base file L lv i D w)
theorem QPf:QJi 50 Q0a:=⟨enters_of Tryz.func50 (by kernel_rfl) rfl,fun s w hs=>Qac s w (by unfold maxLen;omega)⟩
theorem Qji:QJi 97 Qef:=⟨enters_of Tryz.func97 (by kernel_rfl) rfl,fun s w hs=>QGc s w (by omega)⟩
set_option maxRecDepth 100000 in
theorem Qlq(r base:Nat)(file:Int)(L:List Tok)(lv:Value)(n:Nat)(hB:QMq r base file L lv n):QMo r base file L lv (n+1):=by
 intro w ov i D dp h gz hn io
 have vI:=hid hB
 have Hh:=h.ok.next h.lt (by rw[gz];decide)
 have Ke:=hid h.ok
 have bG:=h.size
 have jq:=h.holds.lt
 have nj:=h.cnt
 have hlen:=h.ok.len
 have HH:=hid h
 have MJ:=h.ok.at i
 have Hl:∃R,Qch L (n+1) (.named dp) i=R:=⟨_,rfl⟩
 obtain⟨RR,Hl⟩:=Hl
 rw[Hl]
 rw[Qch]at Hl
 unfold txN at Hl
 have kV:=hid (show tkN L i=tkN L i from rfl)
 have GD:=hid (fun wx hx=>Q7c wx r base file L lv ov (i+1) D hx i 1)
 unfold QHb at GD ⊢
 clear gz h hB
 generalize tkN L i=t at *
 obtain⟨t0,t1,t2,t3,t4⟩:=t
 simp only at Hl GD MJ ⊢
 have ib:∀wx,Calls Tryz.prog 50 #[.string ⟨t1.toArray⟩] wx fun e w'=>e = .returned (.bool (Q0a t1))∧wx=w':=fun wx=>QPf.2 ⟨t1.toArray⟩ wx (by simpa[ByteArray.size]using MJ)
 have ic:∀wx,Calls Tryz.prog 97 #[.string ⟨t1.toArray⟩] wx fun e w'=>e = .returned (.bool (Qef t1))∧wx=w':=fun wx=>Qji.2 ⟨t1.toArray⟩ wx (by simpa[ByteArray.size]using MJ)
 obtain⟨gV,k1⟩:=HH.out.step Hh
 have gF:=gV.alloc (.cells #[.int .i64 t0,.string ⟨t1.toArray⟩,.int .i64 t2,.int .i64 file,.int .i64 t3,.int .i64 t4] 150)
 have GZ:=Holds.newAt (w:=w.setCell ⟨r,1,none⟩ (.int .i64 ((i:Int)+1))) (B:=w.heap.size) (by simp) #[.int .i64 t0,.string ⟨t1.toArray⟩,.int .i64 t2,.int .i64 file,.int .i64 t3,.int .i64 t4] 150
 have gf:=k1.alloc (.cells #[.int .i64 t0,.string ⟨t1.toArray⟩,.int .i64 t2,.int .i64 file,.int .i64 t3,.int .i64 t4] 150)
 obtain⟨c1,c1f,crl,_⟩:=(HH.out.alloc (.cells #[.int .i64 t0,.string ⟨t1.toArray⟩,.int .i64 t2,.int .i64 file,.int .i64 t3,.int .i64 t4] 150)).at1
 have G7:=QJd _ r base file L lv ov (i+1) D gF 4 [123]
 have M5:=hid gF
 have aX:=hid GZ
 have jO:=hid gf
 clear gV k1 gF GZ gf
 go_enter Tryz.func215,Tryz.ntmps215
 go_wp2_with fail
 refine(by exact G7:Calls _ _ _ _ _).mono ?_
 rintro e w2 ⟨rfl,Hc⟩
 have kb2:Qaa (fun _=>False) _ w2:=Qaa.of_fresh Hc _
 have gn:=M5.out.keeps kb2
 have GQ:=aX.out.keeps kb2 (fun e=>e)
 have gu:=jO.out.trans kb2 (S:=(· = r)) (fun _ _ e=>e.elim)
 obtain⟨m0,m1,m2,m3,m4,m5⟩:=Qra GQ
 clear G7 Hc kb2 c1 c1f crl
 cases hk:isK L (i+1) 4 [123]with
 | true=>
  rw[hk,if_pos rfl]at Hl
  cases hg:Q0a t1 with
  | true=>
   rw[hg,if_pos rfl]at Hl
   rw[hg]at ib
   obtain⟨dq,rU⟩:∃z,z=dp+1:=⟨_,rfl⟩
   rw[←rU]at Hl
   have gw:=vI.out w2 ov (i+1) D ⟨1,⟨#[]⟩,⟨t1.toArray⟩,[],t3,t4⟩ dq gn rfl (by omega) (by omega)
   unfold Qdd Qzc at gw
   rw[Hl]at gw
   have yd:(dp:Int)+1=(dq:Int):=by omega
   have rV:dq≤100:=by omega
   clear rU
   have jH:=HH.out.below gu
   have Kd:=hid ib
   clear ic ib gu GQ
   go_wp2_with fail
   refine(Kd.out _).mono ?_
   rintro e w3 ⟨rfl,rfl⟩
   go_wp2_with fail
   refine(by exact gw:Calls _ _ _ _ _).mono ?_
   rintro e w3 ⟨Hi,hm⟩
   have Hu:=jH.trans Hi
   unfold Qzc
   clear gw Hl
   cases RR with
   | ok q=>
    obtain⟨j,ds⟩:=q
    simp only at hm
    obtain⟨rfl,ov',gQ,hj⟩:=hm
    go_wp2_with fail
    go_ret
    exact⟨Hu,rfl,ov',gQ,by omega⟩
   | error q=>
    obtain⟨k,c⟩:=q
    simp only at hm
    obtain⟨rfl,ov',Hq⟩:=hm
    go_wp2_with fail
    go_ret
    exact⟨Hu,rfl,ov',Hq⟩
  | false=>
   rw[hg,if_neg (by simp)]at Hl
   subst Hl
   rw[hg]at ib
   have m9:=GD.out _ gn
   have jH:=HH.out.below gu
   have Kd:=hid ib
   clear ic ib gu GQ
   go_wp2_with fail
   refine(Kd.out _).mono ?_
   rintro e w3 ⟨rfl,rfl⟩
   go_wp2_with fail
   refine(by exact m9:Calls _ _ _ _ _).mono ?_
   rintro e w3 ⟨rfl,Hq,Hy⟩
   have Hi:=jH.trans (gn.below Hy)
   go_wp2_with fail
   go_ret
   exact⟨Hi,rfl,ov,Hq⟩
 | false=>
  rw[hk,if_neg (by simp)]at Hl
  cases hg:Qef t1 with
  | false=>
   rw[hg,if_neg (by simp)]at Hl
   subst Hl
   rw[hg]at ic
   have m9:=GD.out _ gn
   have jH:=HH.out.below gu
   have jQ:=hid ic
   clear ic ib gu GQ
   go_wp2_with fail
   refine(jQ.out _).mono ?_
   rintro e w3 ⟨rfl,rfl⟩
   go_wp2_with fail
   refine(by exact m9:Calls _ _ _ _ _).mono ?_
   rintro e w3 ⟨rfl,Hq,Hy⟩
   have Hi:=jH.trans (gn.below Hy)
   go_wp2_with fail
   go_ret
   exact⟨Hi,rfl,ov,Hq⟩
  | true=>
   rw[hg,if_pos rfl]at Hl
   rw[hg]at ic
   have jQ:=hid ic
   clear ic ib
   go_wp2_with fail
   refine(jQ.out _).mono ?_
   rintro e w3 ⟨rfl,rfl⟩
   have gQ:=gn.alloc (.cells #[.int .i64 3,.string ⟨#[]⟩,.string ⟨t1.toArray⟩,.slice none 0 0,.int .i64 file,.int .i64 t3,.int .i64 t4] 123)
   have cV:=Holds.new w2 #[.int .i64 3,.string ⟨#[]⟩,.string ⟨t1.toArray⟩,.slice none 0 0,.int .i64 file,.int .i64 t3,.int .i64 t4] 123
   have kW:=gu.alloc (.cells #[.int .i64 3,.string ⟨#[]⟩,.string ⟨t1.toArray⟩,.slice none 0 0,.int .i64 file,.int .i64 t3,.int .i64 t4] 123)
   have Je:=gu.size
   have vj:=GQ.lt
   have c9:L.length<(i+1)+Q0d L:=by unfold Q0d;omega
   generalize hN:Q0d L=N at *
   generalize cY:QKk L N [61] (i+1) []=PP at *
   have oL:=hid cY
   have zj:=QSa.none (w2.alloc (.cells #[.int .i64 3,.string ⟨#[]⟩,.string ⟨t1.toArray⟩,.slice none 0 0,.int .i64 file,.int .i64 t3,.int .i64 t4] 123)) (w.heap.size+1)
   obtain⟨Z,hZ⟩:∃z,z=w2.heap.size:=⟨_,rfl⟩
   have xK:Z≠r:=by omega
   have hZw:w.heap.size+1≤Z:=by omega
   rw[←hZ]at cV
   clear hN cY GQ gn gu aX M5 jO hg hk
   go_wp2_with fail
   rw[←hZ]
   have HZZ:=hid hZ
   clear m0 m1 m2 m3 m4 m5 hZ
   generalize w2.alloc (.cells #[.int .i64 3,.string ⟨#[]⟩,.string ⟨t1.toArray⟩,.slice none 0 0,.int .i64 file,.int .i64 t3,.int .i64 t4] 123)=w4 at *
   go_loopg [9] N (fun f x wr=>∃(j:Nat) (ps:List Qzf) (sep:List UInt8) (pv:Value),x = .string ⟨sep.toArray⟩∧Hid (QKk L f sep j ps=PP)∧L.length<j+f∧i+1≤j∧ps.length≤j∧QSa wr (w.heap.size+1) pv ps∧Q7a wr r base file L lv ov j D∧Qaa (· = r) w wr∧Holds wr Z #[.int .i64 3,.string ⟨#[]⟩,.string ⟨t1.toArray⟩,pv,.int .i64 file,.int .i64 t3,.int .i64 t4] 123)
   case atStart=>exact⟨i+1,[],[61],.slice none 0 0,rfl,oL,c9,Nat.le_refl _,Nat.zero_le _,zj,gQ,kW,cV⟩
   case round=>
    obtain⟨j,ps,sep,pv,rfl,hR,sf,kt,gU,kR,hA,hK,hD⟩:=hrel
    obtain⟨va,vc,rfl⟩:=kR.slice
    have Gd:=hA.lt
    obtain⟨f,hf⟩:∃f,gk=f+1:=⟨gk-1,by omega⟩
    have hS:=hR.out
    rw[hf,QKk]at hS
    have G7:=QJd wr r base file L lv ov j D hA 4 sep
    go_wp2_with fail
    refine G7.mono ?_
    rintro e w5 ⟨rfl,H9⟩
    have kb5:Qaa (fun _=>False) wr w5:=Qaa.of_fresh H9 _
    have kI:=hA.keeps kb5
    have dN:=hD.keeps kb5 (fun e=>e)
    have gR:=hK.trans kb5 (S:=(· = r)) (fun _ _ e=>e.elim)
    have fd:=kR.keeps kb5 (Qyc.nil _)
    clear G7 hR H9 hA hD hK kR kb5
    cases hk:isK L j 4 sep with
    | true=>
     rw[hk,if_pos rfl]at hS
     have pH:=Qke Ke.out Gd hk (by decide)
     obtain⟨KE,k6⟩:=kI.step pH
     have AN:=dN.keeps k6 xK
     have Ki:=gR.trans k6 (S:=(· = r)) (fun _ _ e=>e)
     have tS:=fd.keeps k6 (Qyc.one kI.holds (by decide) (by decide) (by decide))
     obtain⟨c1,c1f,crl,_⟩:=kI.at1
     have mn:=QUr _ r base file L lv ov (j+1) D KE
     unfold Qpg at mn
     have iX:=hid KE
     have vK:=hid AN
     have jP:=hid Ki
     have Aj:=hid tS
     clear kI dN gR fd KE k6 AN Ki tS
     generalize QYp L (j+1)=PR at *
     cases PR with
     | ok q=>
      obtain⟨k,p⟩:=q
      simp only at hS mn
      go_wp2_with fail
      refine(by exact mn:Calls _ _ _ _ _).mono ?_
      rintro e w7 ⟨k5,cv,rfl,cr,AH,hj7⟩
      unfold QCj
      obtain⟨ca,cc,rfl⟩:=cr.slice
      have hw7:=jP.out.size
      have fy:=vK.out.lt
      have kx7:Qaa (· = r) (w5.setCell ⟨r,1,none⟩ (.int .i64 ((j:Int)+1))) (w7.alloc (.cells #[.int .i64 p.kind,.slice ca p.cells.length cc,.string p.text] 196)):=k5.alloc _
      have me:=Qyc.one iX.out.holds (by decide) (by decide) (by decide)
      have cU:=AH.alloc (.cells #[.int .i64 p.kind,.slice ca p.cells.length cc,.string p.text] 196)
      have oU:=vK.out.keeps kx7 xK
      have jE:=jP.out.trans kx7 (S:=(· = r)) (fun _ _ e=>e)
      have CP:=Aj.out.keeps kx7 me
      have lG:QRa (w7.alloc (.cells #[.int .i64 p.kind,.slice ca p.cells.length cc,.string p.text] 196)) (w.heap.size+1) (.slice ca p.cells.length cc) p.cells:=(cr.lower (by omega)).keeps ((Qaa.refl (fun _=>False) w7).alloc _) (Qyc.nil _)
      have oT:=Holds.new w7 #[.int .i64 p.kind,.slice ca p.cells.length cc,.string p.text] 196
      obtain⟨vs,JI,cu,Gb⟩:=CP
      have pQ:=jE.size
      obtain⟨p0,p1,p2,_⟩:=three oT
      obtain⟨y0,y1,y2,y3,y4,y5,y6⟩:=Qpd oU
      have yf:=oU.free 3
      have yl:=oU.lt
      obtain⟨i0,hi,H4,Hp,gj⟩:=info_parts Qlr
      have gI:=hid (World.ownsRow.alloc cu (.cells #[.int .i64 p.kind,.slice ca p.cells.length cc,.string p.text] 196))
      have zS:=hid oU
      have fz:=hid cU
      have lh:=hid jE
      have BS:=hid lG
      have Al:=hid cu
      have wt:=hid Gb
      have HS:=hid hS
      have gi:w.heap.size+1≤w7.heap.size+1:=by have:=oU.lt;simp at this;omega
      clear mn k5 cr AH kx7 me cU oU jE lG oT cu Gb hS iX vK jP Aj c1 c1f crl pQ
      go_wp2_with (at_builtin;refine wpList_append_own _ rfl _ _ 121 rfl (w.heap.size+1) 196 i0 _ 3 48 Tryz.underlying121 hi H4 Hp gj rfl (by decide) _ _ _ rfl (by exact gI.out) ⟨w7.heap.size+1,0,none⟩ 1 1 [.int .i64 p.kind,.slice ca p.cells.length cc,.string p.text] rfl rfl (Q2a _ _ _ _ (by simp) _ rfl) (by intro u hu;simp only[List.mem_cons,List.not_mem_nil,or_false]at hu;rcases hu with rfl|rfl|rfl <;> rfl) (by unfold maxLen;omega) (by omega) (by simp;omega) ?_)
      intro v' w9 Hg Hd _
      obtain⟨va',vc',rfl⟩:=Qea Hg
      have kg:Qaa (fun b=>(Value.slice va ps.length vc).ownBlock=some b) (w7.alloc (.cells #[.int .i64 p.kind,.slice ca p.cells.length cc,.string p.text] 196)) w9:=((Qaa.refl _ _).alloc _).grown Hd (fun g hg=>.inr hg)
      have Hm:=fun(b:Nat) (xs:Array Value) (t:TypeId) (hx:Holds (w7.alloc (.cells #[.int .i64 p.kind,.slice ca p.cells.length cc,.string p.text] 196)) b xs t) (hn:t≠196)=>QFa Al.out hx hn
      have lK:=zS.out.keeps kg (Hm _ _ _ zS.out (by decide))
      have fY:=fz.out.holds.keeps kg (Hm _ _ _ fz.out.holds (by decide))
      have AU:Qaa (· = r) w w9:=(lh.out.alloc (.cells #[.int .i64 p.kind,.slice ca p.cells.length cc,.string p.text] 196)).grown Hd (fun g hg=>by have:=(Qmd gI.out hg).2.1;left;omega)
      have H7:=fun(v:Value) (cs:List Q4g) (hc:QRa (w7.alloc (.cells #[.int .i64 p.kind,.slice ca p.cells.length cc,.string p.text] 196)) (w.heap.size+1) v cs)=>Qca hc kg (fun g hg e=>by
       obtain⟨_,_,cur,q⟩:=Qmd Al.out e
       exact QFa hc q (by decide) hg)
      have tT:QSa w9 (w.heap.size+1) (.slice va' (ps.length+1) vc') (ps++[p]):=by
       refine⟨vs++[.slice ca p.cells.length cc],by simp[JI],?_,fun m hm vj=>?_⟩
       ·rw[Qqf ps vs p _ JI,List.length_append]
        exact Hg
       ·by_cases e:m<ps.length
        ·rw[List.getElem_append_left (by omega),List.getElem_append_left e]
         exact H7 _ _ (wt.out m e (by omega))
        ·have vm:m=ps.length:=by simp at hm;omega
         subst vm
         rw[List.getElem_append_right (by omega),List.getElem_append_right (by omega)]
         simp only[JI,Nat.sub_self,List.getElem_cons_zero]
         exact H7 _ _ BS.out
      have k10:=(Qaa.refl (· = Z) w9).setCell (p:=⟨Z,3,none⟩) (.inr rfl) (.slice va' (ps.length+1) vc')
      have iL:QSa (w9.setCell ⟨Z,3,none⟩ (.slice va' (ps.length+1) vc')) (w.heap.size+1) (.slice va' (ps.length+1) vc') (ps++[p]):=by
       obtain⟨us,u1,u2,u3⟩:=tT
       exact⟨us,u1,Qca u2 k10 (fun g hg e=>by cases e;exact QFa u2 lK (by decide) hg),fun m a b=>Qca (u3 m a b) k10 (fun g hg e=>by cases e;exact QFa (u3 m a b) lK (by decide) hg)⟩
      have Kh:=fY.keeps k10 (Ne.symm xK)
      have lO:=AU.setCell (p:=⟨Z,3,none⟩) (.inl (show w.heap.size≤Z by omega)) (.slice va' (ps.length+1) vc')
      have JT:=HH.out.from lO Kh fz.out.lt (by omega)
      have q8:=lK.set 3 (.slice va' (ps.length+1) vc')
      obtain⟨_,_,_,x3,_⟩:=Qpd lK
      have x3f:=lK.free 3
      have x3l:=lK.lt
      have aY:=hid iL
      have dh:=hid JT
      have JP:=hid lO
      have vJ:=hid q8
      clear Hg Hd kg Hm lK fY AU H7 tT k10 iL Kh lO JT q8 y0 y1 y2 y3 y4 y5 y6 yf yl p0 p1 p2 gi gI
      go_wp2_with fail
      go_roundg (gk-1)
      case measure=>omega
      case rel=>
       refine⟨k,_,[44],_,rfl,?_,by omega,by omega,by simp;omega,aY.out,dh.out,JP.out,vJ.out⟩
       rw[hf,Nat.add_sub_cancel]
       exact HS
     | error q=>
      obtain⟨k,c⟩:=q
      simp only at hS mn
      subst hS
      simp only at Hl
      subst Hl
      go_wp2_with fail
      refine(by exact mn:Calls _ _ _ _ _).mono ?_
      rintro e w7 ⟨k5,v,rfl,⟨ea,ex,en,ec,es,rfl⟩,Hq⟩
      have gZ:=HH.out.below (jP.out.trans k5 (S:=(· = r)) (fun _ _ e=>e))
      have kj:=gZ.alloc (Nat.le_trans HH.out.size (jP.out.trans k5 (S:=(· = r)) (fun _ _ e=>e)).size) (.cells #[.int .i64 ea,.slice ex en ec,.string es] 196)
      have Kk:=Hq.alloc (.cells #[.int .i64 ea,.slice ex en ec,.string es] 196)
      clear mn
      go_wp2_with fail
      go_ret
      exact⟨kj,rfl,ov,Kk⟩
    | false=>
     rw[hk,if_neg (by simp)]at hS
     subst hS
     simp only at Hl
     subst Hl
     have G8:=Qlg w5 r base file lv (.int .i64 j) ov (.pointer none) D ⟨3,⟨#[]⟩,⟨t1.toArray⟩,ps,t3,t4⟩ (.slice va ps.length vc) kI.raw (fd.lower (by omega)) (by have:=kI.cnt;omega)
     unfold Qdd at G8
     obtain⟨y0,y1,y2,y3,y4,y5,y6⟩:=Qpd dN
     have il:=HH.out.below gR
     have pV:=hid kI
     clear fd kI gR dN
     go_wp2_with fail
     refine(by exact G8:Calls _ _ _ _ _).mono ?_
     rintro e w6 ⟨rfl,ov',tX,da⟩
     have KE:=pV.out.noted tX da (by omega)
     have gG:=il.trans (pV.out.raw.noteBelow da)
     go_wp2_with fail
     go_ret
     exact⟨gG,rfl,ov',KE,by omega⟩
section
variable{w w':World}{r base:Nat}{file:Int}{L:List Tok}{lv ov ov':Value}{i:Nat}{D:List Qxc}{d:Qxc}
theorem Q7a.noteStep(h:Q7a w r base file L lv ov i D)(hr:QIo w' r base file lv (.int .i64 i) ov' (.pointer none) (D++[d]))(k:Qaa (fun b=>b=r∨ov.ownBlock=some b) w w')(hl:i+1<L.length) :
 Q7a (w'.setCell ⟨r,1,none⟩ (.int .i64 ((i:Int)+1))) r base file L lv ov' (i+1) (D++[d])∧Below base w (w'.setCell ⟨r,1,none⟩ (.int .i64 ((i:Int)+1)))∧w'.cell? ⟨r,1,none⟩=some (.int .i64 i)∧w'.frozen? ⟨r,1,none⟩=false∧r<w'.heap.size:=by
 have k2:=(Qaa.refl (· = r) w').setCell (p:=⟨r,1,none⟩) (.inr rfl) (.int .i64 ((i:Int)+1))
 have e1:(i:Int)+1=((i+1:Nat):Int):=by omega
 have hH:=hr.1.set 1 (.int .i64 ((i:Int)+1))
 have me:=Qyc.one hr.1 (by decide) (by decide) (by decide)
 have hT:Quh base w' lv file L:=h.toks.keeps k (fun b e=>by
  rcases e with rfl|e
  ·exact h.low
  ·obtain⟨vs,_,Ho,_⟩:=h.defs
   exact(Qmd Ho e).2.1)
 refine⟨⟨by rw[←e1];exact hH,hT.keeps k2 (fun b e=>by cases e;exact h.low),hr.2.1.keeps k2 me,hr.2.2.1,Nat.le_trans hr.2.2.2 k2.size,hl,h.ok,by have:=h.cnt;simp;omega⟩,(h.raw.noteBelow k).trans (k2.below hr.2.2.2 (fun j hj e=>by have:=h.low;omega)),hr.1.cell 1,hr.1.free 1,hr.1.lt⟩
end
theorem Qrq(a b:Int)(s:ByteArray)(file l q:Int)(wx:World):(Instr.field 150 (.agg #[.int .i64 a,.string s,.int .i64 b,.int .i64 file,.int .i64 l,.int .i64 q]) 3).run Tryz.prog wx = .ok (.agg #[.int .i64 file,.int .i64 l,.int .i64 q]) wx:=by kernel_rfl
set_option maxRecDepth 100000 in
theorem QTr(r base:Nat)(file:Int)(L:List Tok)(lv:Value)(n:Nat)(hM:∀m,m<n→Qpl r base file L lv m):QMq r base file L lv (n+1):=by
 intro w ov i D d dp h yb hn io
 have Cf:=hid hM
 have Ke:=hid h.ok
 have GW:=h.lt
 have bG:=h.size
 have jq:=h.holds.lt
 have hlen:=h.ok.len
 have HH:=hid h
 have Hl:∃R,Qch L (n+1) (.body d dp) i=R:=⟨_,rfl⟩
 obtain⟨RR,Hl⟩:=Hl
 rw[Hl]
 rw[Qch]at Hl
 unfold Qdd
 have He:Below w.heap.size w (w.alloc (.cells (QWf file d (.slice none 0 0)) 123)):=(Below.refl _ _).alloc (Nat.le_refl _) _
 have wU:=Holds.new w (QWf file d (.slice none 0 0)) 123
 have gV:=h.alloc (.cells (QWf file d (.slice none 0 0)) 123)
 unfold QWf at He wU gV
 have G7:=QJd _ r base file L lv ov i D gV 4 [123]
 have M9:=hid (fun wx ovx jx Dx hx=>Q8c wx r base file L lv ovx jx Dx hx)
 have GD:=hid (fun wx hx=>Q7c wx r base file L lv ov i D hx i 3)
 have Aq:=hid (fun wx hx=>QKd wx r base file L lv ov i D hx [123])
 clear hM h
 go_enter Tryz.func164,Tryz.ntmps164
 go_wp2_with fail
 refine(by exact G7:Calls _ _ _ _ _).mono ?_
 rintro e w2 ⟨rfl,Hc⟩
 have kb2:Qaa (fun _=>False) _ w2:=Qaa.of_fresh Hc _
 have k02:Qaa (fun _=>False) w w2:=(Qaa.of_fresh He (fun _=>False)).trans kb2 (fun _ _ e=>e)
 have gF:=gV.keeps kb2
 have uG:=wU.keeps kb2 (fun e=>e)
 have JL:w.heap.size≠r:=by omega
 clear G7 Hc kb2 gV wU He
 cases hk:isK L i 4 [123]with
 | true=>
  rw[hk,if_pos rfl]at Hl
  by_cases h8:8<dp
  ·rw[if_pos h8]at Hl
   subst Hl
   have CE:(8:Int)<(dp:Int):=by omega
   have Gi:=M9.out w2 ov i D gF
   have jH:=HH.out.below (k02.mono (S:=(· = r)) (fun _ _ e=>e.elim))
   clear h8
   go_wp2_with fail
   refine(by exact Gi:Calls _ _ _ _ _).mono ?_
   rintro e w3 ⟨rfl,Hi⟩
   have kb3:Qaa (fun _=>False) w2 w3:=Qaa.of_fresh Hi _
   have m9:=GD.out w3 (gF.keeps kb3)
   have gn:=gF.keeps kb3
   have Hu:=jH.trans (gF.below (kb3.mono (S:=(· = r)) (fun _ _ e=>e.elim)))
   unfold QHb at m9
   unfold QHb
   clear Gi Hi kb3
   go_wp2_with fail
   refine(by exact m9:Calls _ _ _ _ _).mono ?_
   rintro e w4 ⟨rfl,Hq,gA⟩
   have H9:=Hu.trans (gn.below gA)
   go_wp2_with fail
   go_ret
   exact⟨H9,rfl,ov,Hq⟩
  ·rw[if_neg h8]at Hl
   have CE:¬(8:Int)<(dp:Int):=by omega
   have h8D:decide ((8:Int)<(dp:Int))=false:=by simp;omega
   have Hr:=Aq.out w2 gF
   unfold Qcd at Hr
   rw[hk]at Hr
   clear h8
   go_wp2_with fail
   refine(by exact Hr:Calls _ _ _ _ _).mono ?_
   rintro e w3 ⟨rfl,Hy,hy,_⟩
   have gn:=hy (by trivial)
   have AM:=uG.keeps Hy JL
   have Hi:=HH.out.below ((k02.mono (S:=(· = r)) (fun _ _ e=>e.elim)).trans Hy (S:=(· = r)) (fun _ _ e=>e))
   have G8:=Qlg w3 r base file lv (.int .i64 ((i+1:Nat):Int)) ov (.pointer none) D d (.slice none 0 0) gn.raw (by rw[yb];exact QSa.none _ _) (by have:=gn.cnt;omega)
   unfold Qdd at G8
   obtain⟨y0,y1,y2,y3,y4,y5,y6⟩:=Qpd AM
   have cN:=hid gn
   have Bj:=HH.out.cnt
   clear Hr hy Hy gF uG gn AM k02
   go_wp2_with fail
   refine(by exact G8:Calls _ _ _ _ _).mono ?_
   rintro e w4 ⟨rfl,ov4,mI,gA⟩
   have gQ:=cN.out.noted mI gA (by omega)
   have Hu:=Hi.trans (cN.out.raw.noteBelow gA)
   have qC:=hid Hl
   clear G8 mI gA y0 y1 y2 y3 y4 y5 y6 Hi Hl
   go_wp2_with fail
   go_loopg [] n (fun f wr=>∃(j:Nat) (acc:List Qxc) (ov':Value),Hid (Qch L f (.mems dp acc) j=RR)∧3*(L.length-j)+1≤f∧f≤n∧i<j∧Q7a wr r base file L lv ov' j (D++acc)∧Below base w wr)
   case atStart=>exact⟨i+1,[d],ov4,qC,by omega,Nat.le_refl _,by omega,gQ,Hu⟩
   case round=>
    obtain⟨j,acc,ov',hR,sf,iv,kt,hA,hb⟩:=hrel
    have Gd:=hA.lt
    obtain⟨f,hf⟩:∃f,gk=f+1:=⟨gk-1,by omega⟩
    have hS:=hR.out
    rw[hf,Qch]at hS
    have G7:=QJd wr r base file L lv ov' j _ hA 4 [125]
    go_wp2_with fail
    refine G7.mono ?_
    rintro e w5 ⟨rfl,H9⟩
    have kb5:Qaa (fun _=>False) wr w5:=Qaa.of_fresh H9 _
    have kI:=hA.keeps kb5
    have gG:=hb.trans (hA.below (kb5.mono (S:=(· = r)) (fun _ _ e=>e.elim)))
    clear G7 hR H9 hA hb kb5
    cases hk:isK L j 4 [125]with
    | true=>
     rw[hk,if_pos rfl]at hS
     subst hS
     have pH:=Qke Ke.out Gd hk (by decide)
     have Gi:=M9.out w5 ov' j _ kI
     unfold QHb at Gi
     generalize tkN L j=t at *
     obtain⟨t0,t1,t2,t3,t4⟩:=t
     simp only at Gi
     have aE:=Qrq t0 t2 ⟨t1.toArray⟩ file t3 t4
     go_wp2_with fail
     refine(by exact Gi:Calls _ _ _ _ _).mono ?_
     rintro e w6 ⟨rfl,kj⟩
     have kb6:Qaa (fun _=>False) w5 w6:=Qaa.of_fresh kj _
     have KE:=kI.keeps kb6
     have gZ:=gG.trans (kI.below (kb6.mono (S:=(· = r)) (fun _ _ e=>e.elim)))
     have G8:=Qlg w6 r base file lv (.int .i64 j) ov' (.pointer none) (D++acc) ⟨2,⟨#[]⟩,⟨#[]⟩,[],t3,t4⟩ (.slice none 0 0) KE.raw (QSa.none _ _) (by have:=KE.cnt;omega)
     unfold Qdd at G8
     have iX:=hid KE
     clear Gi kj kb6 kI gG KE
     go_wp2_with fail
     refine(by exact G8:Calls _ _ _ _ _).mono ?_
     rintro e w7 ⟨rfl,ov7,iN,k5⟩
     obtain⟨cU,kK,c1,c1f,crl⟩:=iX.out.noteStep iN k5 pH
     have hj6:j<6001:=by omega
     have GU:=gZ.trans kK
     rw[List.append_assoc]at cU
     have fz:=hid cU
     have BN:=hid GU
     clear G8 iN k5 cU kK GU gZ
     go_wp2_with fail
     go_ret
     exact⟨BN.out,rfl,ov7,fz.out,by omega⟩
    | false=>
     rw[hk,if_neg (by simp)]at hS
     have vk:=Cf.out f (by omega) w5 ov' j (D++acc) dp kI (by omega) (by omega)
     unfold Qzc at vk
     generalize Qch L f (.member dp) j=MR at *
     go_wp2_with fail
     refine(by exact vk:Calls _ _ _ _ _).mono ?_
     rintro e w6 ⟨kj,hm⟩
     have gZ:=gG.trans kj
     clear vk kj gG kI
     cases MR with
     | ok q=>
      obtain⟨k,ds⟩:=q
      simp only at hm hS
      obtain⟨rfl,ov6,KE,sC⟩:=hm
      rw[List.append_assoc]at KE
      have HS:=hid hS
      clear hS
      go_wp2_with fail
      go_roundg (gk-1)
      case measure=>omega
      case rel=>
       refine⟨k,acc++ds,ov6,?_,by omega,by omega,by omega,KE,gZ⟩
       rw[hf,Nat.add_sub_cancel]
       exact HS
     | error q=>
      obtain⟨k,c⟩:=q
      simp only at hm hS
      obtain⟨rfl,ov6,Hq⟩:=hm
      subst hS
      go_wp2_with fail
      go_ret
      exact⟨gZ,rfl,ov6,Hq⟩
 | false=>
  rw[hk,if_neg (by simp)]at Hl
  subst Hl
  have Hr:=Aq.out w2 gF
  unfold Qcd at Hr
  rw[hk]at Hr
  go_wp2_with fail
  refine(by exact Hr:Calls _ _ _ _ _).mono ?_
  rintro e w3 ⟨rfl,Hy,_,BC⟩
  have gn:=BC (by trivial)
  have Hi:=HH.out.below ((k02.mono (S:=(· = r)) (fun _ _ e=>e.elim)).trans Hy (S:=(· = r)) (fun _ _ e=>e))
  clear Hr BC Hy
  go_wp2_with fail
  go_ret
  exact⟨Hi,rfl,ov,gn⟩
set_option maxRecDepth 100000 in
theorem Qvo(r base:Nat)(file:Int)(L:List Tok)(lv:Value)(n:Nat)(hB:QMq r base file L lv n)(o6:QMo r base file L lv n):Qpl r base file L lv (n+1):=by
 intro w ov i D dp h hn io
 have vI:=hid hB
 have Ch:=hid o6
 have Ke:=hid h.ok
 have GW:=h.lt
 have jq:=h.holds.lt
 have hlen:=h.ok.len
 have nj:=h.cnt
 have HH:=hid h
 have Hl:∃R,Qch L (n+1) (.member dp) i=R:=⟨_,rfl⟩
 obtain⟨RR,Hl⟩:=Hl
 rw[Hl]
 rw[Qch]at Hl
 have Gi:=Q8c w r base file L lv ov i D h
 have jT:=hid (fun wx hx=>Qrd wx r base file L lv ov i D hx 5 (by decide) 162 Qtb QMc)
 have mq:QZc L 5 Qtb i=if (tkN L i).kind=5 then(if Qtb (tkN L i).text=true then .ok (i+1)else .error (i,1))else .error (i,6):=rfl
 have JN:=hid (fun wx hx kQ=>Qye wx r base file L lv ov i D hx 4 1 [] 97 Qef Qji (by decide) kQ (by decide))
 have i7:=hid (fun wx hx kQ=>Qye wx r base file L lv ov i D hx 5 1 [] 50 Q0a QPf (by decide) kQ (by decide))
 have GD:=hid (fun wx hx=>Q7c wx r base file L lv ov i D hx i 6)
 have dC:=hid (fun s (hs:isK L i 7 s=true)=>show(tkN L i).kind≠8 from by
  unfold isK at hs
  simp only[Bool.and_eq_true,decide_eq_true_eq]at hs
  rw[hs.1];decide)
 have Kd:=hid (fun(wx:World) (hx:Q7a wx r base file L lv ov i D) (h1:(tkN L i).kind=1)=>Ch.out wx ov i D dp hx h1 (by omega) (by omega))
 rw[mq]at Hl
 unfold QAd at jT
 rw[mq]at jT
 unfold txN at Hl
 unfold QHb at Gi jT GD Kd
 clear mq hB o6 h
 obtain⟨t,GC⟩:∃t,t=tkN L i:=⟨_,rfl⟩
 rw[←GC]at Gi jT GD Kd dC JN i7 Hl
 have kV:=hid GC
 clear GC
 obtain⟨t0,t1,t2,t3,t4⟩:=t
 simp only at Gi jT GD Kd dC JN i7 Hl
 go_enter Tryz.func200,Tryz.ntmps200
 go_wp2_with fail
 refine(by exact Gi:Calls _ _ _ _ _).mono ?_
 rintro e w1 ⟨rfl,Hb⟩
 have kb1:Qaa (fun _=>False) w (w1.alloc (.cells #[.int .i64 t0,.string ⟨t1.toArray⟩,.int .i64 t2,.int .i64 file,.int .i64 t3,.int .i64 t4] 150)):=(Qaa.of_fresh Hb (fun _=>False)).alloc _
 have gV:=HH.out.keeps kb1
 have MQ:=Holds.new w1 #[.int .i64 t0,.string ⟨t1.toArray⟩,.int .i64 t2,.int .i64 file,.int .i64 t3,.int .i64 t4] 150
 have jv:=HH.out.below (kb1.mono (S:=(· = r)) (fun _ _ e=>e.elim))
 have MY:w1.heap.size≠r:=by have:=Hb.size;omega
 obtain⟨m0,m1,m2,m3,m4,m5⟩:=Qra MQ
 clear Gi Hb kb1
 by_cases h5:t0=5
 ·subst h5
  rw[if_pos rfl]at Hl
  cases hg:Qtb t1 with
  | false=>
   simp only[hg,Bool.false_eq_true,reduceIte]at Hl
   subst Hl
   have GC:=jT.out _ gV
   simp only[hg,Bool.false_eq_true,reduceIte]at GC
   have Jf:=hid gV
   clear gV MQ
   go_wp2_with fail
   refine(by exact GC:Calls _ _ _ _ _).mono ?_
   rintro e w3 ⟨Hy,rfl,Hq⟩
   have KU:=(jv.trans (Jf.out.below Hy)).alloc (Nat.le_trans Jf.out.size Hy.size) (.cells #[.int .i64 5,.string ⟨t1.toArray⟩,.int .i64 t2,.int .i64 file,.int .i64 t3,.int .i64 t4] 150)
   have Kk:=Hq.alloc (.cells #[.int .i64 5,.string ⟨t1.toArray⟩,.int .i64 t2,.int .i64 file,.int .i64 t3,.int .i64 t4] 150)
   clear GC Hq Hy
   go_wp2_with fail
   go_ret
   exact⟨KU,rfl,ov,Kk⟩
  | true=>
   simp only[hg,reduceIte]at Hl
   have GC:=jT.out _ gV
   simp only[hg,reduceIte]at GC
   have Jf:=hid gV
   have oI:=hid MQ
   clear gV MQ
   go_wp2_with fail
   refine(by exact GC:Calls _ _ _ _ _).mono ?_
   rintro e w3 ⟨Hy,rfl,gn⟩
   have KU:=(jv.trans (Jf.out.below Hy)).alloc (Nat.le_trans Jf.out.size Hy.size) (.cells #[.int .i64 5,.string ⟨t1.toArray⟩,.int .i64 t2,.int .i64 file,.int .i64 t3,.int .i64 t4] 150)
   have gQ:=gn.alloc (.cells #[.int .i64 5,.string ⟨t1.toArray⟩,.int .i64 t2,.int .i64 file,.int .i64 t3,.int .i64 t4] 150)
   have mx:=(oI.out.keeps Hy MY).alloc (.cells #[.int .i64 5,.string ⟨t1.toArray⟩,.int .i64 t2,.int .i64 file,.int .i64 t3,.int .i64 t4] 150)
   have k7:w1.heap.size<w3.heap.size:=by have:=(oI.out.keeps Hy MY).lt;exact this
   have cD:=Qrd _ r base file L lv ov (i+1) D gQ 1 (by decide) 50 Q0a QPf
   have xA:=hid (fun j=>Q9k (L:=L) (kind:=1) (right:=Q0a) (i:=i+1) (j:=j))
   unfold QAd QHb at cD
   have Mr:=hid gQ
   have vV:=hid mx
   clear GC gn gQ mx Hy jv m0 m1 m2 m3 m4 m5
   generalize QZc L 1 Q0a (i+1)=TR at *
   generalize tkN L (i+1)=s at *
   obtain⟨s0,s1,s2,s3,s4⟩:=s
   simp only at cD Hl
   go_wp2_with fail
   refine(by exact cD:Calls _ _ _ _ _).mono ?_
   rintro e w5 ⟨Gl,hm⟩
   have MK:=(KU.trans (Mr.out.below Gl)).alloc (Nat.le_trans Mr.out.size Gl.size) (.cells #[.int .i64 s0,.string ⟨s1.toArray⟩,.int .i64 s2,.int .i64 file,.int .i64 s3,.int .i64 s4] 150)
   have AX:=(vV.out.keeps Gl MY).alloc (.cells #[.int .i64 s0,.string ⟨s1.toArray⟩,.int .i64 s2,.int .i64 file,.int .i64 s3,.int .i64 s4] 150)
   have Ba:=Holds.new w5 #[.int .i64 s0,.string ⟨s1.toArray⟩,.int .i64 s2,.int .i64 file,.int .i64 s3,.int .i64 s4] 150
   obtain⟨m0,m1,m2,m3,m4,m5⟩:=Qra AX
   obtain⟨n0,n1,n2,n3,n4,n5⟩:=Qra Ba
   clear cD AX Ba KU Gl
   cases TR with
   | error q=>
    obtain⟨k,c⟩:=q
    simp only at hm Hl
    obtain⟨rfl,Hq⟩:=hm
    subst Hl
    have Kk:=Hq.alloc (.cells #[.int .i64 s0,.string ⟨s1.toArray⟩,.int .i64 s2,.int .i64 file,.int .i64 s3,.int .i64 s4] 150)
    clear Hq
    go_wp2_with fail
    go_ret
    exact⟨MK,rfl,ov,Kk⟩
   | ok j=>
    simp only at hm Hl
    obtain⟨rfl,kI⟩:=hm
    have hj:=xA.out j rfl
    subst hj
    have KE:=kI.alloc (.cells #[.int .i64 s0,.string ⟨s1.toArray⟩,.int .i64 s2,.int .i64 file,.int .i64 s3,.int .i64 s4] 150)
    obtain⟨dq,rU⟩:∃z,z=dp+1:=⟨_,rfl⟩
    have yd:(dp:Int)+1=(dq:Int):=by omega
    have rV:dq≤100:=by omega
    rw[←rU]at Hl
    clear rU
    have gw:=vI.out _ ov (i+1+1) D ⟨1,⟨t1.toArray⟩,⟨s1.toArray⟩,[],t3,t4⟩ dq KE rfl (by omega) rV
    unfold Qdd Qzc at gw
    generalize Qch L n (.body ⟨1,⟨t1.toArray⟩,⟨s1.toArray⟩,[],t3,t4⟩ dq) (i+1+1)=BR at *
    clear kI KE
    go_wp2_with fail
    refine(by exact gw:Calls _ _ _ _ _).mono ?_
    rintro e wd ⟨Kl,hm⟩
    have Gs:=MK.trans Kl
    clear gw MK Kl
    cases BR with
    | ok q=>
     obtain⟨m,ds⟩:=q
     simp only at hm Hl
     obtain⟨rfl,ovd,KF,aG⟩:=hm
     have Hr:=QKd wd r base file L lv ovd m _ KF [59]
     unfold Qcd at Hr
     try unfold Qbh at Hl
     have Jg:=hid KF
     have Jh:=hid Gs
     clear KF Gs
     cases hq:isK L m 4 [59]with
     | true=>
      rw[hq,if_pos rfl]at Hl
      simp only at Hl
      subst Hl
      rw[hq]at Hr
      go_wp2_with fail
      refine(by exact Hr:Calls _ _ _ _ _).mono ?_
      rintro e wq ⟨rfl,Kq,hy,_⟩
      have Mv:=hy (by trivial)
      have mf:=Jh.out.trans (Jg.out.below Kq)
      clear Hr hy Kq
      go_wp2_with fail
      go_ret
      exact⟨mf,rfl,ovd,Mv,by omega⟩
     | false=>
      rw[hq,if_neg (by simp)]at Hl
      simp only at Hl
      subst Hl
      rw[hq]at Hr
      go_wp2_with fail
      refine(by exact Hr:Calls _ _ _ _ _).mono ?_
      rintro e wq ⟨rfl,Kq,_,hy⟩
      have Mv:=hy (by trivial)
      have mf:=Jh.out.trans (Jg.out.below Kq)
      clear Hr hy Kq
      go_wp2_with fail
      go_ret
      exact⟨mf,rfl,ovd,Mv⟩
    | error q=>
     obtain⟨k,c⟩:=q
     simp only at hm Hl
     obtain⟨rfl,ovd,Hq⟩:=hm
     subst Hl
     go_wp2_with fail
     go_ret
     exact⟨Gs,rfl,ovd,Hq⟩
 ·rw[if_neg h5]at Hl
  by_cases h1:t0=1
  ·subst h1
   rw[if_pos rfl]at Hl
   have gw:=Kd.out _ gV rfl
   unfold Qzc at gw
   generalize Qch L n (.named dp) i=BR at *
   have oI:=hid MQ
   clear MQ gV
   go_wp2_with fail
   refine(by exact gw:Calls _ _ _ _ _).mono ?_
   rintro e wd ⟨Kl,hm⟩
   have Gs:=jv.trans Kl
   clear gw jv Kl
   cases BR with
   | ok q=>
    obtain⟨m,ds⟩:=q
    simp only at hm Hl
    obtain⟨rfl,ovd,KF,aG⟩:=hm
    have Hr:=QKd wd r base file L lv ovd m _ KF [59]
    unfold Qcd at Hr
    try unfold Qbh at Hl
    have Jg:=hid KF
    have Jh:=hid Gs
    clear KF Gs
    cases hq:isK L m 4 [59]with
    | true=>
     rw[hq,if_pos rfl]at Hl
     simp only at Hl
     subst Hl
     rw[hq]at Hr
     go_wp2_with fail
     refine(by exact Hr:Calls _ _ _ _ _).mono ?_
     rintro e wq ⟨rfl,Kq,hy,_⟩
     have Mv:=hy (by trivial)
     have mf:=Jh.out.trans (Jg.out.below Kq)
     clear Hr hy Kq
     go_wp2_with fail
     go_ret
     exact⟨mf,rfl,ovd,Mv,by omega⟩
    | false=>
     rw[hq,if_neg (by simp)]at Hl
     simp only at Hl
     subst Hl
     rw[hq]at Hr
     go_wp2_with fail
     refine(by exact Hr:Calls _ _ _ _ _).mono ?_
     rintro e wq ⟨rfl,Kq,_,hy⟩
     have Mv:=hy (by trivial)
     have mf:=Jh.out.trans (Jg.out.below Kq)
     clear Hr hy Kq
     go_wp2_with fail
     go_ret
     exact⟨mf,rfl,ovd,Mv⟩
   | error q=>
    obtain⟨k,c⟩:=q
    simp only at hm Hl
    obtain⟨rfl,ovd,Hq⟩:=hm
    subst Hl
    go_wp2_with fail
    go_ret
    exact⟨Gs,rfl,ovd,Hq⟩
  ·rw[if_neg h1]at Hl
   have G7:=QJd _ r base file L lv ov i D gV 7 [100,101,108,101,116,101,45,112,114,111,112,101,114,116,121]
   go_wp2_with fail
   refine(by exact G7:Calls _ _ _ _ _).mono ?_
   rintro e w2 ⟨rfl,Hc⟩
   have kb2:Qaa (fun _=>False) _ w2:=Qaa.of_fresh Hc _
   have gF:=gV.keeps kb2
   have GZ:=MQ.keeps kb2 (fun e=>e)
   have Je:=jv.trans (gV.below (kb2.mono (S:=(· = r)) (fun _ _ e=>e.elim)))
   clear G7 Hc kb2 gV MQ jv
   cases hk:isK L i 7 [100,101,108,101,116,101,45,112,114,111,112,101,114,116,121]with
   | true=>
    rw[hk,if_pos rfl]at Hl
    have gw:=JN.out _ gF (dC.out _ hk)
    rw[Hl]at gw
    unfold Qzc at gw ⊢
    clear Hl hk
    go_wp2_with fail
    refine(by exact gw:Calls _ _ _ _ _).mono ?_
    rintro e w3 ⟨Hi,hm⟩
    have KU:=Je.trans Hi
    clear gw
    cases RR with
    | ok q=>
     obtain⟨j,ds⟩:=q
     simp only at hm
     obtain⟨rfl,ovd,KF,aG⟩:=hm
     go_wp2_with fail
     go_ret
     exact⟨KU,rfl,ovd,KF,aG⟩
    | error q=>
     obtain⟨k,c⟩:=q
     simp only at hm
     obtain⟨rfl,ovd,Hq⟩:=hm
     go_wp2_with fail
     go_ret
     exact⟨KU,rfl,ovd,Hq⟩
   | false=>
    rw[hk,if_neg (by simp)]at Hl
    have G7:=QJd _ r base file L lv ov i D gF 7 [100,101,108,101,116,101,45,110,111,100,101]
    go_wp2_with fail
    refine(by exact G7:Calls _ _ _ _ _).mono ?_
    rintro e w4 ⟨rfl,Hu⟩
    have kb4:Qaa (fun _=>False) _ w4:=Qaa.of_fresh Hu _
    have gQ:=gF.keeps kb4
    have mx:=GZ.keeps kb4 (fun e=>e)
    have fh:=Je.trans (gF.below (kb4.mono (S:=(· = r)) (fun _ _ e=>e.elim)))
    clear G7 Hu kb4 gF GZ Je hk
    cases hk:isK L i 7 [100,101,108,101,116,101,45,110,111,100,101]with
    | true=>
     rw[hk,if_pos rfl]at Hl
     have gw:=i7.out _ gQ (dC.out _ hk)
     rw[Hl]at gw
     unfold Qzc at gw ⊢
     clear Hl hk
     go_wp2_with fail
     refine(by exact gw:Calls _ _ _ _ _).mono ?_
     rintro e w5 ⟨H9,hm⟩
     have MK:=fh.trans H9
     clear gw
     cases RR with
     | ok q=>
      obtain⟨j,ds⟩:=q
      simp only at hm
      obtain⟨rfl,ovd,KF,aG⟩:=hm
      go_wp2_with fail
      go_ret
      exact⟨MK,rfl,ovd,KF,aG⟩
     | error q=>
      obtain⟨k,c⟩:=q
      simp only at hm
      obtain⟨rfl,ovd,Hq⟩:=hm
      go_wp2_with fail
      go_ret
      exact⟨MK,rfl,ovd,Hq⟩
    | false=>
     rw[hk,if_neg (by simp)]at Hl
     subst Hl
     have m9:=GD.out _ gQ
     obtain⟨x0,x1,x2,x3,x4,x5⟩:=Qra mx
     have Mr:=hid gQ
     clear gQ mx
     go_wp2_with fail
     refine(by exact m9:Calls _ _ _ _ _).mono ?_
     rintro e w5 ⟨rfl,Hq,Gl⟩
     have MK:=fh.trans (Mr.out.below Gl)
     go_wp2_with fail
     go_ret
     exact⟨MK,rfl,ov,Hq⟩
theorem Qlt(r base:Nat)(file:Int)(L:List Tok)(lv:Value):∀n m,m≤n→QMq r base file L lv m∧Qpl r base file L lv m∧QMo r base file L lv m:=by
 intro n
 induction n with
 | zero=>
  intro m hm
  obtain rfl:m=0:=by omega
  refine⟨fun w ov i D d dp h _ hn _=>?_,fun w ov i D dp h hn _=>?_,fun w ov i D dp h _ hn _=>?_⟩
  all_goals
   have:=h.lt
   omega
 | succ n ih=>
  intro m hm
  by_cases e:m=n+1
  ·subst e
   exact⟨QTr r base file L lv n (fun m hm=>(ih m (by omega)).2.1),Qvo r base file L lv n (ih n (Nat.le_refl _)).1 (ih n (Nat.le_refl _)).2.2,Qlq r base file L lv n (ih n (Nat.le_refl _)).1⟩
  ·exact ih m (by omega)
theorem QUe{r base:Nat}{file:Int}{L:List Tok}{lv:Value}{w:World}{ov:Value}{i:Nat}{D:List Qxc}(h:Q7a w r base file L lv ov i D)(d:Qxc)(hd:d.parts=[]) :
 Calls Tryz.prog 164 #[.pointer (some ⟨r,0,none⟩),Qdd file d (.slice none 0 0),.int .i64 0] w (Qzc (Qch L (QLl L) (.body d 0) i) r base file L lv i D w):=
 (Qlt r base file L lv (QLl L) _ (Nat.le_refl _)).1 w ov i D d 0 h hd (by unfold QLl;omega) (by omega)
set_option maxRecDepth 100000 in
theorem QVr(s:ByteArray)(w:World):Calls Tryz.prog 167 #[.string s] w fun e w'=>e = .returned (.bool true)∧w=w':=by
 go_enter Tryz.func167,Tryz.ntmps167
 go_wp2_with fail
 go_ret
 exact⟨rfl,rfl⟩
theorem Qyo:QJi 167 (fun _=>true):=⟨enters_of Tryz.func167 (by kernel_rfl) rfl,fun s w _=>QVr s w⟩
set_option maxRecDepth 100000 in
theorem Qmt(w:World)(r base:Nat)(file:Int)(L:List Tok)(lv ov:Value)(i:Nat)(D:List Qxc)(h:Q7a w r base file L lv ov i D) :
 Calls Tryz.prog 122 #[.pointer (some ⟨r,0,none⟩)] w (Qzc (Qcu L i) r base file L lv i D w):=by
 have Ke:=hid h.ok
 have GW:=h.lt
 have jq:=h.holds.lt
 have hlen:=h.ok.len
 have nj:=h.cnt
 have HH:=hid h
 have Hl:∃R,Qcu L i=R:=⟨_,rfl⟩
 obtain⟨RR,Hl⟩:=Hl
 rw[Hl]
 unfold Qcu at Hl
 have Gi:=Q8c w r base file L lv ov i D h
 have MJ:=h.ok.at i
 have jT:=hid (fun wx hx=>Qrd wx r base file L lv ov i D hx 5 (by decide) 162 Qtb QMc)
 have mq:QZc L 5 Qtb i=if (tkN L i).kind=5 then(if Qtb (tkN L i).text=true then .ok (i+1)else .error (i,1))else .error (i,6):=rfl
 have lq:=hid (fun wx hx=>Qrd wx r base file L lv ov i D hx 6 (by decide) 162 Qtb QMc)
 have n6:QZc L 6 Qtb i=if (tkN L i).kind=6 then(if Qtb (tkN L i).text=true then .ok (i+1)else .error (i,1))else .error (i,6):=rfl
 have JN:=hid (fun wx hx kQ=>Qye wx r base file L lv ov i D hx 6 3 [] 167 (fun _=>true) Qyo (by decide) kQ (by decide))
 have i7:=hid (fun wx hx kQ=>Qye wx r base file L lv ov i D hx 5 6 [38] 162 Qtb QMc (by decide) kQ (by decide))
 have GD:=hid (fun wx hx=>Q7c wx r base file L lv ov i D hx i 6)
 have dC:=hid (fun s (hs:isK L i 7 s=true)=>show(tkN L i).kind≠8 from by
  unfold isK at hs
  simp only[Bool.and_eq_true,decide_eq_true_eq]at hs
  rw[hs.1];decide)
 have eK:=Qvh [38] (tkN L i).text (by simp;omega)
 unfold QKo at eK
 rw[mq,n6]at Hl
 unfold QAd at jT lq
 rw[mq]at jT
 rw[n6]at lq
 unfold txN Qju at Hl
 unfold QHb at Gi jT lq GD
 clear mq n6 h
 obtain⟨t,GC⟩:∃t,t=tkN L i:=⟨_,rfl⟩
 rw[←GC]at Gi jT lq GD dC JN i7 Hl eK MJ
 have kV:=hid GC
 clear GC
 obtain⟨t0,t1,t2,t3,t4⟩:=t
 simp only at Gi jT lq GD dC JN i7 Hl eK MJ
 go_enter Tryz.func122,Tryz.ntmps122
 go_wp2_with fail
 refine(by exact Gi:Calls _ _ _ _ _).mono ?_
 rintro e w1 ⟨rfl,Hb⟩
 have kb1:Qaa (fun _=>False) w (w1.alloc (.cells #[.int .i64 t0,.string ⟨t1.toArray⟩,.int .i64 t2,.int .i64 file,.int .i64 t3,.int .i64 t4] 150)):=(Qaa.of_fresh Hb (fun _=>False)).alloc _
 have gV:=HH.out.keeps kb1
 have MQ:=Holds.new w1 #[.int .i64 t0,.string ⟨t1.toArray⟩,.int .i64 t2,.int .i64 file,.int .i64 t3,.int .i64 t4] 150
 have jv:=HH.out.below (kb1.mono (S:=(· = r)) (fun _ _ e=>e.elim))
 have MY:w1.heap.size≠r:=by have:=Hb.size;omega
 obtain⟨m0,m1,m2,m3,m4,m5⟩:=Qra MQ
 clear Gi Hb kb1
 by_cases h5:t0=5
 ·subst h5
  rw[if_pos rfl]at Hl
  cases hg:Qtb t1 with
  | false=>
   simp only[hg,Bool.false_eq_true,reduceIte]at Hl
   subst Hl
   have GC:=jT.out _ gV
   simp only[hg,Bool.false_eq_true,reduceIte]at GC
   have Jf:=hid gV
   clear gV MQ
   go_wp2_with fail
   refine(by exact GC:Calls _ _ _ _ _).mono ?_
   rintro e w3 ⟨Hy,rfl,Hq⟩
   have KU:=(jv.trans (Jf.out.below Hy)).alloc (Nat.le_trans Jf.out.size Hy.size) (.cells #[.int .i64 5,.string ⟨t1.toArray⟩,.int .i64 t2,.int .i64 file,.int .i64 t3,.int .i64 t4] 150)
   have Kk:=Hq.alloc (.cells #[.int .i64 5,.string ⟨t1.toArray⟩,.int .i64 t2,.int .i64 file,.int .i64 t3,.int .i64 t4] 150)
   clear GC Hq Hy
   go_wp2_with fail
   go_ret
   exact⟨KU,rfl,ov,Kk⟩
  | true=>
   simp only[hg,reduceIte]at Hl
   have GC:=jT.out _ gV
   simp only[hg,reduceIte]at GC
   have Jf:=hid gV
   have oI:=hid MQ
   clear gV MQ
   go_wp2_with fail
   refine(by exact GC:Calls _ _ _ _ _).mono ?_
   rintro e w3 ⟨Hy,rfl,gn⟩
   have KU:=(jv.trans (Jf.out.below Hy)).alloc (Nat.le_trans Jf.out.size Hy.size) (.cells #[.int .i64 5,.string ⟨t1.toArray⟩,.int .i64 t2,.int .i64 file,.int .i64 t3,.int .i64 t4] 150)
   have gQ:=gn.alloc (.cells #[.int .i64 5,.string ⟨t1.toArray⟩,.int .i64 t2,.int .i64 file,.int .i64 t3,.int .i64 t4] 150)
   have mx:=(oI.out.keeps Hy MY).alloc (.cells #[.int .i64 5,.string ⟨t1.toArray⟩,.int .i64 t2,.int .i64 file,.int .i64 t3,.int .i64 t4] 150)
   have k7:w1.heap.size<w3.heap.size:=by have:=(oI.out.keeps Hy MY).lt;exact this
   have Jd:=QKd _ r base file L lv ov (i+1) D gQ [47]
   unfold Qcd at Jd
   unfold Qbh at Hl
   have Mr:=hid gQ
   have vV:=hid mx
   clear GC gn gQ mx Hy jv m0 m1 m2 m3 m4 m5
   cases hs:isK L (i+1) 4 [47]with
   | false=>
    simp only[hs,Bool.false_eq_true,reduceIte]at Hl
    subst Hl
    rw[hs]at Jd
    go_wp2_with fail
    refine(by exact Jd:Calls _ _ _ _ _).mono ?_
    rintro e w5 ⟨rfl,Gl,_,hy⟩
    have Hq:=hy (by trivial)
    have MK:=KU.trans (Mr.out.below Gl)
    clear Jd hy Gl
    go_wp2_with fail
    go_ret
    exact⟨MK,rfl,ov,Hq⟩
   | true=>
    simp only[hs,reduceIte]at Hl
    rw[hs]at Jd
    go_wp2_with fail
    refine(by exact Jd:Calls _ _ _ _ _).mono ?_
    rintro e w5 ⟨rfl,Gl,hy,_⟩
    have kI:=hy (by trivial)
    have MK:=KU.trans (Mr.out.below Gl)
    have xj:=vV.out.keeps Gl MY
    have dd:w1.heap.size<w5.heap.size:=xj.lt
    obtain⟨m0,m1,m2,m3,m4,m5⟩:=Qra xj
    have gw:=QUe kI ⟨1,⟨t1.toArray⟩,⟨#[47]⟩,[],t3,t4⟩ rfl
    unfold Qdd Qzc at gw
    generalize Qch L (QLl L) (.body ⟨1,⟨t1.toArray⟩,⟨#[47]⟩,[],t3,t4⟩ 0) (i+1+1)=BR at *
    clear Jd hy Gl xj kI
    go_wp2_with fail
    refine(by exact gw:Calls _ _ _ _ _).mono ?_
    rintro e wd ⟨Kl,hm⟩
    have Gs:=MK.trans Kl
    clear gw MK Kl
    cases BR with
    | ok q=>
     obtain⟨m,ds⟩:=q
     simp only at hm Hl
     obtain⟨rfl,ovd,KF,aG⟩:=hm
     have Hr:=QKd wd r base file L lv ovd m _ KF [59]
     unfold Qcd at Hr
     try unfold Qbh at Hl
     have Jg:=hid KF
     have Jh:=hid Gs
     clear KF Gs
     cases hq:isK L m 4 [59]with
     | true=>
      rw[hq,if_pos rfl]at Hl
      simp only at Hl
      subst Hl
      rw[hq]at Hr
      go_wp2_with fail
      refine(by exact Hr:Calls _ _ _ _ _).mono ?_
      rintro e wq ⟨rfl,Kq,hy,_⟩
      have Mv:=hy (by trivial)
      have mf:=Jh.out.trans (Jg.out.below Kq)
      clear Hr hy Kq
      go_wp2_with fail
      go_ret
      exact⟨mf,rfl,ovd,Mv,by omega⟩
     | false=>
      rw[hq,if_neg (by simp)]at Hl
      simp only at Hl
      subst Hl
      rw[hq]at Hr
      go_wp2_with fail
      refine(by exact Hr:Calls _ _ _ _ _).mono ?_
      rintro e wq ⟨rfl,Kq,_,hy⟩
      have Mv:=hy (by trivial)
      have mf:=Jh.out.trans (Jg.out.below Kq)
      clear Hr hy Kq
      go_wp2_with fail
      go_ret
      exact⟨mf,rfl,ovd,Mv⟩
    | error q=>
     obtain⟨k,c⟩:=q
     simp only at hm Hl
     obtain⟨rfl,ovd,Hq⟩:=hm
     subst Hl
     go_wp2_with fail
     go_ret
     exact⟨Gs,rfl,ovd,Hq⟩
 ·rw[if_neg h5]at Hl
  have G7:=QJd _ r base file L lv ov i D gV 4 [47]
  go_wp2_with fail
  refine(by exact G7:Calls _ _ _ _ _).mono ?_
  rintro e w2 ⟨rfl,Hc⟩
  have kb2:Qaa (fun _=>False) _ w2:=Qaa.of_fresh Hc _
  have gF:=gV.keeps kb2
  have GZ:=MQ.keeps kb2 (fun e=>e)
  have Je:=jv.trans (gV.below (kb2.mono (S:=(· = r)) (fun _ _ e=>e.elim)))
  clear G7 Hc kb2 gV MQ jv m0 m1 m2 m3 m4 m5
  obtain⟨m0,m1,m2,m3,m4,m5⟩:=Qra GZ
  have GR:=GZ.lt
  cases hk:isK L i 4 [47]with
  | true=>
   rw[hk,if_pos rfl]at Hl
   obtain⟨gn,k3⟩:=gF.step (Qke Ke.out GW hk (by decide))
   have GQ:=GZ.keeps k3 MY
   obtain⟨c1,c1f,crl,_⟩:=gF.at1
   have KU:=Je.trans (gF.below k3)
   obtain⟨x0,x1,x2,x3,x4,x5⟩:=Qra GQ
   have gw:=QUe gn ⟨1,⟨#[]⟩,⟨#[47]⟩,[],t3,t4⟩ rfl
   unfold Qdd Qzc at gw
   generalize Qch L (QLl L) (.body ⟨1,⟨#[]⟩,⟨#[47]⟩,[],t3,t4⟩ 0) (i+1)=BR at *
   clear gn k3 GQ gF GZ Je
   go_wp2_with fail
   refine(by exact gw:Calls _ _ _ _ _).mono ?_
   rintro e wd ⟨Kl,hm⟩
   have Gs:=KU.trans Kl
   clear gw KU Kl
   cases BR with
   | ok q=>
    obtain⟨m,ds⟩:=q
    simp only at hm Hl
    obtain⟨rfl,ovd,KF,aG⟩:=hm
    have Hr:=QKd wd r base file L lv ovd m _ KF [59]
    unfold Qcd at Hr
    try unfold Qbh at Hl
    have Jg:=hid KF
    have Jh:=hid Gs
    clear KF Gs
    cases hq:isK L m 4 [59]with
    | true=>
     rw[hq,if_pos rfl]at Hl
     simp only at Hl
     subst Hl
     rw[hq]at Hr
     go_wp2_with fail
     refine(by exact Hr:Calls _ _ _ _ _).mono ?_
     rintro e wq ⟨rfl,Kq,hy,_⟩
     have Mv:=hy (by trivial)
     have mf:=Jh.out.trans (Jg.out.below Kq)
     clear Hr hy Kq
     go_wp2_with fail
     go_ret
     exact⟨mf,rfl,ovd,Mv,by omega⟩
    | false=>
     rw[hq,if_neg (by simp)]at Hl
     simp only at Hl
     subst Hl
     rw[hq]at Hr
     go_wp2_with fail
     refine(by exact Hr:Calls _ _ _ _ _).mono ?_
     rintro e wq ⟨rfl,Kq,_,hy⟩
     have Mv:=hy (by trivial)
     have mf:=Jh.out.trans (Jg.out.below Kq)
     clear Hr hy Kq
     go_wp2_with fail
     go_ret
     exact⟨mf,rfl,ovd,Mv⟩
   | error q=>
    obtain⟨k,c⟩:=q
    simp only at hm Hl
    obtain⟨rfl,ovd,Hq⟩:=hm
    subst Hl
    go_wp2_with fail
    go_ret
    exact⟨Gs,rfl,ovd,Hq⟩
  | false=>
   rw[hk,if_neg (by simp)]at Hl
   clear hk
   by_cases h6:t0=6
   ·subst h6
    rw[if_pos rfl]at Hl
    cases hg:Qtb t1 with
    | false=>
     simp only[hg,Bool.false_eq_true,reduceIte]at Hl
     subst Hl
     have GC:=lq.out _ gF
     simp only[hg,Bool.false_eq_true,reduceIte]at GC
     have M5:=hid gF
     clear gF GZ
     go_wp2_with fail
     refine(by exact GC:Calls _ _ _ _ _).mono ?_
     rintro e w3 ⟨Hy,rfl,Hq⟩
     have KU:=(Je.trans (M5.out.below Hy)).alloc (Nat.le_trans M5.out.size Hy.size) (.cells #[.int .i64 6,.string ⟨t1.toArray⟩,.int .i64 t2,.int .i64 file,.int .i64 t3,.int .i64 t4] 150)
     have Kk:=Hq.alloc (.cells #[.int .i64 6,.string ⟨t1.toArray⟩,.int .i64 t2,.int .i64 file,.int .i64 t3,.int .i64 t4] 150)
     clear GC Hq Hy
     go_wp2_with fail
     go_ret
     exact⟨KU,rfl,ov,Kk⟩
    | true=>
     simp only[hg,reduceIte]at Hl
     have GC:=lq.out _ gF
     simp only[hg,reduceIte]at GC
     have M5:=hid gF
     have aX:=hid GZ
     clear gF GZ
     go_wp2_with fail
     refine(by exact GC:Calls _ _ _ _ _).mono ?_
     rintro e w3 ⟨Hy,rfl,gn⟩
     have KU:=(Je.trans (M5.out.below Hy)).alloc (Nat.le_trans M5.out.size Hy.size) (.cells #[.int .i64 6,.string ⟨t1.toArray⟩,.int .i64 t2,.int .i64 file,.int .i64 t3,.int .i64 t4] 150)
     have gQ:=gn.alloc (.cells #[.int .i64 6,.string ⟨t1.toArray⟩,.int .i64 t2,.int .i64 file,.int .i64 t3,.int .i64 t4] 150)
     have mx:=(aX.out.keeps Hy MY).alloc (.cells #[.int .i64 6,.string ⟨t1.toArray⟩,.int .i64 t2,.int .i64 file,.int .i64 t3,.int .i64 t4] 150)
     obtain⟨x0,x1,x2,x3,x4,x5⟩:=Qra mx
     have Bx:=mx.lt
     have gw:=QUe gQ ⟨1,⟨#[]⟩,⟨(38::t1).toArray⟩,[],t3,t4⟩ rfl
     unfold Qdd Qzc at gw
     generalize Qch L (QLl L) (.body ⟨1,⟨#[]⟩,⟨(38::t1).toArray⟩,[],t3,t4⟩ 0) (i+1)=BR at *
     rw[show([38]++t1:List UInt8)=38::t1 from rfl]at eK
     generalize (38::t1:List UInt8)=nm at *
     clear GC gn gQ mx Hy Je m0 m1 m2 m3 m4 m5
     go_wp2_with fail
     refine(by exact gw:Calls _ _ _ _ _).mono ?_
     rintro e wd ⟨Kl,hm⟩
     have Gs:=KU.trans Kl
     clear gw KU Kl
     cases BR with
     | ok q=>
      obtain⟨m,ds⟩:=q
      simp only at hm Hl
      obtain⟨rfl,ovd,KF,aG⟩:=hm
      have Hr:=QKd wd r base file L lv ovd m _ KF [59]
      unfold Qcd at Hr
      try unfold Qbh at Hl
      have Jg:=hid KF
      have Jh:=hid Gs
      clear KF Gs
      cases hq:isK L m 4 [59]with
      | true=>
       rw[hq,if_pos rfl]at Hl
       simp only at Hl
       subst Hl
       rw[hq]at Hr
       go_wp2_with fail
       refine(by exact Hr:Calls _ _ _ _ _).mono ?_
       rintro e wq ⟨rfl,Kq,hy,_⟩
       have Mv:=hy (by trivial)
       have mf:=Jh.out.trans (Jg.out.below Kq)
       clear Hr hy Kq
       go_wp2_with fail
       go_ret
       exact⟨mf,rfl,ovd,Mv,by omega⟩
      | false=>
       rw[hq,if_neg (by simp)]at Hl
       simp only at Hl
       subst Hl
       rw[hq]at Hr
       go_wp2_with fail
       refine(by exact Hr:Calls _ _ _ _ _).mono ?_
       rintro e wq ⟨rfl,Kq,_,hy⟩
       have Mv:=hy (by trivial)
       have mf:=Jh.out.trans (Jg.out.below Kq)
       clear Hr hy Kq
       go_wp2_with fail
       go_ret
       exact⟨mf,rfl,ovd,Mv⟩
     | error q=>
      obtain⟨k,c⟩:=q
      simp only at hm Hl
      obtain⟨rfl,ovd,Hq⟩:=hm
      subst Hl
      go_wp2_with fail
      go_ret
      exact⟨Gs,rfl,ovd,Hq⟩
   ·rw[if_neg h6]at Hl
    have Bu:=QJd _ r base file L lv ov i D gF 7 [105,110,99,108,117,100,101]
    go_wp2_with fail
    refine(by exact Bu:Calls _ _ _ _ _).mono ?_
    rintro e w3 ⟨rfl,Hi⟩
    have kb3:Qaa (fun _=>False) _ w3:=Qaa.of_fresh Hi _
    have gn:=gF.keeps kb3
    have GQ:=GZ.keeps kb3 (fun e=>e)
    have KU:=Je.trans (gF.below (kb3.mono (S:=(· = r)) (fun _ _ e=>e.elim)))
    clear Bu Hi kb3 gF GZ Je
    cases hk:isK L i 7 [105,110,99,108,117,100,101]with
    | true=>
     rw[hk,if_pos rfl]at Hl
     have gw:=JN.out _ gn (dC.out _ hk)
     rw[Hl]at gw
     unfold Qzc at gw ⊢
     clear Hl hk
     go_wp2_with fail
     refine(by exact gw:Calls _ _ _ _ _).mono ?_
     rintro e w9 ⟨GU,hm⟩
     have ut:=KU.trans GU
     clear gw
     cases RR with
     | ok q=>
      obtain⟨j,ds⟩:=q
      simp only at hm
      obtain⟨rfl,ovd,KF,aG⟩:=hm
      go_wp2_with fail
      go_ret
      exact⟨ut,rfl,ovd,KF,aG⟩
     | error q=>
      obtain⟨k,c⟩:=q
      simp only at hm
      obtain⟨rfl,ovd,Hq⟩:=hm
      go_wp2_with fail
      go_ret
      exact⟨ut,rfl,ovd,Hq⟩
    | false=>
     rw[hk,if_neg (by simp)]at Hl
     clear hk
     have Bv:=QJd _ r base file L lv ov i D gn 7 [100,101,108,101,116,101,45,110,111,100,101]
     go_wp2_with fail
     refine(by exact Bv:Calls _ _ _ _ _).mono ?_
     rintro e w4 ⟨rfl,Hu⟩
     have kb4:Qaa (fun _=>False) _ w4:=Qaa.of_fresh Hu _
     have gQ:=gn.keeps kb4
     have mx:=GQ.keeps kb4 (fun e=>e)
     have fh:=KU.trans (gn.below (kb4.mono (S:=(· = r)) (fun _ _ e=>e.elim)))
     clear Bv Hu kb4 gn GQ KU
     cases hk:isK L i 7 [100,101,108,101,116,101,45,110,111,100,101]with
     | true=>
      rw[hk,if_pos rfl]at Hl
      have gw:=i7.out _ gQ (dC.out _ hk)
      rw[Hl]at gw
      unfold Qzc at gw ⊢
      clear Hl hk
      go_wp2_with fail
      refine(by exact gw:Calls _ _ _ _ _).mono ?_
      rintro e w9 ⟨GU,hm⟩
      have ut:=fh.trans GU
      clear gw
      cases RR with
      | ok q=>
       obtain⟨j,ds⟩:=q
       simp only at hm
       obtain⟨rfl,ovd,KF,aG⟩:=hm
       go_wp2_with fail
       go_ret
       exact⟨ut,rfl,ovd,KF,aG⟩
      | error q=>
       obtain⟨k,c⟩:=q
       simp only at hm
       obtain⟨rfl,ovd,Hq⟩:=hm
       go_wp2_with fail
       go_ret
       exact⟨ut,rfl,ovd,Hq⟩
     | false=>
      rw[hk,if_neg (by simp)]at Hl
      clear hk
      subst Hl
      have m9:=GD.out _ gQ
      obtain⟨x0,x1,x2,x3,x4,x5⟩:=Qra mx
      have Mr:=hid gQ
      clear gQ mx
      go_wp2_with fail
      refine(by exact m9:Calls _ _ _ _ _).mono ?_
      rintro e w5 ⟨rfl,Hq,Gl⟩
      have MK:=fh.trans (Mr.out.below Gl)
      go_wp2_with fail
      go_ret
      exact⟨MK,rfl,ov,Hq⟩
end Go.Proofs.YtgaboghigefgbaaGreatDoor
