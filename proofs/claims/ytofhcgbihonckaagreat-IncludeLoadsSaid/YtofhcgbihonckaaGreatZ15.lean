/- The reader of source: note. | The reader of source: taken. | The reader of source: Primary at a place of the tokens. | The reader of source: bytes. | The reader of source: cells (printed by gsrcg.py). | The reader of source: part (printed by gsrch.py). | The reader of source: deletes. | The reader of source: named. | The reader of source: body. | The reader of source: member (printed by gsrcl.py). | The reader of source: all of its parts; top (printed by gsrcl.py). -/
import Derived.Test.YtofhcgbihonckaaGreatZ14
import Derived.Deep.RegionLaw
import Derived.Deep.AppendLies
import Derived.Test.YtofhcgbihonckaaGreatZ3
import Derived.Laws.IdiomStrings
import Derived.Test.YtofhcgbihonckaaGreatZ16
set_option linter.all false
set_option maxHeartbeats 8000000
namespace Go.Proofs.YtofhcgbihonckaaGreat
open Go.Lib (hid)
open Go.RowKit
theorem QGj:(Tryz.prog.info? 34).map (fun i=>(i.zero,i.size,i.bytes))=some (some (.agg #[.int .i64 0,.string ⟨#[]⟩,.string ⟨#[]⟩,.slice none 0 0,.int .i64 0,.int .i64 0,.int .i64 0]),7,88):=by kernel_rfl
def QXb(file:Int)(d:Qwa)(pv:Value):Value:=.agg #[.int .i64 d.kind,.string d.label,.string d.name,pv,.int .i64 file,.int .i64 d.line,.int .i64 d.col]
def Qbc(file:Int)(d:Qwa)(pv:Value):Array Value:=#[.int .i64 d.kind,.string d.label,.string d.name,pv,.int .i64 file,.int .i64 d.line,.int .i64 d.col]
theorem Qna{w:World}{B:Nat}{x0 x1 x2 x3 x4 x5 x6:Value}{t:TypeId}(h:Qca w B #[x0,x1,x2,x3,x4,x5,x6] t) :
 w.cell? ⟨B,0,none⟩=some x0∧w.cell? ⟨B,1,none⟩=some x1∧w.cell? ⟨B,2,none⟩=some x2∧w.cell? ⟨B,3,none⟩=some x3∧w.cell? ⟨B,4,none⟩=some x4∧w.cell? ⟨B,5,none⟩=some x5∧w.cell? ⟨B,6,none⟩=some x6:=
 ⟨h.cell 0,h.cell 1,h.cell 2,h.cell 3,h.cell 4,h.cell 5,h.cell 6⟩
theorem Qua{w:World}{base:Nat}{e t:TypeId}{size:Nat}{v:Value}{n b:Nat}{xs:List Value}{cs:Array Value}(h:w.ownsRow base e size v n xs)(hH:Qca w b cs t)(Hn:t≠e):v.ownBlock≠some b:=by
 intro e2
 obtain⟨_,_,cur,h2⟩:=Qpa h e2
 exact Qcd hH h2 Hn rfl
theorem QDm{w w1 w8:World}{r base:Nat}{file:Int}{lv x ov fp v8:Value}{D:List Qwa}{d:Qwa}{pv:Value}{vs:List Value}{o:Obj}(h:QMl w r base file lv x ov fp D)(hp:Qha w base pv d.parts)(k1:Qaa (fun _=>False) w w1)
 (ky:vs.length=D.length) (Hc:w.ownsRow base 34 7 ov D.length (QRb file D vs)) (gf:∀k (h:k<D.length) (h2:k<vs.length),Qha w base vs[k] D[k].parts)
 (Hi:w8.ownsRow base 34 7 v8 (D.length+1) (QRb file D vs++[.int .i64 d.kind,.string d.label,.string d.name,pv,.int .i64 file,.int .i64 d.line,.int .i64 d.col])) (hg:(w1.alloc o).grownBy w8 ov.ownBlock) :
 r<w8.heap.size∧w8.frozen? ⟨r,2,none⟩=false∧w8.cell? ⟨r,2,none⟩=some ov∧QMl (w8.setCell ⟨r,2,none⟩ v8) r base file lv x v8 fp (D++[d])∧Qaa (fun b=>b=r∨ov.ownBlock=some b) w (w8.setCell ⟨r,2,none⟩ v8):=by
 have k2:Qaa (fun b=>ov.ownBlock=some b) w w8:=((k1.alloc o).mono (fun _ _ e=>e.elim)).grown hg (fun i e=>.inr e)
 have Hn:=Qua Hc h.1 (by decide)
 have h8:Qca w8 r #[lv,x,ov,fp] 63:=h.1.keeps k2 Hn
 have Kb:∀{v:Value} {ps:List QRa},Qha w base v ps→Qha w8 base v ps:=by
  intro v ps GO
  obtain⟨us,u1,u2,u3⟩:=GO
  refine⟨us,u1,Qba u2 k2 (fun g dV e=>?_),fun j a b=>Qba (u3 j a b) k2 (fun g dV e=>?_)⟩
  ·obtain⟨_,_,cur,q⟩:=Qpa Hc e
   exact Qua u2 q (by decide) dV
  ·obtain⟨_,_,cur,q⟩:=Qpa Hc e
   exact Qua (u3 j a b) q (by decide) dV
 have h9:=h8.set 2 v8
 have k3:=(Qaa.refl (· = r) w8).setCell (p:=⟨r,2,none⟩) (.inr rfl) v8
 have ha:=QLa.one h8 (by decide) (by decide) (by decide)
 refine⟨h8.lt,h8.free 2,h8.cell 2,⟨h9,?_,h.2.2.1,Nat.le_trans h.2.2.2 (Nat.le_trans k2.size k3.size)⟩,(k2.mono (fun _ _ e=>.inr e)).setCell (.inr (.inl rfl)) v8⟩
 refine Q7a.keeps ?_ k3 ha
 refine⟨vs++[pv],by simp[ky],?_,?_⟩
 ·rw[QDd file D vs d pv ky]
  simpa using Hi
 ·intro j hj Gr
  by_cases e:j<D.length
  ·rw[List.getElem_append_left (by omega),List.getElem_append_left e]
   exact Kb (gf j e (by omega))
  ·have mi:j=D.length:=by simp at hj;omega
   subst mi
   rw[List.getElem_append_right (by omega),List.getElem_append_right (by omega)]
   simp only[ky,Nat.sub_self,List.getElem_cons_zero]
   exact Kb hp
set_option maxRecDepth 100000 in
theorem Qbf(w:World)(r base:Nat)(file:Int)(lv x ov fp:Value)(D:List Qwa)(d:Qwa)(pv:Value)(h:QMl w r base file lv x ov fp D)(hp:Qha w base pv d.parts)(hl:D.length≤20000) :
 Calls Tryz.prog 94 #[.pointer (some ⟨r,0,none⟩),QXb file d pv] w fun e w'=>e = .returned (.tuple #[])∧∃ov',QMl w' r base file lv x ov' fp (D++[d])∧Qaa (fun b=>b=r∨ov.ownBlock=some b) w w':=by
 obtain⟨pa,pc,rfl⟩:=hp.slice
 obtain⟨oa,oc,rfl⟩:=h.2.1.slice
 obtain⟨vs,ky,Hc,gf⟩:=id h.2.1
 have GM:=h.2.2.2
 have hH:=h.1
 have gU:=hid (fun(w1 w8:World) (v8:Value) (o:Obj) k1 Hi hg=>QDm (w1:=w1) (w8:=w8) (v8:=v8) (o:=o) h hp k1 ky Hc gf Hi hg)
 have Hv:=World.ownsRow.alloc Hc (.cells (Qbc file d (.slice pa d.parts.length pc)) 34)
 have hN:=Qca.new w (Qbc file d (.slice pa d.parts.length pc)) 34
 have Gv:=hH.alloc (.cells (Qbc file d (.slice pa d.parts.length pc)) 34)
 have k1:=(Qaa.refl (fun _=>False) w).alloc (.cells (Qbc file d (.slice pa d.parts.length pc)) 34)
 unfold QXb
 unfold Qbc at Hv hN Gv k1
 clear gf Hc h hp hH
 generalize QRb file D vs=xs at *
 obtain⟨dk,dl,dn,dp,dli,dc⟩:=d
 simp only at *
 obtain⟨i0,hi,GE,GF,GA⟩:=info_parts QGj
 go_enter Tryz.func94,Tryz.ntmps94
 go_wp2_with fail
 generalize w.alloc (.cells #[.int .i64 dk,.string dl,.string dn,.slice pa dp.length pc,.int .i64 file,.int .i64 dli,.int .i64 dc] 34)=wb at *
 obtain⟨m0,m1,m2,m3,m4,m5,m6⟩:=Qna hN
 have c2:wb.cell? ⟨r,2,none⟩=some (.slice oa D.length oc):=Gv.cell 2
 have crl:=Gv.lt
 have Hl:=hN.lt
 have sN:=Nat.le_trans GM k1.size
 have Gm:=hid (World.ownsRow.alloc (show wb.drew.ownsRow base 34 7 (.slice oa D.length oc) D.length xs from Hv) (.cells #[.int .i64 dk,.string dl,.string dn,.slice pa dp.length pc,.int .i64 file,.int .i64 dli,.int .i64 dc] 34))
 clear Hv Gv hN
 go_region_law (refine step_append_lies _ (by rfl) _ _ _ (by rfl) base 34 i0 _ 7 88 Tryz.underlying25 hi GE GF GA rfl (by omega) _ D.length xs (by rfl) Gm.out ⟨wb.heap.size,0,none⟩ 1 1 [.int .i64 dk,.string dl,.string dn,.slice pa dp.length pc,.int .i64 file,.int .i64 dli,.int .i64 dc] (by rfl) (by rfl) (World.news_of_block (cs:=#[.int .i64 dk,.string dl,.string dn,.slice pa dp.length pc,.int .i64 file,.int .i64 dli,.int .i64 dc]) (t:=34) (fr:=(0,0)) (heap_alloc_new wb.drew _)) (by simp[Value.oneCell']) (by omega) (by unfold maxLen;omega) (by omega) (by simp;omega) (wb.heap.size+1) (by simp) ?_;intro gg cap2 w8 GZ Hb Gg dj;obtain⟨y0,y1,y2,y3,y4⟩:=gU.out wb.drew w8 _ _ k1.drew GZ Hb)
 all_goals
  go_wp2_with fail
  go_end0
  exact⟨rfl,_,y3,y4⟩
def Qbh(f:Nat)(right:List UInt8→Bool):Prop:=
 (∀args w,(callFunc f args).run Tryz.prog w = .ok (.enter f args) w)∧∀(s:ByteArray) (w:World),s.size≤16000→Calls Tryz.prog f #[.string s] w fun e w'=>e = .returned (.bool (right s.data.toList))∧w=w'
theorem Qnm{L:List Tok}{i:Nat}{kind:Int}:isK L i kind []=decide ((tkN L i).kind=kind):=by unfold isK;simp
set_option maxRecDepth 100000 in
theorem Q1c(w:World)(r base:Nat)(file:Int)(L:List Tok)(lv ov:Value)(i:Nat)(D:List Qwa)(h:QUa w r base file L lv ov i D)(kind:Int)(gE:kind≠8)(f:Nat)(right:List UInt8→Bool)(hf:Qbh f right) :
 Calls Tryz.prog 52 #[.pointer (some ⟨r,0,none⟩),.int .i64 kind,.func (.func f) #[] #[]] w (Q7c r base file L lv ov i D kind right w):=by
 have gR:Below w.heap.size w (w.alloc (.cells #[.int .i64 0,.string ⟨#[]⟩,.int .i64 0,.int .i64 0,.int .i64 0,.int .i64 0] 65)):=(Below.refl _ _).alloc (Nat.le_refl _) _
 have fD:=Qca.new w #[.int .i64 0,.string ⟨#[]⟩,.int .i64 0,.int .i64 0,.int .i64 0,.int .i64 0] 65
 have ht:=Qii _ r base file L lv ov i D (h.keeps (Qaa.of_fresh gR (fun _=>False))) kind [] gE
 have qh:=fun wx hx=>QNc wx r base file L lv ov (i+1) D hx i 1
 have jW:=h.holds.lt
 have bj:=h.size
 have H7:=h.ok.at i
 have hR:=hid (show Qja L kind right i=if (tkN L i).kind=kind then(if right (tkN L i).text=true then .ok (i+1)else .error (i,1))else .error (i,6)from rfl)
 obtain⟨xV,hf⟩:=hf
 unfold Qbg at ht
 rw[Qnm]at ht
 unfold Q7c
 unfold Qfb at ht qh ⊢
 generalize Qja L kind right i=R at *
 generalize tkN L i=t at *
 obtain⟨t0,t1,t2,t3,t4⟩:=t
 simp only at ht qh H7 hR ⊢
 have MH:∀wx,Calls Tryz.prog f #[.string ⟨t1.toArray⟩] wx fun e w'=>e = .returned (.bool (right t1))∧wx=w':=fun wx=>hf ⟨t1.toArray⟩ wx (by simpa[ByteArray.size]using H7)
 have Gz:=hid qh
 clear hf qh h H7
 go_enter Tryz.func52,Tryz.ntmps52
 go_wp2_with fail
 generalize w.alloc (.cells #[.int .i64 0,.string ⟨#[]⟩,.int .i64 0,.int .i64 0,.int .i64 0,.int .i64 0] 65)=w0 at *
 refine ht.mono ?_
 rintro e w1 ⟨rfl,Ht,kI,ls⟩
 have g9:Qaa (· = r) w w1:=((Qaa.of_fresh gR (fun _=>False)).mono (fun _ _ e=>e.elim)).trans Ht (fun _ _ e=>e)
 have ly:w.heap.size≠r:=by omega
 have nP:=fD.keeps Ht ly
 have iT:=hid (nP.alloc (.cells #[.int .i64 t0,.string ⟨t1.toArray⟩,.int .i64 t2,.int .i64 file,.int .i64 t3,.int .i64 t4] 65))
 have aC:=hid (Qca.new w1 #[.int .i64 t0,.string ⟨t1.toArray⟩,.int .i64 t2,.int .i64 file,.int .i64 t3,.int .i64 t4] 65)
 have Gw:=hid (g9.alloc (.cells #[.int .i64 t0,.string ⟨t1.toArray⟩,.int .i64 t2,.int .i64 file,.int .i64 t3,.int .i64 t4] 65))
 have wU:=fD.lt
 have wV:=Ht.size
 have gi:w1.heap.size≠r:=by omega
 have Gf:w1.heap.size≠w.heap.size:=by omega
 have HY:=hid kI
 have HN:=hid ls
 clear gR fD ht Ht nP g9 kI ls
 obtain⟨m0,m1,m2,m3,m4,m5⟩:=Qga aC.out
 obtain⟨n0,n1,n2,n3,n4,n5⟩:=Qga iT.out
 obtain⟨f0,f1,f2,f3,f4,f5⟩:=QWb iT.out
 have l2:=iT.out.lt
 have l3:=aC.out.lt
 have Hg:∀(wx:World),Qca wx w.heap.size #[.int .i64 0,.string ⟨#[]⟩,.int .i64 0,.int .i64 0,.int .i64 0,.int .i64 0] 65→Qaa (· = r) w wx→
  Qca (Q3k wx w.heap.size (.int .i64 t0) (.string ⟨t1.toArray⟩) (.int .i64 t2) (.int .i64 file) (.int .i64 t3) (.int .i64 t4)) w.heap.size #[.int .i64 t0,.string ⟨t1.toArray⟩,.int .i64 t2,.int .i64 file,.int .i64 t3,.int .i64 t4] 65∧
  Qaa (· = r) w (Q3k wx w.heap.size (.int .i64 t0) (.string ⟨t1.toArray⟩) (.int .i64 t2) (.int .i64 file) (.int .i64 t3) (.int .i64 t4))∧
  (QUa wx r base file L lv ov (i+1) D→QUa (Q3k wx w.heap.size (.int .i64 t0) (.string ⟨t1.toArray⟩) (.int .i64 t2) (.int .i64 file) (.int .i64 t3) (.int .i64 t4)) r base file L lv ov (i+1) D)∧
  (∀c,Qob wx r file L lv ov i c→Qob (Q3k wx w.heap.size (.int .i64 t0) (.string ⟨t1.toArray⟩) (.int .i64 t2) (.int .i64 file) (.int .i64 t3) (.int .i64 t4)) r file L lv ov i c):=by
  intro wx hH hk
  refine⟨Qgi hH _ _ _ _ _ _,Qwd hk (.inl (Nat.le_refl _)) _ _ _ _ _ _,fun hs=>?_,fun c hb=>hb.six hH _ _ _ _ _ _⟩
  have k6:=Qwd (S:=(· = w.heap.size)) (Qaa.refl _ wx) (B:=w.heap.size) (.inr rfl) (.int .i64 t0) (.string ⟨t1.toArray⟩) (.int .i64 t2) (.int .i64 file) (.int .i64 t3) (.int .i64 t4)
  have Kb:=QLa.one hH (by decide) (by decide) (by decide)
  exact⟨hs.holds.keeps k6 (Ne.symm ly),hs.toks.keeps k6 (fun b e=>by cases e;exact bj),hs.defs.keeps k6 Kb,hs.low,Nat.le_trans hs.size k6.size,hs.lt,hs.ok,hs.cnt⟩
 have GJ:=hid Hg
 clear Hg
 by_cases hk:t0=kind
 ·subst hk
  have Mq:=hid ((HY.out (decide_eq_true rfl)).alloc (.cells #[.int .i64 t0,.string ⟨t1.toArray⟩,.int .i64 t2,.int .i64 file,.int .i64 t3,.int .i64 t4] 65))
  have mu:=hR.out
  rw[if_pos rfl]at mu
  cases hg:right t1 with
  | true=>
   rw[hg,if_pos rfl]at mu
   subst mu
   rw[hg]at MH
   have rp:=hid MH
   clear MH hg hR
   go_wp2_with fail
   refine(rp.out _).mono ?_
   rintro e w2 ⟨rfl,rfl⟩
   go_wp2_with fail
   obtain⟨z1,z2,z3,_⟩:=GJ.out _ iT.out Gw.out
   replace z3:=z3 Mq.out
   unfold Q3k at z1 z2 z3
   obtain⟨q0,q1,q2,q3,q4,q5⟩:=Qga z1
   exact bodyPost_ret (v:=.tuple #[.agg #[.int .i64 t0,.string ⟨t1.toArray⟩,.int .i64 t2,.int .i64 file,.int .i64 t3,.int .i64 t4],.bool true]) (by simp[results,Tryz.results52,go_sem,q0,q1,q2,q3,q4,q5]) rfl ⟨z2,rfl,z3⟩
  | false=>
   rw[hg,if_neg (by simp)]at mu
   subst mu
   rw[hg]at MH
   have rp:=hid MH
   clear MH hg hR
   go_wp2_with fail
   refine(rp.out _).mono ?_
   rintro e w2 ⟨rfl,rfl⟩
   go_wp2_with fail
   go_region_with (go_at_call 59;refine(Gz.out _ (by exact Mq.out.keeps ((Qaa.refl _ _).drew))).mono ?_;rintro e w4 ⟨rfl,Hj,Hr⟩;have cr:=iT.out.drew.keeps Hr ly;have mO:=aC.out.drew.keeps Hr gi;obtain⟨y0,y1,y2,y3,y4,y5⟩:=Qga mO;obtain⟨v0,v1,v2,v3,v4,v5⟩:=Qga cr;obtain⟨p0,p1,p2,p3,p4,p5⟩:=QWb cr;have qE:=cr.lt)
   all_goals
    go_wp2_with fail
    obtain⟨z1,z2,_,z3⟩:=GJ.out _ cr (Gw.out.drew.trans Hr (fun _ _ e=>e))
    replace z3:=z3 1 Hj
    unfold Q3k at z1 z2 z3
    obtain⟨q0,q1,q2,q3,q4,q5⟩:=Qga z1
    exact bodyPost_ret (v:=.tuple #[.agg #[.int .i64 t0,.string ⟨t1.toArray⟩,.int .i64 t2,.int .i64 file,.int .i64 t3,.int .i64 t4],.bool false]) (by simp[results,Tryz.results52,go_sem,q0,q1,q2,q3,q4,q5]) rfl ⟨z2,rfl,z3⟩
 ·have MJ:decide (t0=kind)=false:=decide_eq_false hk
  have mu:=hR.out
  rw[if_neg hk]at mu
  subst mu
  have GI:=hid ((HN.out MJ).alloc (.cells #[.int .i64 t0,.string ⟨t1.toArray⟩,.int .i64 t2,.int .i64 file,.int .i64 t3,.int .i64 t4] 65))
  rw[MJ]
  clear MH hR hk
  go_wp2_with fail
  obtain⟨z1,z2,_,z3⟩:=GJ.out _ iT.out Gw.out
  replace z3:=z3 6 GI.out
  unfold Q3k at z1 z2 z3
  obtain⟨q0,q1,q2,q3,q4,q5⟩:=Qga z1
  exact bodyPost_ret (v:=.tuple #[.agg #[.int .i64 t0,.string ⟨t1.toArray⟩,.int .i64 t2,.int .i64 file,.int .i64 t3,.int .i64 t4],.bool false]) (by simp[results,Tryz.results52,go_sem,q0,q1,q2,q3,q4,q5]) rfl ⟨z2,rfl,z3⟩
theorem Qjf.tokAt{B:Nat}{w:World}{v:Value}{file:Int}{L:List Tok}(h:Qjf B w v file L)(hB:B≤w.heap.size)(ho:LOk L):Qcg (fun x=>x<w.heap.size) w v (L.map tkX):=by
 obtain⟨g,cap,rfl,hg,hc⟩:=h
 refine⟨_,cap,by rw[List.length_map],fun t ht=>?_,fun _=>⟨g,0,rfl,by omega,fun j hj=>?_⟩⟩
 ·obtain⟨u,hu,rfl⟩:=List.mem_map.1 ht
  have:=ho.text u hu
  show(⟨u.text.toArray⟩:ByteArray).size≤maxLen
  simp[ByteArray.size,maxLen];omega
 ·rw[List.length_map]at hj
  have e0:=hc j hj 0 _ rfl
  have e1:=hc j hj 1 _ rfl
  have e2:=hc j hj 2 _ rfl
  rw[List.getElem_map,show 0+j*6=6*j+0 from by omega]
  exact⟨e0,e1,e2⟩
theorem Qyj(L:List (Int × ByteArray × Int))(v:Value)(i:Nat)(w:World)(hv:Qcg (fun x=>x<w.heap.size) w v L)(hL:L.length≤1000000000)(hi:i<L.length) :
 Calls Tryz.prog 150 #[v,.int .i64 i] w fun e w'=>∃res,Rd L .prim 0 i res∧e = .returned (.tuple #[.int .i64 (QSf res).1,.int .i64 (QSf res).2.1,.int .i64 (QSf res).2.2])∧Below w.heap.size w w':=by
 have h:=QMh L v i w hv hL hi
 go_enter Tryz.func150,Tryz.ntmps150
 go_wp2_with fail
 refine h.mono ?_
 rintro e w' ⟨res,hr,he,hb⟩
 generalize hR:QSf res=R at he
 obtain⟨r1,r2,r3⟩:=R
 subst he
 have HR:=hid hr
 have HE:=hid hR
 clear hr hR
 go_wp2_with fail
 go_ret3
 exact⟨res,HR.out,by rw[HE.out];rfl,hb⟩
theorem Qek(L:List Tok)(lv:Value)(B i:Nat)(file:Int)(w:World)(h:Qjf B w lv file L)(hB:B≤w.heap.size)(ho:LOk L)(hi:i<L.length) :
 Calls Tryz.prog 150 #[lv,.int .i64 i] w fun e w'=>e = .returned (.tuple #[.int .i64 (Q8b L i).1,.int .i64 (Q8b L i).2.1,.int .i64 (Q8b L i).2.2])∧Below w.heap.size w w':=by
 refine(Qyj (L.map tkX) lv i w (h.tokAt hB ho) (by rw[List.length_map];have:=ho.len;omega) (by rw[List.length_map];exact hi)).mono ?_
 rintro e w' ⟨res,hr,rfl,hb⟩
 have:QSf res=Q8b L i:=by unfold Q8b;rw[hr.evF trivial]
 rw[this]
 exact⟨rfl,hb⟩
theorem Qtf{L:List Tok}(ho:LOk L){i:Nat}(hi:i<L.length)(h:(Q8b L i).2.2=0):∃j:Nat,(Q8b L i).2.1=j∧i<j∧j<L.length:=by
 unfold Q8b at h ⊢
 have hr:=Q9l (L.map tkX) .prim 0 i trivial
 obtain⟨r,e1,e2⟩:=QXf (L.map tkX) (40*(L.map tkX).length+40) .prim 0 i trivial (by simp only[QKc];omega)
 have hE:evF (L.map tkX) .prim 0 i=r:=by unfold evF;rw[e1];rfl
 rw[hE]at h hr ⊢
 cases r with
 | none=>simp[QSf]at h
 | some q=>
  have Hh:=(e2 q rfl).2 rfl
  obtain⟨ts,t,e,h8⟩:=ho.last
  have hb:q.2.1≤ts.length:=by
   refine QXm hr (k:=ts.length) (t:=tkX t) ?_ h8 ?_
   ·rw[e];simp
   ·rw[e]at hi;simp at hi;omega
  obtain⟨v,j,p,g,d⟩:=q
  simp only[QSf]at h Hh hb ⊢
  refine⟨j,?_,Hh,by rw[e];simp;omega⟩
  cases p <;> cases g <;> cases d <;> simp at h ⊢
theorem QKi:(Tryz.prog.info? 5).map (fun i=>(i.zero,i.size,i.bytes))=some (some (.int .u8 0),1,1):=by kernel_rfl
theorem Qxe{w:World}{base:Nat}{v:Value}{acc:List UInt8}(h:w.ownsRow base 5 1 v acc.length (Lib.byteCells acc)) :
 (convert 76 9 v).run Tryz.prog w = .ok (.string ⟨acc.toArray⟩) w:=by
 rcases h.2 with⟨rfl,h0⟩|⟨g,cap,cur,rfl,hb,hh,hcap,hr⟩
 ·have:acc=[]:=List.eq_nil_of_length_eq_zero h0
  subst this
  exact run_convert_bytes_nil w _ _ Tryz.underlying76 Tryz.underlying5 0 0 _ Tryz.underlying9
 ·refine run_convert_bytes_back w _ _ _ ⟨g,0,none⟩ cap acc Tryz.underlying76 Tryz.underlying5 Tryz.underlying9 ?_
  intro j hj
  exact h.cells (g:=g) rfl j _ (by simp[Lib.byteCells,hj])
def Q0h(p:QRa)(cv:Value):Value:=.agg #[.int .i64 p.kind,cv,.string p.text]
def QLr(v:Value):Prop:=∃(a:Int) (x:Option Addr) (n c:Nat) (s:ByteArray),v = .agg #[.int .i64 a,.slice x n c,.string s]
def Qgf(R:Rs (Nat × QRa))(r base:Nat)(file:Int)(L:List Tok)(lv ov:Value)(i:Nat)(D:List Qwa)(w:World)(e:Ending)(w':World):Prop:=
 Qaa (· = r) w w'∧match R with
  | .ok (j,p)=>∃cv,e = .returned (.tuple #[Q0h p cv,.bool true])∧Qfa w' w.heap.size cv p.cells∧QUa w' r base file L lv ov j D∧i<j
  | .error (k,c)=>∃v,e = .returned (.tuple #[v,.bool false])∧QLr v∧Qob w' r file L lv ov k c
def Qzf(w:World)(B:Nat)(x0 x1 x2:Value):World:=((w.setCell ⟨B,0,none⟩ x0).setCell ⟨B,1,none⟩ x1).setCell ⟨B,2,none⟩ x2
theorem QTa{w:World}{B:Nat}{a b c:Value}{t:TypeId}(h:Qca w B #[a,b,c] t)(x0 x1 x2:Value):Qca (Qzf w B x0 x1 x2) B #[x0,x1,x2] t:=by
 have:=((h.set 0 x0).set 1 x1).set 2 x2
 exact this
theorem Qva{w:World}{a:World}{B:Nat}{S:Nat→Prop}(h:Qaa S a w)(hB:a.heap.size≤B∨S B)(x0 x1 x2:Value):Qaa S a (Qzf w B x0 x1 x2):=
 ((h.setCell (p:=⟨B,0,none⟩) hB x0).setCell (p:=⟨B,1,none⟩) hB x1).setCell (p:=⟨B,2,none⟩) hB x2
theorem QRc{w:World}{b B:Nat}{cs:Array Value}{t:TypeId}(h:Qca w b cs t)(Hn:b≠B)(x0 x1 x2:Value):Qca (Qzf w B x0 x1 x2) b cs t:=
 ((h.other ⟨B,0,none⟩ x0 Hn).other ⟨B,1,none⟩ x1 Hn).other ⟨B,2,none⟩ x2 Hn
theorem three{w:World}{B:Nat}{x0 x1 x2:Value}{t:TypeId}(h:Qca w B #[x0,x1,x2] t) :
 w.cell? ⟨B,0,none⟩=some x0∧w.cell? ⟨B,1,none⟩=some x1∧w.cell? ⟨B,2,none⟩=some x2∧w.frozen? ⟨B,0,none⟩=false∧w.frozen? ⟨B,1,none⟩=false∧w.frozen? ⟨B,2,none⟩=false∧B<w.heap.size:=
 ⟨h.cell 0,h.cell 1,h.cell 2,h.free 0,h.free 1,h.free 2,h.lt⟩
section
variable{w0 w w':World}{r base:Nat}{file:Int}{L:List Tok}{lv ov:Value}{i:Nat}{D:List Qwa}
theorem QUa.from(h:QUa w0 r base file L lv ov i D)(k:Qaa (· = r) w0 w){j:Nat}(hH:Qca w r #[lv,.int .i64 j,ov,.pointer none] 63)(hj:j<L.length)(GV:i≤j):QUa w r base file L lv ov j D:=h.turn k hH hj GV
theorem QUa.step(h:QUa w0 r base file L lv ov i D)(hj:i+1<L.length):QUa (w0.setCell ⟨r,1,none⟩ (.int .i64 ((i:Int)+1))) r base file L lv ov (i+1) D∧Qaa (· = r) w0 (w0.setCell ⟨r,1,none⟩ (.int .i64 ((i:Int)+1))):=by
 have k:=(Qaa.refl (· = r) w0).setCell (p:=⟨r,1,none⟩) (.inr rfl) (.int .i64 ((i:Int)+1))
 have e1:(i:Int)+1=((i+1:Nat):Int):=by omega
 have hH:=h.holds.set 1 (.int .i64 ((i:Int)+1))
 exact⟨h.turn k (by rw[←e1];exact hH) hj (by omega),k⟩
theorem QUa.at1(h:QUa w r base file L lv ov i D):w.cell? ⟨r,1,none⟩=some (.int .i64 i)∧w.frozen? ⟨r,1,none⟩=false∧r<w.heap.size∧i<6001:=⟨h.holds.cell 1,h.holds.free 1,h.holds.lt,by have:=h.ok.len;have:=h.lt;omega⟩
end
theorem QHd{L:List Tok}{i:Nat}{kind:Int}{s:List UInt8}(ho:LOk L)(hi:i<L.length)(h:isK L i kind s=true)(hk:kind≠8):i+1<L.length:=
 ho.next hi (by unfold isK at h;simp only[Bool.and_eq_true,decide_eq_true_eq]at h;rw[h.1];exact hk)
theorem Qob.three{w:World}{r B:Nat}{file:Int}{L:List Tok}{lv ov:Value}{k:Nat}{c:Int}{cs:Array Value}(h:Qob w r file L lv ov k c)(hB:Qca w B cs 75)(x0 x1 x2:Value):Qob (Qzf w B x0 x1 x2) r file L lv ov k c:=
 h.one hB (by decide) (by decide) (Qva (S:=(· = B)) (Qaa.refl _ w) (.inr rfl) x0 x1 x2)
theorem Qui(acc:List UInt8)(v:Int):Lib.byteCells (acc++[(v % 256).toNat.toUInt8])=Lib.byteCells acc++[.int .u8 (v % 256)]:=by
 have:(((v % 256).toNat.toUInt8.toNat:Nat):Int)=v % 256:=by
  show(((UInt8.ofNat (v % 256).toNat).toNat:Nat):Int)=v % 256
  rw[UInt8.toNat_ofNat',Nat.mod_eq_of_lt (by omega)];omega
 unfold Lib.byteCells
 rw[List.map_append]
 congr 1
 show [Value.int .u8 (((v % 256).toNat.toUInt8.toNat:Nat):Int)]=_
 rw[this]
set_option maxRecDepth 100000 in
theorem Qhn(w:World)(r base:Nat)(file:Int)(L:List Tok)(lv ov:Value)(i:Nat)(D:List Qwa)(h:QUa w r base file L lv ov i D) :
 Calls Tryz.prog 148 #[.pointer (some ⟨r,0,none⟩)] w (Qgf (match Q8c L (Qgb L) i []with | .ok (j,b)=>.ok (j,⟨3,[],⟨b.toArray⟩⟩) | .error e=>.error e) r base file L lv ov i D w):=by
 have gR:Below w.heap.size w ((w.alloc (.cells #[.int .i64 0,.slice none 0 0,.string ⟨#[]⟩] 75)).alloc (.cells #[.int .i64 3,.slice none 0 0,.string ⟨#[]⟩] 75)):=((Below.refl _ _).alloc (Nat.le_refl _) _).alloc (by simp) _
 have Ki:=(Qca.new w #[.int .i64 0,.slice none 0 0,.string ⟨#[]⟩] 75).alloc (.cells #[.int .i64 3,.slice none 0 0,.string ⟨#[]⟩] 75)
 have J8:=Qca.newAt (w:=w.alloc (.cells #[.int .i64 0,.slice none 0 0,.string ⟨#[]⟩] 75)) (B:=w.heap.size+1) (by simp) #[.int .i64 3,.slice none 0 0,.string ⟨#[]⟩] 75
 have JM:=h.keeps (Qaa.of_fresh gR (fun _=>False))
 have k0:Qaa (· = r) w _:=Qaa.of_fresh gR (· = r)
 have jW:=h.holds.lt
 have jS:=h.lt
 have Ks:=hid h.ok
 have KN:L.length<i+Qgb L:=by unfold Qgb;omega
 generalize hN:Qgb L=N at *
 generalize He:Q8c L N i []=RR at *
 have KD:=hid He
 have HH:=hid h
 clear hN He h
 go_enter Tryz.func148,Tryz.ntmps148
 go_wp2_with fail
 generalize (w.alloc (.cells #[.int .i64 0,.slice none 0 0,.string ⟨#[]⟩] 75)).alloc (.cells #[.int .i64 3,.slice none 0 0,.string ⟨#[]⟩] 75)=w0 at *
 go_loopg [5] N (fun f x wr=>∃(j:Nat) (acc:List UInt8),Hid (Q8c L f j acc=RR)∧L.length<j+f∧i≤j∧acc.length≤j∧wr.ownsRow (w.heap.size+1+1) 5 1 x acc.length (Lib.byteCells acc)∧QUa wr r base file L lv ov j D∧Qaa (· = r) w wr∧
  Qca wr w.heap.size #[.int .i64 0,.slice none 0 0,.string ⟨#[]⟩] 75∧Qca wr (w.heap.size+1) #[.int .i64 3,.slice none 0 0,.string ⟨#[]⟩] 75)
 case atStart=>exact⟨i,[],KD,KN,Nat.le_refl _,Nat.zero_le _,World.ownsRow_nil _ _ _ _,JM,k0,Ki,J8⟩
 case round=>
  obtain⟨j,acc,hR,qv,GV,cu,Hi,hA,hK,hZ,hP⟩:=hrel
  have mi:=hA.lt
  have Jq:=Ks.out.len
  obtain⟨f,hf⟩:∃f,gk=f+1:=⟨gk-1,by omega⟩
  have hS:=hR.out
  rw[hf,Q8c]at hS
  have G3:=Qdd wr r base file L lv ov j D hA 4 [93]
  go_wp2_with fail
  refine G3.mono ?_
  rintro e w1 ⟨rfl,Hf⟩
  have kb1:Qaa (fun _=>False) wr w1:=Qaa.of_fresh Hf _
  have Gp:=hA.keeps kb1
  have Gl:=hZ.keeps kb1 (fun e=>e)
  have mf:=hP.keeps kb1 (fun e=>e)
  have g9:=hK.trans kb1 (S:=(· = r)) (fun _ _ e=>e.elim)
  have gJ:=Qba Hi kb1 (fun _ _ e=>e)
  have J9:=g9.size
  have xP:=Gl.lt
  have xJ:=mf.lt
  clear G3 hR Hf hA hZ hP hK Hi
  obtain⟨c1,c1f,crl,cj⟩:=Gp.at1
  have Mc:r≠w.heap.size:=by omega
  have JY:r≠w.heap.size+1:=by omega
  cases hk:isK L j 4 [93]with
  | true=>
   rw[hk,if_pos rfl]at hS
   subst hS
   obtain⟨Gq,k2⟩:=Gp.step (QHd Ks.out mi hk (by decide))
   have gK:=Qba gJ k2 (fun g hg e=>by cases e;exact Qua gJ Gp.holds (by decide) hg)
   have JD:=Qxe gK
   have gw:=Gl.keeps k2 (Ne.symm Mc)
   have GR:=mf.keeps k2 (Ne.symm JY)
   have ga:=g9.trans k2 (S:=(· = r)) (fun _ _ e=>e)
   have Gv:=Gq.holds
   have fZ:i≤j+1:=by omega
   have Mq:=hid Gq
   have kp:=Gq.lt
   obtain⟨va,vc,rfl⟩:=Qia gK
   obtain⟨m0,m1,m2,mf0,mf1,mf2,ml⟩:=three GR
   obtain⟨n0,n1,n2,nf0,nf1,nf2,nl⟩:=three gw
   have mq:=hid gw
   have Gw:=hid ga
   clear gJ gK Gp Gq Gl mf g9 k2 kb1 gw GR ga
   go_wp2_with fail
   have z1:=QTa (mq.out.other ⟨w.heap.size+1,2,none⟩ (.string ⟨acc.toArray⟩) (by simp)) (.int .i64 3) (.slice none 0 0) (.string ⟨acc.toArray⟩)
   have z2:=Qva (Gw.out.setCell (p:=⟨w.heap.size+1,2,none⟩) (.inl (by simp)) (.string ⟨acc.toArray⟩)) (B:=w.heap.size) (.inl (Nat.le_refl _)) (.int .i64 3) (.slice none 0 0) (.string ⟨acc.toArray⟩)
   have z3:=HH.out.from z2 (QRc (Gv.other ⟨w.heap.size+1,2,none⟩ (.string ⟨acc.toArray⟩) JY) Mc (.int .i64 3) (.slice none 0 0) (.string ⟨acc.toArray⟩)) kp fZ
   unfold Qzf at z1 z2 z3
   obtain⟨q0,q1,q2,_⟩:=three z1
   exact bodyPost_ret (v:=.tuple #[.agg #[.int .i64 3,.slice none 0 0,.string ⟨acc.toArray⟩],.bool true]) (by simp[results,Tryz.results148,go_sem,q0,q1,q2]) rfl ⟨z2,_,rfl,Qfa.none _ _,z3,by omega⟩
  | false=>
   rw[hk,if_neg (by simp)]at hS
   have ht:=Qii w1 r base file L lv ov j D Gp 2 [] (by decide)
   have Gz:=hid (fun wx hx=>QNc wx r base file L lv ov (j+1) D hx j 2)
   unfold Qbg at ht
   rw[Qnm]at ht
   unfold Qfb at ht Gz
   generalize tkN L j=t at *
   obtain⟨t0,t1,t2,t3,t4⟩:=t
   simp only at ht Gz hS
   go_wp2_with fail
   refine ht.mono ?_
   rintro e w2 ⟨rfl,Hp,JI,oZ⟩
   have gw:=Gl.keeps Hp (Ne.symm Mc)
   have GR:=mf.keeps Hp (Ne.symm JY)
   have ga:=g9.trans Hp (S:=(· = r)) (fun _ _ e=>e)
   have gK:=Qba gJ Hp (fun g hg e=>by cases e;exact Qua gJ Gp.holds (by decide) hg)
   have Mp:=Hp.size
   have HY:=hid JI
   have HN:=hid oZ
   clear ht Hp JI oZ gJ Gl mf g9 Gp c1 c1f kb1
   by_cases h2:t0=2
   ·subst h2
    rw[if_neg (by simp)]at hS
    have Hy:=(HY.out (decide_eq_true rfl)).alloc (.cells #[.int .i64 2,.string ⟨t1.toArray⟩,.int .i64 t2,.int .i64 file,.int .i64 t3,.int .i64 t4] 65)
    have Gd:=gw.alloc (.cells #[.int .i64 2,.string ⟨t1.toArray⟩,.int .i64 t2,.int .i64 file,.int .i64 t3,.int .i64 t4] 65)
    have kC:=GR.alloc (.cells #[.int .i64 2,.string ⟨t1.toArray⟩,.int .i64 t2,.int .i64 file,.int .i64 t3,.int .i64 t4] 65)
    have gc:=ga.alloc (.cells #[.int .i64 2,.string ⟨t1.toArray⟩,.int .i64 t2,.int .i64 file,.int .i64 t3,.int .i64 t4] 65)
    have kc:=Qca.new w2 #[.int .i64 2,.string ⟨t1.toArray⟩,.int .i64 t2,.int .i64 file,.int .i64 t3,.int .i64 t4] 65
    have kt:=World.ownsRow.alloc gK (.cells #[.int .i64 2,.string ⟨t1.toArray⟩,.int .i64 t2,.int .i64 file,.int .i64 t3,.int .i64 t4] 65)
    obtain⟨m0,m1,m2,mf0,mf1,mf2,ml⟩:=three kC
    obtain⟨n0,n1,n2,nf0,nf1,nf2,nl⟩:=three Gd
    obtain⟨y0,y1,y2,y3,y4,y5⟩:=Qga kc
    have yl:=kc.lt
    have k8:=gc.size
    have ed:w.heap.size≠r:=Ne.symm Mc
    have JX:w.heap.size+1≠r:=Ne.symm JY
    have K6:w2.heap.size≠r:=by omega
    by_cases hv:255<t2
    ·rw[if_pos hv]at hS
     subst hS
     have MP:=hid Hy
     have mr:=hid Gd
     have rN:=hid kC
     have ua:=hid kc
     have gh:=hid gc
     rw[decide_eq_true rfl]
     clear gw GR ga gK Hy Gd kC gc kc kt
     go_wp2_with fail
     go_region_with (go_at_call 59;refine(Gz.out _ (by exact MP.out.keeps ((Qaa.refl _ _).drew))).mono ?_;rintro e w4 ⟨rfl,Hj,Hr⟩;have KU:=mr.out.drew.keeps Hr ed;have jO:=rN.out.drew.keeps Hr JX;have mO:=ua.out.drew.keeps Hr K6;obtain⟨a0,a1,a2,af0,af1,af2,al⟩:=three KU;obtain⟨b0,b1,b2,bf0,bf1,bf2,bl⟩:=three jO;obtain⟨d0,d1,d2,d3,d4,d5⟩:=Qga mO)
     all_goals
      go_wp2_with fail
      have z1:=QTa KU (.int .i64 3) (.slice none 0 0) (.string ⟨#[]⟩)
      have z2:=Qva (gh.out.drew.trans Hr (S:=(· = r)) (fun _ _ e=>e)) (B:=w.heap.size) (.inl (Nat.le_refl _)) (.int .i64 3) (.slice none 0 0) (.string ⟨#[]⟩)
      have z3:=Hj.three KU (.int .i64 3) (.slice none 0 0) (.string ⟨#[]⟩)
      unfold Qzf at z1 z2 z3
      obtain⟨q0,q1,q2,_⟩:=three z1
      exact bodyPost_ret (v:=.tuple #[.agg #[.int .i64 3,.slice none 0 0,.string ⟨#[]⟩],.bool false]) (by simp[results,Tryz.results148,go_sem,q0,q1,q2]) rfl ⟨z2,_,rfl,⟨3,none,0,0,⟨#[]⟩,rfl⟩,z3⟩
    ·rw[if_neg hv]at hS
     have hvb:¬(255:Int)<t2:=hv
     have MP:=hid Hy
     have mr:=hid Gd
     have rN:=hid kC
     have gh:=hid gc
     rw[decide_eq_true rfl]
     obtain⟨va,vc,rfl⟩:=Qia kt
     obtain⟨i0,hi,GE,GF,GA⟩:=info_parts QKi
     have gV:w.heap.size+1+1≤(w2.alloc (.cells #[.int .i64 2,.string ⟨t1.toArray⟩,.int .i64 t2,.int .i64 file,.int .i64 t3,.int .i64 t4] 65)).heap.size:=by simp;omega
     have Gm:=hid (World.ownsRow.alloc kt (.cells #[.int .u8 (t2 % 256)] 5))
     have l7:=hid kt
     clear gw GR ga gK Hy Gd kC gc kc kt hv
     go_wp2_with (at_builtin;refine wpList_append_own _ rfl _ _ 76 rfl (w.heap.size+1+1) 5 i0 (.int .u8 0) 1 1 Tryz.underlying76 hi GE GF GA rfl (by decide) _ _ _ rfl (by exact Gm.out) ⟨w2.heap.size+1,0,none⟩ 1 1 [.int .u8 (t2 % 256)] rfl rfl ?c1 ?c2 ?c3 ?c4 ?c5 ?_)
     case c1=>exact Q3a _ _ _ _ (by simp) _ rfl
     case c2=>intro u hu;simp at hu;subst hu;rfl
     case c3=>unfold maxLen;omega
     case c4=>omega
     case c5=>simp;omega
     intro v' w4 Hq Hb _
     have Hr:Qaa (· = r) w w4:=(gh.out.alloc (.cells #[.int .u8 (t2 % 256)] 5)).grown Hb (fun g hg=>by have:=(Qpa Gm.out hg).2.1;left;omega)
     have Mx:=fun(b:Nat) (xs:Array Value) (t:TypeId) (hx:Qca (w2.alloc (.cells #[.int .i64 2,.string ⟨t1.toArray⟩,.int .i64 t2,.int .i64 file,.int .i64 t3,.int .i64 t4] 65)) b xs t) (Hn:t≠5)=>(hx.alloc (.cells #[.int .u8 (t2 % 256)] 5)).grown Hb (Qua l7.out hx Hn)
     have KU:=Mx _ _ _ mr.out (by decide)
     have jO:=Mx _ _ _ rN.out (by decide)
     have mt:=Mx _ _ _ MP.out.holds (by decide)
     have Gn:=HH.out.from Hr mt MP.out.lt (by omega)
     have Gi:w4.ownsRow (w.heap.size+1+1) 5 1 v' (acc++[(t2 % 256).toNat.toUInt8]).length (Lib.byteCells (acc++[(t2 % 256).toNat.toUInt8])):=by
      rw[Qui acc t2,List.length_append]
      exact Hq
     have Mf:=hid Gn
     have jM:=hid KU
     have pY:=hid jO
     have gQ:=hid Hr
     have HS:=hid hS
     have wC:=hid Gi
     obtain⟨va',vc',rfl⟩:=Qia Gi
     clear Hq Hb Mx KU jO mt Gn Hr Gi hS Gm l7 gV
     go_wp2_with fail
     go_roundg (gk-1)
     case measure=>omega
     case rel=>
      refine⟨j+1,_,?_,by omega,by omega,by simp;omega,wC.out,Mf.out,gQ.out,jM.out,pY.out⟩
      rw[hf,Nat.add_sub_cancel]
      exact HS
   ·rw[if_pos h2]at hS
    subst hS
    rw[decide_eq_false h2]
    have HB:=hid ((HN.out (decide_eq_false h2)).alloc (.cells #[.int .i64 t0,.string ⟨t1.toArray⟩,.int .i64 t2,.int .i64 file,.int .i64 t3,.int .i64 t4] 65))
    have Gd:=gw.alloc (.cells #[.int .i64 t0,.string ⟨t1.toArray⟩,.int .i64 t2,.int .i64 file,.int .i64 t3,.int .i64 t4] 65)
    have kC:=GR.alloc (.cells #[.int .i64 t0,.string ⟨t1.toArray⟩,.int .i64 t2,.int .i64 file,.int .i64 t3,.int .i64 t4] 65)
    have gh:=hid (ga.alloc (.cells #[.int .i64 t0,.string ⟨t1.toArray⟩,.int .i64 t2,.int .i64 file,.int .i64 t3,.int .i64 t4] 65))
    obtain⟨m0,m1,m2,mf0,mf1,mf2,ml⟩:=three kC
    obtain⟨n0,n1,n2,nf0,nf1,nf2,nl⟩:=three Gd
    have mr:=hid Gd
    clear gw GR ga gK Gd kC h2
    go_wp2_with fail
    have z1:=QTa mr.out (.int .i64 3) (.slice none 0 0) (.string ⟨#[]⟩)
    have z2:=Qva gh.out (B:=w.heap.size) (.inl (Nat.le_refl _)) (.int .i64 3) (.slice none 0 0) (.string ⟨#[]⟩)
    have z3:=HB.out.three mr.out (.int .i64 3) (.slice none 0 0) (.string ⟨#[]⟩)
    unfold Qzf at z1 z2 z3
    obtain⟨q0,q1,q2,_⟩:=three z1
    exact bodyPost_ret (v:=.tuple #[.agg #[.int .i64 3,.slice none 0 0,.string ⟨#[]⟩],.bool false]) (by simp[results,Tryz.results148,go_sem,q0,q1,q2]) rfl ⟨z2,_,rfl,⟨3,none,0,0,⟨#[]⟩,rfl⟩,z3⟩
theorem QRh:(Tryz.prog.info? 72).map (fun i=>(i.zero,i.size,i.bytes))=some (some (.agg #[.int .i64 0,.string ⟨#[]⟩]),2,24):=by kernel_rfl
theorem Qpc:Qbh 53 Qra:=⟨enters_of Tryz.func53 (by kernel_rfl) rfl,fun s w hs=>Qlk s w (by unfold maxLen;omega)⟩
set_option maxRecDepth 100000 in
theorem Qin(w:World)(r base:Nat)(file:Int)(L:List Tok)(lv ov:Value)(i:Nat)(D:List Qwa)(h:QUa w r base file L lv ov i D) :
 Calls Tryz.prog 147 #[.pointer (some ⟨r,0,none⟩)] w (Qgf (match Q1b L (Qgb L) i []with | .ok (j,b)=>.ok (j,⟨1,b,⟨#[]⟩⟩) | .error e=>.error e) r base file L lv ov i D w):=by
 have gR:Below w.heap.size w ((w.alloc (.cells #[.int .i64 0,.slice none 0 0,.string ⟨#[]⟩] 75)).alloc (.cells #[.int .i64 1,.slice none 0 0,.string ⟨#[]⟩] 75)):=((Below.refl _ _).alloc (Nat.le_refl _) _).alloc (by simp) _
 have Ki:=(Qca.new w #[.int .i64 0,.slice none 0 0,.string ⟨#[]⟩] 75).alloc (.cells #[.int .i64 1,.slice none 0 0,.string ⟨#[]⟩] 75)
 have J8:=Qca.newAt (w:=w.alloc (.cells #[.int .i64 0,.slice none 0 0,.string ⟨#[]⟩] 75)) (B:=w.heap.size+1) (by simp) #[.int .i64 1,.slice none 0 0,.string ⟨#[]⟩] 75
 have JM:=h.keeps (Qaa.of_fresh gR (fun _=>False))
 have k0:Qaa (· = r) w _:=Qaa.of_fresh gR (· = r)
 obtain⟨gL,cL,rfl,_⟩:=id h.toks
 have jW:=h.holds.lt
 have jS:=h.lt
 have bj:=h.size
 have Ks:=hid h.ok
 have KN:L.length<i+Qgb L:=by unfold Qgb;omega
 generalize hN:Qgb L=N at *
 generalize He:Q1b L N i []=RR at *
 have KD:=hid He
 have HH:=hid h
 clear hN He h
 go_enter Tryz.func147,Tryz.ntmps147
 go_wp2_with fail
 generalize (w.alloc (.cells #[.int .i64 0,.slice none 0 0,.string ⟨#[]⟩] 75)).alloc (.cells #[.int .i64 1,.slice none 0 0,.string ⟨#[]⟩] 75)=w0 at *
 go_loopg [] N (fun f wr=>∃(j:Nat) (acc:List QJb) (cv:Value),Hid (Q1b L f j acc=RR)∧L.length<j+f∧i≤j∧acc.length≤j∧Qfa wr (w.heap.size+1+1) cv acc∧QUa wr r base file L (.slice (some ⟨gL,0,none⟩) L.length cL) ov j D∧Qaa (· = r) w wr∧
  Qca wr w.heap.size #[.int .i64 0,.slice none 0 0,.string ⟨#[]⟩] 75∧Qca wr (w.heap.size+1) #[.int .i64 1,cv,.string ⟨#[]⟩] 75)
 case atStart=>exact⟨i,[],.slice none 0 0,KD,KN,Nat.le_refl _,Nat.zero_le _,Qfa.none _ _,JM,k0,Ki,J8⟩
 case round=>
  obtain⟨j,acc,cv,hR,qv,GV,cu,Hi,hA,hK,hZ,hP⟩:=hrel
  obtain⟨va,vc,rfl⟩:=Qia Hi
  have mi:=hA.lt
  have Jq:=Ks.out.len
  obtain⟨f,hf⟩:∃f,gk=f+1:=⟨gk-1,by omega⟩
  have hS:=hR.out
  rw[hf,Q1b]at hS
  have G3:=Qdd wr r base file L (.slice (some ⟨gL,0,none⟩) L.length cL) ov j D hA 4 [62]
  go_wp2_with fail
  refine G3.mono ?_
  rintro e w1 ⟨rfl,Hf⟩
  have kb1:Qaa (fun _=>False) wr w1:=Qaa.of_fresh Hf _
  have Gp:=hA.keeps kb1
  have Gl:=hZ.keeps kb1 (fun e=>e)
  have mf:=hP.keeps kb1 (fun e=>e)
  have g9:=hK.trans kb1 (S:=(· = r)) (fun _ _ e=>e.elim)
  have gJ:=Qba Hi kb1 (fun _ _ e=>e)
  have J9:=g9.size
  have xP:=Gl.lt
  have xJ:=mf.lt
  clear G3 hR Hf hA hZ hP hK Hi
  obtain⟨c1,c1f,crl,cj⟩:=Gp.at1
  have Mc:r≠w.heap.size:=by omega
  have JY:r≠w.heap.size+1:=by omega
  cases hk:isK L j 4 [62]with
  | true=>
   rw[hk,if_pos rfl]at hS
   subst hS
   obtain⟨Gq,k2⟩:=Gp.step (QHd Ks.out mi hk (by decide))
   have gK:=Qba gJ k2 (fun g hg e=>by cases e;exact Qua gJ Gp.holds (by decide) hg)
   have gw:=Gl.keeps k2 (Ne.symm Mc)
   have GR:=mf.keeps k2 (Ne.symm JY)
   have ga:=g9.trans k2 (S:=(· = r)) (fun _ _ e=>e)
   have Gv:=Gq.holds
   have kp:=Gq.lt
   obtain⟨m0,m1,m2,mf0,mf1,mf2,ml⟩:=three GR
   obtain⟨n0,n1,n2,nf0,nf1,nf2,nl⟩:=three gw
   have mq:=hid gw
   have Gw:=hid ga
   have wB:=hid (QMc gK (show w.heap.size≤w.heap.size+1+1 by omega))
   have wE:=hid gK
   clear gJ gK Gp Gq Gl mf g9 k2 kb1 gw GR ga
   go_wp2_with fail
   have z1:=QTa mq.out (.int .i64 1) (.slice va acc.length vc) (.string ⟨#[]⟩)
   have z2:=Qva Gw.out (B:=w.heap.size) (.inl (Nat.le_refl _)) (.int .i64 1) (.slice va acc.length vc) (.string ⟨#[]⟩)
   have z3:=HH.out.from z2 (QRc Gv Mc (.int .i64 1) (.slice va acc.length vc) (.string ⟨#[]⟩)) kp (by omega)
   have z4:=Qba wB.out (Qva (S:=(· = w.heap.size)) (Qaa.refl _ _) (.inr rfl) (.int .i64 1) (.slice va acc.length vc) (.string ⟨#[]⟩)) (fun g hg e=>by have:=(Qpa wE.out hg).2.1;omega)
   unfold Qzf at z4
   unfold Qzf at z1 z2 z3
   obtain⟨q0,q1,q2,_⟩:=three z1
   exact bodyPost_ret (v:=.tuple #[.agg #[.int .i64 1,.slice va acc.length vc,.string ⟨#[]⟩],.bool true]) (by simp[results,Tryz.results147,go_sem,q0,q1,q2]) rfl ⟨z2,_,rfl,z4,z3,by omega⟩
  | false=>
   rw[hk,if_neg (by simp)]at hS
   have gF:=QOc w1 r base file L (.slice (some ⟨gL,0,none⟩) L.length cL) ov j D Gp
   have gA:=hid (fun wx hx=>Q1c wx r base file L (.slice (some ⟨gL,0,none⟩) L.length cL) ov j D hx 6 (by decide) 53 Qra Qpc)
   have J0:Qja L 6 Qra j=if (tkN L j).kind=6 then(if Qra (tkN L j).text=true then .ok (j+1)else .error (j,1))else .error (j,6):=rfl
   have Gz:=hid (fun wx hx c=>QNc wx r base file L (.slice (some ⟨gL,0,none⟩) L.length cL) ov j D hx j c)
   have jy:=hid (fun(wx:World) (hx:QUa wx r base file L (.slice (some ⟨gL,0,none⟩) L.length cL) ov j D)=>Qek L (.slice (some ⟨gL,0,none⟩) L.length cL) base j file wx hx.toks hx.size Ks.out mi)
   have iY:=hid (Qtf Ks.out mi)
   have dx:=Ks.out.next mi
   unfold txN at hS
   unfold Q7c at gA
   unfold Qfb at gF gA Gz
   rw[J0]at gA
   clear J0
   generalize tkN L j=t at *
   obtain⟨t0,t1,t2,t3,t4⟩:=t
   simp only at gF gA Gz hS dx
   go_wp2_with fail
   refine gF.mono ?_
   rintro e w2 ⟨rfl,Ho⟩
   have k2:Qaa (fun _=>False) w1 (w2.alloc (.cells #[.int .i64 t0,.string ⟨t1.toArray⟩,.int .i64 t2,.int .i64 file,.int .i64 t3,.int .i64 t4] 65)):=(Qaa.of_fresh Ho (fun _=>False)).alloc (.cells #[.int .i64 t0,.string ⟨t1.toArray⟩,.int .i64 t2,.int .i64 file,.int .i64 t3,.int .i64 t4] 65)
   have HA:=hid (Gp.keeps k2)
   have HZ:=hid (Gl.keeps k2 (fun e=>e))
   have HP:=hid (mf.keeps k2 (fun e=>e))
   have HK:=hid (g9.trans k2 (S:=(· = r)) (fun _ _ e=>e.elim))
   have HR:=hid (Qba gJ k2 (fun _ _ e=>e))
   have HM:=hid (Qca.new w2 #[.int .i64 t0,.string ⟨t1.toArray⟩,.int .i64 t2,.int .i64 file,.int .i64 t3,.int .i64 t4] 65)
   have HB:=hid (show w.heap.size+1+1≤(w2.alloc (.cells #[.int .i64 t0,.string ⟨t1.toArray⟩,.int .i64 t2,.int .i64 file,.int .i64 t3,.int .i64 t4] 65)).heap.size by have:=k2.size;omega)
   obtain⟨B,hB⟩:∃z,z=w2.heap.size:=⟨_,rfl⟩
   have kn:B≠r:=by have:=Ho.size;omega
   have hBz:w.heap.size+1+1≤B:=by have:=Ho.size;omega
   have ed:w.heap.size≠r:=Ne.symm Mc
   have JX:w.heap.size+1≠r:=Ne.symm JY
   rw[←hB]at HM
   clear gF Ho k2 Gp Gl mf g9 gJ kb1 c1 c1f
   by_cases h6:t0=6
   ·subst h6
    obtain⟨y0,y1,y2,y3,y4,y5⟩:=Qga HM.out
    rw[hB]at y0 y1 y2 y3 y4 y5
    cases hg:Qra t1 with
    | true=>
     rw[hg,if_pos rfl,if_pos rfl]at hS
     go_wp2_with fail
     refine(gA.out _ HA.out).mono ?_
     rintro e w3 ⟨Hd,hm⟩
     simp only[reduceIte,hg]at hm
     obtain⟨rfl,Hy⟩:=hm
     have Gd:=HZ.out.keeps Hd ed
     have kC:=HP.out.keeps Hd JX
     have kc:=HM.out.keeps Hd kn
     have gc:=HK.out.trans Hd (S:=(· = r)) (fun _ _ e=>e)
     have vd:=Qba HR.out Hd (fun g hg e=>by cases e;exact Qua HR.out HA.out.holds (by decide) hg)
     have HZ:=hid (Gd.alloc (.cells #[.int .i64 6,.string ⟨t1.toArray⟩,.int .i64 t2,.int .i64 file,.int .i64 t3,.int .i64 t4] 65))
     have HP:=hid (kC.alloc (.cells #[.int .i64 6,.string ⟨t1.toArray⟩,.int .i64 t2,.int .i64 file,.int .i64 t3,.int .i64 t4] 65))
     have HM:=hid (kc.alloc (.cells #[.int .i64 6,.string ⟨t1.toArray⟩,.int .i64 t2,.int .i64 file,.int .i64 t3,.int .i64 t4] 65))
     have HK:=hid (gc.alloc (.cells #[.int .i64 6,.string ⟨t1.toArray⟩,.int .i64 t2,.int .i64 file,.int .i64 t3,.int .i64 t4] 65))
     have HA:=hid (Hy.alloc (.cells #[.int .i64 6,.string ⟨t1.toArray⟩,.int .i64 t2,.int .i64 file,.int .i64 t3,.int .i64 t4] 65))
     have HR:=hid (World.ownsRow.alloc vd (.cells #[.int .i64 6,.string ⟨t1.toArray⟩,.int .i64 t2,.int .i64 file,.int .i64 t3,.int .i64 t4] 65))
     have HB:=hid (show w.heap.size+1+1≤w3.heap.size+1 by have:=Hd.size;have:=HB.out;omega)
     clear Gd kC kc gc vd Hy Hd gA Gz jy iY y0 y1 y2 y3 y4 y5 hg dx
     obtain⟨y0,y1,y2,y3,y4,y5⟩:=Qga HM.out
     rw[hB]at y0 y1 y2 y3 y4 y5
     have Gm:=hid (World.ownsRow.alloc HR.out (.cells #[.int .i64 0,.string ⟨t1.toArray⟩] 72))
     obtain⟨i0,hi,GE,GF,GA⟩:=info_parts QRh
     have gV:w.heap.size+1+1≤w3.heap.size+1:=HB.out
     have crl:=HA.out.holds.lt
     obtain⟨m0,m1,m2,mf0,mf1,mf2,ml⟩:=three HP.out
     go_wp2_with (at_builtin;refine wpList_append_own _ rfl _ _ 73 rfl (w.heap.size+1+1) 72 i0 _ 2 24 Tryz.underlying73 hi GE GF GA rfl (by decide) _ _ _ rfl (by exact Gm.out) ⟨w3.heap.size+1,0,none⟩ 1 1 [.int .i64 0,.string ⟨t1.toArray⟩] rfl rfl (Q3a _ _ _ _ (by simp) _ rfl) (by intro u hu;simp only[List.mem_cons,List.not_mem_nil,or_false]at hu;rcases hu with rfl|rfl <;> rfl) (by unfold maxLen;omega) (by omega) (by simp;omega) ?_)
     intro v' w9 Hq Hb _
     obtain⟨va',vc',rfl⟩:=Qia Hq
     have G9:Qaa (· = r) w w9:=(HK.out.alloc (.cells #[.int .i64 0,.string ⟨t1.toArray⟩] 72)).grown Hb (fun g hg=>by have:=(Qpa Gm.out hg).2.1;left;omega)
     have Mx:=fun(b:Nat) (xs:Array Value) (t:TypeId) (hx:Qca (w3.alloc (.cells #[.int .i64 6,.string ⟨t1.toArray⟩,.int .i64 t2,.int .i64 file,.int .i64 t3,.int .i64 t4] 65)) b xs t) (Hn:t≠72)=>(hx.alloc (.cells #[.int .i64 0,.string ⟨t1.toArray⟩] 72)).grown Hb (Qua HR.out hx Hn)
     have fI:=Mx _ _ _ HZ.out (by decide)
     have fF:=Mx _ _ _ HP.out (by decide)
     have jN:=Mx _ _ _ HA.out.holds (by decide)
     obtain⟨mm0,mm1,mm2,mg0,mg1,mg2,mgl⟩:=three fF
     have kY:Qfa w9 (w.heap.size+1+1) (.slice va' (acc.length+1) vc') (acc++[⟨0,⟨t1.toArray⟩⟩]):=by
      unfold Qfa
      rw[Qid,List.length_append]
      exact Hq
     have aW:=fF.set 1 (.slice va' (acc.length+1) vc')
     have k10:=(Qaa.refl (· = w.heap.size+1) w9).setCell (p:=⟨w.heap.size+1,1,none⟩) (.inr rfl) (.slice va' (acc.length+1) vc')
     have Mb:=Qba kY k10 (fun g hg e=>by have:=(Qpa kY hg).2.1;omega)
     have bf:=fI.keeps k10 (by omega)
     have kM:=jN.keeps k10 JY
     have GC:=G9.setCell (p:=⟨w.heap.size+1,1,none⟩) (.inl (by simp)) (.slice va' (acc.length+1) vc')
     have Gu:=hid Mb
     have aE:=hid aW
     have MW:=hid bf
     have cD:=hid kM
     have MS:=hid GC
     have HS:=hid hS
     have tB:=kM.cell 1
     have pE:=kM.free 1
     have pG:=kM.lt
     clear Hq Hb Mx fI fF jN G9 kY aW k10 Mb bf kM GC hS Gm m0 m1 m2 mf0 mf1 mf2 ml gV
     go_wp2_with fail
     go_roundg (gk-1)
     case measure=>omega
     case rel=>
      refine⟨j+1,_,_,?_,by omega,by omega,by simp;omega,Gu.out,HH.out.from MS.out cD.out HA.out.lt (by omega),MS.out,MW.out,aE.out⟩
      rw[hf,Nat.add_sub_cancel]
      exact HS
    | false=>
     rw[hg,if_pos rfl,if_neg (by simp)]at hS
     subst hS
     go_wp2_with fail
     refine(gA.out _ HA.out).mono ?_
     rintro e w3 ⟨Hd,hm⟩
     simp only[reduceIte,hg,Bool.false_eq_true]at hm
     obtain⟨rfl,Hj⟩:=hm
     have Gd:=(HZ.out.keeps Hd ed).alloc (.cells #[.int .i64 6,.string ⟨t1.toArray⟩,.int .i64 t2,.int .i64 file,.int .i64 t3,.int .i64 t4] 65)
     have kC:=(HP.out.keeps Hd JX).alloc (.cells #[.int .i64 6,.string ⟨t1.toArray⟩,.int .i64 t2,.int .i64 file,.int .i64 t3,.int .i64 t4] 65)
     have gc:=(HK.out.trans Hd (S:=(· = r)) (fun _ _ e=>e)).alloc (.cells #[.int .i64 6,.string ⟨t1.toArray⟩,.int .i64 t2,.int .i64 file,.int .i64 t3,.int .i64 t4] 65)
     have dR:=Hj.alloc (.cells #[.int .i64 6,.string ⟨t1.toArray⟩,.int .i64 t2,.int .i64 file,.int .i64 t3,.int .i64 t4] 65)
     have HZ:=hid Gd
     have HK:=hid gc
     have KY:=hid dR
     obtain⟨m0,m1,m2,mf0,mf1,mf2,ml⟩:=three kC
     obtain⟨n0,n1,n2,nf0,nf1,nf2,nl⟩:=three Gd
     clear Gd kC gc dR Hj Hd gA Gz jy iY y0 y1 y2 y3 y4 y5 hg dx
     go_wp2_with fail
     have z1:=QTa HZ.out (.int .i64 1) (.slice va acc.length vc) (.string ⟨#[]⟩)
     have z2:=Qva HK.out (B:=w.heap.size) (.inl (Nat.le_refl _)) (.int .i64 1) (.slice va acc.length vc) (.string ⟨#[]⟩)
     have z3:=KY.out.three HZ.out (.int .i64 1) (.slice va acc.length vc) (.string ⟨#[]⟩)
     unfold Qzf at z1 z2 z3
     obtain⟨q0,q1,q2,_⟩:=three z1
     exact bodyPost_ret (v:=.tuple #[.agg #[.int .i64 1,.slice va acc.length vc,.string ⟨#[]⟩],.bool false]) (by simp[results,Tryz.results147,go_sem,q0,q1,q2]) rfl ⟨z2,_,rfl,⟨1,va,acc.length,vc,⟨#[]⟩,rfl⟩,z3⟩
   ·rw[if_neg h6]at hS
    obtain⟨y0,y1,y2,y3,y4,y5⟩:=Qga HM.out
    rw[hB]at y0 y1 y2 y3 y4 y5
    generalize Q8b L j=PX at *
    obtain⟨p1,p2,p3⟩:=PX
    simp only at hS jy iY
    have c0:=HA.out.holds.cell 0
    have c1:=HA.out.holds.cell 1
    have crl:=HA.out.holds.lt
    clear gA dx
    go_wp2_with fail
    go_region_with (go_at_call 150;refine(jy.out _ (by exact HA.out.keeps ((Qaa.refl _ _).drew))).mono ?_;rintro e w3 ⟨rfl,gm⟩)
    all_goals
     have kb3:Qaa (fun _=>False) (w2.alloc (.cells #[.int .i64 t0,.string ⟨t1.toArray⟩,.int .i64 t2,.int .i64 file,.int .i64 t3,.int .i64 t4] 65)) w3:=((Qaa.refl (fun _=>False) (w2.alloc (.cells #[.int .i64 t0,.string ⟨t1.toArray⟩,.int .i64 t2,.int .i64 file,.int .i64 t3,.int .i64 t4] 65))).drew).trans (Qaa.of_fresh gm (fun _=>False)) (fun _ _ e=>e)
     have uK:=HA.out.keeps kb3
     have HB:=hid (show w.heap.size+1+1≤w3.heap.size from Nat.le_trans HB.out kb3.size)
     have HZ:=hid (HZ.out.keeps kb3 (fun e=>e))
     have HP:=hid (HP.out.keeps kb3 (fun e=>e))
     have HM:=hid (HM.out.keeps kb3 (fun e=>e))
     have HK:=hid (HK.out.trans kb3 (S:=(· = r)) (fun _ _ e=>e.elim))
     have HR:=hid (Qba HR.out kb3 (fun _ _ e=>e))
     have HA:=hid uK
     clear gm kb3 uK c0 c1 y0 y1 y2 y3 y4 y5 crl
     have crl:=HA.out.holds.lt
     by_cases h0:p3=0
     ·subst h0
      rw[if_neg (by simp)]at hS
      obtain⟨k,rfl,oM,xY⟩:=iY.out rfl
      simp only[Int.toNat_natCast]at hS
      have Gm:=hid (World.ownsRow.alloc HR.out (.cells #[.int .i64 p1,.string ⟨#[]⟩] 72))
      obtain⟨i0,hi,GE,GF,GA⟩:=info_parts QRh
      have gV:w.heap.size+1+1≤w3.heap.size:=HB.out
      have crl:=HA.out.holds.lt
      obtain⟨m0,m1,m2,mf0,mf1,mf2,ml⟩:=three HP.out
      go_wp2_with (at_builtin;refine wpList_append_own _ rfl _ _ 73 rfl (w.heap.size+1+1) 72 i0 _ 2 24 Tryz.underlying73 hi GE GF GA rfl (by decide) _ _ _ rfl (by exact Gm.out) ⟨w3.heap.size,0,none⟩ 1 1 [.int .i64 p1,.string ⟨#[]⟩] rfl rfl (Q3a _ _ _ _ (by simp) _ rfl) (by intro u hu;simp only[List.mem_cons,List.not_mem_nil,or_false]at hu;rcases hu with rfl|rfl <;> rfl) (by unfold maxLen;omega) (by omega) (by simp;omega) ?_)
      intro v' w9 Hq Hb _
      obtain⟨va',vc',rfl⟩:=Qia Hq
      have G9:Qaa (· = r) w w9:=(HK.out.alloc (.cells #[.int .i64 p1,.string ⟨#[]⟩] 72)).grown Hb (fun g hg=>by have:=(Qpa Gm.out hg).2.1;left;omega)
      have Mx:=fun(b:Nat) (xs:Array Value) (t:TypeId) (hx:Qca w3 b xs t) (Hn:t≠72)=>(hx.alloc (.cells #[.int .i64 p1,.string ⟨#[]⟩] 72)).grown Hb (Qua HR.out hx Hn)
      have fI:=Mx _ _ _ HZ.out (by decide)
      have fF:=Mx _ _ _ HP.out (by decide)
      have jN:=Mx _ _ _ HA.out.holds (by decide)
      obtain⟨mm0,mm1,mm2,mg0,mg1,mg2,mgl⟩:=three fF
      have kY:Qfa w9 (w.heap.size+1+1) (.slice va' (acc.length+1) vc') (acc++[⟨p1,⟨#[]⟩⟩]):=by
       unfold Qfa
       rw[Qid,List.length_append]
       exact Hq
      have aW:=fF.set 1 (.slice va' (acc.length+1) vc')
      have k10:=(Qaa.refl (· = w.heap.size+1) w9).setCell (p:=⟨w.heap.size+1,1,none⟩) (.inr rfl) (.slice va' (acc.length+1) vc')
      have Mb:=Qba kY k10 (fun g hg e=>by have:=(Qpa kY hg).2.1;omega)
      have bf:=fI.keeps k10 (by omega)
      have kM:=jN.keeps k10 JY
      have GC:=G9.setCell (p:=⟨w.heap.size+1,1,none⟩) (.inl (by simp)) (.slice va' (acc.length+1) vc')
      have Gu:=hid Mb
      have aE:=hid aW
      have MW:=hid bf
      have cD:=hid kM
      have MS:=hid GC
      have HS:=hid hS
      have tB:=kM.cell 1
      have pE:=kM.free 1
      have pG:=kM.lt
      clear Hq Hb Mx fI fF jN G9 kY aW k10 Mb bf kM GC hS Gm m0 m1 m2 mf0 mf1 mf2 ml gV
      go_wp2_with fail
      have kf:=(Qaa.refl (· = r) (w9.setCell ⟨w.heap.size+1,1,none⟩ (.slice va' (acc.length+1) vc'))).setCell (p:=⟨r,1,none⟩) (.inr rfl) (.int .i64 (k:Int))
      have iA:=Qba Gu.out kf (fun g hg e=>by cases e;exact Qua Gu.out cD.out (by decide) hg)
      have sF:=cD.out.set 1 (.int .i64 (k:Int))
      have nM:=MS.out.trans kf (S:=(· = r)) (fun _ _ e=>e)
      have Jj:=MW.out.keeps kf ed
      have Ji:=aE.out.keeps kf JX
      have sA:=HH.out.from nM sF xY (by omega)
      go_roundg (gk-1)
      case measure=>omega
      case rel=>
       refine⟨k,_,_,?_,by omega,by omega,by simp;omega,iA,sA,nM,Jj,Ji⟩
       rw[hf,Nat.add_sub_cancel]
       exact HS
     ·rw[if_pos h0]at hS
      subst hS
      have h0b:(p3 != 0)=true:=by simpa using h0
      have h0n:¬p3=0:=h0
      clear h0
      obtain⟨y0,y1,y2,y3,y4,y5⟩:=Qga HM.out
      rw[hB]at y0 y1 y2 y3 y4 y5
      obtain⟨m0,m1,m2,mf0,mf1,mf2,ml⟩:=three HP.out
      have rn:=hid (fun wx hx=>Gz.out wx hx p3)
      go_wp2_with fail
      go_region_with (go_at_call 59;refine(rn.out _ (by exact HA.out.keeps ((Qaa.refl _ _).drew))).mono ?_;rintro e w4 ⟨rfl,Hj,Hr⟩;have KU:=HZ.out.drew.keeps Hr ed;have jO:=HP.out.drew.keeps Hr JX;have mO:=HM.out.drew.keeps Hr kn;obtain⟨a0,a1,a2,af0,af1,af2,al⟩:=three KU;obtain⟨b0,b1,b2,bf0,bf1,bf2,bl⟩:=three jO;obtain⟨d0,d1,d2,d3,d4,d5⟩:=Qga mO;rw[hB]at d0 d1 d2 d3 d4 d5)
      all_goals
       go_wp2_with fail
       have z1:=QTa KU (.int .i64 1) (.slice va acc.length vc) (.string ⟨#[]⟩)
       have z2:=Qva (HK.out.drew.trans Hr (S:=(· = r)) (fun _ _ e=>e)) (B:=w.heap.size) (.inl (Nat.le_refl _)) (.int .i64 1) (.slice va acc.length vc) (.string ⟨#[]⟩)
       have z3:=Hj.three KU (.int .i64 1) (.slice va acc.length vc) (.string ⟨#[]⟩)
       unfold Qzf at z1 z2 z3
       obtain⟨q0,q1,q2,_⟩:=three z1
       exact bodyPost_ret (v:=.tuple #[.agg #[.int .i64 1,.slice va acc.length vc,.string ⟨#[]⟩],.bool false]) (by simp[results,Tryz.results147,go_sem,q0,q1,q2]) rfl ⟨z2,_,rfl,⟨1,va,acc.length,vc,⟨#[]⟩,rfl⟩,z3⟩
set_option maxRecDepth 100000 in
theorem QDo(w:World)(r base:Nat)(file:Int)(L:List Tok)(lv ov:Value)(i:Nat)(D:List Qwa)(h:QUa w r base file L lv ov i D) :
 Calls Tryz.prog 141 #[.pointer (some ⟨r,0,none⟩)] w (Qgf (Qsb L i) r base file L lv ov i D w):=by
 have gR:Below w.heap.size w (w.alloc (.cells #[.int .i64 0,.slice none 0 0,.string ⟨#[]⟩] 75)):=(Below.refl _ _).alloc (Nat.le_refl _) _
 have Ki:=Qca.new w #[.int .i64 0,.slice none 0 0,.string ⟨#[]⟩] 75
 obtain⟨gL,cL,rfl,_⟩:=id h.toks
 have gF:=QOc _ r base file L (.slice (some ⟨gL,0,none⟩) L.length cL) ov i D (h.keeps (Qaa.of_fresh gR (fun _=>False)))
 have jW:=h.holds.lt
 have jS:=h.lt
 have bj:=h.size
 have Ks:=hid h.ok
 have o9:=Ks.out.next jS
 have HH:=hid h
 have gA:=hid (fun wx hx=>Q1c wx r base file L (.slice (some ⟨gL,0,none⟩) L.length cL) ov i D hx 6 (by decide) 53 Qra Qpc)
 have J0:Qja L 6 Qra i=if (tkN L i).kind=6 then(if Qra (tkN L i).text=true then .ok (i+1)else .error (i,1))else .error (i,6):=rfl
 have Gz:=hid (fun wx hx=>QNc wx r base file L (.slice (some ⟨gL,0,none⟩) L.length cL) ov i D hx i 6)
 have He:∃R,Qsb L i=R:=⟨_,rfl⟩
 obtain⟨RR,He⟩:=He
 rw[He]
 unfold Qsb txN at He
 unfold Q7c at gA
 unfold Qfb at gF gA Gz
 rw[J0]at gA
 clear J0 h
 generalize tkN L i=t at *
 obtain⟨t0,t1,t2,t3,t4⟩:=t
 simp only at gF gA Gz He o9
 go_enter Tryz.func141,Tryz.ntmps141
 go_wp2_with fail
 refine gF.mono ?_
 rintro e w1 ⟨rfl,Hf⟩
 have k1:Qaa (fun _=>False) w w1:=(Qaa.of_fresh gR (fun _=>False)).trans (Qaa.of_fresh Hf (fun _=>False)) (fun _ _ e=>e)
 have Gp:=HH.out.keeps k1
 have Gl:=Ki.keeps (Qaa.of_fresh Hf (fun _=>False)) (fun e=>e)
 have Mc:r≠w.heap.size:=by omega
 have Gq:=Gp.alloc (.cells #[.int .i64 t0,.string ⟨t1.toArray⟩,.int .i64 t2,.int .i64 file,.int .i64 t3,.int .i64 t4] 65)
 have gw:=Gl.alloc (.cells #[.int .i64 t0,.string ⟨t1.toArray⟩,.int .i64 t2,.int .i64 file,.int .i64 t3,.int .i64 t4] 65)
 have ga:=(k1.mono (S:=(· = r)) (fun _ _ e=>e.elim)).alloc (.cells #[.int .i64 t0,.string ⟨t1.toArray⟩,.int .i64 t2,.int .i64 file,.int .i64 t3,.int .i64 t4] 65)
 have G1:=Qca.new w1 #[.int .i64 t0,.string ⟨t1.toArray⟩,.int .i64 t2,.int .i64 file,.int .i64 t3,.int .i64 t4] 65
 have iL:=Gl.lt
 have K6:w1.heap.size≠r:=by have:=Gp.holds.lt;omega
 obtain⟨y0,y1,y2,y3,y4,y5⟩:=Qga G1
 clear gF gR Ki Hf k1 Gp Gl
 by_cases h3:t0=3
 ·subst h3
  rw[if_pos rfl]at He
  subst He
  have Hh:=o9 (by decide)
  obtain⟨Hy,k3⟩:=Gq.step Hh
  have kc:=G1.keeps k3 K6
  have Gd:=gw.keeps k3 (Ne.symm Mc)
  have gc:=ga.trans k3 (S:=(· = r)) (fun _ _ e=>e)
  obtain⟨c1,c1f,crl,_⟩:=Gq.at1
  obtain⟨x0,x1,x2,x3,x4,x5⟩:=Qga kc
  obtain⟨n0,n1,n2,nf0,nf1,nf2,nl⟩:=three Gd
  have mr:=hid Gd
  have gh:=hid gc
  have kN:=Hy.holds
  clear Gq gw ga G1 kc Gd gc k3 Hy
  go_wp2_with fail
  have z1:=QTa mr.out (.int .i64 2) (.slice none 0 0) (.string ⟨t1.toArray⟩)
  have z2:=Qva gh.out (B:=w.heap.size) (.inl (Nat.le_refl _)) (.int .i64 2) (.slice none 0 0) (.string ⟨t1.toArray⟩)
  have z3:=HH.out.from z2 (QRc kN Mc (.int .i64 2) (.slice none 0 0) (.string ⟨t1.toArray⟩)) Hh (by omega)
  unfold Qzf at z1 z2 z3
  obtain⟨q0,q1,q2,_⟩:=three z1
  exact bodyPost_ret (v:=.tuple #[.agg #[.int .i64 2,.slice none 0 0,.string ⟨t1.toArray⟩],.bool true]) (by simp[results,Tryz.results141,go_sem,q0,q1,q2]) rfl ⟨z2,_,rfl,Qfa.none _ _,z3,by omega⟩
 ·rw[if_neg h3]at He
  by_cases h6:t0=6
  ·subst h6
   rw[if_pos rfl]at He
   cases hg:Qra t1 with
   | true=>
    rw[hg,if_pos rfl]at He
    subst He
    go_wp2_with fail
    refine(gA.out _ Gq).mono ?_
    rintro e w3 ⟨Hd,hm⟩
    simp only[reduceIte,hg]at hm
    obtain⟨rfl,Hy⟩:=hm
    have kc:=(G1.keeps Hd K6).alloc (.cells #[.int .i64 6,.string ⟨t1.toArray⟩,.int .i64 t2,.int .i64 file,.int .i64 t3,.int .i64 t4] 65)
    have Gd:=(gw.keeps Hd (Ne.symm Mc)).alloc (.cells #[.int .i64 6,.string ⟨t1.toArray⟩,.int .i64 t2,.int .i64 file,.int .i64 t3,.int .i64 t4] 65)
    have gc:=(ga.trans Hd (S:=(· = r)) (fun _ _ e=>e)).alloc (.cells #[.int .i64 6,.string ⟨t1.toArray⟩,.int .i64 t2,.int .i64 file,.int .i64 t3,.int .i64 t4] 65)
    have Gn:=Hy.alloc (.cells #[.int .i64 6,.string ⟨t1.toArray⟩,.int .i64 t2,.int .i64 file,.int .i64 t3,.int .i64 t4] 65)
    have Mf:=hid Gn
    obtain⟨x0,x1,x2,x3,x4,x5⟩:=Qga kc
    obtain⟨n0,n1,n2,nf0,nf1,nf2,nl⟩:=three Gd
    have mr:=hid Gd
    have gh:=hid gc
    clear Gq gw ga G1 kc Gd gc Hd Hy Gn y0 y1 y2 y3 y4 y5
    go_wp2_with fail
    have z1:=QTa mr.out (.int .i64 4) (.slice none 0 0) (.string ⟨t1.toArray⟩)
    have z2:=Qva gh.out (B:=w.heap.size) (.inl (Nat.le_refl _)) (.int .i64 4) (.slice none 0 0) (.string ⟨t1.toArray⟩)
    have z3:=HH.out.from z2 (QRc Mf.out.holds Mc (.int .i64 4) (.slice none 0 0) (.string ⟨t1.toArray⟩)) Mf.out.lt (by omega)
    unfold Qzf at z1 z2 z3
    obtain⟨q0,q1,q2,_⟩:=three z1
    exact bodyPost_ret (v:=.tuple #[.agg #[.int .i64 4,.slice none 0 0,.string ⟨t1.toArray⟩],.bool true]) (by simp[results,Tryz.results141,go_sem,q0,q1,q2]) rfl ⟨z2,_,rfl,Qfa.none _ _,z3,by omega⟩
   | false=>
    rw[hg,if_neg (by simp)]at He
    subst He
    go_wp2_with fail
    refine(gA.out _ Gq).mono ?_
    rintro e w3 ⟨Hd,hm⟩
    simp only[reduceIte,hg,Bool.false_eq_true]at hm
    obtain⟨rfl,Hy⟩:=hm
    have kc:=(G1.keeps Hd K6).alloc (.cells #[.int .i64 6,.string ⟨t1.toArray⟩,.int .i64 t2,.int .i64 file,.int .i64 t3,.int .i64 t4] 65)
    have Gd:=(gw.keeps Hd (Ne.symm Mc)).alloc (.cells #[.int .i64 6,.string ⟨t1.toArray⟩,.int .i64 t2,.int .i64 file,.int .i64 t3,.int .i64 t4] 65)
    have gc:=(ga.trans Hd (S:=(· = r)) (fun _ _ e=>e)).alloc (.cells #[.int .i64 6,.string ⟨t1.toArray⟩,.int .i64 t2,.int .i64 file,.int .i64 t3,.int .i64 t4] 65)
    have Gn:=Hy.alloc (.cells #[.int .i64 6,.string ⟨t1.toArray⟩,.int .i64 t2,.int .i64 file,.int .i64 t3,.int .i64 t4] 65)
    have Mf:=hid Gn
    obtain⟨x0,x1,x2,x3,x4,x5⟩:=Qga kc
    obtain⟨n0,n1,n2,nf0,nf1,nf2,nl⟩:=three Gd
    have mr:=hid Gd
    have gh:=hid gc
    clear Gq gw ga G1 kc Gd gc Hd Hy Gn y0 y1 y2 y3 y4 y5
    go_wp2_with fail
    have z1:=QTa mr.out (.int .i64 4) (.slice none 0 0) (.string ⟨t1.toArray⟩)
    have z2:=Qva gh.out (B:=w.heap.size) (.inl (Nat.le_refl _)) (.int .i64 4) (.slice none 0 0) (.string ⟨t1.toArray⟩)
    have z3:=Mf.out.three mr.out (.int .i64 4) (.slice none 0 0) (.string ⟨t1.toArray⟩)
    unfold Qzf at z1 z2 z3
    obtain⟨q0,q1,q2,_⟩:=three z1
    exact bodyPost_ret (v:=.tuple #[.agg #[.int .i64 4,.slice none 0 0,.string ⟨t1.toArray⟩],.bool false]) (by simp[results,Tryz.results141,go_sem,q0,q1,q2]) rfl ⟨z2,_,rfl,⟨4,none,0,0,⟨t1.toArray⟩,rfl⟩,z3⟩
  ·rw[if_neg h6]at He
   have G3:=Qdd _ r base file L (.slice (some ⟨gL,0,none⟩) L.length cL) ov i D Gq 4 [60]
   go_wp2_with fail
   refine(by exact G3:Calls _ _ _ _ _).mono ?_
   rintro e w2 ⟨rfl,Ho⟩
   have kb2:Qaa (fun _=>False) _ w2:=Qaa.of_fresh Ho _
   have Hy:=Gq.keeps kb2
   have Gd:=gw.keeps kb2 (fun e=>e)
   have gc:=ga.trans kb2 (S:=(· = r)) (fun _ _ e=>e.elim)
   have kc:=G1.keeps kb2 (fun e=>e)
   clear G3 Ho kb2 Gq gw ga G1 y0 y1 y2 y3 y4 y5
   cases hk:isK L i 4 [60]with
   | true=>
    rw[hk,if_pos rfl]at He
    obtain⟨Gn,k4⟩:=Hy.step (QHd Ks.out jS hk (by decide))
    have gf:=Qin _ r base file L (.slice (some ⟨gL,0,none⟩) L.length cL) ov (i+1) D Gn
    unfold Qgf at gf
    have gD:=gc.trans k4 (S:=(· = r)) (fun _ _ e=>e)
    have KU:=Gd.keeps k4 (Ne.symm Mc)
    obtain⟨c1,c1f,crl,_⟩:=Hy.at1
    have jd:=gD.size
    have jM:=hid KU
    have gQ:=hid gD
    clear gc Gd Hy Gn k4 KU gD
    generalize Q1b L (Qgb L) (i+1) []=R at *
    cases R with
    | ok q=>
     obtain⟨j,q⟩:=q
     simp only at He gf
     subst He
     go_wp2_with fail
     refine(by exact gf:Calls _ _ _ _ _).mono ?_
     rintro e w5 ⟨Hs,cv,rfl,Hc,kB,qC⟩
     unfold Q0h
     have KV:=jM.out.keeps Hs (Ne.symm Mc)
     have GL:=gQ.out.trans Hs (S:=(· = r)) (fun _ _ e=>e)
     have Kp:Qfa w5 w.heap.size cv (q):=Hc.lower jd
     have i9:=kB.holds
     have jG:=kB.lt
     obtain⟨va,vc,rfl⟩:=Kp.slice
     obtain⟨n0,n1,n2,nf0,nf1,nf2,nl⟩:=three KV
     have Ja:=hid Kp
     have mE:=hid KV
     have kb:=hid GL
     clear gf Hc Kp kB Hs KV GL
     go_wp2_with fail
     have z1:=QTa mE.out (.int .i64 1) (.slice va q.length vc) (.string ⟨#[]⟩)
     have z2:=Qva kb.out (B:=w.heap.size) (.inl (Nat.le_refl _)) (.int .i64 1) (.slice va q.length vc) (.string ⟨#[]⟩)
     have z3:=HH.out.from z2 (QRc i9 Mc (.int .i64 1) (.slice va q.length vc) (.string ⟨#[]⟩)) jG (by omega)
     have z4:=Qba Ja.out (Qva (S:=(· = w.heap.size)) (Qaa.refl _ _) (.inr rfl) (.int .i64 1) (.slice va q.length vc) (.string ⟨#[]⟩)) (fun g hg e=>by cases e;exact Qua Ja.out mE.out (by decide) hg)
     unfold Qzf at z4
     unfold Qzf at z1 z2 z3
     obtain⟨q0,q1,q2,_⟩:=three z1
     exact bodyPost_ret (v:=.tuple #[.agg #[.int .i64 1,.slice va q.length vc,.string ⟨#[]⟩],.bool true]) (by simp[results,Tryz.results141,go_sem,q0,q1,q2]) rfl ⟨z2,_,rfl,z4,z3,by omega⟩
    | error q=>
     obtain⟨k,c⟩:=q
     simp only at He gf
     subst He
     go_wp2_with fail
     refine(by exact gf:Calls _ _ _ _ _).mono ?_
     rintro e w5 ⟨Hs,v,rfl,⟨ea,ex,en,ec,es,rfl⟩,Hj⟩
     have KV:=jM.out.keeps Hs (Ne.symm Mc)
     have GL:=gQ.out.trans Hs (S:=(· = r)) (fun _ _ e=>e)
     obtain⟨n0,n1,n2,nf0,nf1,nf2,nl⟩:=three KV
     have mE:=hid KV
     have kb:=hid GL
     have KY:=hid Hj
     clear gf Hs KV GL Hj
     go_wp2_with fail
     have z1:=QTa mE.out (.int .i64 ea) (.slice ex en ec) (.string es)
     have z2:=Qva kb.out (B:=w.heap.size) (.inl (Nat.le_refl _)) (.int .i64 ea) (.slice ex en ec) (.string es)
     have z3:=KY.out.three mE.out (.int .i64 ea) (.slice ex en ec) (.string es)
     unfold Qzf at z1 z2 z3
     obtain⟨q0,q1,q2,_⟩:=three z1
     exact bodyPost_ret (v:=.tuple #[.agg #[.int .i64 ea,.slice ex en ec,.string es],.bool false]) (by simp[results,Tryz.results141,go_sem,q0,q1,q2]) rfl ⟨z2,_,rfl,⟨ea,ex,en,ec,es,rfl⟩,z3⟩
   | false=>
    rw[hk,if_neg (by simp)]at He
    have Kc:=Qdd _ r base file L (.slice (some ⟨gL,0,none⟩) L.length cL) ov i D Hy 4 [91]
    go_wp2_with fail
    refine(by exact Kc:Calls _ _ _ _ _).mono ?_
    rintro e w3 ⟨rfl,gm⟩
    have kb3:Qaa (fun _=>False) _ w3:=Qaa.of_fresh gm _
    have Hy:=Hy.keeps kb3
    have Gd:=Gd.keeps kb3 (fun e=>e)
    have gc:=gc.trans kb3 (S:=(· = r)) (fun _ _ e=>e.elim)
    have kc:=kc.keeps kb3 (fun e=>e)
    clear Kc gm kb3 hk
    cases hk:isK L i 4 [91]with
    | true=>
     rw[hk,if_pos rfl]at He
     obtain⟨Gn,k4⟩:=Hy.step (QHd Ks.out jS hk (by decide))
     have gf:=Qhn _ r base file L (.slice (some ⟨gL,0,none⟩) L.length cL) ov (i+1) D Gn
     unfold Qgf at gf
     have gD:=gc.trans k4 (S:=(· = r)) (fun _ _ e=>e)
     have KU:=Gd.keeps k4 (Ne.symm Mc)
     obtain⟨c1,c1f,crl,_⟩:=Hy.at1
     have jd:=gD.size
     have jM:=hid KU
     have gQ:=hid gD
     clear gc Gd Hy Gn k4 KU gD
     generalize Q8c L (Qgb L) (i+1) []=R at *
     cases R with
     | ok q=>
      obtain⟨j,q⟩:=q
      simp only at He gf
      subst He
      go_wp2_with fail
      refine(by exact gf:Calls _ _ _ _ _).mono ?_
      rintro e w5 ⟨Hs,cv,rfl,Hc,kB,qC⟩
      unfold Q0h
      have KV:=jM.out.keeps Hs (Ne.symm Mc)
      have GL:=gQ.out.trans Hs (S:=(· = r)) (fun _ _ e=>e)
      have Kp:Qfa w5 w.heap.size cv ([]):=Hc.lower jd
      have i9:=kB.holds
      have jG:=kB.lt
      obtain⟨va,vc,rfl⟩:=Kp.slice
      obtain⟨n0,n1,n2,nf0,nf1,nf2,nl⟩:=three KV
      have Ja:=hid Kp
      have mE:=hid KV
      have kb:=hid GL
      clear gf Hc Kp kB Hs KV GL
      go_wp2_with fail
      have z1:=QTa mE.out (.int .i64 3) (.slice va 0 vc) (.string ⟨q.toArray⟩)
      have z2:=Qva kb.out (B:=w.heap.size) (.inl (Nat.le_refl _)) (.int .i64 3) (.slice va 0 vc) (.string ⟨q.toArray⟩)
      have z3:=HH.out.from z2 (QRc i9 Mc (.int .i64 3) (.slice va 0 vc) (.string ⟨q.toArray⟩)) jG (by omega)
      have z4:=Qba Ja.out (Qva (S:=(· = w.heap.size)) (Qaa.refl _ _) (.inr rfl) (.int .i64 3) (.slice va 0 vc) (.string ⟨q.toArray⟩)) (fun g hg e=>by cases e;exact Qua Ja.out mE.out (by decide) hg)
      unfold Qzf at z4
      unfold Qzf at z1 z2 z3
      obtain⟨q0,q1,q2,_⟩:=three z1
      exact bodyPost_ret (v:=.tuple #[.agg #[.int .i64 3,.slice va 0 vc,.string ⟨q.toArray⟩],.bool true]) (by simp[results,Tryz.results141,go_sem,q0,q1,q2]) rfl ⟨z2,_,rfl,z4,z3,by omega⟩
     | error q=>
      obtain⟨k,c⟩:=q
      simp only at He gf
      subst He
      go_wp2_with fail
      refine(by exact gf:Calls _ _ _ _ _).mono ?_
      rintro e w5 ⟨Hs,v,rfl,⟨ea,ex,en,ec,es,rfl⟩,Hj⟩
      have KV:=jM.out.keeps Hs (Ne.symm Mc)
      have GL:=gQ.out.trans Hs (S:=(· = r)) (fun _ _ e=>e)
      obtain⟨n0,n1,n2,nf0,nf1,nf2,nl⟩:=three KV
      have mE:=hid KV
      have kb:=hid GL
      have KY:=hid Hj
      clear gf Hs KV GL Hj
      go_wp2_with fail
      have z1:=QTa mE.out (.int .i64 ea) (.slice ex en ec) (.string es)
      have z2:=Qva kb.out (B:=w.heap.size) (.inl (Nat.le_refl _)) (.int .i64 ea) (.slice ex en ec) (.string es)
      have z3:=KY.out.three mE.out (.int .i64 ea) (.slice ex en ec) (.string es)
      unfold Qzf at z1 z2 z3
      obtain⟨q0,q1,q2,_⟩:=three z1
      exact bodyPost_ret (v:=.tuple #[.agg #[.int .i64 ea,.slice ex en ec,.string es],.bool false]) (by simp[results,Tryz.results141,go_sem,q0,q1,q2]) rfl ⟨z2,_,rfl,⟨ea,ex,en,ec,es,rfl⟩,z3⟩
    | false=>
     rw[hk,if_neg (by simp)]at He
     subst He
     obtain⟨x0,x1,x2,x3,x4,x5⟩:=Qga kc
     have hf:=Gz.out _ Hy
     have ua:=hid kc
     have mr:=hid Gd
     have gh:=hid gc
     clear kc Gd gc Hy
     go_wp2_with fail
     refine(by exact hf:Calls _ _ _ _ _).mono ?_
     rintro e w4 ⟨rfl,Hj,Hr⟩
     have KU:=mr.out.keeps Hr (Ne.symm Mc)
     have gD:=gh.out.trans Hr (S:=(· = r)) (fun _ _ e=>e)
     obtain⟨n0,n1,n2,nf0,nf1,nf2,nl⟩:=three KU
     have jM:=hid KU
     have gQ:=hid gD
     have KY:=hid Hj
     clear hf Hr KU gD Hj
     go_wp2_with fail
     have z1:=QTa jM.out (.int .i64 0) (.slice none 0 0) (.string ⟨#[]⟩)
     have z2:=Qva gQ.out (B:=w.heap.size) (.inl (Nat.le_refl _)) (.int .i64 0) (.slice none 0 0) (.string ⟨#[]⟩)
     have z3:=KY.out.three jM.out (.int .i64 0) (.slice none 0 0) (.string ⟨#[]⟩)
     unfold Qzf at z1 z2 z3
     obtain⟨q0,q1,q2,_⟩:=three z1
     exact bodyPost_ret (v:=.tuple #[.agg #[.int .i64 0,.slice none 0 0,.string ⟨#[]⟩],.bool false]) (by simp[results,Tryz.results141,go_sem,q0,q1,q2]) rfl ⟨z2,_,rfl,⟨0,none,0,0,⟨#[]⟩,rfl⟩,z3⟩
def Qac(R:Rs (Nat × List Qwa))(r base:Nat)(file:Int)(L:List Tok)(lv:Value)(i:Nat)(D:List Qwa)(w:World)(e:Ending)(w':World):Prop:=
 Below base w w'∧match R with
  | .ok (j,ds)=>e = .returned (.bool true)∧∃ov',QUa w' r base file L lv ov' j (D++ds)∧i<j
  | .error (k,c)=>e = .returned (.bool false)∧∃ov',Qob w' r file L lv ov' k c
section
variable{w w':World}{r base:Nat}{file:Int}{L:List Tok}{lv ov:Value}{i:Nat}{D:List Qwa}
theorem QUa.below(h:QUa w r base file L lv ov i D)(k:Qaa (· = r) w w'):Below base w w':=k.below h.size (fun j hj e=>by have:=h.low;omega)
theorem QMl.noteBelow{x fp:Value}(h:QMl w r base file lv x ov fp D)(k:Qaa (fun b=>b=r∨ov.ownBlock=some b) w w'):Below base w w':=by
 refine k.below h.2.2.2 (fun j hj e=>?_)
 rcases e with rfl|e
 ·have:=h.2.2.1;omega
 ·obtain⟨vs,_,Hc,_⟩:=h.2.1
  have:=(Qpa Hc e).2.1
  omega
theorem QUa.bad(h:QUa w r base file L lv ov i D)(k:Qaa (· = r) w w'){q:Nat}{c:Int}(hb:Qob w' r file L lv ov q c) :
 ∃x f,QMl w' r base file lv x ov (.pointer (some ⟨f,0,none⟩)) D∧Qca w' f #[.int .i64 file,.int .i64 (tkN L q).line,.int .i64 (tkN L q).col,.int .i64 c] 68:=by
 obtain⟨x,f,h1,h2⟩:=hb
 exact⟨x,f,⟨h1,h.defs.keeps k (QLa.one h.holds (by decide) (by decide) (by decide)),h.low,Nat.le_trans h.size k.size⟩,h2⟩
theorem QUa.noted{ov':Value}{d:Qwa}(h:QUa w r base file L lv ov i D)(hr:QMl w' r base file lv (.int .i64 i) ov' (.pointer none) (D++[d]))(k:Qaa (fun b=>b=r∨ov.ownBlock=some b) w w')(hc:D.length+1≤i):QUa w' r base file L lv ov' i (D++[d]):=
 ⟨hr.1,h.toks.keeps k (fun b e=>by
  rcases e with rfl|e
  ·exact h.low
  ·obtain⟨vs,_,Hc,_⟩:=h.defs
   exact(Qpa Hc e).2.1),hr.2.1,hr.2.2.1,hr.2.2.2,h.lt,h.ok,by simp;omega⟩
theorem QYl{x:Value}{f:Nat}{ov':Value}{d:Qwa}{q:Nat}{c:Int}(h:QMl w r base file lv x ov (.pointer (some ⟨f,0,none⟩)) D)(hf:Qca w f #[.int .i64 file,.int .i64 (tkN L q).line,.int .i64 (tkN L q).col,.int .i64 c] 68)
 (hr:QMl w' r base file lv x ov' (.pointer (some ⟨f,0,none⟩)) (D++[d])) (k:Qaa (fun b=>b=r∨ov.ownBlock=some b) w w'):Qob w' r file L lv ov' q c:=by
 refine⟨x,f,hr.1,hf.keeps k (fun e=>?_)⟩
 rcases e with rfl|e
 ·exact Qcd h.1 hf (by decide) rfl
 ·obtain⟨vs,_,Hc,_⟩:=h.2.1
  exact Qua Hc hf (by decide) e
end
theorem Qhj{L:List Tok}{kind:Int}{right:List UInt8→Bool}{i j:Nat}(h:Qja L kind right i = .ok j):j=i+1:=by
 unfold Qja at h
 split at h
 ·split at h
  ·cases h;rfl
  ·cases h
 ·cases h
set_option maxRecDepth 100000 in
theorem QOd(w:World)(r base:Nat)(file:Int)(L:List Tok)(lv ov:Value)(i:Nat)(D:List Qwa)(h:QUa w r base file L lv ov i D)(kind what:Int)(before:List UInt8)(f:Nat)(right:List UInt8→Bool)(hf:Qbh f right)(hw8:what≠8)(gE:(tkN L i).kind≠8)(Hl:before.length≤10) :
 Calls Tryz.prog 57 #[.pointer (some ⟨r,0,none⟩),.int .i64 kind,.int .i64 what,.string ⟨before.toArray⟩,.func (.func f) #[] #[]] w (Qac (QVd L kind what before right i) r base file L lv i D w):=by
 have gF:=QOc _ r base file L lv ov i D h
 have Hh:=h.ok.next h.lt gE
 have uR:=h
 have He:∃R,QVd L kind what before right i=R:=⟨_,rfl⟩
 obtain⟨RR,He⟩:=He
 rw[He]
 unfold QVd at He
 have hx2:=h.ok.at (i+1)
 have nW:=Qta before (tkN L (i+1)).text (by omega)
 unfold QSc at nW
 unfold Qfb at gF
 have sI:=hid (fun j=>Qhj (L:=L) (kind:=what) (right:=right) (i:=i+1) (j:=j))
 generalize G0:tkN L i=t at *
 obtain⟨t0,t1,t2,t3,t4⟩:=t
 simp only at gF He
 have gA:=hid G0
 have HH:=hid uR
 have jW:=h.holds.lt
 have fT:=h.cnt
 have jS:L.length≤6001:=h.ok.len
 clear gE uR G0 h
 go_enter Tryz.func57,Tryz.ntmps57
 go_wp2_with fail
 refine gF.mono ?_
 rintro e w1 ⟨rfl,Hf⟩
 have k1:Qaa (fun _=>False) w (w1.alloc (.cells #[.int .i64 t0,.string ⟨t1.toArray⟩,.int .i64 t2,.int .i64 file,.int .i64 t3,.int .i64 t4] 65)):=(Qaa.of_fresh Hf (fun _=>False)).alloc _
 have Gp:=HH.out.keeps k1
 have jg:=Qca.new w1 #[.int .i64 t0,.string ⟨t1.toArray⟩,.int .i64 t2,.int .i64 file,.int .i64 t3,.int .i64 t4] 65
 have K6:w1.heap.size≠r:=by have:=Hf.size;omega
 obtain⟨Gq,k2⟩:=Gp.step Hh
 have G1:=jg.keeps k2 K6
 have ga:=(k1.mono (S:=(· = r)) (fun _ _ e=>e.elim)).trans k2 (S:=(· = r)) (fun _ _ e=>e)
 obtain⟨c1,c1f,crl,_⟩:=Gp.at1
 have dF:=Q1c _ r base file L lv ov (i+1) D Gq what hw8 f right hf
 unfold Q7c Qfb at dF
 have Mq:=hid Gq
 have aC:=hid G1
 have Gw:=hid ga
 clear gF Hf k1 Gp jg k2 Gq G1 ga
 generalize Qja L what right (i+1)=TR at *
 generalize tkN L (i+1)=s at *
 obtain⟨s0,s1,s2,s3,s4⟩:=s
 simp only at dF He hx2 nW
 generalize Ko:before++s1=nm at *
 go_wp2_with fail
 refine(by exact dF:Calls _ _ _ _ _).mono ?_
 rintro e w3 ⟨Hd,hm⟩
 have gc:=(Gw.out.trans Hd (S:=(· = r)) (fun _ _ e=>e)).alloc (.cells #[.int .i64 s0,.string ⟨s1.toArray⟩,.int .i64 s2,.int .i64 file,.int .i64 s3,.int .i64 s4] 65)
 have kc:=(aC.out.keeps Hd K6).alloc (.cells #[.int .i64 s0,.string ⟨s1.toArray⟩,.int .i64 s2,.int .i64 file,.int .i64 s3,.int .i64 s4] 65)
 have la:=Qca.new w3 #[.int .i64 s0,.string ⟨s1.toArray⟩,.int .i64 s2,.int .i64 file,.int .i64 s3,.int .i64 s4] 65
 obtain⟨m0,m1,m2,m3,m4,m5⟩:=Qga kc
 obtain⟨n0,n1,n2,n3,n4,n5⟩:=Qga la
 clear dF
 cases TR with
 | ok j=>
  simp only at hm He
  obtain⟨rfl,Hy⟩:=hm
  have Gn:=Hy.alloc (.cells #[.int .i64 s0,.string ⟨s1.toArray⟩,.int .i64 s2,.int .i64 file,.int .i64 s3,.int .i64 s4] 65)
  have jI:=Qbf _ r base file lv (.int .i64 j) ov (.pointer none) D ⟨kind,⟨#[]⟩,⟨nm.toArray⟩,[],t3,t4⟩ (.slice none 0 0) Gn.raw (Qha.none _ _) (by have:=Gn.cnt;have:=Gn.lt;have:=Gn.ok.len;omega)
  unfold QXb at jI
  have hj:=sI.out j rfl
  subst hj
  go_wp2_with fail
  refine(by exact jI:Calls _ _ _ _ _).mono ?_
  rintro e w4 ⟨rfl,ov',Ma,Hr⟩
  have kB:=Gn.noted Ma Hr (by omega)
  have jE:=(HH.out.below gc).trans (Gn.raw.noteBelow Hr)
  have Hk:=Qed w4 r base file L lv ov' (i+1+1) _ kB [59]
  unfold QTc at Hk
  unfold Qwb at He
  have HB:=hid jE
  have MQ:=hid kB
  clear jI Ma Hr jE kB Gn Hy Hd gc kc la Gw aC Mq
  cases hk:isK L (i+1+1) 4 [59]with
  | true=>
   rw[hk,if_pos rfl]at He
   simp only at He
   subst He
   rw[hk]at Hk
   go_wp2_with fail
   refine(by exact Hk:Calls _ _ _ _ _).mono ?_
   rintro e w5 ⟨rfl,Hs,hy,_⟩
   have ms:=hy (by trivial)
   have mw:=HB.out.trans (MQ.out.below Hs)
   clear Hk hy
   go_wp2_with fail
   go_ret
   exact⟨mw,rfl,ov',ms,by omega⟩
  | false=>
   rw[hk,if_neg (by simp)]at He
   simp only at He
   subst He
   rw[hk]at Hk
   go_wp2_with fail
   refine(by exact Hk:Calls _ _ _ _ _).mono ?_
   rintro e w5 ⟨rfl,Hs,_,hn⟩
   have ms:=hn (by trivial)
   have mw:=HB.out.trans (MQ.out.below Hs)
   clear Hk hn
   go_wp2_with fail
   go_ret
   exact⟨mw,rfl,ov',ms⟩
 | error q=>
  obtain⟨k,c⟩:=q
  simp only at hm He
  obtain⟨rfl,Hj⟩:=hm
  obtain⟨x,ff,iz,KM⟩:=HH.out.bad gc (Hj.alloc (.cells #[.int .i64 s0,.string ⟨s1.toArray⟩,.int .i64 s2,.int .i64 file,.int .i64 s3,.int .i64 s4] 65))
  have jI:=Qbf _ r base file lv x ov (.pointer (some ⟨ff,0,none⟩)) D ⟨kind,⟨#[]⟩,⟨nm.toArray⟩,[],t3,t4⟩ (.slice none 0 0) iz (Qha.none _ _) (by omega)
  unfold QXb at jI
  subst He
  go_wp2_with fail
  refine(by exact jI:Calls _ _ _ _ _).mono ?_
  rintro e w4 ⟨rfl,ov',Ma,Hr⟩
  have ME:=HH.out.below gc
  have jE:=iz.noteBelow Hr
  have Hg:=QYl (L:=L) iz KM Ma Hr
  go_wp2_with fail
  go_ret
  exact⟨ME.trans jE,rfl,ov',Hg⟩
theorem QZf:(Tryz.prog.info? 75).map (fun i=>(i.zero,i.size,i.bytes))=some (some (.agg #[.int .i64 0,.slice none 0 0,.string ⟨#[]⟩]),3,48):=by kernel_rfl
def Qtn(r base:Nat)(file:Int)(L:List Tok)(lv:Value)(n:Nat):Prop:=∀(w:World) (ov:Value) (i:Nat) (D:List Qwa) (d:Qwa) (dp:Nat),QUa w r base file L lv ov i D→d.parts=[]→3*(L.length-i)≤n→dp≤100→
 Calls Tryz.prog 55 #[.pointer (some ⟨r,0,none⟩),QXb file d (.slice none 0 0),.int .i64 dp] w (Qac (Qxb L n (.body d dp) i) r base file L lv i D w)
def Qsj(r base:Nat)(file:Int)(L:List Tok)(lv:Value)(n:Nat):Prop:=∀(w:World) (ov:Value) (i:Nat) (D:List Qwa) (dp:Nat),QUa w r base file L lv ov i D→3*(L.length-i)≤n→dp≤50→
 Calls Tryz.prog 95 #[.pointer (some ⟨r,0,none⟩),.int .i64 dp] w (Qac (Qxb L n (.member dp) i) r base file L lv i D w)
def QRl(r base:Nat)(file:Int)(L:List Tok)(lv:Value)(n:Nat):Prop:=∀(w:World) (ov:Value) (i:Nat) (D:List Qwa) (dp:Nat),QUa w r base file L lv ov i D→(tkN L i).kind=1→3*(L.length-i)≤n+1→dp≤99→
 Calls Tryz.prog 124 #[.pointer (some ⟨r,0,none⟩),Qfb file (tkN L i),.int .i64 dp] w (Qac (Qxb L n (.named dp) i) r base file L lv i D w)
theorem QLe:Qbh 123 Q1a:=⟨enters_of Tryz.func123 (by kernel_rfl) rfl,fun s w hs=>QBf s w (by unfold maxLen;omega)⟩
theorem QSg:Qbh 125 Q5b:=⟨enters_of Tryz.func125 (by kernel_rfl) rfl,fun s w hs=>Qli s w (by omega)⟩
set_option maxRecDepth 100000 in
theorem Qkn(r base:Nat)(file:Int)(L:List Tok)(lv:Value)(n:Nat)(hB:Qtn r base file L lv n):QRl r base file L lv (n+1):=by
 intro w ov i D dp h Ht hn mF
 have qT:=hid hB
 have Hh:=h.ok.next h.lt (by rw[Ht];decide)
 have Ks:=hid h.ok
 have bj:=h.size
 have jW:=h.holds.lt
 have fT:=h.cnt
 have Ga:=h.ok.len
 have HH:=hid h
 have kU:=h.ok.at i
 have He:∃R,Qxb L (n+1) (.named dp) i=R:=⟨_,rfl⟩
 obtain⟨RR,He⟩:=He
 rw[He]
 rw[Qxb]at He
 unfold txN at He
 have gA:=hid (show tkN L i=tkN L i from rfl)
 have Gz:=hid (fun wx hx=>QNc wx r base file L lv ov (i+1) D hx i 1)
 unfold Qfb at Gz ⊢
 clear Ht h hB
 generalize tkN L i=t at *
 obtain⟨t0,t1,t2,t3,t4⟩:=t
 simp only at He Gz kU ⊢
 have dP:∀wx,Calls Tryz.prog 123 #[.string ⟨t1.toArray⟩] wx fun e w'=>e = .returned (.bool (Q1a t1))∧wx=w':=fun wx=>QLe.2 ⟨t1.toArray⟩ wx (by simpa[ByteArray.size]using kU)
 have jP:∀wx,Calls Tryz.prog 125 #[.string ⟨t1.toArray⟩] wx fun e w'=>e = .returned (.bool (Q5b t1))∧wx=w':=fun wx=>QSg.2 ⟨t1.toArray⟩ wx (by simpa[ByteArray.size]using kU)
 obtain⟨Gp,k1⟩:=HH.out.step Hh
 have Gq:=Gp.alloc (.cells #[.int .i64 t0,.string ⟨t1.toArray⟩,.int .i64 t2,.int .i64 file,.int .i64 t3,.int .i64 t4] 65)
 have G1:=Qca.newAt (w:=w.setCell ⟨r,1,none⟩ (.int .i64 ((i:Int)+1))) (B:=w.heap.size) (by simp) #[.int .i64 t0,.string ⟨t1.toArray⟩,.int .i64 t2,.int .i64 file,.int .i64 t3,.int .i64 t4] 65
 have ga:=k1.alloc (.cells #[.int .i64 t0,.string ⟨t1.toArray⟩,.int .i64 t2,.int .i64 file,.int .i64 t3,.int .i64 t4] 65)
 obtain⟨c1,c1f,crl,_⟩:=(HH.out.alloc (.cells #[.int .i64 t0,.string ⟨t1.toArray⟩,.int .i64 t2,.int .i64 file,.int .i64 t3,.int .i64 t4] 65)).at1
 have G3:=Qdd _ r base file L lv ov (i+1) D Gq 4 [123]
 have Mq:=hid Gq
 have aC:=hid G1
 have Gw:=hid ga
 clear Gp k1 Gq G1 ga
 go_enter Tryz.func124,Tryz.ntmps124
 go_wp2_with fail
 refine(by exact G3:Calls _ _ _ _ _).mono ?_
 rintro e w2 ⟨rfl,Ho⟩
 have kb2:Qaa (fun _=>False) _ w2:=Qaa.of_fresh Ho _
 have Hy:=Mq.out.keeps kb2
 have kc:=aC.out.keeps kb2 (fun e=>e)
 have gc:=Gw.out.trans kb2 (S:=(· = r)) (fun _ _ e=>e.elim)
 obtain⟨m0,m1,m2,m3,m4,m5⟩:=Qga kc
 clear G3 Ho kb2 c1 c1f crl
 cases hk:isK L (i+1) 4 [123]with
 | true=>
  rw[hk,if_pos rfl]at He
  cases hg:Q1a t1 with
  | true=>
   rw[hg,if_pos rfl]at He
   rw[hg]at dP
   obtain⟨dq,oy⟩:∃z,z=dp+1:=⟨_,rfl⟩
   rw[←oy]at He
   have Hm:=qT.out w2 ov (i+1) D ⟨1,⟨#[]⟩,⟨t1.toArray⟩,[],t3,t4⟩ dq Hy rfl (by omega) (by omega)
   unfold QXb Qac at Hm
   rw[He]at Hm
   have fU:(dp:Int)+1=(dq:Int):=by omega
   have oz:dq≤100:=by omega
   clear oy
   have J9:=HH.out.below gc
   have j7:=hid dP
   clear jP dP gc kc
   go_wp2_with fail
   refine(j7.out _).mono ?_
   rintro e w3 ⟨rfl,rfl⟩
   go_wp2_with fail
   refine(by exact Hm:Calls _ _ _ _ _).mono ?_
   rintro e w3 ⟨gm,hm⟩
   have mQ:=J9.trans gm
   unfold Qac
   clear Hm He
   cases RR with
   | ok q=>
    obtain⟨j,ds⟩:=q
    simp only at hm
    obtain⟨rfl,ov',Gn,hj⟩:=hm
    go_wp2_with fail
    go_ret
    exact⟨mQ,rfl,ov',Gn,by omega⟩
   | error q=>
    obtain⟨k,c⟩:=q
    simp only at hm
    obtain⟨rfl,ov',Hj⟩:=hm
    go_wp2_with fail
    go_ret
    exact⟨mQ,rfl,ov',Hj⟩
  | false=>
   rw[hg,if_neg (by simp)]at He
   subst He
   rw[hg]at dP
   have KM:=Gz.out _ Hy
   have J9:=HH.out.below gc
   have j7:=hid dP
   clear jP dP gc kc
   go_wp2_with fail
   refine(j7.out _).mono ?_
   rintro e w3 ⟨rfl,rfl⟩
   go_wp2_with fail
   refine(by exact KM:Calls _ _ _ _ _).mono ?_
   rintro e w3 ⟨rfl,Hj,Hd⟩
   have gm:=J9.trans (Hy.below Hd)
   go_wp2_with fail
   go_ret
   exact⟨gm,rfl,ov,Hj⟩
 | false=>
  rw[hk,if_neg (by simp)]at He
  cases hg:Q5b t1 with
  | false=>
   rw[hg,if_neg (by simp)]at He
   subst He
   rw[hg]at jP
   have KM:=Gz.out _ Hy
   have J9:=HH.out.below gc
   have jy:=hid jP
   clear jP dP gc kc
   go_wp2_with fail
   refine(jy.out _).mono ?_
   rintro e w3 ⟨rfl,rfl⟩
   go_wp2_with fail
   refine(by exact KM:Calls _ _ _ _ _).mono ?_
   rintro e w3 ⟨rfl,Hj,Hd⟩
   have gm:=J9.trans (Hy.below Hd)
   go_wp2_with fail
   go_ret
   exact⟨gm,rfl,ov,Hj⟩
  | true=>
   rw[hg,if_pos rfl]at He
   rw[hg]at jP
   have jy:=hid jP
   clear jP dP
   go_wp2_with fail
   refine(jy.out _).mono ?_
   rintro e w3 ⟨rfl,rfl⟩
   have Gn:=Hy.alloc (.cells #[.int .i64 3,.string ⟨#[]⟩,.string ⟨t1.toArray⟩,.slice none 0 0,.int .i64 file,.int .i64 t3,.int .i64 t4] 34)
   have uN:=Qca.new w2 #[.int .i64 3,.string ⟨#[]⟩,.string ⟨t1.toArray⟩,.slice none 0 0,.int .i64 file,.int .i64 t3,.int .i64 t4] 34
   have gD:=gc.alloc (.cells #[.int .i64 3,.string ⟨#[]⟩,.string ⟨t1.toArray⟩,.slice none 0 0,.int .i64 file,.int .i64 t3,.int .i64 t4] 34)
   have Mp:=gc.size
   have dr:=kc.lt
   have KN:L.length<(i+1)+Qgb L:=by unfold Qgb;omega
   generalize hN:Qgb L=N at *
   generalize hPP:Qvb L N [61] (i+1) []=PP at *
   have iY:=hid hPP
   have tw:=Qha.none (w2.alloc (.cells #[.int .i64 3,.string ⟨#[]⟩,.string ⟨t1.toArray⟩,.slice none 0 0,.int .i64 file,.int .i64 t3,.int .i64 t4] 34)) (w.heap.size+1)
   obtain⟨Z,hZ⟩:∃z,z=w2.heap.size:=⟨_,rfl⟩
   have M3:Z≠r:=by omega
   have lc:w.heap.size+1≤Z:=by omega
   rw[←hZ]at uN
   clear hN hPP kc Hy gc aC Mq Gw hg hk
   go_wp2_with fail
   rw[←hZ]
   have HZZ:=hid hZ
   clear m0 m1 m2 m3 m4 m5 hZ
   generalize w2.alloc (.cells #[.int .i64 3,.string ⟨#[]⟩,.string ⟨t1.toArray⟩,.slice none 0 0,.int .i64 file,.int .i64 t3,.int .i64 t4] 34)=w4 at *
   go_loopg [9] N (fun f x wr=>∃(j:Nat) (ps:List QRa) (sep:List UInt8) (pv:Value),x = .string ⟨sep.toArray⟩∧Hid (Qvb L f sep j ps=PP)∧L.length<j+f∧i+1≤j∧ps.length≤j∧Qha wr (w.heap.size+1) pv ps∧QUa wr r base file L lv ov j D∧Qaa (· = r) w wr∧Qca wr Z #[.int .i64 3,.string ⟨#[]⟩,.string ⟨t1.toArray⟩,pv,.int .i64 file,.int .i64 t3,.int .i64 t4] 34)
   case atStart=>exact⟨i+1,[],[61],.slice none 0 0,rfl,iY,KN,Nat.le_refl _,Nat.zero_le _,tw,Gn,gD,uN⟩
   case round=>
    obtain⟨j,ps,sep,pv,rfl,hR,qv,GV,ir,GO,hA,hK,hD⟩:=hrel
    obtain⟨va,vc,rfl⟩:=GO.slice
    have mi:=hA.lt
    obtain⟨f,hf⟩:∃f,gk=f+1:=⟨gk-1,by omega⟩
    have hS:=hR.out
    rw[hf,Qvb]at hS
    have G3:=Qdd wr r base file L lv ov j D hA 4 sep
    go_wp2_with fail
    refine G3.mono ?_
    rintro e w5 ⟨rfl,Kx⟩
    have kb5:Qaa (fun _=>False) wr w5:=Qaa.of_fresh Kx _
    have kB:=hA.keeps kb5
    have i7:=hD.keeps kb5 (fun e=>e)
    have GL:=hK.trans kb5 (S:=(· = r)) (fun _ _ e=>e.elim)
    have dz:=GO.keeps kb5 (QLa.nil _)
    clear G3 hR Kx hA hD hK GO kb5
    cases hk:isK L j 4 sep with
    | true=>
     rw[hk,if_pos rfl]at hS
     have jj:=QHd Ks.out mi hk (by decide)
     obtain⟨ms,k6⟩:=kB.step jj
     have uO:=i7.keeps k6 M3
     have Ku:=GL.trans k6 (S:=(· = r)) (fun _ _ e=>e)
     have pq:=dz.keeps k6 (QLa.one kB.holds (by decide) (by decide) (by decide))
     obtain⟨c1,c1f,crl,_⟩:=kB.at1
     have iv:=QDo _ r base file L lv ov (j+1) D ms
     unfold Qgf at iv
     have k9:=hid ms
     have lJ:=hid uO
     have gH:=hid Ku
     have ui:=hid pq
     clear kB i7 GL dz ms k6 uO Ku pq
     generalize Qsb L (j+1)=PR at *
     cases PR with
     | ok q=>
      obtain⟨k,p⟩:=q
      simp only at hS iv
      go_wp2_with fail
      refine(by exact iv:Calls _ _ _ _ _).mono ?_
      rintro e w7 ⟨Gs,cv,rfl,bU,uJ,hj7⟩
      unfold Q0h
      obtain⟨ca,cc,rfl⟩:=bU.slice
      have hw7:=gH.out.size
      have iL:=lJ.out.lt
      have kx7:Qaa (· = r) (w5.setCell ⟨r,1,none⟩ (.int .i64 ((j:Int)+1))) (w7.alloc (.cells #[.int .i64 p.kind,.slice ca p.cells.length cc,.string p.text] 75)):=Gs.alloc _
      have Kb:=QLa.one k9.out.holds (by decide) (by decide) (by decide)
      have MD:=uJ.alloc (.cells #[.int .i64 p.kind,.slice ca p.cells.length cc,.string p.text] 75)
      have i8:=lJ.out.keeps kx7 M3
      have jA:=gH.out.trans kx7 (S:=(· = r)) (fun _ _ e=>e)
      have xI:=ui.out.keeps kx7 Kb
      have uL:Qfa (w7.alloc (.cells #[.int .i64 p.kind,.slice ca p.cells.length cc,.string p.text] 75)) (w.heap.size+1) (.slice ca p.cells.length cc) p.cells:=(bU.lower (by omega)).keeps ((Qaa.refl (fun _=>False) w7).alloc _) (QLa.nil _)
      have cn:=Qca.new w7 #[.int .i64 p.kind,.slice ca p.cells.length cc,.string p.text] 75
      obtain⟨vs,ky,KQ,gf⟩:=xI
      have yx:=jA.size
      obtain⟨p0,p1,p2,_⟩:=three cn
      obtain⟨y0,y1,y2,y3,y4,y5,y6⟩:=Qna i8
      have yf:=i8.free 3
      have yl:=i8.lt
      obtain⟨i0,hi,GE,GF,GA⟩:=info_parts QZf
      have Gm:=hid (World.ownsRow.alloc KQ (.cells #[.int .i64 p.kind,.slice ca p.cells.length cc,.string p.text] 75))
      have tS:=hid i8
      have GG:=hid MD
      have Kz:=hid jA
      have vV:=hid uL
      have uo:=hid KQ
      have rV:=hid gf
      have HS:=hid hS
      have gV:w.heap.size+1≤w7.heap.size+1:=by have:=i8.lt;simp at this;omega
      clear iv Gs bU uJ kx7 Kb MD i8 jA uL cn KQ gf hS k9 lJ gH ui c1 c1f crl yx
      go_wp2_with (at_builtin;refine wpList_append_own _ rfl _ _ 32 rfl (w.heap.size+1) 75 i0 _ 3 48 Tryz.underlying32 hi GE GF GA rfl (by decide) _ _ _ rfl (by exact Gm.out) ⟨w7.heap.size+1,0,none⟩ 1 1 [.int .i64 p.kind,.slice ca p.cells.length cc,.string p.text] rfl rfl (Q3a _ _ _ _ (by simp) _ rfl) (by intro u hu;simp only[List.mem_cons,List.not_mem_nil,or_false]at hu;rcases hu with rfl|rfl|rfl <;> rfl) (by unfold maxLen;omega) (by omega) (by simp;omega) ?_)
      intro v' w9 Hq Hb _
      obtain⟨va',vc',rfl⟩:=Qia Hq
      have kg:Qaa (fun b=>(Value.slice va ps.length vc).ownBlock=some b) (w7.alloc (.cells #[.int .i64 p.kind,.slice ca p.cells.length cc,.string p.text] 75)) w9:=((Qaa.refl _ _).alloc _).grown Hb (fun g hg=>.inr hg)
      have Hn:=fun(b:Nat) (xs:Array Value) (t:TypeId) (hx:Qca (w7.alloc (.cells #[.int .i64 p.kind,.slice ca p.cells.length cc,.string p.text] 75)) b xs t) (hn:t≠75)=>Qua uo.out hx hn
      have fw:=tS.out.keeps kg (Hn _ _ _ tS.out (by decide))
      have jN:=GG.out.holds.keeps kg (Hn _ _ _ GG.out.holds (by decide))
      have Ml:Qaa (· = r) w w9:=(Kz.out.alloc (.cells #[.int .i64 p.kind,.slice ca p.cells.length cc,.string p.text] 75)).grown Hb (fun g hg=>by have:=(Qpa Gm.out hg).2.1;left;omega)
      have Hx:=fun(v:Value) (cs:List QJb) (hc:Qfa (w7.alloc (.cells #[.int .i64 p.kind,.slice ca p.cells.length cc,.string p.text] 75)) (w.heap.size+1) v cs)=>Qba hc kg (fun g hg e=>by
       obtain⟨_,_,cur,q⟩:=Qpa uo.out e
       exact Qua hc q (by decide) hg)
      have pr:Qha w9 (w.heap.size+1) (.slice va' (ps.length+1) vc') (ps++[p]):=by
       refine⟨vs++[.slice ca p.cells.length cc],by simp[ky],?_,fun m hm dr=>?_⟩
       ·rw[Qld ps vs p _ ky,List.length_append]
        exact Hq
       ·by_cases e:m<ps.length
        ·rw[List.getElem_append_left (by omega),List.getElem_append_left e]
         exact Hx _ _ (rV.out m e (by omega))
        ·have jT:m=ps.length:=by simp at hm;omega
         subst jT
         rw[List.getElem_append_right (by omega),List.getElem_append_right (by omega)]
         simp only[ky,Nat.sub_self,List.getElem_cons_zero]
         exact Hx _ _ vV.out
      have k10:=(Qaa.refl (· = Z) w9).setCell (p:=⟨Z,3,none⟩) (.inr rfl) (.slice va' (ps.length+1) vc')
      have dY:Qha (w9.setCell ⟨Z,3,none⟩ (.slice va' (ps.length+1) vc')) (w.heap.size+1) (.slice va' (ps.length+1) vc') (ps++[p]):=by
       obtain⟨us,u1,u2,u3⟩:=pr
       exact⟨us,u1,Qba u2 k10 (fun g hg e=>by cases e;exact Qua u2 fw (by decide) hg),fun m a b=>Qba (u3 m a b) k10 (fun g hg e=>by cases e;exact Qua (u3 m a b) fw (by decide) hg)⟩
      have kM:=jN.keeps k10 (Ne.symm M3)
      have fy:=Ml.setCell (p:=⟨Z,3,none⟩) (.inl (show w.heap.size≤Z by omega)) (.slice va' (ps.length+1) vc')
      have JN:=HH.out.from fy kM GG.out.lt (by omega)
      have nG:=fw.set 3 (.slice va' (ps.length+1) vc')
      obtain⟨_,_,_,x3,_⟩:=Qna fw
      have x3f:=fw.free 3
      have x3l:=fw.lt
      have aE:=hid dY
      have MO:=hid JN
      have MS:=hid fy
      have rd:=hid nG
      clear Hq Hb kg Hn fw jN Ml Hx pr k10 dY kM fy JN nG y0 y1 y2 y3 y4 y5 y6 yf yl p0 p1 p2 gV Gm
      go_wp2_with fail
      go_roundg (gk-1)
      case measure=>omega
      case rel=>
       refine⟨k,_,[44],_,rfl,?_,by omega,by omega,by simp;omega,aE.out,MO.out,MS.out,rd.out⟩
       rw[hf,Nat.add_sub_cancel]
       exact HS
     | error q=>
      obtain⟨k,c⟩:=q
      simp only at hS iv
      subst hS
      simp only at He
      subst He
      go_wp2_with fail
      refine(by exact iv:Calls _ _ _ _ _).mono ?_
      rintro e w7 ⟨Gs,v,rfl,⟨ea,ex,en,ec,es,rfl⟩,Hj⟩
      have jh:=HH.out.below (gH.out.trans Gs (S:=(· = r)) (fun _ _ e=>e))
      have mR:=jh.alloc (Nat.le_trans HH.out.size (gH.out.trans Gs (S:=(· = r)) (fun _ _ e=>e)).size) (.cells #[.int .i64 ea,.slice ex en ec,.string es] 75)
      have KH:=Hj.alloc (.cells #[.int .i64 ea,.slice ex en ec,.string es] 75)
      clear iv
      go_wp2_with fail
      go_ret
      exact⟨mR,rfl,ov,KH⟩
    | false=>
     rw[hk,if_neg (by simp)]at hS
     subst hS
     simp only at He
     subst He
     have jI:=Qbf w5 r base file lv (.int .i64 j) ov (.pointer none) D ⟨3,⟨#[]⟩,⟨t1.toArray⟩,ps,t3,t4⟩ (.slice va ps.length vc) kB.raw (dz.lower (by omega)) (by have:=kB.cnt;omega)
     unfold QXb at jI
     obtain⟨y0,y1,y2,y3,y4,y5,y6⟩:=Qna i7
     have lg:=HH.out.below GL
     have MQ:=hid kB
     clear dz kB GL i7
     go_wp2_with fail
     refine(by exact jI:Calls _ _ _ _ _).mono ?_
     rintro e w6 ⟨rfl,ov',pD,Hz⟩
     have ms:=MQ.out.noted pD Hz (by omega)
     have mw:=lg.trans (MQ.out.raw.noteBelow Hz)
     go_wp2_with fail
     go_ret
     exact⟨mw,rfl,ov',ms,by omega⟩
section
variable{w w':World}{r base:Nat}{file:Int}{L:List Tok}{lv ov ov':Value}{i:Nat}{D:List Qwa}{d:Qwa}
theorem QUa.noteStep(h:QUa w r base file L lv ov i D)(hr:QMl w' r base file lv (.int .i64 i) ov' (.pointer none) (D++[d]))(k:Qaa (fun b=>b=r∨ov.ownBlock=some b) w w')(hl:i+1<L.length) :
 QUa (w'.setCell ⟨r,1,none⟩ (.int .i64 ((i:Int)+1))) r base file L lv ov' (i+1) (D++[d])∧Below base w (w'.setCell ⟨r,1,none⟩ (.int .i64 ((i:Int)+1)))∧w'.cell? ⟨r,1,none⟩=some (.int .i64 i)∧w'.frozen? ⟨r,1,none⟩=false∧r<w'.heap.size:=by
 have k2:=(Qaa.refl (· = r) w').setCell (p:=⟨r,1,none⟩) (.inr rfl) (.int .i64 ((i:Int)+1))
 have e1:(i:Int)+1=((i+1:Nat):Int):=by omega
 have hH:=hr.1.set 1 (.int .i64 ((i:Int)+1))
 have Kb:=QLa.one hr.1 (by decide) (by decide) (by decide)
 have hT:Qjf base w' lv file L:=h.toks.keeps k (fun b e=>by
  rcases e with rfl|e
  ·exact h.low
  ·obtain⟨vs,_,Hc,_⟩:=h.defs
   exact(Qpa Hc e).2.1)
 refine⟨⟨by rw[←e1];exact hH,hT.keeps k2 (fun b e=>by cases e;exact h.low),hr.2.1.keeps k2 Kb,hr.2.2.1,Nat.le_trans hr.2.2.2 k2.size,hl,h.ok,by have:=h.cnt;simp;omega⟩,(h.raw.noteBelow k).trans (k2.below hr.2.2.2 (fun j hj e=>by have:=h.low;omega)),hr.1.cell 1,hr.1.free 1,hr.1.lt⟩
end
theorem Qpn(a b:Int)(s:ByteArray)(file l q:Int)(wx:World):(Instr.field 65 (.agg #[.int .i64 a,.string s,.int .i64 b,.int .i64 file,.int .i64 l,.int .i64 q]) 3).run Tryz.prog wx = .ok (.agg #[.int .i64 file,.int .i64 l,.int .i64 q]) wx:=by kernel_rfl
set_option maxRecDepth 100000 in
theorem QCo(r base:Nat)(file:Int)(L:List Tok)(lv:Value)(n:Nat)(hM:∀m,m<n→Qsj r base file L lv m):Qtn r base file L lv (n+1):=by
 intro w ov i D d dp h ox hn mF
 have rE:=hid hM
 have Ks:=hid h.ok
 have jS:=h.lt
 have bj:=h.size
 have jW:=h.holds.lt
 have Ga:=h.ok.len
 have HH:=hid h
 have He:∃R,Qxb L (n+1) (.body d dp) i=R:=⟨_,rfl⟩
 obtain⟨RR,He⟩:=He
 rw[He]
 rw[Qxb]at He
 unfold QXb
 have gR:Below w.heap.size w (w.alloc (.cells (Qbc file d (.slice none 0 0)) 34)):=(Below.refl _ _).alloc (Nat.le_refl _) _
 have sE:=Qca.new w (Qbc file d (.slice none 0 0)) 34
 have Gp:=h.alloc (.cells (Qbc file d (.slice none 0 0)) 34)
 unfold Qbc at gR sE Gp
 have G3:=Qdd _ r base file L lv ov i D Gp 4 [123]
 have gU:=hid (fun wx ovx jx Dx hx=>QOc wx r base file L lv ovx jx Dx hx)
 have Gz:=hid (fun wx hx=>QNc wx r base file L lv ov i D hx i 3)
 have kA:=hid (fun wx hx=>Qed wx r base file L lv ov i D hx [123])
 clear hM h
 go_enter Tryz.func55,Tryz.ntmps55
 go_wp2_with fail
 refine(by exact G3:Calls _ _ _ _ _).mono ?_
 rintro e w2 ⟨rfl,Ho⟩
 have kb2:Qaa (fun _=>False) _ w2:=Qaa.of_fresh Ho _
 have k02:Qaa (fun _=>False) w w2:=(Qaa.of_fresh gR (fun _=>False)).trans kb2 (fun _ _ e=>e)
 have Gq:=Gp.keeps kb2
 have J7:=sE.keeps kb2 (fun e=>e)
 have ed:w.heap.size≠r:=by omega
 clear G3 Ho kb2 Gp sE gR
 cases hk:isK L i 4 [123]with
 | true=>
  rw[hk,if_pos rfl]at He
  by_cases h8:8<dp
  ·rw[if_pos h8]at He
   subst He
   have nE:(8:Int)<(dp:Int):=by omega
   have gF:=gU.out w2 ov i D Gq
   have J9:=HH.out.below (k02.mono (S:=(· = r)) (fun _ _ e=>e.elim))
   clear h8
   go_wp2_with fail
   refine(by exact gF:Calls _ _ _ _ _).mono ?_
   rintro e w3 ⟨rfl,gm⟩
   have kb3:Qaa (fun _=>False) w2 w3:=Qaa.of_fresh gm _
   have KM:=Gz.out w3 (Gq.keeps kb3)
   have Hy:=Gq.keeps kb3
   have mQ:=J9.trans (Gq.below (kb3.mono (S:=(· = r)) (fun _ _ e=>e.elim)))
   unfold Qfb at KM
   unfold Qfb
   clear gF gm kb3
   go_wp2_with fail
   refine(by exact KM:Calls _ _ _ _ _).mono ?_
   rintro e w4 ⟨rfl,Hj,Hr⟩
   have Kx:=mQ.trans (Hy.below Hr)
   go_wp2_with fail
   go_ret
   exact⟨Kx,rfl,ov,Hj⟩
  ·rw[if_neg h8]at He
   have nE:¬(8:Int)<(dp:Int):=by omega
   have xj:decide ((8:Int)<(dp:Int))=false:=by simp;omega
   have Hk:=kA.out w2 Gq
   unfold QTc at Hk
   rw[hk]at Hk
   clear h8
   go_wp2_with fail
   refine(by exact Hk:Calls _ _ _ _ _).mono ?_
   rintro e w3 ⟨rfl,Hd,hy,_⟩
   have Hy:=hy (by trivial)
   have uM:=J7.keeps Hd ed
   have gm:=HH.out.below ((k02.mono (S:=(· = r)) (fun _ _ e=>e.elim)).trans Hd (S:=(· = r)) (fun _ _ e=>e))
   have jI:=Qbf w3 r base file lv (.int .i64 ((i+1:Nat):Int)) ov (.pointer none) D d (.slice none 0 0) Hy.raw (by rw[ox];exact Qha.none _ _) (by have:=Hy.cnt;omega)
   unfold QXb at jI
   obtain⟨y0,y1,y2,y3,y4,y5,y6⟩:=Qna uM
   have MP:=hid Hy
   have Km:=HH.out.cnt
   clear Hk hy Hd Gq J7 Hy uM k02
   go_wp2_with fail
   refine(by exact jI:Calls _ _ _ _ _).mono ?_
   rintro e w4 ⟨rfl,ov4,Ma,Hr⟩
   have Gn:=MP.out.noted Ma Hr (by omega)
   have mQ:=gm.trans (MP.out.raw.noteBelow Hr)
   have KD:=hid He
   clear jI Ma Hr y0 y1 y2 y3 y4 y5 y6 gm He
   go_wp2_with fail
   go_loopg [] n (fun f wr=>∃(j:Nat) (acc:List Qwa) (ov':Value),Hid (Qxb L f (.mems dp acc) j=RR)∧3*(L.length-j)+1≤f∧f≤n∧i<j∧QUa wr r base file L lv ov' j (D++acc)∧Below base w wr)
   case atStart=>exact⟨i+1,[d],ov4,KD,by omega,Nat.le_refl _,by omega,Gn,mQ⟩
   case round=>
    obtain⟨j,acc,ov',hR,qv,oJ,GV,hA,hb⟩:=hrel
    have mi:=hA.lt
    obtain⟨f,hf⟩:∃f,gk=f+1:=⟨gk-1,by omega⟩
    have hS:=hR.out
    rw[hf,Qxb]at hS
    have G3:=Qdd wr r base file L lv ov' j _ hA 4 [125]
    go_wp2_with fail
    refine G3.mono ?_
    rintro e w5 ⟨rfl,Kx⟩
    have kb5:Qaa (fun _=>False) wr w5:=Qaa.of_fresh Kx _
    have kB:=hA.keeps kb5
    have mw:=hb.trans (hA.below (kb5.mono (S:=(· = r)) (fun _ _ e=>e.elim)))
    clear G3 hR Kx hA hb kb5
    cases hk:isK L j 4 [125]with
    | true=>
     rw[hk,if_pos rfl]at hS
     subst hS
     have jj:=QHd Ks.out mi hk (by decide)
     have gF:=gU.out w5 ov' j _ kB
     unfold Qfb at gF
     generalize tkN L j=t at *
     obtain⟨t0,t1,t2,t3,t4⟩:=t
     simp only at gF
     have c9:=Qpn t0 t2 ⟨t1.toArray⟩ file t3 t4
     go_wp2_with fail
     refine(by exact gF:Calls _ _ _ _ _).mono ?_
     rintro e w6 ⟨rfl,mR⟩
     have kb6:Qaa (fun _=>False) w5 w6:=Qaa.of_fresh mR _
     have ms:=kB.keeps kb6
     have jh:=mw.trans (kB.below (kb6.mono (S:=(· = r)) (fun _ _ e=>e.elim)))
     have jI:=Qbf w6 r base file lv (.int .i64 j) ov' (.pointer none) (D++acc) ⟨2,⟨#[]⟩,⟨#[]⟩,[],t3,t4⟩ (.slice none 0 0) ms.raw (Qha.none _ _) (by have:=ms.cnt;omega)
     unfold QXb at jI
     have k9:=hid ms
     clear gF mR kb6 kB mw ms
     go_wp2_with fail
     refine(by exact jI:Calls _ _ _ _ _).mono ?_
     rintro e w7 ⟨rfl,ov7,dZ,Gs⟩
     obtain⟨MD,G7,c1,c1f,crl⟩:=k9.out.noteStep dZ Gs jj
     have hj6:j<6001:=by omega
     have GB:=jh.trans G7
     rw[List.append_assoc]at MD
     have GG:=hid MD
     have mA:=hid GB
     clear jI dZ Gs MD G7 GB jh
     go_wp2_with fail
     go_ret
     exact⟨mA.out,rfl,ov7,GG.out,by omega⟩
    | false=>
     rw[hk,if_neg (by simp)]at hS
     have oY:=rE.out f (by omega) w5 ov' j (D++acc) dp kB (by omega) (by omega)
     unfold Qac at oY
     generalize Qxb L f (.member dp) j=MR at *
     go_wp2_with fail
     refine(by exact oY:Calls _ _ _ _ _).mono ?_
     rintro e w6 ⟨mR,hm⟩
     have jh:=mw.trans mR
     clear oY mR mw kB
     cases MR with
     | ok q=>
      obtain⟨k,ds⟩:=q
      simp only at hm hS
      obtain⟨rfl,ov6,ms,oM⟩:=hm
      rw[List.append_assoc]at ms
      have HS:=hid hS
      clear hS
      go_wp2_with fail
      go_roundg (gk-1)
      case measure=>omega
      case rel=>
       refine⟨k,acc++ds,ov6,?_,by omega,by omega,by omega,ms,jh⟩
       rw[hf,Nat.add_sub_cancel]
       exact HS
     | error q=>
      obtain⟨k,c⟩:=q
      simp only at hm hS
      obtain⟨rfl,ov6,Hj⟩:=hm
      subst hS
      go_wp2_with fail
      go_ret
      exact⟨jh,rfl,ov6,Hj⟩
 | false=>
  rw[hk,if_neg (by simp)]at He
  subst He
  have Hk:=kA.out w2 Gq
  unfold QTc at Hk
  rw[hk]at Hk
  go_wp2_with fail
  refine(by exact Hk:Calls _ _ _ _ _).mono ?_
  rintro e w3 ⟨rfl,Hd,_,vI⟩
  have Hy:=vI (by trivial)
  have gm:=HH.out.below ((k02.mono (S:=(· = r)) (fun _ _ e=>e.elim)).trans Hd (S:=(· = r)) (fun _ _ e=>e))
  clear Hk vI Hd
  go_wp2_with fail
  go_ret
  exact⟨gm,rfl,ov,Hy⟩
set_option maxRecDepth 100000 in
theorem QEl(r base:Nat)(file:Int)(L:List Tok)(lv:Value)(n:Nat)(hB:Qtn r base file L lv n)(hNm:QRl r base file L lv n):Qsj r base file L lv (n+1):=by
 intro w ov i D dp h hn mF
 have qT:=hid hB
 have ww:=hid hNm
 have Ks:=hid h.ok
 have jS:=h.lt
 have jW:=h.holds.lt
 have Ga:=h.ok.len
 have fT:=h.cnt
 have HH:=hid h
 have He:∃R,Qxb L (n+1) (.member dp) i=R:=⟨_,rfl⟩
 obtain⟨RR,He⟩:=He
 rw[He]
 rw[Qxb]at He
 have gF:=QOc w r base file L lv ov i D h
 have Jd:=hid (fun wx hx=>Q1c wx r base file L lv ov i D hx 5 (by decide) 53 Qra Qpc)
 have J0:Qja L 5 Qra i=if (tkN L i).kind=5 then(if Qra (tkN L i).text=true then .ok (i+1)else .error (i,1))else .error (i,6):=rfl
 have ep:=hid (fun wx hx gE=>QOd wx r base file L lv ov i D hx 4 1 [] 125 Q5b QSg (by decide) gE (by decide))
 have jr:=hid (fun wx hx gE=>QOd wx r base file L lv ov i D hx 5 1 [] 123 Q1a QLe (by decide) gE (by decide))
 have Gz:=hid (fun wx hx=>QNc wx r base file L lv ov i D hx i 6)
 have je:=hid (fun s (hs:isK L i 7 s=true)=>show(tkN L i).kind≠8 from by
  unfold isK at hs
  simp only[Bool.and_eq_true,decide_eq_true_eq]at hs
  rw[hs.1];decide)
 have j7:=hid (fun(wx:World) (hx:QUa wx r base file L lv ov i D) (h1:(tkN L i).kind=1)=>ww.out wx ov i D dp hx h1 (by omega) (by omega))
 rw[J0]at He
 unfold Q7c at Jd
 rw[J0]at Jd
 unfold txN at He
 unfold Qfb at gF Jd Gz j7
 clear J0 hB hNm h
 obtain⟨t,G0⟩:∃t,t=tkN L i:=⟨_,rfl⟩
 rw[←G0]at gF Jd Gz j7 je ep jr He
 have gA:=hid G0
 clear G0
 obtain⟨t0,t1,t2,t3,t4⟩:=t
 simp only at gF Jd Gz j7 je ep jr He
 go_enter Tryz.func95,Tryz.ntmps95
 go_wp2_with fail
 refine(by exact gF:Calls _ _ _ _ _).mono ?_
 rintro e w1 ⟨rfl,Hf⟩
 have kb1:Qaa (fun _=>False) w (w1.alloc (.cells #[.int .i64 t0,.string ⟨t1.toArray⟩,.int .i64 t2,.int .i64 file,.int .i64 t3,.int .i64 t4] 65)):=(Qaa.of_fresh Hf (fun _=>False)).alloc _
 have Gp:=HH.out.keeps kb1
 have jg:=Qca.new w1 #[.int .i64 t0,.string ⟨t1.toArray⟩,.int .i64 t2,.int .i64 file,.int .i64 t3,.int .i64 t4] 65
 have KX:=HH.out.below (kb1.mono (S:=(· = r)) (fun _ _ e=>e.elim))
 have K6:w1.heap.size≠r:=by have:=Hf.size;omega
 obtain⟨m0,m1,m2,m3,m4,m5⟩:=Qga jg
 clear gF Hf kb1
 by_cases h5:t0=5
 ·subst h5
  rw[if_pos rfl]at He
  cases hg:Qra t1 with
  | false=>
   simp only[hg,Bool.false_eq_true,reduceIte]at He
   subst He
   have G0:=Jd.out _ Gp
   simp only[hg,Bool.false_eq_true,reduceIte]at G0
   have MN:=hid Gp
   clear Gp jg
   go_wp2_with fail
   refine(by exact G0:Calls _ _ _ _ _).mono ?_
   rintro e w3 ⟨Hd,rfl,Hj⟩
   have k8:=(KX.trans (MN.out.below Hd)).alloc (Nat.le_trans MN.out.size Hd.size) (.cells #[.int .i64 5,.string ⟨t1.toArray⟩,.int .i64 t2,.int .i64 file,.int .i64 t3,.int .i64 t4] 65)
   have KH:=Hj.alloc (.cells #[.int .i64 5,.string ⟨t1.toArray⟩,.int .i64 t2,.int .i64 file,.int .i64 t3,.int .i64 t4] 65)
   clear G0 Hj Hd
   go_wp2_with fail
   go_ret
   exact⟨k8,rfl,ov,KH⟩
  | true=>
   simp only[hg,reduceIte]at He
   have G0:=Jd.out _ Gp
   simp only[hg,reduceIte]at G0
   have MN:=hid Gp
   have ch:=hid jg
   clear Gp jg
   go_wp2_with fail
   refine(by exact G0:Calls _ _ _ _ _).mono ?_
   rintro e w3 ⟨Hd,rfl,Hy⟩
   have k8:=(KX.trans (MN.out.below Hd)).alloc (Nat.le_trans MN.out.size Hd.size) (.cells #[.int .i64 5,.string ⟨t1.toArray⟩,.int .i64 t2,.int .i64 file,.int .i64 t3,.int .i64 t4] 65)
   have Gn:=Hy.alloc (.cells #[.int .i64 5,.string ⟨t1.toArray⟩,.int .i64 t2,.int .i64 file,.int .i64 t3,.int .i64 t4] 65)
   have mO:=(ch.out.keeps Hd K6).alloc (.cells #[.int .i64 5,.string ⟨t1.toArray⟩,.int .i64 t2,.int .i64 file,.int .i64 t3,.int .i64 t4] 65)
   have jH:w1.heap.size<w3.heap.size:=by have:=(ch.out.keeps Hd K6).lt;exact this
   have dF:=Q1c _ r base file L lv ov (i+1) D Gn 1 (by decide) 123 Q1a QLe
   have sI:=hid (fun j=>Qhj (L:=L) (kind:=1) (right:=Q1a) (i:=i+1) (j:=j))
   unfold Q7c Qfb at dF
   have Mf:=hid Gn
   have K8:=hid mO
   clear G0 Hy Gn mO Hd KX m0 m1 m2 m3 m4 m5
   generalize Qja L 1 Q1a (i+1)=TR at *
   generalize tkN L (i+1)=s at *
   obtain⟨s0,s1,s2,s3,s4⟩:=s
   simp only at dF He
   go_wp2_with fail
   refine(by exact dF:Calls _ _ _ _ _).mono ?_
   rintro e w5 ⟨Hs,hm⟩
   have kH:=(k8.trans (Mf.out.below Hs)).alloc (Nat.le_trans Mf.out.size Hs.size) (.cells #[.int .i64 s0,.string ⟨s1.toArray⟩,.int .i64 s2,.int .i64 file,.int .i64 s3,.int .i64 s4] 65)
   have me:=(K8.out.keeps Hs K6).alloc (.cells #[.int .i64 s0,.string ⟨s1.toArray⟩,.int .i64 s2,.int .i64 file,.int .i64 s3,.int .i64 s4] 65)
   have vf:=Qca.new w5 #[.int .i64 s0,.string ⟨s1.toArray⟩,.int .i64 s2,.int .i64 file,.int .i64 s3,.int .i64 s4] 65
   obtain⟨m0,m1,m2,m3,m4,m5⟩:=Qga me
   obtain⟨n0,n1,n2,n3,n4,n5⟩:=Qga vf
   clear dF me vf k8 Hs
   cases TR with
   | error q=>
    obtain⟨k,c⟩:=q
    simp only at hm He
    obtain⟨rfl,Hj⟩:=hm
    subst He
    have KH:=Hj.alloc (.cells #[.int .i64 s0,.string ⟨s1.toArray⟩,.int .i64 s2,.int .i64 file,.int .i64 s3,.int .i64 s4] 65)
    clear Hj
    go_wp2_with fail
    go_ret
    exact⟨kH,rfl,ov,KH⟩
   | ok j=>
    simp only at hm He
    obtain⟨rfl,kB⟩:=hm
    have hj:=sI.out j rfl
    subst hj
    have ms:=kB.alloc (.cells #[.int .i64 s0,.string ⟨s1.toArray⟩,.int .i64 s2,.int .i64 file,.int .i64 s3,.int .i64 s4] 65)
    obtain⟨dq,oy⟩:∃z,z=dp+1:=⟨_,rfl⟩
    have fU:(dp:Int)+1=(dq:Int):=by omega
    have oz:dq≤100:=by omega
    rw[←oy]at He
    clear oy
    have Hm:=qT.out _ ov (i+1+1) D ⟨1,⟨t1.toArray⟩,⟨s1.toArray⟩,[],t3,t4⟩ dq ms rfl (by omega) oz
    unfold QXb Qac at Hm
    generalize Qxb L n (.body ⟨1,⟨t1.toArray⟩,⟨s1.toArray⟩,[],t3,t4⟩ dq) (i+1+1)=BR at *
    clear kB ms
    go_wp2_with fail
    refine(by exact Hm:Calls _ _ _ _ _).mono ?_
    rintro e wd ⟨KI,hm⟩
    have M7:=kH.trans KI
    clear Hm kH KI
    cases BR with
    | ok q=>
     obtain⟨m,ds⟩:=q
     simp only at hm He
     obtain⟨rfl,ovd,K3,ai⟩:=hm
     have Hk:=Qed wd r base file L lv ovd m _ K3 [59]
     unfold QTc at Hk
     try unfold Qwb at He
     have Jv:=hid K3
     have Jx:=hid M7
     clear K3 M7
     cases hq:isK L m 4 [59]with
     | true=>
      rw[hq,if_pos rfl]at He
      simp only at He
      subst He
      rw[hq]at Hk
      go_wp2_with fail
      refine(by exact Hk:Calls _ _ _ _ _).mono ?_
      rintro e wq ⟨rfl,KO,hy,_⟩
      have MY:=hy (by trivial)
      have M8:=Jx.out.trans (Jv.out.below KO)
      clear Hk hy KO
      go_wp2_with fail
      go_ret
      exact⟨M8,rfl,ovd,MY,by omega⟩
     | false=>
      rw[hq,if_neg (by simp)]at He
      simp only at He
      subst He
      rw[hq]at Hk
      go_wp2_with fail
      refine(by exact Hk:Calls _ _ _ _ _).mono ?_
      rintro e wq ⟨rfl,KO,_,hy⟩
      have MY:=hy (by trivial)
      have M8:=Jx.out.trans (Jv.out.below KO)
      clear Hk hy KO
      go_wp2_with fail
      go_ret
      exact⟨M8,rfl,ovd,MY⟩
    | error q=>
     obtain⟨k,c⟩:=q
     simp only at hm He
     obtain⟨rfl,ovd,Hj⟩:=hm
     subst He
     go_wp2_with fail
     go_ret
     exact⟨M7,rfl,ovd,Hj⟩
 ·rw[if_neg h5]at He
  by_cases h1:t0=1
  ·subst h1
   rw[if_pos rfl]at He
   have Hm:=j7.out _ Gp rfl
   unfold Qac at Hm
   generalize Qxb L n (.named dp) i=BR at *
   have ch:=hid jg
   clear jg Gp
   go_wp2_with fail
   refine(by exact Hm:Calls _ _ _ _ _).mono ?_
   rintro e wd ⟨KI,hm⟩
   have M7:=KX.trans KI
   clear Hm KX KI
   cases BR with
   | ok q=>
    obtain⟨m,ds⟩:=q
    simp only at hm He
    obtain⟨rfl,ovd,K3,ai⟩:=hm
    have Hk:=Qed wd r base file L lv ovd m _ K3 [59]
    unfold QTc at Hk
    try unfold Qwb at He
    have Jv:=hid K3
    have Jx:=hid M7
    clear K3 M7
    cases hq:isK L m 4 [59]with
    | true=>
     rw[hq,if_pos rfl]at He
     simp only at He
     subst He
     rw[hq]at Hk
     go_wp2_with fail
     refine(by exact Hk:Calls _ _ _ _ _).mono ?_
     rintro e wq ⟨rfl,KO,hy,_⟩
     have MY:=hy (by trivial)
     have M8:=Jx.out.trans (Jv.out.below KO)
     clear Hk hy KO
     go_wp2_with fail
     go_ret
     exact⟨M8,rfl,ovd,MY,by omega⟩
    | false=>
     rw[hq,if_neg (by simp)]at He
     simp only at He
     subst He
     rw[hq]at Hk
     go_wp2_with fail
     refine(by exact Hk:Calls _ _ _ _ _).mono ?_
     rintro e wq ⟨rfl,KO,_,hy⟩
     have MY:=hy (by trivial)
     have M8:=Jx.out.trans (Jv.out.below KO)
     clear Hk hy KO
     go_wp2_with fail
     go_ret
     exact⟨M8,rfl,ovd,MY⟩
   | error q=>
    obtain⟨k,c⟩:=q
    simp only at hm He
    obtain⟨rfl,ovd,Hj⟩:=hm
    subst He
    go_wp2_with fail
    go_ret
    exact⟨M7,rfl,ovd,Hj⟩
  ·rw[if_neg h1]at He
   have G3:=Qdd _ r base file L lv ov i D Gp 7 [100,101,108,101,116,101,45,112,114,111,112,101,114,116,121]
   go_wp2_with fail
   refine(by exact G3:Calls _ _ _ _ _).mono ?_
   rintro e w2 ⟨rfl,Ho⟩
   have kb2:Qaa (fun _=>False) _ w2:=Qaa.of_fresh Ho _
   have Gq:=Gp.keeps kb2
   have G1:=jg.keeps kb2 (fun e=>e)
   have Mp:=KX.trans (Gp.below (kb2.mono (S:=(· = r)) (fun _ _ e=>e.elim)))
   clear G3 Ho kb2 Gp jg KX
   cases hk:isK L i 7 [100,101,108,101,116,101,45,112,114,111,112,101,114,116,121]with
   | true=>
    rw[hk,if_pos rfl]at He
    have Hm:=ep.out _ Gq (je.out _ hk)
    rw[He]at Hm
    unfold Qac at Hm ⊢
    clear He hk
    go_wp2_with fail
    refine(by exact Hm:Calls _ _ _ _ _).mono ?_
    rintro e w3 ⟨gm,hm⟩
    have k8:=Mp.trans gm
    clear Hm
    cases RR with
    | ok q=>
     obtain⟨j,ds⟩:=q
     simp only at hm
     obtain⟨rfl,ovd,K3,ai⟩:=hm
     go_wp2_with fail
     go_ret
     exact⟨k8,rfl,ovd,K3,ai⟩
    | error q=>
     obtain⟨k,c⟩:=q
     simp only at hm
     obtain⟨rfl,ovd,Hj⟩:=hm
     go_wp2_with fail
     go_ret
     exact⟨k8,rfl,ovd,Hj⟩
   | false=>
    rw[hk,if_neg (by simp)]at He
    have G3:=Qdd _ r base file L lv ov i D Gq 7 [100,101,108,101,116,101,45,110,111,100,101]
    go_wp2_with fail
    refine(by exact G3:Calls _ _ _ _ _).mono ?_
    rintro e w4 ⟨rfl,mQ⟩
    have kb4:Qaa (fun _=>False) _ w4:=Qaa.of_fresh mQ _
    have Gn:=Gq.keeps kb4
    have mO:=G1.keeps kb4 (fun e=>e)
    have jd:=Mp.trans (Gq.below (kb4.mono (S:=(· = r)) (fun _ _ e=>e.elim)))
    clear G3 mQ kb4 Gq G1 Mp hk
    cases hk:isK L i 7 [100,101,108,101,116,101,45,110,111,100,101]with
    | true=>
     rw[hk,if_pos rfl]at He
     have Hm:=jr.out _ Gn (je.out _ hk)
     rw[He]at Hm
     unfold Qac at Hm ⊢
     clear He hk
     go_wp2_with fail
     refine(by exact Hm:Calls _ _ _ _ _).mono ?_
     rintro e w5 ⟨Kx,hm⟩
     have kH:=jd.trans Kx
     clear Hm
     cases RR with
     | ok q=>
      obtain⟨j,ds⟩:=q
      simp only at hm
      obtain⟨rfl,ovd,K3,ai⟩:=hm
      go_wp2_with fail
      go_ret
      exact⟨kH,rfl,ovd,K3,ai⟩
     | error q=>
      obtain⟨k,c⟩:=q
      simp only at hm
      obtain⟨rfl,ovd,Hj⟩:=hm
      go_wp2_with fail
      go_ret
      exact⟨kH,rfl,ovd,Hj⟩
    | false=>
     rw[hk,if_neg (by simp)]at He
     subst He
     have KM:=Gz.out _ Gn
     obtain⟨x0,x1,x2,x3,x4,x5⟩:=Qga mO
     have Mf:=hid Gn
     clear Gn mO
     go_wp2_with fail
     refine(by exact KM:Calls _ _ _ _ _).mono ?_
     rintro e w5 ⟨rfl,Hj,Hs⟩
     have kH:=jd.trans (Mf.out.below Hs)
     go_wp2_with fail
     go_ret
     exact⟨kH,rfl,ov,Hj⟩
theorem Qhq(r base:Nat)(file:Int)(L:List Tok)(lv:Value):∀n m,m≤n→Qtn r base file L lv m∧Qsj r base file L lv m∧QRl r base file L lv m:=by
 intro n
 induction n with
 | zero=>
  intro m hm
  obtain rfl:m=0:=by omega
  refine⟨fun w ov i D d dp h _ hn _=>?_,fun w ov i D dp h hn _=>?_,fun w ov i D dp h _ hn _=>?_⟩
  all_goals
   have:=h.lt
   omega
 | succ n ih=>
  intro m hm
  by_cases e:m=n+1
  ·subst e
   exact⟨QCo r base file L lv n (fun m hm=>(ih m (by omega)).2.1),QEl r base file L lv n (ih n (Nat.le_refl _)).1 (ih n (Nat.le_refl _)).2.2,Qkn r base file L lv n (ih n (Nat.le_refl _)).1⟩
  ·exact ih m (by omega)
theorem Q7d{r base:Nat}{file:Int}{L:List Tok}{lv:Value}{w:World}{ov:Value}{i:Nat}{D:List Qwa}(h:QUa w r base file L lv ov i D)(d:Qwa)(hd:d.parts=[]) :
 Calls Tryz.prog 55 #[.pointer (some ⟨r,0,none⟩),QXb file d (.slice none 0 0),.int .i64 0] w (Qac (Qxb L (QEc L) (.body d 0) i) r base file L lv i D w):=
 (Qhq r base file L lv (QEc L) _ (Nat.le_refl _)).1 w ov i D d 0 h hd (by unfold QEc;omega) (by omega)
set_option maxRecDepth 100000 in
theorem QEo(s:ByteArray)(w:World):Calls Tryz.prog 58 #[.string s] w fun e w'=>e = .returned (.bool true)∧w=w':=by
 go_enter Tryz.func58,Tryz.ntmps58
 go_wp2_with fail
 go_ret
 exact⟨rfl,rfl⟩
theorem QHl:Qbh 58 (fun _=>true):=⟨enters_of Tryz.func58 (by kernel_rfl) rfl,fun s w _=>QEo s w⟩
set_option maxRecDepth 100000 in
theorem Qjq(w:World)(r base:Nat)(file:Int)(L:List Tok)(lv ov:Value)(i:Nat)(D:List Qwa)(h:QUa w r base file L lv ov i D) :
 Calls Tryz.prog 29 #[.pointer (some ⟨r,0,none⟩)] w (Qac (Qrj L i) r base file L lv i D w):=by
 have Ks:=hid h.ok
 have jS:=h.lt
 have jW:=h.holds.lt
 have Ga:=h.ok.len
 have fT:=h.cnt
 have HH:=hid h
 have He:∃R,Qrj L i=R:=⟨_,rfl⟩
 obtain⟨RR,He⟩:=He
 rw[He]
 unfold Qrj at He
 have gF:=QOc w r base file L lv ov i D h
 have kU:=h.ok.at i
 have Jd:=hid (fun wx hx=>Q1c wx r base file L lv ov i D hx 5 (by decide) 53 Qra Qpc)
 have J0:Qja L 5 Qra i=if (tkN L i).kind=5 then(if Qra (tkN L i).text=true then .ok (i+1)else .error (i,1))else .error (i,6):=rfl
 have eW:=hid (fun wx hx=>Q1c wx r base file L lv ov i D hx 6 (by decide) 53 Qra Qpc)
 have iG:Qja L 6 Qra i=if (tkN L i).kind=6 then(if Qra (tkN L i).text=true then .ok (i+1)else .error (i,1))else .error (i,6):=rfl
 have ep:=hid (fun wx hx gE=>QOd wx r base file L lv ov i D hx 6 3 [] 58 (fun _=>true) QHl (by decide) gE (by decide))
 have jr:=hid (fun wx hx gE=>QOd wx r base file L lv ov i D hx 5 6 [38] 53 Qra Qpc (by decide) gE (by decide))
 have Gz:=hid (fun wx hx=>QNc wx r base file L lv ov i D hx i 6)
 have je:=hid (fun s (hs:isK L i 7 s=true)=>show(tkN L i).kind≠8 from by
  unfold isK at hs
  simp only[Bool.and_eq_true,decide_eq_true_eq]at hs
  rw[hs.1];decide)
 have cY:=Qta [38] (tkN L i).text (by simp;omega)
 unfold QSc at cY
 rw[J0,iG]at He
 unfold Q7c at Jd eW
 rw[J0]at Jd
 rw[iG]at eW
 unfold txN Q6l at He
 unfold Qfb at gF Jd eW Gz
 clear J0 iG h
 obtain⟨t,G0⟩:∃t,t=tkN L i:=⟨_,rfl⟩
 rw[←G0]at gF Jd eW Gz je ep jr He cY kU
 have gA:=hid G0
 clear G0
 obtain⟨t0,t1,t2,t3,t4⟩:=t
 simp only at gF Jd eW Gz je ep jr He cY kU
 go_enter Tryz.func29,Tryz.ntmps29
 go_wp2_with fail
 refine(by exact gF:Calls _ _ _ _ _).mono ?_
 rintro e w1 ⟨rfl,Hf⟩
 have kb1:Qaa (fun _=>False) w (w1.alloc (.cells #[.int .i64 t0,.string ⟨t1.toArray⟩,.int .i64 t2,.int .i64 file,.int .i64 t3,.int .i64 t4] 65)):=(Qaa.of_fresh Hf (fun _=>False)).alloc _
 have Gp:=HH.out.keeps kb1
 have jg:=Qca.new w1 #[.int .i64 t0,.string ⟨t1.toArray⟩,.int .i64 t2,.int .i64 file,.int .i64 t3,.int .i64 t4] 65
 have KX:=HH.out.below (kb1.mono (S:=(· = r)) (fun _ _ e=>e.elim))
 have K6:w1.heap.size≠r:=by have:=Hf.size;omega
 obtain⟨m0,m1,m2,m3,m4,m5⟩:=Qga jg
 clear gF Hf kb1
 by_cases h5:t0=5
 ·subst h5
  rw[if_pos rfl]at He
  cases hg:Qra t1 with
  | false=>
   simp only[hg,Bool.false_eq_true,reduceIte]at He
   subst He
   have G0:=Jd.out _ Gp
   simp only[hg,Bool.false_eq_true,reduceIte]at G0
   have MN:=hid Gp
   clear Gp jg
   go_wp2_with fail
   refine(by exact G0:Calls _ _ _ _ _).mono ?_
   rintro e w3 ⟨Hd,rfl,Hj⟩
   have k8:=(KX.trans (MN.out.below Hd)).alloc (Nat.le_trans MN.out.size Hd.size) (.cells #[.int .i64 5,.string ⟨t1.toArray⟩,.int .i64 t2,.int .i64 file,.int .i64 t3,.int .i64 t4] 65)
   have KH:=Hj.alloc (.cells #[.int .i64 5,.string ⟨t1.toArray⟩,.int .i64 t2,.int .i64 file,.int .i64 t3,.int .i64 t4] 65)
   clear G0 Hj Hd
   go_wp2_with fail
   go_ret
   exact⟨k8,rfl,ov,KH⟩
  | true=>
   simp only[hg,reduceIte]at He
   have G0:=Jd.out _ Gp
   simp only[hg,reduceIte]at G0
   have MN:=hid Gp
   have ch:=hid jg
   clear Gp jg
   go_wp2_with fail
   refine(by exact G0:Calls _ _ _ _ _).mono ?_
   rintro e w3 ⟨Hd,rfl,Hy⟩
   have k8:=(KX.trans (MN.out.below Hd)).alloc (Nat.le_trans MN.out.size Hd.size) (.cells #[.int .i64 5,.string ⟨t1.toArray⟩,.int .i64 t2,.int .i64 file,.int .i64 t3,.int .i64 t4] 65)
   have Gn:=Hy.alloc (.cells #[.int .i64 5,.string ⟨t1.toArray⟩,.int .i64 t2,.int .i64 file,.int .i64 t3,.int .i64 t4] 65)
   have mO:=(ch.out.keeps Hd K6).alloc (.cells #[.int .i64 5,.string ⟨t1.toArray⟩,.int .i64 t2,.int .i64 file,.int .i64 t3,.int .i64 t4] 65)
   have jH:w1.heap.size<w3.heap.size:=by have:=(ch.out.keeps Hd K6).lt;exact this
   have KR:=Qed _ r base file L lv ov (i+1) D Gn [47]
   unfold QTc at KR
   unfold Qwb at He
   have Mf:=hid Gn
   have K8:=hid mO
   clear G0 Hy Gn mO Hd KX m0 m1 m2 m3 m4 m5
   cases hs:isK L (i+1) 4 [47]with
   | false=>
    simp only[hs,Bool.false_eq_true,reduceIte]at He
    subst He
    rw[hs]at KR
    go_wp2_with fail
    refine(by exact KR:Calls _ _ _ _ _).mono ?_
    rintro e w5 ⟨rfl,Hs,_,hy⟩
    have Hj:=hy (by trivial)
    have kH:=k8.trans (Mf.out.below Hs)
    clear KR hy Hs
    go_wp2_with fail
    go_ret
    exact⟨kH,rfl,ov,Hj⟩
   | true=>
    simp only[hs,reduceIte]at He
    rw[hs]at KR
    go_wp2_with fail
    refine(by exact KR:Calls _ _ _ _ _).mono ?_
    rintro e w5 ⟨rfl,Hs,hy,_⟩
    have kB:=hy (by trivial)
    have kH:=k8.trans (Mf.out.below Hs)
    have M0:=K8.out.keeps Hs K6
    have jG:w1.heap.size<w5.heap.size:=M0.lt
    obtain⟨m0,m1,m2,m3,m4,m5⟩:=Qga M0
    have Hm:=Q7d kB ⟨1,⟨t1.toArray⟩,⟨#[47]⟩,[],t3,t4⟩ rfl
    unfold QXb Qac at Hm
    generalize Qxb L (QEc L) (.body ⟨1,⟨t1.toArray⟩,⟨#[47]⟩,[],t3,t4⟩ 0) (i+1+1)=BR at *
    clear KR hy Hs M0 kB
    go_wp2_with fail
    refine(by exact Hm:Calls _ _ _ _ _).mono ?_
    rintro e wd ⟨KI,hm⟩
    have M7:=kH.trans KI
    clear Hm kH KI
    cases BR with
    | ok q=>
     obtain⟨m,ds⟩:=q
     simp only at hm He
     obtain⟨rfl,ovd,K3,ai⟩:=hm
     have Hk:=Qed wd r base file L lv ovd m _ K3 [59]
     unfold QTc at Hk
     try unfold Qwb at He
     have Jv:=hid K3
     have Jx:=hid M7
     clear K3 M7
     cases hq:isK L m 4 [59]with
     | true=>
      rw[hq,if_pos rfl]at He
      simp only at He
      subst He
      rw[hq]at Hk
      go_wp2_with fail
      refine(by exact Hk:Calls _ _ _ _ _).mono ?_
      rintro e wq ⟨rfl,KO,hy,_⟩
      have MY:=hy (by trivial)
      have M8:=Jx.out.trans (Jv.out.below KO)
      clear Hk hy KO
      go_wp2_with fail
      go_ret
      exact⟨M8,rfl,ovd,MY,by omega⟩
     | false=>
      rw[hq,if_neg (by simp)]at He
      simp only at He
      subst He
      rw[hq]at Hk
      go_wp2_with fail
      refine(by exact Hk:Calls _ _ _ _ _).mono ?_
      rintro e wq ⟨rfl,KO,_,hy⟩
      have MY:=hy (by trivial)
      have M8:=Jx.out.trans (Jv.out.below KO)
      clear Hk hy KO
      go_wp2_with fail
      go_ret
      exact⟨M8,rfl,ovd,MY⟩
    | error q=>
     obtain⟨k,c⟩:=q
     simp only at hm He
     obtain⟨rfl,ovd,Hj⟩:=hm
     subst He
     go_wp2_with fail
     go_ret
     exact⟨M7,rfl,ovd,Hj⟩
 ·rw[if_neg h5]at He
  have G3:=Qdd _ r base file L lv ov i D Gp 4 [47]
  go_wp2_with fail
  refine(by exact G3:Calls _ _ _ _ _).mono ?_
  rintro e w2 ⟨rfl,Ho⟩
  have kb2:Qaa (fun _=>False) _ w2:=Qaa.of_fresh Ho _
  have Gq:=Gp.keeps kb2
  have G1:=jg.keeps kb2 (fun e=>e)
  have Mp:=KX.trans (Gp.below (kb2.mono (S:=(· = r)) (fun _ _ e=>e.elim)))
  clear G3 Ho kb2 Gp jg KX m0 m1 m2 m3 m4 m5
  obtain⟨m0,m1,m2,m3,m4,m5⟩:=Qga G1
  have kp:=G1.lt
  cases hk:isK L i 4 [47]with
  | true=>
   rw[hk,if_pos rfl]at He
   obtain⟨Hy,k3⟩:=Gq.step (QHd Ks.out jS hk (by decide))
   have kc:=G1.keeps k3 K6
   obtain⟨c1,c1f,crl,_⟩:=Gq.at1
   have k8:=Mp.trans (Gq.below k3)
   obtain⟨x0,x1,x2,x3,x4,x5⟩:=Qga kc
   have Hm:=Q7d Hy ⟨1,⟨#[]⟩,⟨#[47]⟩,[],t3,t4⟩ rfl
   unfold QXb Qac at Hm
   generalize Qxb L (QEc L) (.body ⟨1,⟨#[]⟩,⟨#[47]⟩,[],t3,t4⟩ 0) (i+1)=BR at *
   clear Hy k3 kc Gq G1 Mp
   go_wp2_with fail
   refine(by exact Hm:Calls _ _ _ _ _).mono ?_
   rintro e wd ⟨KI,hm⟩
   have M7:=k8.trans KI
   clear Hm k8 KI
   cases BR with
   | ok q=>
    obtain⟨m,ds⟩:=q
    simp only at hm He
    obtain⟨rfl,ovd,K3,ai⟩:=hm
    have Hk:=Qed wd r base file L lv ovd m _ K3 [59]
    unfold QTc at Hk
    try unfold Qwb at He
    have Jv:=hid K3
    have Jx:=hid M7
    clear K3 M7
    cases hq:isK L m 4 [59]with
    | true=>
     rw[hq,if_pos rfl]at He
     simp only at He
     subst He
     rw[hq]at Hk
     go_wp2_with fail
     refine(by exact Hk:Calls _ _ _ _ _).mono ?_
     rintro e wq ⟨rfl,KO,hy,_⟩
     have MY:=hy (by trivial)
     have M8:=Jx.out.trans (Jv.out.below KO)
     clear Hk hy KO
     go_wp2_with fail
     go_ret
     exact⟨M8,rfl,ovd,MY,by omega⟩
    | false=>
     rw[hq,if_neg (by simp)]at He
     simp only at He
     subst He
     rw[hq]at Hk
     go_wp2_with fail
     refine(by exact Hk:Calls _ _ _ _ _).mono ?_
     rintro e wq ⟨rfl,KO,_,hy⟩
     have MY:=hy (by trivial)
     have M8:=Jx.out.trans (Jv.out.below KO)
     clear Hk hy KO
     go_wp2_with fail
     go_ret
     exact⟨M8,rfl,ovd,MY⟩
   | error q=>
    obtain⟨k,c⟩:=q
    simp only at hm He
    obtain⟨rfl,ovd,Hj⟩:=hm
    subst He
    go_wp2_with fail
    go_ret
    exact⟨M7,rfl,ovd,Hj⟩
  | false=>
   rw[hk,if_neg (by simp)]at He
   clear hk
   by_cases h6:t0=6
   ·subst h6
    rw[if_pos rfl]at He
    cases hg:Qra t1 with
    | false=>
     simp only[hg,Bool.false_eq_true,reduceIte]at He
     subst He
     have G0:=eW.out _ Gq
     simp only[hg,Bool.false_eq_true,reduceIte]at G0
     have Mq:=hid Gq
     clear Gq G1
     go_wp2_with fail
     refine(by exact G0:Calls _ _ _ _ _).mono ?_
     rintro e w3 ⟨Hd,rfl,Hj⟩
     have k8:=(Mp.trans (Mq.out.below Hd)).alloc (Nat.le_trans Mq.out.size Hd.size) (.cells #[.int .i64 6,.string ⟨t1.toArray⟩,.int .i64 t2,.int .i64 file,.int .i64 t3,.int .i64 t4] 65)
     have KH:=Hj.alloc (.cells #[.int .i64 6,.string ⟨t1.toArray⟩,.int .i64 t2,.int .i64 file,.int .i64 t3,.int .i64 t4] 65)
     clear G0 Hj Hd
     go_wp2_with fail
     go_ret
     exact⟨k8,rfl,ov,KH⟩
    | true=>
     simp only[hg,reduceIte]at He
     have G0:=eW.out _ Gq
     simp only[hg,reduceIte]at G0
     have Mq:=hid Gq
     have aC:=hid G1
     clear Gq G1
     go_wp2_with fail
     refine(by exact G0:Calls _ _ _ _ _).mono ?_
     rintro e w3 ⟨Hd,rfl,Hy⟩
     have k8:=(Mp.trans (Mq.out.below Hd)).alloc (Nat.le_trans Mq.out.size Hd.size) (.cells #[.int .i64 6,.string ⟨t1.toArray⟩,.int .i64 t2,.int .i64 file,.int .i64 t3,.int .i64 t4] 65)
     have Gn:=Hy.alloc (.cells #[.int .i64 6,.string ⟨t1.toArray⟩,.int .i64 t2,.int .i64 file,.int .i64 t3,.int .i64 t4] 65)
     have mO:=(aC.out.keeps Hd K6).alloc (.cells #[.int .i64 6,.string ⟨t1.toArray⟩,.int .i64 t2,.int .i64 file,.int .i64 t3,.int .i64 t4] 65)
     obtain⟨x0,x1,x2,x3,x4,x5⟩:=Qga mO
     have qE:=mO.lt
     have Hm:=Q7d Gn ⟨1,⟨#[]⟩,⟨(38::t1).toArray⟩,[],t3,t4⟩ rfl
     unfold QXb Qac at Hm
     generalize Qxb L (QEc L) (.body ⟨1,⟨#[]⟩,⟨(38::t1).toArray⟩,[],t3,t4⟩ 0) (i+1)=BR at *
     rw[show([38]++t1:List UInt8)=38::t1 from rfl]at cY
     generalize (38::t1:List UInt8)=nm at *
     clear G0 Hy Gn mO Hd Mp m0 m1 m2 m3 m4 m5
     go_wp2_with fail
     refine(by exact Hm:Calls _ _ _ _ _).mono ?_
     rintro e wd ⟨KI,hm⟩
     have M7:=k8.trans KI
     clear Hm k8 KI
     cases BR with
     | ok q=>
      obtain⟨m,ds⟩:=q
      simp only at hm He
      obtain⟨rfl,ovd,K3,ai⟩:=hm
      have Hk:=Qed wd r base file L lv ovd m _ K3 [59]
      unfold QTc at Hk
      try unfold Qwb at He
      have Jv:=hid K3
      have Jx:=hid M7
      clear K3 M7
      cases hq:isK L m 4 [59]with
      | true=>
       rw[hq,if_pos rfl]at He
       simp only at He
       subst He
       rw[hq]at Hk
       go_wp2_with fail
       refine(by exact Hk:Calls _ _ _ _ _).mono ?_
       rintro e wq ⟨rfl,KO,hy,_⟩
       have MY:=hy (by trivial)
       have M8:=Jx.out.trans (Jv.out.below KO)
       clear Hk hy KO
       go_wp2_with fail
       go_ret
       exact⟨M8,rfl,ovd,MY,by omega⟩
      | false=>
       rw[hq,if_neg (by simp)]at He
       simp only at He
       subst He
       rw[hq]at Hk
       go_wp2_with fail
       refine(by exact Hk:Calls _ _ _ _ _).mono ?_
       rintro e wq ⟨rfl,KO,_,hy⟩
       have MY:=hy (by trivial)
       have M8:=Jx.out.trans (Jv.out.below KO)
       clear Hk hy KO
       go_wp2_with fail
       go_ret
       exact⟨M8,rfl,ovd,MY⟩
     | error q=>
      obtain⟨k,c⟩:=q
      simp only at hm He
      obtain⟨rfl,ovd,Hj⟩:=hm
      subst He
      go_wp2_with fail
      go_ret
      exact⟨M7,rfl,ovd,Hj⟩
   ·rw[if_neg h6]at He
    have vz:=Qdd _ r base file L lv ov i D Gq 7 [105,110,99,108,117,100,101]
    go_wp2_with fail
    refine(by exact vz:Calls _ _ _ _ _).mono ?_
    rintro e w3 ⟨rfl,gm⟩
    have kb3:Qaa (fun _=>False) _ w3:=Qaa.of_fresh gm _
    have Hy:=Gq.keeps kb3
    have kc:=G1.keeps kb3 (fun e=>e)
    have k8:=Mp.trans (Gq.below (kb3.mono (S:=(· = r)) (fun _ _ e=>e.elim)))
    clear vz gm kb3 Gq G1 Mp
    cases hk:isK L i 7 [105,110,99,108,117,100,101]with
    | true=>
     rw[hk,if_pos rfl]at He
     have Hm:=ep.out _ Hy (je.out _ hk)
     rw[He]at Hm
     unfold Qac at Hm ⊢
     clear He hk
     go_wp2_with fail
     refine(by exact Hm:Calls _ _ _ _ _).mono ?_
     rintro e w9 ⟨GB,hm⟩
     have pN:=k8.trans GB
     clear Hm
     cases RR with
     | ok q=>
      obtain⟨j,ds⟩:=q
      simp only at hm
      obtain⟨rfl,ovd,K3,ai⟩:=hm
      go_wp2_with fail
      go_ret
      exact⟨pN,rfl,ovd,K3,ai⟩
     | error q=>
      obtain⟨k,c⟩:=q
      simp only at hm
      obtain⟨rfl,ovd,Hj⟩:=hm
      go_wp2_with fail
      go_ret
      exact⟨pN,rfl,ovd,Hj⟩
    | false=>
     rw[hk,if_neg (by simp)]at He
     clear hk
     have vA:=Qdd _ r base file L lv ov i D Hy 7 [100,101,108,101,116,101,45,110,111,100,101]
     go_wp2_with fail
     refine(by exact vA:Calls _ _ _ _ _).mono ?_
     rintro e w4 ⟨rfl,mQ⟩
     have kb4:Qaa (fun _=>False) _ w4:=Qaa.of_fresh mQ _
     have Gn:=Hy.keeps kb4
     have mO:=kc.keeps kb4 (fun e=>e)
     have jd:=k8.trans (Hy.below (kb4.mono (S:=(· = r)) (fun _ _ e=>e.elim)))
     clear vA mQ kb4 Hy kc k8
     cases hk:isK L i 7 [100,101,108,101,116,101,45,110,111,100,101]with
     | true=>
      rw[hk,if_pos rfl]at He
      have Hm:=jr.out _ Gn (je.out _ hk)
      rw[He]at Hm
      unfold Qac at Hm ⊢
      clear He hk
      go_wp2_with fail
      refine(by exact Hm:Calls _ _ _ _ _).mono ?_
      rintro e w9 ⟨GB,hm⟩
      have pN:=jd.trans GB
      clear Hm
      cases RR with
      | ok q=>
       obtain⟨j,ds⟩:=q
       simp only at hm
       obtain⟨rfl,ovd,K3,ai⟩:=hm
       go_wp2_with fail
       go_ret
       exact⟨pN,rfl,ovd,K3,ai⟩
      | error q=>
       obtain⟨k,c⟩:=q
       simp only at hm
       obtain⟨rfl,ovd,Hj⟩:=hm
       go_wp2_with fail
       go_ret
       exact⟨pN,rfl,ovd,Hj⟩
     | false=>
      rw[hk,if_neg (by simp)]at He
      clear hk
      subst He
      have KM:=Gz.out _ Gn
      obtain⟨x0,x1,x2,x3,x4,x5⟩:=Qga mO
      have Mf:=hid Gn
      clear Gn mO
      go_wp2_with fail
      refine(by exact KM:Calls _ _ _ _ _).mono ?_
      rintro e w5 ⟨rfl,Hj,Hs⟩
      have kH:=jd.trans (Mf.out.below Hs)
      go_wp2_with fail
      go_ret
      exact⟨kH,rfl,ov,Hj⟩
end Go.Proofs.YtofhcgbihonckaaGreat
