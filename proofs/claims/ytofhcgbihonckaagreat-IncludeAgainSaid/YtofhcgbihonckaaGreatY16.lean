/- The reader of source: note. | The reader of source: taken. | The reader of source: Primary at a place of the tokens. | The reader of source: bytes. | The reader of source: cells (printed by gsrcg.py). | The reader of source: part (printed by gsrch.py). | The reader of source: deletes. | The reader of source: named. | The reader of source: body. | The reader of source: member (printed by gsrcl.py). | The reader of source: all of its parts; top (printed by gsrcl.py). -/
import Derived.Test.YtofhcgbihonckaaGreatY15
import Derived.Deep.RegionLaw
import Derived.Deep.AppendLies
import Derived.Test.YtofhcgbihonckaaGreatY10
import Derived.Laws.IdiomStrings
import Derived.Test.YtofhcgbihonckaaGreatY17
set_option linter.all false
set_option maxHeartbeats 8000000
namespace Go.Proofs.YtofhcgbihonckaaGreat
open Go.Lib (hid)
open Go.RowKit
theorem Qnl:(Tryz.prog.info? 34).map (fun i=>(i.zero,i.size,i.bytes))=some (some (.agg #[.int .i64 0,.string ⟨#[]⟩,.string ⟨#[]⟩,.slice none 0 0,.int .i64 0,.int .i64 0,.int .i64 0]),7,88):=by kernel_rfl
def Q5b(file:Int)(d:Qra)(pv:Value):Value:=.agg #[.int .i64 d.kind,.string d.label,.string d.name,pv,.int .i64 file,.int .i64 d.line,.int .i64 d.col]
def QNc(file:Int)(d:Qra)(pv:Value):Array Value:=#[.int .i64 d.kind,.string d.label,.string d.name,pv,.int .i64 file,.int .i64 d.line,.int .i64 d.col]
theorem Qqa{w:World}{B:Nat}{x0 x1 x2 x3 x4 x5 x6:Value}{t:TypeId}(h:Qca w B #[x0,x1,x2,x3,x4,x5,x6] t) :
 w.cell? ⟨B,0,none⟩=some x0∧w.cell? ⟨B,1,none⟩=some x1∧w.cell? ⟨B,2,none⟩=some x2∧w.cell? ⟨B,3,none⟩=some x3∧w.cell? ⟨B,4,none⟩=some x4∧w.cell? ⟨B,5,none⟩=some x5∧w.cell? ⟨B,6,none⟩=some x6:=
 ⟨h.cell 0,h.cell 1,h.cell 2,h.cell 3,h.cell 4,h.cell 5,h.cell 6⟩
theorem QBa{w:World}{base:Nat}{e t:TypeId}{size:Nat}{v:Value}{n b:Nat}{xs:List Value}{cs:Array Value}(h:w.ownsRow base e size v n xs)(hH:Qca w b cs t)(Hq:t≠e):v.ownBlock≠some b:=by
 intro e2
 obtain⟨_,_,cur,h2⟩:=Qva h e2
 exact QSc hH h2 Hq rfl
theorem QFl{w w1 w8:World}{r base:Nat}{file:Int}{lv x ov fp v8:Value}{D:List Qra}{d:Qra}{pv:Value}{vs:List Value}{o:Obj}(h:QQk w r base file lv x ov fp D)(hp:Qia w base pv d.parts)(k1:Qaa (fun _=>False) w w1)
 (kI:vs.length=D.length) (Hb:w.ownsRow base 34 7 ov D.length (QFb file D vs)) (H9:∀k (h:k<D.length) (h2:k<vs.length),Qia w base vs[k] D[k].parts)
 (Hl:w8.ownsRow base 34 7 v8 (D.length+1) (QFb file D vs++[.int .i64 d.kind,.string d.label,.string d.name,pv,.int .i64 file,.int .i64 d.line,.int .i64 d.col])) (hg:(w1.alloc o).grownBy w8 ov.ownBlock) :
 r<w8.heap.size∧w8.frozen? ⟨r,2,none⟩=false∧w8.cell? ⟨r,2,none⟩=some ov∧QQk (w8.setCell ⟨r,2,none⟩ v8) r base file lv x v8 fp (D++[d])∧Qaa (fun b=>b=r∨ov.ownBlock=some b) w (w8.setCell ⟨r,2,none⟩ v8):=by
 have k2:Qaa (fun b=>ov.ownBlock=some b) w w8:=((k1.alloc o).mono (fun _ _ e=>e.elim)).grown hg (fun i e=>.inr e)
 have Hq:=QBa Hb h.1 (by decide)
 have h8:Qca w8 r #[lv,x,ov,fp] 63:=h.1.keeps k2 Hq
 have kK:∀{v:Value} {ps:List QRa},Qia w base v ps→Qia w8 base v ps:=by
  intro v ps Gx
  obtain⟨us,u1,u2,u3⟩:=Gx
  refine⟨us,u1,Qba u2 k2 (fun g cw e=>?_),fun j a b=>Qba (u3 j a b) k2 (fun g cw e=>?_)⟩
  ·obtain⟨_,_,cur,q⟩:=Qva Hb e
   exact QBa u2 q (by decide) cw
  ·obtain⟨_,_,cur,q⟩:=Qva Hb e
   exact QBa (u3 j a b) q (by decide) cw
 have h9:=h8.set 2 v8
 have k3:=(Qaa.refl (· = r) w8).setCell (p:=⟨r,2,none⟩) (.inr rfl) v8
 have ha:=QNa.one h8 (by decide) (by decide) (by decide)
 refine⟨h8.lt,h8.free 2,h8.cell 2,⟨h9,?_,h.2.2.1,Nat.le_trans h.2.2.2 (Nat.le_trans k2.size k3.size)⟩,(k2.mono (fun _ _ e=>.inr e)).setCell (.inr (.inl rfl)) v8⟩
 refine Q0a.keeps ?_ k3 ha
 refine⟨vs++[pv],by simp[kI],?_,?_⟩
 ·rw[Qgd file D vs d pv kI]
  simpa using Hl
 ·intro j hj Gf
  by_cases e:j<D.length
  ·rw[List.getElem_append_left (by omega),List.getElem_append_left e]
   exact kK (H9 j e (by omega))
  ·have me:j=D.length:=by simp at hj;omega
   subst me
   rw[List.getElem_append_right (by omega),List.getElem_append_right (by omega)]
   simp only[kI,Nat.sub_self,List.getElem_cons_zero]
   exact kK hp
set_option maxRecDepth 100000 in
theorem QJe(w:World)(r base:Nat)(file:Int)(lv x ov fp:Value)(D:List Qra)(d:Qra)(pv:Value)(h:QQk w r base file lv x ov fp D)(hp:Qia w base pv d.parts)(hl:D.length≤20000) :
 Calls Tryz.prog 94 #[.pointer (some ⟨r,0,none⟩),Q5b file d pv] w fun e w'=>e = .returned (.tuple #[])∧∃ov',QQk w' r base file lv x ov' fp (D++[d])∧Qaa (fun b=>b=r∨ov.ownBlock=some b) w w':=by
 obtain⟨pa,pc,rfl⟩:=hp.slice
 obtain⟨oa,oc,rfl⟩:=h.2.1.slice
 obtain⟨vs,kI,Hb,H9⟩:=id h.2.1
 have kc:=h.2.2.2
 have hH:=h.1
 have gP:=hid (fun(w1 w8:World) (v8:Value) (o:Obj) k1 Hl hg=>QFl (w1:=w1) (w8:=w8) (v8:=v8) (o:=o) h hp k1 kI Hb H9 Hl hg)
 have gj:=World.ownsRow.alloc Hb (.cells (QNc file d (.slice pa d.parts.length pc)) 34)
 have hN:=Qca.new w (QNc file d (.slice pa d.parts.length pc)) 34
 have GX:=hH.alloc (.cells (QNc file d (.slice pa d.parts.length pc)) 34)
 have k1:=(Qaa.refl (fun _=>False) w).alloc (.cells (QNc file d (.slice pa d.parts.length pc)) 34)
 unfold Q5b
 unfold QNc at gj hN GX k1
 clear H9 Hb h hp hH
 generalize QFb file D vs=xs at *
 obtain⟨dk,dl,dn,dp,dli,dc⟩:=d
 simp only at *
 obtain⟨i0,hi,GL,GM,GN⟩:=info_parts Qnl
 go_enter Tryz.func94,Tryz.ntmps94
 go_wp2_with fail
 generalize w.alloc (.cells #[.int .i64 dk,.string dl,.string dn,.slice pa dp.length pc,.int .i64 file,.int .i64 dli,.int .i64 dc] 34)=wb at *
 obtain⟨m0,m1,m2,m3,m4,m5,m6⟩:=Qqa hN
 have c2:wb.cell? ⟨r,2,none⟩=some (.slice oa D.length oc):=GX.cell 2
 have crl:=GX.lt
 have Hk:=hN.lt
 have rT:=Nat.le_trans kc k1.size
 have Gj:=hid (World.ownsRow.alloc (show wb.drew.ownsRow base 34 7 (.slice oa D.length oc) D.length xs from gj) (.cells #[.int .i64 dk,.string dl,.string dn,.slice pa dp.length pc,.int .i64 file,.int .i64 dli,.int .i64 dc] 34))
 clear gj GX hN
 go_region_law (refine step_append_lies _ (by rfl) _ _ _ (by rfl) base 34 i0 _ 7 88 Tryz.underlying25 hi GL GM GN rfl (by omega) _ D.length xs (by rfl) Gj.out ⟨wb.heap.size,0,none⟩ 1 1 [.int .i64 dk,.string dl,.string dn,.slice pa dp.length pc,.int .i64 file,.int .i64 dli,.int .i64 dc] (by rfl) (by rfl) (World.news_of_block (cs:=#[.int .i64 dk,.string dl,.string dn,.slice pa dp.length pc,.int .i64 file,.int .i64 dli,.int .i64 dc]) (t:=34) (fr:=(0,0)) (heap_alloc_new wb.drew _)) (by simp[Value.oneCell']) (by omega) (by unfold maxLen;omega) (by omega) (by simp;omega) (wb.heap.size+1) (by simp) ?_;intro gg cap2 w8 G3 Ha GY ew;obtain⟨y0,y1,y2,y3,y4⟩:=gP.out wb.drew w8 _ _ k1.drew G3 Ha)
 all_goals
  go_wp2_with fail
  go_end0
  exact⟨rfl,_,y3,y4⟩
def Qxg(f:Nat)(right:List UInt8→Bool):Prop:=
 (∀args w,(callFunc f args).run Tryz.prog w = .ok (.enter f args) w)∧∀(s:ByteArray) (w:World),s.size≤16000→Calls Tryz.prog f #[.string s] w fun e w'=>e = .returned (.bool (right s.data.toList))∧w=w'
theorem Qol{L:List Tok}{i:Nat}{kind:Int}:isK L i kind []=decide ((tkN L i).kind=kind):=by unfold isK;simp
set_option maxRecDepth 100000 in
theorem QGc(w:World)(r base:Nat)(file:Int)(L:List Tok)(lv ov:Value)(i:Nat)(D:List Qra)(h:QTa w r base file L lv ov i D)(kind:Int)(gn:kind≠8)(f:Nat)(right:List UInt8→Bool)(hf:Qxg f right) :
 Calls Tryz.prog 52 #[.pointer (some ⟨r,0,none⟩),.int .i64 kind,.func (.func f) #[] #[]] w (QLc r base file L lv ov i D kind right w):=by
 have gJ:Below w.heap.size w (w.alloc (.cells #[.int .i64 0,.string ⟨#[]⟩,.int .i64 0,.int .i64 0,.int .i64 0,.int .i64 0] 65)):=(Below.refl _ _).alloc (Nat.le_refl _) _
 have dQ:=Qca.new w #[.int .i64 0,.string ⟨#[]⟩,.int .i64 0,.int .i64 0,.int .i64 0,.int .i64 0] 65
 have ht:=QIh _ r base file L lv ov i D (h.keeps (Qaa.of_fresh gJ (fun _=>False))) kind [] gn
 have nw:=fun wx hx=>Qsc wx r base file L lv ov (i+1) D hx i 1
 have mZ:=h.holds.lt
 have J5:=h.size
 have gm:=h.ok.at i
 have hR:=hid (show Qha L kind right i=if (tkN L i).kind=kind then(if right (tkN L i).text=true then .ok (i+1)else .error (i,1))else .error (i,6)from rfl)
 obtain⟨uh,hf⟩:=hf
 unfold QDf at ht
 rw[Qol]at ht
 unfold QLc
 unfold Qbb at ht nw ⊢
 generalize Qha L kind right i=R at *
 generalize tkN L i=t at *
 obtain⟨t0,t1,t2,t3,t4⟩:=t
 simp only at ht nw gm hR ⊢
 have a8:∀wx,Calls Tryz.prog f #[.string ⟨t1.toArray⟩] wx fun e w'=>e = .returned (.bool (right t1))∧wx=w':=fun wx=>hf ⟨t1.toArray⟩ wx (by simpa[ByteArray.size]using gm)
 have GE:=hid nw
 clear hf nw h gm
 go_enter Tryz.func52,Tryz.ntmps52
 go_wp2_with fail
 generalize w.alloc (.cells #[.int .i64 0,.string ⟨#[]⟩,.int .i64 0,.int .i64 0,.int .i64 0,.int .i64 0] 65)=w0 at *
 refine ht.mono ?_
 rintro e w1 ⟨rfl,Ht,Ke,eB⟩
 have gZ:Qaa (· = r) w w1:=((Qaa.of_fresh gJ (fun _=>False)).mono (fun _ _ e=>e.elim)).trans Ht (fun _ _ e=>e)
 have lZ:w.heap.size≠r:=by omega
 have iM:=dQ.keeps Ht lZ
 have e9:=hid (iM.alloc (.cells #[.int .i64 t0,.string ⟨t1.toArray⟩,.int .i64 t2,.int .i64 file,.int .i64 t3,.int .i64 t4] 65))
 have JG:=hid (Qca.new w1 #[.int .i64 t0,.string ⟨t1.toArray⟩,.int .i64 t2,.int .i64 file,.int .i64 t3,.int .i64 t4] 65)
 have Gs:=hid (gZ.alloc (.cells #[.int .i64 t0,.string ⟨t1.toArray⟩,.int .i64 t2,.int .i64 file,.int .i64 t3,.int .i64 t4] 65))
 have tu:=dQ.lt
 have tw:=Ht.size
 have Hz:w1.heap.size≠r:=by omega
 have gY:w1.heap.size≠w.heap.size:=by omega
 have HY:=hid Ke
 have HN:=hid eB
 clear gJ dQ ht Ht iM gZ Ke eB
 obtain⟨m0,m1,m2,m3,m4,m5⟩:=Qfa JG.out
 obtain⟨n0,n1,n2,n3,n4,n5⟩:=Qfa e9.out
 obtain⟨f0,f1,f2,f3,f4,f5⟩:=QIb e9.out
 have l2:=e9.out.lt
 have l3:=JG.out.lt
 have Hh:∀(wx:World),Qca wx w.heap.size #[.int .i64 0,.string ⟨#[]⟩,.int .i64 0,.int .i64 0,.int .i64 0,.int .i64 0] 65→Qaa (· = r) w wx→
  Qca (Q5j wx w.heap.size (.int .i64 t0) (.string ⟨t1.toArray⟩) (.int .i64 t2) (.int .i64 file) (.int .i64 t3) (.int .i64 t4)) w.heap.size #[.int .i64 t0,.string ⟨t1.toArray⟩,.int .i64 t2,.int .i64 file,.int .i64 t3,.int .i64 t4] 65∧
  Qaa (· = r) w (Q5j wx w.heap.size (.int .i64 t0) (.string ⟨t1.toArray⟩) (.int .i64 t2) (.int .i64 file) (.int .i64 t3) (.int .i64 t4))∧
  (QTa wx r base file L lv ov (i+1) D→QTa (Q5j wx w.heap.size (.int .i64 t0) (.string ⟨t1.toArray⟩) (.int .i64 t2) (.int .i64 file) (.int .i64 t3) (.int .i64 t4)) r base file L lv ov (i+1) D)∧
  (∀c,Qib wx r file L lv ov i c→Qib (Q5j wx w.heap.size (.int .i64 t0) (.string ⟨t1.toArray⟩) (.int .i64 t2) (.int .i64 file) (.int .i64 t3) (.int .i64 t4)) r file L lv ov i c):=by
  intro wx hH hk
  refine⟨QGh hH _ _ _ _ _ _,Q9c hk (.inl (Nat.le_refl _)) _ _ _ _ _ _,fun hs=>?_,fun c hb=>hb.six hH _ _ _ _ _ _⟩
  have k6:=Q9c (S:=(· = w.heap.size)) (Qaa.refl _ wx) (B:=w.heap.size) (.inr rfl) (.int .i64 t0) (.string ⟨t1.toArray⟩) (.int .i64 t2) (.int .i64 file) (.int .i64 t3) (.int .i64 t4)
  have kK:=QNa.one hH (by decide) (by decide) (by decide)
  exact⟨hs.holds.keeps k6 (Ne.symm lZ),hs.toks.keeps k6 (fun b e=>by cases e;exact J5),hs.defs.keeps k6 kK,hs.low,Nat.le_trans hs.size k6.size,hs.lt,hs.ok,hs.cnt⟩
 have Gr:=hid Hh
 clear Hh
 by_cases hk:t0=kind
 ·subst hk
  have mT:=hid ((HY.out (decide_eq_true rfl)).alloc (.cells #[.int .i64 t0,.string ⟨t1.toArray⟩,.int .i64 t2,.int .i64 file,.int .i64 t3,.int .i64 t4] 65))
  have KZ:=hR.out
  rw[if_pos rfl]at KZ
  cases hg:right t1 with
  | true=>
   rw[hg,if_pos rfl]at KZ
   subst KZ
   rw[hg]at a8
   have ox:=hid a8
   clear a8 hg hR
   go_wp2_with fail
   refine(ox.out _).mono ?_
   rintro e w2 ⟨rfl,rfl⟩
   go_wp2_with fail
   obtain⟨z1,z2,z3,_⟩:=Gr.out _ e9.out Gs.out
   replace z3:=z3 mT.out
   unfold Q5j at z1 z2 z3
   obtain⟨q0,q1,q2,q3,q4,q5⟩:=Qfa z1
   exact bodyPost_ret (v:=.tuple #[.agg #[.int .i64 t0,.string ⟨t1.toArray⟩,.int .i64 t2,.int .i64 file,.int .i64 t3,.int .i64 t4],.bool true]) (by simp[results,Tryz.results52,go_sem,q0,q1,q2,q3,q4,q5]) rfl ⟨z2,rfl,z3⟩
  | false=>
   rw[hg,if_neg (by simp)]at KZ
   subst KZ
   rw[hg]at a8
   have ox:=hid a8
   clear a8 hg hR
   go_wp2_with fail
   refine(ox.out _).mono ?_
   rintro e w2 ⟨rfl,rfl⟩
   go_wp2_with fail
   go_region_with (go_at_call 59;refine(GE.out _ (by exact mT.out.keeps ((Qaa.refl _ _).drew))).mono ?_;rintro e w4 ⟨rfl,Hi,Hr⟩;have aW:=e9.out.drew.keeps Hr lZ;have mr:=JG.out.drew.keeps Hr Hz;obtain⟨y0,y1,y2,y3,y4,y5⟩:=Qfa mr;obtain⟨v0,v1,v2,v3,v4,v5⟩:=Qfa aW;obtain⟨p0,p1,p2,p3,p4,p5⟩:=QIb aW;have nI:=aW.lt)
   all_goals
    go_wp2_with fail
    obtain⟨z1,z2,_,z3⟩:=Gr.out _ aW (Gs.out.drew.trans Hr (fun _ _ e=>e))
    replace z3:=z3 1 Hi
    unfold Q5j at z1 z2 z3
    obtain⟨q0,q1,q2,q3,q4,q5⟩:=Qfa z1
    exact bodyPost_ret (v:=.tuple #[.agg #[.int .i64 t0,.string ⟨t1.toArray⟩,.int .i64 t2,.int .i64 file,.int .i64 t3,.int .i64 t4],.bool false]) (by simp[results,Tryz.results52,go_sem,q0,q1,q2,q3,q4,q5]) rfl ⟨z2,rfl,z3⟩
 ·have Mf:decide (t0=kind)=false:=decide_eq_false hk
  have KZ:=hR.out
  rw[if_neg hk]at KZ
  subst KZ
  have GI:=hid ((HN.out Mf).alloc (.cells #[.int .i64 t0,.string ⟨t1.toArray⟩,.int .i64 t2,.int .i64 file,.int .i64 t3,.int .i64 t4] 65))
  rw[Mf]
  clear a8 hR hk
  go_wp2_with fail
  obtain⟨z1,z2,_,z3⟩:=Gr.out _ e9.out Gs.out
  replace z3:=z3 6 GI.out
  unfold Q5j at z1 z2 z3
  obtain⟨q0,q1,q2,q3,q4,q5⟩:=Qfa z1
  exact bodyPost_ret (v:=.tuple #[.agg #[.int .i64 t0,.string ⟨t1.toArray⟩,.int .i64 t2,.int .i64 file,.int .i64 t3,.int .i64 t4],.bool false]) (by simp[results,Tryz.results52,go_sem,q0,q1,q2,q3,q4,q5]) rfl ⟨z2,rfl,z3⟩
theorem QQe.tokAt{B:Nat}{w:World}{v:Value}{file:Int}{L:List Tok}(h:QQe B w v file L)(hB:B≤w.heap.size)(ho:LOk L):QEf (fun x=>x<w.heap.size) w v (L.map tkX):=by
 obtain⟨g,cap,rfl,hg,hc⟩:=h
 refine⟨_,cap,by rw[List.length_map],fun t ht=>?_,fun _=>⟨g,0,rfl,by omega,fun j hj=>?_⟩⟩
 ·obtain⟨u,hu,rfl⟩:=List.mem_map.1 ht
  have:=ho.text u hu
  show(⟨u.text.toArray⟩:ByteArray).size≤maxLen
  simp[ByteArray.size,maxLen];omega
 ·rw[List.length_map]at hj
  have e0:=hc j hj 0 _ rfl
  have e1:=hc j hj 1 _ rfl
  have e2:=hc j hj 2 _ rfl
  rw[List.getElem_map,show 0+j*6=6*j+0 from by omega]
  exact⟨e0,e1,e2⟩
theorem QSi(L:List (Int × ByteArray × Int))(v:Value)(i:Nat)(w:World)(hv:QEf (fun x=>x<w.heap.size) w v L)(hL:L.length≤1000000000)(hi:i<L.length) :
 Calls Tryz.prog 150 #[v,.int .i64 i] w fun e w'=>∃res,Rd L .prim 0 i res∧e = .returned (.tuple #[.int .i64 (Qlf res).1,.int .i64 (Qlf res).2.1,.int .i64 (Qlf res).2.2])∧Below w.heap.size w w':=by
 have h:=Q7g L v i w hv hL hi
 go_enter Tryz.func150,Tryz.ntmps150
 go_wp2_with fail
 refine h.mono ?_
 rintro e w' ⟨res,hr,he,hb⟩
 generalize hR:Qlf res=R at he
 obtain⟨r1,r2,r3⟩:=R
 subst he
 have HR:=hid hr
 have HE:=hid hR
 clear hr hR
 go_wp2_with fail
 go_ret3
 exact⟨res,HR.out,by rw[HE.out];rfl,hb⟩
theorem Qrj(L:List Tok)(lv:Value)(B i:Nat)(file:Int)(w:World)(h:QQe B w lv file L)(hB:B≤w.heap.size)(ho:LOk L)(hi:i<L.length) :
 Calls Tryz.prog 150 #[lv,.int .i64 i] w fun e w'=>e = .returned (.tuple #[.int .i64 (QUb L i).1,.int .i64 (QUb L i).2.1,.int .i64 (QUb L i).2.2])∧Below w.heap.size w w':=by
 refine(QSi (L.map tkX) lv i w (h.tokAt hB ho) (by rw[List.length_map];have:=ho.len;omega) (by rw[List.length_map];exact hi)).mono ?_
 rintro e w' ⟨res,hr,rfl,hb⟩
 have:Qlf res=QUb L i:=by unfold QUb;rw[hr.evF trivial]
 rw[this]
 exact⟨rfl,hb⟩
theorem QZe{L:List Tok}(ho:LOk L){i:Nat}(hi:i<L.length)(h:(QUb L i).2.2=0):∃j:Nat,(QUb L i).2.1=j∧i<j∧j<L.length:=by
 unfold QUb at h ⊢
 have hr:=Qcl (L.map tkX) .prim 0 i trivial
 obtain⟨r,e1,e2⟩:=Qsf (L.map tkX) (40*(L.map tkX).length+40) .prim 0 i trivial (by simp only[Qqc];omega)
 have hE:evF (L.map tkX) .prim 0 i=r:=by unfold evF;rw[e1];rfl
 rw[hE]at h hr ⊢
 cases r with
 | none=>simp[Qlf]at h
 | some q=>
  have Hj:=(e2 q rfl).2 rfl
  obtain⟨ts,t,e,h8⟩:=ho.last
  have hb:q.2.1≤ts.length:=by
   refine QWl hr (k:=ts.length) (t:=tkX t) ?_ h8 ?_
   ·rw[e];simp
   ·rw[e]at hi;simp at hi;omega
  obtain⟨v,j,p,g,d⟩:=q
  simp only[Qlf]at h Hj hb ⊢
  refine⟨j,?_,Hj,by rw[e];simp;omega⟩
  cases p <;> cases g <;> cases d <;> simp at h ⊢
theorem Qai:(Tryz.prog.info? 5).map (fun i=>(i.zero,i.size,i.bytes))=some (some (.int .u8 0),1,1):=by kernel_rfl
theorem Q7d{w:World}{base:Nat}{v:Value}{acc:List UInt8}(h:w.ownsRow base 5 1 v acc.length (Lib.byteCells acc)) :
 (convert 76 9 v).run Tryz.prog w = .ok (.string ⟨acc.toArray⟩) w:=by
 rcases h.2 with⟨rfl,h0⟩|⟨g,cap,cur,rfl,hb,hh,hcap,hr⟩
 ·have:acc=[]:=List.eq_nil_of_length_eq_zero h0
  subst this
  exact run_convert_bytes_nil w _ _ Tryz.underlying76 Tryz.underlying5 0 0 _ Tryz.underlying9
 ·refine run_convert_bytes_back w _ _ _ ⟨g,0,none⟩ cap acc Tryz.underlying76 Tryz.underlying5 Tryz.underlying9 ?_
  intro j hj
  exact h.cells (g:=g) rfl j _ (by simp[Lib.byteCells,hj])
def Qph(p:QRa)(cv:Value):Value:=.agg #[.int .i64 p.kind,cv,.string p.text]
def Qqq(v:Value):Prop:=∃(a:Int) (x:Option Addr) (n c:Nat) (s:ByteArray),v = .agg #[.int .i64 a,.slice x n c,.string s]
def QMe(R:Rs (Nat × QRa))(r base:Nat)(file:Int)(L:List Tok)(lv ov:Value)(i:Nat)(D:List Qra)(w:World)(e:Ending)(w':World):Prop:=
 Qaa (· = r) w w'∧match R with
  | .ok (j,p)=>∃cv,e = .returned (.tuple #[Qph p cv,.bool true])∧Qea w' w.heap.size cv p.cells∧QTa w' r base file L lv ov j D∧i<j
  | .error (k,c)=>∃v,e = .returned (.tuple #[v,.bool false])∧Qqq v∧Qib w' r file L lv ov k c
def Q5e(w:World)(B:Nat)(x0 x1 x2:Value):World:=((w.setCell ⟨B,0,none⟩ x0).setCell ⟨B,1,none⟩ x1).setCell ⟨B,2,none⟩ x2
theorem QPa{w:World}{B:Nat}{a b c:Value}{t:TypeId}(h:Qca w B #[a,b,c] t)(x0 x1 x2:Value):Qca (Q5e w B x0 x1 x2) B #[x0,x1,x2] t:=by
 have:=((h.set 0 x0).set 1 x1).set 2 x2
 exact this
theorem Qua{w:World}{a:World}{B:Nat}{S:Nat→Prop}(h:Qaa S a w)(hB:a.heap.size≤B∨S B)(x0 x1 x2:Value):Qaa S a (Q5e w B x0 x1 x2):=
 ((h.setCell (p:=⟨B,0,none⟩) hB x0).setCell (p:=⟨B,1,none⟩) hB x1).setCell (p:=⟨B,2,none⟩) hB x2
theorem Qwc{w:World}{b B:Nat}{cs:Array Value}{t:TypeId}(h:Qca w b cs t)(Hq:b≠B)(x0 x1 x2:Value):Qca (Q5e w B x0 x1 x2) b cs t:=
 ((h.other ⟨B,0,none⟩ x0 Hq).other ⟨B,1,none⟩ x1 Hq).other ⟨B,2,none⟩ x2 Hq
theorem three{w:World}{B:Nat}{x0 x1 x2:Value}{t:TypeId}(h:Qca w B #[x0,x1,x2] t) :
 w.cell? ⟨B,0,none⟩=some x0∧w.cell? ⟨B,1,none⟩=some x1∧w.cell? ⟨B,2,none⟩=some x2∧w.frozen? ⟨B,0,none⟩=false∧w.frozen? ⟨B,1,none⟩=false∧w.frozen? ⟨B,2,none⟩=false∧B<w.heap.size:=
 ⟨h.cell 0,h.cell 1,h.cell 2,h.free 0,h.free 1,h.free 2,h.lt⟩
section
variable{w0 w w':World}{r base:Nat}{file:Int}{L:List Tok}{lv ov:Value}{i:Nat}{D:List Qra}
theorem QTa.from(h:QTa w0 r base file L lv ov i D)(k:Qaa (· = r) w0 w){j:Nat}(hH:Qca w r #[lv,.int .i64 j,ov,.pointer none] 63)(hj:j<L.length)(GH:i≤j):QTa w r base file L lv ov j D:=h.turn k hH hj GH
theorem QTa.step(h:QTa w0 r base file L lv ov i D)(hj:i+1<L.length):QTa (w0.setCell ⟨r,1,none⟩ (.int .i64 ((i:Int)+1))) r base file L lv ov (i+1) D∧Qaa (· = r) w0 (w0.setCell ⟨r,1,none⟩ (.int .i64 ((i:Int)+1))):=by
 have k:=(Qaa.refl (· = r) w0).setCell (p:=⟨r,1,none⟩) (.inr rfl) (.int .i64 ((i:Int)+1))
 have e1:(i:Int)+1=((i+1:Nat):Int):=by omega
 have hH:=h.holds.set 1 (.int .i64 ((i:Int)+1))
 exact⟨h.turn k (by rw[←e1];exact hH) hj (by omega),k⟩
theorem QTa.at1(h:QTa w r base file L lv ov i D):w.cell? ⟨r,1,none⟩=some (.int .i64 i)∧w.frozen? ⟨r,1,none⟩=false∧r<w.heap.size∧i<6001:=⟨h.holds.cell 1,h.holds.free 1,h.holds.lt,by have:=h.ok.len;have:=h.lt;omega⟩
end
theorem Qkd{L:List Tok}{i:Nat}{kind:Int}{s:List UInt8}(ho:LOk L)(hi:i<L.length)(h:isK L i kind s=true)(hk:kind≠8):i+1<L.length:=
 ho.next hi (by unfold isK at h;simp only[Bool.and_eq_true,decide_eq_true_eq]at h;rw[h.1];exact hk)
theorem Qib.three{w:World}{r B:Nat}{file:Int}{L:List Tok}{lv ov:Value}{k:Nat}{c:Int}{cs:Array Value}(h:Qib w r file L lv ov k c)(hB:Qca w B cs 75)(x0 x1 x2:Value):Qib (Q5e w B x0 x1 x2) r file L lv ov k c:=
 h.one hB (by decide) (by decide) (Qua (S:=(· = B)) (Qaa.refl _ w) (.inr rfl) x0 x1 x2)
theorem QUh(acc:List UInt8)(v:Int):Lib.byteCells (acc++[(v % 256).toNat.toUInt8])=Lib.byteCells acc++[.int .u8 (v % 256)]:=by
 have:(((v % 256).toNat.toUInt8.toNat:Nat):Int)=v % 256:=by
  show(((UInt8.ofNat (v % 256).toNat).toNat:Nat):Int)=v % 256
  rw[UInt8.toNat_ofNat',Nat.mod_eq_of_lt (by omega)];omega
 unfold Lib.byteCells
 rw[List.map_append]
 congr 1
 show [Value.int .u8 (((v % 256).toNat.toUInt8.toNat:Nat):Int)]=_
 rw[this]
set_option maxRecDepth 100000 in
theorem Qim(w:World)(r base:Nat)(file:Int)(L:List Tok)(lv ov:Value)(i:Nat)(D:List Qra)(h:QTa w r base file L lv ov i D) :
 Calls Tryz.prog 148 #[.pointer (some ⟨r,0,none⟩)] w (QMe (match QMc L (Q6a L) i []with | .ok (j,b)=>.ok (j,⟨3,[],⟨b.toArray⟩⟩) | .error e=>.error e) r base file L lv ov i D w):=by
 have gJ:Below w.heap.size w ((w.alloc (.cells #[.int .i64 0,.slice none 0 0,.string ⟨#[]⟩] 75)).alloc (.cells #[.int .i64 3,.slice none 0 0,.string ⟨#[]⟩] 75)):=((Below.refl _ _).alloc (Nat.le_refl _) _).alloc (by simp) _
 have kR:=(Qca.new w #[.int .i64 0,.slice none 0 0,.string ⟨#[]⟩] 75).alloc (.cells #[.int .i64 3,.slice none 0 0,.string ⟨#[]⟩] 75)
 have aX:=Qca.newAt (w:=w.alloc (.cells #[.int .i64 0,.slice none 0 0,.string ⟨#[]⟩] 75)) (B:=w.heap.size+1) (by simp) #[.int .i64 3,.slice none 0 0,.string ⟨#[]⟩] 75
 have j5:=h.keeps (Qaa.of_fresh gJ (fun _=>False))
 have k0:Qaa (· = r) w _:=Qaa.of_fresh gJ (· = r)
 have mZ:=h.holds.lt
 have jg:=h.lt
 have Kh:=hid h.ok
 have mx:L.length<i+Q6a L:=by unfold Q6a;omega
 generalize hN:Q6a L=N at *
 generalize Hd:QMc L N i []=RR at *
 have KH:=hid Hd
 have HH:=hid h
 clear hN Hd h
 go_enter Tryz.func148,Tryz.ntmps148
 go_wp2_with fail
 generalize (w.alloc (.cells #[.int .i64 0,.slice none 0 0,.string ⟨#[]⟩] 75)).alloc (.cells #[.int .i64 3,.slice none 0 0,.string ⟨#[]⟩] 75)=w0 at *
 go_loopg [5] N (fun f x wr=>∃(j:Nat) (acc:List UInt8),Hid (QMc L f j acc=RR)∧L.length<j+f∧i≤j∧acc.length≤j∧wr.ownsRow (w.heap.size+1+1) 5 1 x acc.length (Lib.byteCells acc)∧QTa wr r base file L lv ov j D∧Qaa (· = r) w wr∧
  Qca wr w.heap.size #[.int .i64 0,.slice none 0 0,.string ⟨#[]⟩] 75∧Qca wr (w.heap.size+1) #[.int .i64 3,.slice none 0 0,.string ⟨#[]⟩] 75)
 case atStart=>exact⟨i,[],KH,mx,Nat.le_refl _,Nat.zero_le _,World.ownsRow_nil _ _ _ _,j5,k0,kR,aX⟩
 case round=>
  obtain⟨j,acc,hR,nE,GH,aY,Hl,hA,hK,hZ,hP⟩:=hrel
  have me:=hA.lt
  have Ju:=Kh.out.len
  obtain⟨f,hf⟩:∃f,gk=f+1:=⟨gk-1,by omega⟩
  have hS:=hR.out
  rw[hf,QMc]at hS
  have GV:=QTc wr r base file L lv ov j D hA 4 [93]
  go_wp2_with fail
  refine GV.mono ?_
  rintro e w1 ⟨rfl,He⟩
  have kb1:Qaa (fun _=>False) wr w1:=Qaa.of_fresh He _
  have Gk:=hA.keeps kb1
  have Gb:=hZ.keeps kb1 (fun e=>e)
  have KO:=hP.keeps kb1 (fun e=>e)
  have gZ:=hK.trans kb1 (S:=(· = r)) (fun _ _ e=>e.elim)
  have gw:=Qba Hl kb1 (fun _ _ e=>e)
  have Jo:=gZ.size
  have ua:=Gb.lt
  have tV:=KO.lt
  clear GV hR He hA hZ hP hK Hl
  obtain⟨c1,c1f,crl,cj⟩:=Gk.at1
  have mH:r≠w.heap.size:=by omega
  have M3:r≠w.heap.size+1:=by omega
  cases hk:isK L j 4 [93]with
  | true=>
   rw[hk,if_pos rfl]at hS
   subst hS
   obtain⟨Gc,k2⟩:=Gk.step (Qkd Kh.out me hk (by decide))
   have gy:=Qba gw k2 (fun g hg e=>by cases e;exact QBa gw Gk.holds (by decide) hg)
   have Jc:=Q7d gy
   have gc:=Gb.keeps k2 (Ne.symm mH)
   have GU:=KO.keeps k2 (Ne.symm M3)
   have ga:=gZ.trans k2 (S:=(· = r)) (fun _ _ e=>e)
   have GX:=Gc.holds
   have ep:i≤j+1:=by omega
   have mT:=hid Gc
   have ki:=Gc.lt
   obtain⟨va,vc,rfl⟩:=Qma gy
   obtain⟨m0,m1,m2,mf0,mf1,mf2,ml⟩:=three GU
   obtain⟨n0,n1,n2,nf0,nf1,nf2,nl⟩:=three gc
   have KV:=hid gc
   have Gs:=hid ga
   clear gw gy Gk Gc Gb KO gZ k2 kb1 gc GU ga
   go_wp2_with fail
   have z1:=QPa (KV.out.other ⟨w.heap.size+1,2,none⟩ (.string ⟨acc.toArray⟩) (by simp)) (.int .i64 3) (.slice none 0 0) (.string ⟨acc.toArray⟩)
   have z2:=Qua (Gs.out.setCell (p:=⟨w.heap.size+1,2,none⟩) (.inl (by simp)) (.string ⟨acc.toArray⟩)) (B:=w.heap.size) (.inl (Nat.le_refl _)) (.int .i64 3) (.slice none 0 0) (.string ⟨acc.toArray⟩)
   have z3:=HH.out.from z2 (Qwc (GX.other ⟨w.heap.size+1,2,none⟩ (.string ⟨acc.toArray⟩) M3) mH (.int .i64 3) (.slice none 0 0) (.string ⟨acc.toArray⟩)) ki ep
   unfold Q5e at z1 z2 z3
   obtain⟨q0,q1,q2,_⟩:=three z1
   exact bodyPost_ret (v:=.tuple #[.agg #[.int .i64 3,.slice none 0 0,.string ⟨acc.toArray⟩],.bool true]) (by simp[results,Tryz.results148,go_sem,q0,q1,q2]) rfl ⟨z2,_,rfl,Qea.none _ _,z3,by omega⟩
  | false=>
   rw[hk,if_neg (by simp)]at hS
   have ht:=QIh w1 r base file L lv ov j D Gk 2 [] (by decide)
   have GE:=hid (fun wx hx=>Qsc wx r base file L lv ov (j+1) D hx j 2)
   unfold QDf at ht
   rw[Qol]at ht
   unfold Qbb at ht GE
   generalize tkN L j=t at *
   obtain⟨t0,t1,t2,t3,t4⟩:=t
   simp only at ht GE hS
   go_wp2_with fail
   refine ht.mono ?_
   rintro e w2 ⟨rfl,Ho,fL,lI⟩
   have gc:=Gb.keeps Ho (Ne.symm mH)
   have GU:=KO.keeps Ho (Ne.symm M3)
   have ga:=gZ.trans Ho (S:=(· = r)) (fun _ _ e=>e)
   have gy:=Qba gw Ho (fun g hg e=>by cases e;exact QBa gw Gk.holds (by decide) hg)
   have mS:=Ho.size
   have HY:=hid fL
   have HN:=hid lI
   clear ht Ho fL lI gw Gb KO gZ Gk c1 c1f kb1
   by_cases h2:t0=2
   ·subst h2
    rw[if_neg (by simp)]at hS
    have gD:=(HY.out (decide_eq_true rfl)).alloc (.cells #[.int .i64 2,.string ⟨t1.toArray⟩,.int .i64 t2,.int .i64 file,.int .i64 t3,.int .i64 t4] 65)
    have gT:=gc.alloc (.cells #[.int .i64 2,.string ⟨t1.toArray⟩,.int .i64 t2,.int .i64 file,.int .i64 t3,.int .i64 t4] 65)
    have kC:=GU.alloc (.cells #[.int .i64 2,.string ⟨t1.toArray⟩,.int .i64 t2,.int .i64 file,.int .i64 t3,.int .i64 t4] 65)
    have gd:=ga.alloc (.cells #[.int .i64 2,.string ⟨t1.toArray⟩,.int .i64 t2,.int .i64 file,.int .i64 t3,.int .i64 t4] 65)
    have GT:=Qca.new w2 #[.int .i64 2,.string ⟨t1.toArray⟩,.int .i64 t2,.int .i64 file,.int .i64 t3,.int .i64 t4] 65
    have Kv:=World.ownsRow.alloc gy (.cells #[.int .i64 2,.string ⟨t1.toArray⟩,.int .i64 t2,.int .i64 file,.int .i64 t3,.int .i64 t4] 65)
    obtain⟨m0,m1,m2,mf0,mf1,mf2,ml⟩:=three kC
    obtain⟨n0,n1,n2,nf0,nf1,nf2,nl⟩:=three gT
    obtain⟨y0,y1,y2,y3,y4,y5⟩:=Qfa GT
    have yl:=GT.lt
    have kW:=gd.size
    have cG:w.heap.size≠r:=Ne.symm mH
    have Jg:w.heap.size+1≠r:=Ne.symm M3
    have KK:w2.heap.size≠r:=by omega
    by_cases hv:255<t2
    ·rw[if_pos hv]at hS
     subst hS
     have cK:=hid gD
     have KW:=hid gT
     have oM:=hid kC
     have qP:=hid GT
     have Hy:=hid gd
     rw[decide_eq_true rfl]
     clear gc GU ga gy gD gT kC gd GT Kv
     go_wp2_with fail
     go_region_with (go_at_call 59;refine(GE.out _ (by exact cK.out.keeps ((Qaa.refl _ _).drew))).mono ?_;rintro e w4 ⟨rfl,Hi,Hr⟩;have Ky:=KW.out.drew.keeps Hr cG;have jd:=oM.out.drew.keeps Hr Jg;have mr:=qP.out.drew.keeps Hr KK;obtain⟨a0,a1,a2,af0,af1,af2,al⟩:=three Ky;obtain⟨b0,b1,b2,bf0,bf1,bf2,bl⟩:=three jd;obtain⟨d0,d1,d2,d3,d4,d5⟩:=Qfa mr)
     all_goals
      go_wp2_with fail
      have z1:=QPa Ky (.int .i64 3) (.slice none 0 0) (.string ⟨#[]⟩)
      have z2:=Qua (Hy.out.drew.trans Hr (S:=(· = r)) (fun _ _ e=>e)) (B:=w.heap.size) (.inl (Nat.le_refl _)) (.int .i64 3) (.slice none 0 0) (.string ⟨#[]⟩)
      have z3:=Hi.three Ky (.int .i64 3) (.slice none 0 0) (.string ⟨#[]⟩)
      unfold Q5e at z1 z2 z3
      obtain⟨q0,q1,q2,_⟩:=three z1
      exact bodyPost_ret (v:=.tuple #[.agg #[.int .i64 3,.slice none 0 0,.string ⟨#[]⟩],.bool false]) (by simp[results,Tryz.results148,go_sem,q0,q1,q2]) rfl ⟨z2,_,rfl,⟨3,none,0,0,⟨#[]⟩,rfl⟩,z3⟩
    ·rw[if_neg hv]at hS
     have hvb:¬(255:Int)<t2:=hv
     have cK:=hid gD
     have KW:=hid gT
     have oM:=hid kC
     have Hy:=hid gd
     rw[decide_eq_true rfl]
     obtain⟨va,vc,rfl⟩:=Qma Kv
     obtain⟨i0,hi,GL,GM,GN⟩:=info_parts Qai
     have gU:w.heap.size+1+1≤(w2.alloc (.cells #[.int .i64 2,.string ⟨t1.toArray⟩,.int .i64 t2,.int .i64 file,.int .i64 t3,.int .i64 t4] 65)).heap.size:=by simp;omega
     have Gj:=hid (World.ownsRow.alloc Kv (.cells #[.int .u8 (t2 % 256)] 5))
     have ig:=hid Kv
     clear gc GU ga gy gD gT kC gd GT Kv hv
     go_wp2_with (at_builtin;refine wpList_append_own _ rfl _ _ 76 rfl (w.heap.size+1+1) 5 i0 (.int .u8 0) 1 1 Tryz.underlying76 hi GL GM GN rfl (by decide) _ _ _ rfl (by exact Gj.out) ⟨w2.heap.size+1,0,none⟩ 1 1 [.int .u8 (t2 % 256)] rfl rfl ?c1 ?c2 ?c3 ?c4 ?c5 ?_)
     case c1=>exact Qlb _ _ _ _ (by simp) _ rfl
     case c2=>intro u hu;simp at hu;subst hu;rfl
     case c3=>unfold maxLen;omega
     case c4=>omega
     case c5=>simp;omega
     intro v' w4 Hp Ha _
     have Hr:Qaa (· = r) w w4:=(Hy.out.alloc (.cells #[.int .u8 (t2 % 256)] 5)).grown Ha (fun g hg=>by have:=(Qva Gj.out hg).2.1;left;omega)
     have mX:=fun(b:Nat) (xs:Array Value) (t:TypeId) (hx:Qca (w2.alloc (.cells #[.int .i64 2,.string ⟨t1.toArray⟩,.int .i64 t2,.int .i64 file,.int .i64 t3,.int .i64 t4] 65)) b xs t) (Hq:t≠5)=>(hx.alloc (.cells #[.int .u8 (t2 % 256)] 5)).grown Ha (QBa ig.out hx Hq)
     have Ky:=mX _ _ _ KW.out (by decide)
     have jd:=mX _ _ _ oM.out (by decide)
     have KY:=mX _ _ _ cK.out.holds (by decide)
     have Gh:=HH.out.from Hr KY cK.out.lt (by omega)
     have g8:w4.ownsRow (w.heap.size+1+1) 5 1 v' (acc++[(t2 % 256).toNat.toUInt8]).length (Lib.byteCells (acc++[(t2 % 256).toNat.toUInt8])):=by
      rw[QUh acc t2,List.length_append]
      exact Hp
     have m9:=hid Gh
     have ja:=hid Ky
     have sY:=hid jd
     have gN:=hid Hr
     have HS:=hid hS
     have sW:=hid g8
     obtain⟨va',vc',rfl⟩:=Qma g8
     clear Hp Ha mX Ky jd KY Gh Hr g8 hS Gj ig gU
     go_wp2_with fail
     go_roundg (gk-1)
     case measure=>omega
     case rel=>
      refine⟨j+1,_,?_,by omega,by omega,by simp;omega,sW.out,m9.out,gN.out,ja.out,sY.out⟩
      rw[hf,Nat.add_sub_cancel]
      exact HS
   ·rw[if_pos h2]at hS
    subst hS
    rw[decide_eq_false h2]
    have HB:=hid ((HN.out (decide_eq_false h2)).alloc (.cells #[.int .i64 t0,.string ⟨t1.toArray⟩,.int .i64 t2,.int .i64 file,.int .i64 t3,.int .i64 t4] 65))
    have gT:=gc.alloc (.cells #[.int .i64 t0,.string ⟨t1.toArray⟩,.int .i64 t2,.int .i64 file,.int .i64 t3,.int .i64 t4] 65)
    have kC:=GU.alloc (.cells #[.int .i64 t0,.string ⟨t1.toArray⟩,.int .i64 t2,.int .i64 file,.int .i64 t3,.int .i64 t4] 65)
    have Hy:=hid (ga.alloc (.cells #[.int .i64 t0,.string ⟨t1.toArray⟩,.int .i64 t2,.int .i64 file,.int .i64 t3,.int .i64 t4] 65))
    obtain⟨m0,m1,m2,mf0,mf1,mf2,ml⟩:=three kC
    obtain⟨n0,n1,n2,nf0,nf1,nf2,nl⟩:=three gT
    have KW:=hid gT
    clear gc GU ga gy gT kC h2
    go_wp2_with fail
    have z1:=QPa KW.out (.int .i64 3) (.slice none 0 0) (.string ⟨#[]⟩)
    have z2:=Qua Hy.out (B:=w.heap.size) (.inl (Nat.le_refl _)) (.int .i64 3) (.slice none 0 0) (.string ⟨#[]⟩)
    have z3:=HB.out.three KW.out (.int .i64 3) (.slice none 0 0) (.string ⟨#[]⟩)
    unfold Q5e at z1 z2 z3
    obtain⟨q0,q1,q2,_⟩:=three z1
    exact bodyPost_ret (v:=.tuple #[.agg #[.int .i64 3,.slice none 0 0,.string ⟨#[]⟩],.bool false]) (by simp[results,Tryz.results148,go_sem,q0,q1,q2]) rfl ⟨z2,_,rfl,⟨3,none,0,0,⟨#[]⟩,rfl⟩,z3⟩
theorem Qbh:(Tryz.prog.info? 72).map (fun i=>(i.zero,i.size,i.bytes))=some (some (.agg #[.int .i64 0,.string ⟨#[]⟩]),2,24):=by kernel_rfl
theorem Qbc:Qxg 53 Qna:=⟨enters_of Tryz.func53 (by kernel_rfl) rfl,fun s w hs=>Qxj s w (by unfold maxLen;omega)⟩
set_option maxRecDepth 100000 in
theorem Qjm(w:World)(r base:Nat)(file:Int)(L:List Tok)(lv ov:Value)(i:Nat)(D:List Qra)(h:QTa w r base file L lv ov i D) :
 Calls Tryz.prog 147 #[.pointer (some ⟨r,0,none⟩)] w (QMe (match QOb L (Q6a L) i []with | .ok (j,b)=>.ok (j,⟨1,b,⟨#[]⟩⟩) | .error e=>.error e) r base file L lv ov i D w):=by
 have gJ:Below w.heap.size w ((w.alloc (.cells #[.int .i64 0,.slice none 0 0,.string ⟨#[]⟩] 75)).alloc (.cells #[.int .i64 1,.slice none 0 0,.string ⟨#[]⟩] 75)):=((Below.refl _ _).alloc (Nat.le_refl _) _).alloc (by simp) _
 have kR:=(Qca.new w #[.int .i64 0,.slice none 0 0,.string ⟨#[]⟩] 75).alloc (.cells #[.int .i64 1,.slice none 0 0,.string ⟨#[]⟩] 75)
 have aX:=Qca.newAt (w:=w.alloc (.cells #[.int .i64 0,.slice none 0 0,.string ⟨#[]⟩] 75)) (B:=w.heap.size+1) (by simp) #[.int .i64 1,.slice none 0 0,.string ⟨#[]⟩] 75
 have j5:=h.keeps (Qaa.of_fresh gJ (fun _=>False))
 have k0:Qaa (· = r) w _:=Qaa.of_fresh gJ (· = r)
 obtain⟨gL,cL,rfl,_⟩:=id h.toks
 have mZ:=h.holds.lt
 have jg:=h.lt
 have J5:=h.size
 have Kh:=hid h.ok
 have mx:L.length<i+Q6a L:=by unfold Q6a;omega
 generalize hN:Q6a L=N at *
 generalize Hd:QOb L N i []=RR at *
 have KH:=hid Hd
 have HH:=hid h
 clear hN Hd h
 go_enter Tryz.func147,Tryz.ntmps147
 go_wp2_with fail
 generalize (w.alloc (.cells #[.int .i64 0,.slice none 0 0,.string ⟨#[]⟩] 75)).alloc (.cells #[.int .i64 1,.slice none 0 0,.string ⟨#[]⟩] 75)=w0 at *
 go_loopg [] N (fun f wr=>∃(j:Nat) (acc:List Qzb) (cv:Value),Hid (QOb L f j acc=RR)∧L.length<j+f∧i≤j∧acc.length≤j∧Qea wr (w.heap.size+1+1) cv acc∧QTa wr r base file L (.slice (some ⟨gL,0,none⟩) L.length cL) ov j D∧Qaa (· = r) w wr∧
  Qca wr w.heap.size #[.int .i64 0,.slice none 0 0,.string ⟨#[]⟩] 75∧Qca wr (w.heap.size+1) #[.int .i64 1,cv,.string ⟨#[]⟩] 75)
 case atStart=>exact⟨i,[],.slice none 0 0,KH,mx,Nat.le_refl _,Nat.zero_le _,Qea.none _ _,j5,k0,kR,aX⟩
 case round=>
  obtain⟨j,acc,cv,hR,nE,GH,aY,Hl,hA,hK,hZ,hP⟩:=hrel
  obtain⟨va,vc,rfl⟩:=Qma Hl
  have me:=hA.lt
  have Ju:=Kh.out.len
  obtain⟨f,hf⟩:∃f,gk=f+1:=⟨gk-1,by omega⟩
  have hS:=hR.out
  rw[hf,QOb]at hS
  have GV:=QTc wr r base file L (.slice (some ⟨gL,0,none⟩) L.length cL) ov j D hA 4 [62]
  go_wp2_with fail
  refine GV.mono ?_
  rintro e w1 ⟨rfl,He⟩
  have kb1:Qaa (fun _=>False) wr w1:=Qaa.of_fresh He _
  have Gk:=hA.keeps kb1
  have Gb:=hZ.keeps kb1 (fun e=>e)
  have KO:=hP.keeps kb1 (fun e=>e)
  have gZ:=hK.trans kb1 (S:=(· = r)) (fun _ _ e=>e.elim)
  have gw:=Qba Hl kb1 (fun _ _ e=>e)
  have Jo:=gZ.size
  have ua:=Gb.lt
  have tV:=KO.lt
  clear GV hR He hA hZ hP hK Hl
  obtain⟨c1,c1f,crl,cj⟩:=Gk.at1
  have mH:r≠w.heap.size:=by omega
  have M3:r≠w.heap.size+1:=by omega
  cases hk:isK L j 4 [62]with
  | true=>
   rw[hk,if_pos rfl]at hS
   subst hS
   obtain⟨Gc,k2⟩:=Gk.step (Qkd Kh.out me hk (by decide))
   have gy:=Qba gw k2 (fun g hg e=>by cases e;exact QBa gw Gk.holds (by decide) hg)
   have gc:=Gb.keeps k2 (Ne.symm mH)
   have GU:=KO.keeps k2 (Ne.symm M3)
   have ga:=gZ.trans k2 (S:=(· = r)) (fun _ _ e=>e)
   have GX:=Gc.holds
   have ki:=Gc.lt
   obtain⟨m0,m1,m2,mf0,mf1,mf2,ml⟩:=three GU
   obtain⟨n0,n1,n2,nf0,nf1,nf2,nl⟩:=three gc
   have KV:=hid gc
   have Gs:=hid ga
   have sV:=hid (Qpd gy (show w.heap.size≤w.heap.size+1+1 by omega))
   have sX:=hid gy
   clear gw gy Gk Gc Gb KO gZ k2 kb1 gc GU ga
   go_wp2_with fail
   have z1:=QPa KV.out (.int .i64 1) (.slice va acc.length vc) (.string ⟨#[]⟩)
   have z2:=Qua Gs.out (B:=w.heap.size) (.inl (Nat.le_refl _)) (.int .i64 1) (.slice va acc.length vc) (.string ⟨#[]⟩)
   have z3:=HH.out.from z2 (Qwc GX mH (.int .i64 1) (.slice va acc.length vc) (.string ⟨#[]⟩)) ki (by omega)
   have z4:=Qba sV.out (Qua (S:=(· = w.heap.size)) (Qaa.refl _ _) (.inr rfl) (.int .i64 1) (.slice va acc.length vc) (.string ⟨#[]⟩)) (fun g hg e=>by have:=(Qva sX.out hg).2.1;omega)
   unfold Q5e at z4
   unfold Q5e at z1 z2 z3
   obtain⟨q0,q1,q2,_⟩:=three z1
   exact bodyPost_ret (v:=.tuple #[.agg #[.int .i64 1,.slice va acc.length vc,.string ⟨#[]⟩],.bool true]) (by simp[results,Tryz.results147,go_sem,q0,q1,q2]) rfl ⟨z2,_,rfl,z4,z3,by omega⟩
  | false=>
   rw[hk,if_neg (by simp)]at hS
   have gu:=Qtc w1 r base file L (.slice (some ⟨gL,0,none⟩) L.length cL) ov j D Gk
   have gh:=hid (fun wx hx=>QGc wx r base file L (.slice (some ⟨gL,0,none⟩) L.length cL) ov j D hx 6 (by decide) 53 Qna Qbc)
   have Jj:Qha L 6 Qna j=if (tkN L j).kind=6 then(if Qna (tkN L j).text=true then .ok (j+1)else .error (j,1))else .error (j,6):=rfl
   have GE:=hid (fun wx hx c=>Qsc wx r base file L (.slice (some ⟨gL,0,none⟩) L.length cL) ov j D hx j c)
   have MV:=hid (fun(wx:World) (hx:QTa wx r base file L (.slice (some ⟨gL,0,none⟩) L.length cL) ov j D)=>Qrj L (.slice (some ⟨gL,0,none⟩) L.length cL) base j file wx hx.toks hx.size Kh.out me)
   have fe:=hid (QZe Kh.out me)
   have bN:=Kh.out.next me
   unfold txN at hS
   unfold QLc at gh
   unfold Qbb at gu gh GE
   rw[Jj]at gh
   clear Jj
   generalize tkN L j=t at *
   obtain⟨t0,t1,t2,t3,t4⟩:=t
   simp only at gu gh GE hS bN
   go_wp2_with fail
   refine gu.mono ?_
   rintro e w2 ⟨rfl,Hn⟩
   have k2:Qaa (fun _=>False) w1 (w2.alloc (.cells #[.int .i64 t0,.string ⟨t1.toArray⟩,.int .i64 t2,.int .i64 file,.int .i64 t3,.int .i64 t4] 65)):=(Qaa.of_fresh Hn (fun _=>False)).alloc (.cells #[.int .i64 t0,.string ⟨t1.toArray⟩,.int .i64 t2,.int .i64 file,.int .i64 t3,.int .i64 t4] 65)
   have HA:=hid (Gk.keeps k2)
   have HZ:=hid (Gb.keeps k2 (fun e=>e))
   have HP:=hid (KO.keeps k2 (fun e=>e))
   have HK:=hid (gZ.trans k2 (S:=(· = r)) (fun _ _ e=>e.elim))
   have HR:=hid (Qba gw k2 (fun _ _ e=>e))
   have HM:=hid (Qca.new w2 #[.int .i64 t0,.string ⟨t1.toArray⟩,.int .i64 t2,.int .i64 file,.int .i64 t3,.int .i64 t4] 65)
   have HB:=hid (show w.heap.size+1+1≤(w2.alloc (.cells #[.int .i64 t0,.string ⟨t1.toArray⟩,.int .i64 t2,.int .i64 file,.int .i64 t3,.int .i64 t4] 65)).heap.size by have:=k2.size;omega)
   obtain⟨B,hB⟩:∃z,z=w2.heap.size:=⟨_,rfl⟩
   have G0:B≠r:=by have:=Hn.size;omega
   have hBz:w.heap.size+1+1≤B:=by have:=Hn.size;omega
   have cG:w.heap.size≠r:=Ne.symm mH
   have Jg:w.heap.size+1≠r:=Ne.symm M3
   rw[←hB]at HM
   clear gu Hn k2 Gk Gb KO gZ gw kb1 c1 c1f
   by_cases h6:t0=6
   ·subst h6
    obtain⟨y0,y1,y2,y3,y4,y5⟩:=Qfa HM.out
    rw[hB]at y0 y1 y2 y3 y4 y5
    cases hg:Qna t1 with
    | true=>
     rw[hg,if_pos rfl,if_pos rfl]at hS
     go_wp2_with fail
     refine(gh.out _ HA.out).mono ?_
     rintro e w3 ⟨Hc,hm⟩
     simp only[reduceIte,hg]at hm
     obtain⟨rfl,gD⟩:=hm
     have gT:=HZ.out.keeps Hc cG
     have kC:=HP.out.keeps Hc Jg
     have GT:=HM.out.keeps Hc G0
     have gd:=HK.out.trans Hc (S:=(· = r)) (fun _ _ e=>e)
     have rN:=Qba HR.out Hc (fun g hg e=>by cases e;exact QBa HR.out HA.out.holds (by decide) hg)
     have HZ:=hid (gT.alloc (.cells #[.int .i64 6,.string ⟨t1.toArray⟩,.int .i64 t2,.int .i64 file,.int .i64 t3,.int .i64 t4] 65))
     have HP:=hid (kC.alloc (.cells #[.int .i64 6,.string ⟨t1.toArray⟩,.int .i64 t2,.int .i64 file,.int .i64 t3,.int .i64 t4] 65))
     have HM:=hid (GT.alloc (.cells #[.int .i64 6,.string ⟨t1.toArray⟩,.int .i64 t2,.int .i64 file,.int .i64 t3,.int .i64 t4] 65))
     have HK:=hid (gd.alloc (.cells #[.int .i64 6,.string ⟨t1.toArray⟩,.int .i64 t2,.int .i64 file,.int .i64 t3,.int .i64 t4] 65))
     have HA:=hid (gD.alloc (.cells #[.int .i64 6,.string ⟨t1.toArray⟩,.int .i64 t2,.int .i64 file,.int .i64 t3,.int .i64 t4] 65))
     have HR:=hid (World.ownsRow.alloc rN (.cells #[.int .i64 6,.string ⟨t1.toArray⟩,.int .i64 t2,.int .i64 file,.int .i64 t3,.int .i64 t4] 65))
     have HB:=hid (show w.heap.size+1+1≤w3.heap.size+1 by have:=Hc.size;have:=HB.out;omega)
     clear gT kC GT gd rN gD Hc gh GE MV fe y0 y1 y2 y3 y4 y5 hg bN
     obtain⟨y0,y1,y2,y3,y4,y5⟩:=Qfa HM.out
     rw[hB]at y0 y1 y2 y3 y4 y5
     have Gj:=hid (World.ownsRow.alloc HR.out (.cells #[.int .i64 0,.string ⟨t1.toArray⟩] 72))
     obtain⟨i0,hi,GL,GM,GN⟩:=info_parts Qbh
     have gU:w.heap.size+1+1≤w3.heap.size+1:=HB.out
     have crl:=HA.out.holds.lt
     obtain⟨m0,m1,m2,mf0,mf1,mf2,ml⟩:=three HP.out
     go_wp2_with (at_builtin;refine wpList_append_own _ rfl _ _ 73 rfl (w.heap.size+1+1) 72 i0 _ 2 24 Tryz.underlying73 hi GL GM GN rfl (by decide) _ _ _ rfl (by exact Gj.out) ⟨w3.heap.size+1,0,none⟩ 1 1 [.int .i64 0,.string ⟨t1.toArray⟩] rfl rfl (Qlb _ _ _ _ (by simp) _ rfl) (by intro u hu;simp only[List.mem_cons,List.not_mem_nil,or_false]at hu;rcases hu with rfl|rfl <;> rfl) (by unfold maxLen;omega) (by omega) (by simp;omega) ?_)
     intro v' w9 Hp Ha _
     obtain⟨va',vc',rfl⟩:=Qma Hp
     have GP:Qaa (· = r) w w9:=(HK.out.alloc (.cells #[.int .i64 0,.string ⟨t1.toArray⟩] 72)).grown Ha (fun g hg=>by have:=(Qva Gj.out hg).2.1;left;omega)
     have mX:=fun(b:Nat) (xs:Array Value) (t:TypeId) (hx:Qca (w3.alloc (.cells #[.int .i64 6,.string ⟨t1.toArray⟩,.int .i64 t2,.int .i64 file,.int .i64 t3,.int .i64 t4] 65)) b xs t) (Hq:t≠72)=>(hx.alloc (.cells #[.int .i64 0,.string ⟨t1.toArray⟩] 72)).grown Ha (QBa HR.out hx Hq)
     have dV:=mX _ _ _ HZ.out (by decide)
     have dR:=mX _ _ _ HP.out (by decide)
     have jb:=mX _ _ _ HA.out.holds (by decide)
     obtain⟨mm0,mm1,mm2,mg0,mg1,mg2,mgl⟩:=three dR
     have kG:Qea w9 (w.heap.size+1+1) (.slice va' (acc.length+1) vc') (acc++[⟨0,⟨t1.toArray⟩⟩]):=by
      unfold Qea
      rw[QYc,List.length_append]
      exact Hp
     have JU:=dR.set 1 (.slice va' (acc.length+1) vc')
     have k10:=(Qaa.refl (· = w.heap.size+1) w9).setCell (p:=⟨w.heap.size+1,1,none⟩) (.inr rfl) (.slice va' (acc.length+1) vc')
     have mG:=Qba kG k10 (fun g hg e=>by have:=(Qva kG hg).2.1;omega)
     have J3:=dV.keeps k10 (by omega)
     have kr:=jb.keeps k10 M3
     have GJ:=GP.setCell (p:=⟨w.heap.size+1,1,none⟩) (.inl (by simp)) (.slice va' (acc.length+1) vc')
     have kN:=hid mG
     have JK:=hid JU
     have Mp:=hid J3
     have bf:=hid kr
     have jY:=hid GJ
     have HS:=hid hS
     have qn:=kr.cell 1
     have l5:=kr.free 1
     have l7:=kr.lt
     clear Hp Ha mX dV dR jb GP kG JU k10 mG J3 kr GJ hS Gj m0 m1 m2 mf0 mf1 mf2 ml gU
     go_wp2_with fail
     go_roundg (gk-1)
     case measure=>omega
     case rel=>
      refine⟨j+1,_,_,?_,by omega,by omega,by simp;omega,kN.out,HH.out.from jY.out bf.out HA.out.lt (by omega),jY.out,Mp.out,JK.out⟩
      rw[hf,Nat.add_sub_cancel]
      exact HS
    | false=>
     rw[hg,if_pos rfl,if_neg (by simp)]at hS
     subst hS
     go_wp2_with fail
     refine(gh.out _ HA.out).mono ?_
     rintro e w3 ⟨Hc,hm⟩
     simp only[reduceIte,hg,Bool.false_eq_true]at hm
     obtain⟨rfl,Hi⟩:=hm
     have gT:=(HZ.out.keeps Hc cG).alloc (.cells #[.int .i64 6,.string ⟨t1.toArray⟩,.int .i64 t2,.int .i64 file,.int .i64 t3,.int .i64 t4] 65)
     have kC:=(HP.out.keeps Hc Jg).alloc (.cells #[.int .i64 6,.string ⟨t1.toArray⟩,.int .i64 t2,.int .i64 file,.int .i64 t3,.int .i64 t4] 65)
     have gd:=(HK.out.trans Hc (S:=(· = r)) (fun _ _ e=>e)).alloc (.cells #[.int .i64 6,.string ⟨t1.toArray⟩,.int .i64 t2,.int .i64 file,.int .i64 t3,.int .i64 t4] 65)
     have cn:=Hi.alloc (.cells #[.int .i64 6,.string ⟨t1.toArray⟩,.int .i64 t2,.int .i64 file,.int .i64 t3,.int .i64 t4] 65)
     have HZ:=hid gT
     have HK:=hid gd
     have KE:=hid cn
     obtain⟨m0,m1,m2,mf0,mf1,mf2,ml⟩:=three kC
     obtain⟨n0,n1,n2,nf0,nf1,nf2,nl⟩:=three gT
     clear gT kC gd cn Hi Hc gh GE MV fe y0 y1 y2 y3 y4 y5 hg bN
     go_wp2_with fail
     have z1:=QPa HZ.out (.int .i64 1) (.slice va acc.length vc) (.string ⟨#[]⟩)
     have z2:=Qua HK.out (B:=w.heap.size) (.inl (Nat.le_refl _)) (.int .i64 1) (.slice va acc.length vc) (.string ⟨#[]⟩)
     have z3:=KE.out.three HZ.out (.int .i64 1) (.slice va acc.length vc) (.string ⟨#[]⟩)
     unfold Q5e at z1 z2 z3
     obtain⟨q0,q1,q2,_⟩:=three z1
     exact bodyPost_ret (v:=.tuple #[.agg #[.int .i64 1,.slice va acc.length vc,.string ⟨#[]⟩],.bool false]) (by simp[results,Tryz.results147,go_sem,q0,q1,q2]) rfl ⟨z2,_,rfl,⟨1,va,acc.length,vc,⟨#[]⟩,rfl⟩,z3⟩
   ·rw[if_neg h6]at hS
    obtain⟨y0,y1,y2,y3,y4,y5⟩:=Qfa HM.out
    rw[hB]at y0 y1 y2 y3 y4 y5
    generalize QUb L j=PX at *
    obtain⟨p1,p2,p3⟩:=PX
    simp only at hS MV fe
    have c0:=HA.out.holds.cell 0
    have c1:=HA.out.holds.cell 1
    have crl:=HA.out.holds.lt
    clear gh bN
    go_wp2_with fail
    go_region_with (go_at_call 150;refine(MV.out _ (by exact HA.out.keeps ((Qaa.refl _ _).drew))).mono ?_;rintro e w3 ⟨rfl,gv⟩)
    all_goals
     have kb3:Qaa (fun _=>False) (w2.alloc (.cells #[.int .i64 t0,.string ⟨t1.toArray⟩,.int .i64 t2,.int .i64 file,.int .i64 t3,.int .i64 t4] 65)) w3:=((Qaa.refl (fun _=>False) (w2.alloc (.cells #[.int .i64 t0,.string ⟨t1.toArray⟩,.int .i64 t2,.int .i64 file,.int .i64 t3,.int .i64 t4] 65))).drew).trans (Qaa.of_fresh gv (fun _=>False)) (fun _ _ e=>e)
     have ry:=HA.out.keeps kb3
     have HB:=hid (show w.heap.size+1+1≤w3.heap.size from Nat.le_trans HB.out kb3.size)
     have HZ:=hid (HZ.out.keeps kb3 (fun e=>e))
     have HP:=hid (HP.out.keeps kb3 (fun e=>e))
     have HM:=hid (HM.out.keeps kb3 (fun e=>e))
     have HK:=hid (HK.out.trans kb3 (S:=(· = r)) (fun _ _ e=>e.elim))
     have HR:=hid (Qba HR.out kb3 (fun _ _ e=>e))
     have HA:=hid ry
     clear gv kb3 ry c0 c1 y0 y1 y2 y3 y4 y5 crl
     have crl:=HA.out.holds.lt
     by_cases h0:p3=0
     ·subst h0
      rw[if_neg (by simp)]at hS
      obtain⟨k,rfl,ls,um⟩:=fe.out rfl
      simp only[Int.toNat_natCast]at hS
      have Gj:=hid (World.ownsRow.alloc HR.out (.cells #[.int .i64 p1,.string ⟨#[]⟩] 72))
      obtain⟨i0,hi,GL,GM,GN⟩:=info_parts Qbh
      have gU:w.heap.size+1+1≤w3.heap.size:=HB.out
      have crl:=HA.out.holds.lt
      obtain⟨m0,m1,m2,mf0,mf1,mf2,ml⟩:=three HP.out
      go_wp2_with (at_builtin;refine wpList_append_own _ rfl _ _ 73 rfl (w.heap.size+1+1) 72 i0 _ 2 24 Tryz.underlying73 hi GL GM GN rfl (by decide) _ _ _ rfl (by exact Gj.out) ⟨w3.heap.size,0,none⟩ 1 1 [.int .i64 p1,.string ⟨#[]⟩] rfl rfl (Qlb _ _ _ _ (by simp) _ rfl) (by intro u hu;simp only[List.mem_cons,List.not_mem_nil,or_false]at hu;rcases hu with rfl|rfl <;> rfl) (by unfold maxLen;omega) (by omega) (by simp;omega) ?_)
      intro v' w9 Hp Ha _
      obtain⟨va',vc',rfl⟩:=Qma Hp
      have GP:Qaa (· = r) w w9:=(HK.out.alloc (.cells #[.int .i64 p1,.string ⟨#[]⟩] 72)).grown Ha (fun g hg=>by have:=(Qva Gj.out hg).2.1;left;omega)
      have mX:=fun(b:Nat) (xs:Array Value) (t:TypeId) (hx:Qca w3 b xs t) (Hq:t≠72)=>(hx.alloc (.cells #[.int .i64 p1,.string ⟨#[]⟩] 72)).grown Ha (QBa HR.out hx Hq)
      have dV:=mX _ _ _ HZ.out (by decide)
      have dR:=mX _ _ _ HP.out (by decide)
      have jb:=mX _ _ _ HA.out.holds (by decide)
      obtain⟨mm0,mm1,mm2,mg0,mg1,mg2,mgl⟩:=three dR
      have kG:Qea w9 (w.heap.size+1+1) (.slice va' (acc.length+1) vc') (acc++[⟨p1,⟨#[]⟩⟩]):=by
       unfold Qea
       rw[QYc,List.length_append]
       exact Hp
      have JU:=dR.set 1 (.slice va' (acc.length+1) vc')
      have k10:=(Qaa.refl (· = w.heap.size+1) w9).setCell (p:=⟨w.heap.size+1,1,none⟩) (.inr rfl) (.slice va' (acc.length+1) vc')
      have mG:=Qba kG k10 (fun g hg e=>by have:=(Qva kG hg).2.1;omega)
      have J3:=dV.keeps k10 (by omega)
      have kr:=jb.keeps k10 M3
      have GJ:=GP.setCell (p:=⟨w.heap.size+1,1,none⟩) (.inl (by simp)) (.slice va' (acc.length+1) vc')
      have kN:=hid mG
      have JK:=hid JU
      have Mp:=hid J3
      have bf:=hid kr
      have jY:=hid GJ
      have HS:=hid hS
      have qn:=kr.cell 1
      have l5:=kr.free 1
      have l7:=kr.lt
      clear Hp Ha mX dV dR jb GP kG JU k10 mG J3 kr GJ hS Gj m0 m1 m2 mf0 mf1 mf2 ml gU
      go_wp2_with fail
      have kf:=(Qaa.refl (· = r) (w9.setCell ⟨w.heap.size+1,1,none⟩ (.slice va' (acc.length+1) vc'))).setCell (p:=⟨r,1,none⟩) (.inr rfl) (.int .i64 (k:Int))
      have eJ:=Qba kN.out kf (fun g hg e=>by cases e;exact QBa kN.out bf.out (by decide) hg)
      have pw:=bf.out.set 1 (.int .i64 (k:Int))
      have iJ:=jY.out.trans kf (S:=(· = r)) (fun _ _ e=>e)
      have jz:=Mp.out.keeps kf cG
      have jy:=JK.out.keeps kf Jg
      have pn:=HH.out.from iJ pw um (by omega)
      go_roundg (gk-1)
      case measure=>omega
      case rel=>
       refine⟨k,_,_,?_,by omega,by omega,by simp;omega,eJ,pn,iJ,jz,jy⟩
       rw[hf,Nat.add_sub_cancel]
       exact HS
     ·rw[if_pos h0]at hS
      subst hS
      have h0b:(p3 != 0)=true:=by simpa using h0
      have h0n:¬p3=0:=h0
      clear h0
      obtain⟨y0,y1,y2,y3,y4,y5⟩:=Qfa HM.out
      rw[hB]at y0 y1 y2 y3 y4 y5
      obtain⟨m0,m1,m2,mf0,mf1,mf2,ml⟩:=three HP.out
      have oq:=hid (fun wx hx=>GE.out wx hx p3)
      go_wp2_with fail
      go_region_with (go_at_call 59;refine(oq.out _ (by exact HA.out.keeps ((Qaa.refl _ _).drew))).mono ?_;rintro e w4 ⟨rfl,Hi,Hr⟩;have Ky:=HZ.out.drew.keeps Hr cG;have jd:=HP.out.drew.keeps Hr Jg;have mr:=HM.out.drew.keeps Hr G0;obtain⟨a0,a1,a2,af0,af1,af2,al⟩:=three Ky;obtain⟨b0,b1,b2,bf0,bf1,bf2,bl⟩:=three jd;obtain⟨d0,d1,d2,d3,d4,d5⟩:=Qfa mr;rw[hB]at d0 d1 d2 d3 d4 d5)
      all_goals
       go_wp2_with fail
       have z1:=QPa Ky (.int .i64 1) (.slice va acc.length vc) (.string ⟨#[]⟩)
       have z2:=Qua (HK.out.drew.trans Hr (S:=(· = r)) (fun _ _ e=>e)) (B:=w.heap.size) (.inl (Nat.le_refl _)) (.int .i64 1) (.slice va acc.length vc) (.string ⟨#[]⟩)
       have z3:=Hi.three Ky (.int .i64 1) (.slice va acc.length vc) (.string ⟨#[]⟩)
       unfold Q5e at z1 z2 z3
       obtain⟨q0,q1,q2,_⟩:=three z1
       exact bodyPost_ret (v:=.tuple #[.agg #[.int .i64 1,.slice va acc.length vc,.string ⟨#[]⟩],.bool false]) (by simp[results,Tryz.results147,go_sem,q0,q1,q2]) rfl ⟨z2,_,rfl,⟨1,va,acc.length,vc,⟨#[]⟩,rfl⟩,z3⟩
set_option maxRecDepth 100000 in
theorem QCn(w:World)(r base:Nat)(file:Int)(L:List Tok)(lv ov:Value)(i:Nat)(D:List Qra)(h:QTa w r base file L lv ov i D) :
 Calls Tryz.prog 141 #[.pointer (some ⟨r,0,none⟩)] w (QMe (Qnb L i) r base file L lv ov i D w):=by
 have gJ:Below w.heap.size w (w.alloc (.cells #[.int .i64 0,.slice none 0 0,.string ⟨#[]⟩] 75)):=(Below.refl _ _).alloc (Nat.le_refl _) _
 have kR:=Qca.new w #[.int .i64 0,.slice none 0 0,.string ⟨#[]⟩] 75
 obtain⟨gL,cL,rfl,_⟩:=id h.toks
 have gu:=Qtc _ r base file L (.slice (some ⟨gL,0,none⟩) L.length cL) ov i D (h.keeps (Qaa.of_fresh gJ (fun _=>False)))
 have mZ:=h.holds.lt
 have jg:=h.lt
 have J5:=h.size
 have Kh:=hid h.ok
 have lL:=Kh.out.next jg
 have HH:=hid h
 have gh:=hid (fun wx hx=>QGc wx r base file L (.slice (some ⟨gL,0,none⟩) L.length cL) ov i D hx 6 (by decide) 53 Qna Qbc)
 have Jj:Qha L 6 Qna i=if (tkN L i).kind=6 then(if Qna (tkN L i).text=true then .ok (i+1)else .error (i,1))else .error (i,6):=rfl
 have GE:=hid (fun wx hx=>Qsc wx r base file L (.slice (some ⟨gL,0,none⟩) L.length cL) ov i D hx i 6)
 have Hd:∃R,Qnb L i=R:=⟨_,rfl⟩
 obtain⟨RR,Hd⟩:=Hd
 rw[Hd]
 unfold Qnb txN at Hd
 unfold QLc at gh
 unfold Qbb at gu gh GE
 rw[Jj]at gh
 clear Jj h
 generalize tkN L i=t at *
 obtain⟨t0,t1,t2,t3,t4⟩:=t
 simp only at gu gh GE Hd lL
 go_enter Tryz.func141,Tryz.ntmps141
 go_wp2_with fail
 refine gu.mono ?_
 rintro e w1 ⟨rfl,He⟩
 have k1:Qaa (fun _=>False) w w1:=(Qaa.of_fresh gJ (fun _=>False)).trans (Qaa.of_fresh He (fun _=>False)) (fun _ _ e=>e)
 have Gk:=HH.out.keeps k1
 have Gb:=kR.keeps (Qaa.of_fresh He (fun _=>False)) (fun e=>e)
 have mH:r≠w.heap.size:=by omega
 have Gc:=Gk.alloc (.cells #[.int .i64 t0,.string ⟨t1.toArray⟩,.int .i64 t2,.int .i64 file,.int .i64 t3,.int .i64 t4] 65)
 have gc:=Gb.alloc (.cells #[.int .i64 t0,.string ⟨t1.toArray⟩,.int .i64 t2,.int .i64 file,.int .i64 t3,.int .i64 t4] 65)
 have ga:=(k1.mono (S:=(· = r)) (fun _ _ e=>e.elim)).alloc (.cells #[.int .i64 t0,.string ⟨t1.toArray⟩,.int .i64 t2,.int .i64 file,.int .i64 t3,.int .i64 t4] 65)
 have GF:=Qca.new w1 #[.int .i64 t0,.string ⟨t1.toArray⟩,.int .i64 t2,.int .i64 file,.int .i64 t3,.int .i64 t4] 65
 have eS:=Gb.lt
 have KK:w1.heap.size≠r:=by have:=Gk.holds.lt;omega
 obtain⟨y0,y1,y2,y3,y4,y5⟩:=Qfa GF
 clear gu gJ kR He k1 Gk Gb
 by_cases h3:t0=3
 ·subst h3
  rw[if_pos rfl]at Hd
  subst Hd
  have Hj:=lL (by decide)
  obtain⟨gD,k3⟩:=Gc.step Hj
  have GT:=GF.keeps k3 KK
  have gT:=gc.keeps k3 (Ne.symm mH)
  have gd:=ga.trans k3 (S:=(· = r)) (fun _ _ e=>e)
  obtain⟨c1,c1f,crl,_⟩:=Gc.at1
  obtain⟨x0,x1,x2,x3,x4,x5⟩:=Qfa GT
  obtain⟨n0,n1,n2,nf0,nf1,nf2,nl⟩:=three gT
  have KW:=hid gT
  have Hy:=hid gd
  have ky:=gD.holds
  clear Gc gc ga GF GT gT gd k3 gD
  go_wp2_with fail
  have z1:=QPa KW.out (.int .i64 2) (.slice none 0 0) (.string ⟨t1.toArray⟩)
  have z2:=Qua Hy.out (B:=w.heap.size) (.inl (Nat.le_refl _)) (.int .i64 2) (.slice none 0 0) (.string ⟨t1.toArray⟩)
  have z3:=HH.out.from z2 (Qwc ky mH (.int .i64 2) (.slice none 0 0) (.string ⟨t1.toArray⟩)) Hj (by omega)
  unfold Q5e at z1 z2 z3
  obtain⟨q0,q1,q2,_⟩:=three z1
  exact bodyPost_ret (v:=.tuple #[.agg #[.int .i64 2,.slice none 0 0,.string ⟨t1.toArray⟩],.bool true]) (by simp[results,Tryz.results141,go_sem,q0,q1,q2]) rfl ⟨z2,_,rfl,Qea.none _ _,z3,by omega⟩
 ·rw[if_neg h3]at Hd
  by_cases h6:t0=6
  ·subst h6
   rw[if_pos rfl]at Hd
   cases hg:Qna t1 with
   | true=>
    rw[hg,if_pos rfl]at Hd
    subst Hd
    go_wp2_with fail
    refine(gh.out _ Gc).mono ?_
    rintro e w3 ⟨Hc,hm⟩
    simp only[reduceIte,hg]at hm
    obtain⟨rfl,gD⟩:=hm
    have GT:=(GF.keeps Hc KK).alloc (.cells #[.int .i64 6,.string ⟨t1.toArray⟩,.int .i64 t2,.int .i64 file,.int .i64 t3,.int .i64 t4] 65)
    have gT:=(gc.keeps Hc (Ne.symm mH)).alloc (.cells #[.int .i64 6,.string ⟨t1.toArray⟩,.int .i64 t2,.int .i64 file,.int .i64 t3,.int .i64 t4] 65)
    have gd:=(ga.trans Hc (S:=(· = r)) (fun _ _ e=>e)).alloc (.cells #[.int .i64 6,.string ⟨t1.toArray⟩,.int .i64 t2,.int .i64 file,.int .i64 t3,.int .i64 t4] 65)
    have Gh:=gD.alloc (.cells #[.int .i64 6,.string ⟨t1.toArray⟩,.int .i64 t2,.int .i64 file,.int .i64 t3,.int .i64 t4] 65)
    have m9:=hid Gh
    obtain⟨x0,x1,x2,x3,x4,x5⟩:=Qfa GT
    obtain⟨n0,n1,n2,nf0,nf1,nf2,nl⟩:=three gT
    have KW:=hid gT
    have Hy:=hid gd
    clear Gc gc ga GF GT gT gd Hc gD Gh y0 y1 y2 y3 y4 y5
    go_wp2_with fail
    have z1:=QPa KW.out (.int .i64 4) (.slice none 0 0) (.string ⟨t1.toArray⟩)
    have z2:=Qua Hy.out (B:=w.heap.size) (.inl (Nat.le_refl _)) (.int .i64 4) (.slice none 0 0) (.string ⟨t1.toArray⟩)
    have z3:=HH.out.from z2 (Qwc m9.out.holds mH (.int .i64 4) (.slice none 0 0) (.string ⟨t1.toArray⟩)) m9.out.lt (by omega)
    unfold Q5e at z1 z2 z3
    obtain⟨q0,q1,q2,_⟩:=three z1
    exact bodyPost_ret (v:=.tuple #[.agg #[.int .i64 4,.slice none 0 0,.string ⟨t1.toArray⟩],.bool true]) (by simp[results,Tryz.results141,go_sem,q0,q1,q2]) rfl ⟨z2,_,rfl,Qea.none _ _,z3,by omega⟩
   | false=>
    rw[hg,if_neg (by simp)]at Hd
    subst Hd
    go_wp2_with fail
    refine(gh.out _ Gc).mono ?_
    rintro e w3 ⟨Hc,hm⟩
    simp only[reduceIte,hg,Bool.false_eq_true]at hm
    obtain⟨rfl,gD⟩:=hm
    have GT:=(GF.keeps Hc KK).alloc (.cells #[.int .i64 6,.string ⟨t1.toArray⟩,.int .i64 t2,.int .i64 file,.int .i64 t3,.int .i64 t4] 65)
    have gT:=(gc.keeps Hc (Ne.symm mH)).alloc (.cells #[.int .i64 6,.string ⟨t1.toArray⟩,.int .i64 t2,.int .i64 file,.int .i64 t3,.int .i64 t4] 65)
    have gd:=(ga.trans Hc (S:=(· = r)) (fun _ _ e=>e)).alloc (.cells #[.int .i64 6,.string ⟨t1.toArray⟩,.int .i64 t2,.int .i64 file,.int .i64 t3,.int .i64 t4] 65)
    have Gh:=gD.alloc (.cells #[.int .i64 6,.string ⟨t1.toArray⟩,.int .i64 t2,.int .i64 file,.int .i64 t3,.int .i64 t4] 65)
    have m9:=hid Gh
    obtain⟨x0,x1,x2,x3,x4,x5⟩:=Qfa GT
    obtain⟨n0,n1,n2,nf0,nf1,nf2,nl⟩:=three gT
    have KW:=hid gT
    have Hy:=hid gd
    clear Gc gc ga GF GT gT gd Hc gD Gh y0 y1 y2 y3 y4 y5
    go_wp2_with fail
    have z1:=QPa KW.out (.int .i64 4) (.slice none 0 0) (.string ⟨t1.toArray⟩)
    have z2:=Qua Hy.out (B:=w.heap.size) (.inl (Nat.le_refl _)) (.int .i64 4) (.slice none 0 0) (.string ⟨t1.toArray⟩)
    have z3:=m9.out.three KW.out (.int .i64 4) (.slice none 0 0) (.string ⟨t1.toArray⟩)
    unfold Q5e at z1 z2 z3
    obtain⟨q0,q1,q2,_⟩:=three z1
    exact bodyPost_ret (v:=.tuple #[.agg #[.int .i64 4,.slice none 0 0,.string ⟨t1.toArray⟩],.bool false]) (by simp[results,Tryz.results141,go_sem,q0,q1,q2]) rfl ⟨z2,_,rfl,⟨4,none,0,0,⟨t1.toArray⟩,rfl⟩,z3⟩
  ·rw[if_neg h6]at Hd
   have GV:=QTc _ r base file L (.slice (some ⟨gL,0,none⟩) L.length cL) ov i D Gc 4 [60]
   go_wp2_with fail
   refine(by exact GV:Calls _ _ _ _ _).mono ?_
   rintro e w2 ⟨rfl,Hn⟩
   have kb2:Qaa (fun _=>False) _ w2:=Qaa.of_fresh Hn _
   have gD:=Gc.keeps kb2
   have gT:=gc.keeps kb2 (fun e=>e)
   have gd:=ga.trans kb2 (S:=(· = r)) (fun _ _ e=>e.elim)
   have GT:=GF.keeps kb2 (fun e=>e)
   clear GV Hn kb2 Gc gc ga GF y0 y1 y2 y3 y4 y5
   cases hk:isK L i 4 [60]with
   | true=>
    rw[hk,if_pos rfl]at Hd
    obtain⟨Gh,k4⟩:=gD.step (Qkd Kh.out jg hk (by decide))
    have H9:=Qjm _ r base file L (.slice (some ⟨gL,0,none⟩) L.length cL) ov (i+1) D Gh
    unfold QMe at H9
    have Gn:=gd.trans k4 (S:=(· = r)) (fun _ _ e=>e)
    have Ky:=gT.keeps k4 (Ne.symm mH)
    obtain⟨c1,c1f,crl,_⟩:=gD.at1
    have M5:=Gn.size
    have ja:=hid Ky
    have gN:=hid Gn
    clear gd gT gD Gh k4 Ky Gn
    generalize QOb L (Q6a L) (i+1) []=R at *
    cases R with
    | ok q=>
     obtain⟨j,q⟩:=q
     simp only at Hd H9
     subst Hd
     go_wp2_with fail
     refine(by exact H9:Calls _ _ _ _ _).mono ?_
     rintro e w5 ⟨Hs,cv,rfl,Hb,G8,nH⟩
     unfold Qph
     have Kz:=ja.out.keeps Hs (Ne.symm mH)
     have kt:=gN.out.trans Hs (S:=(· = r)) (fun _ _ e=>e)
     have kZ:Qea w5 w.heap.size cv (q):=Hb.lower M5
     have fu:=G8.holds
     have nJ:=G8.lt
     obtain⟨va,vc,rfl⟩:=kZ.slice
     obtain⟨n0,n1,n2,nf0,nf1,nf2,nl⟩:=three Kz
     have jp:=hid kZ
     have K5:=hid Kz
     have GS:=hid kt
     clear H9 Hb kZ G8 Hs Kz kt
     go_wp2_with fail
     have z1:=QPa K5.out (.int .i64 1) (.slice va q.length vc) (.string ⟨#[]⟩)
     have z2:=Qua GS.out (B:=w.heap.size) (.inl (Nat.le_refl _)) (.int .i64 1) (.slice va q.length vc) (.string ⟨#[]⟩)
     have z3:=HH.out.from z2 (Qwc fu mH (.int .i64 1) (.slice va q.length vc) (.string ⟨#[]⟩)) nJ (by omega)
     have z4:=Qba jp.out (Qua (S:=(· = w.heap.size)) (Qaa.refl _ _) (.inr rfl) (.int .i64 1) (.slice va q.length vc) (.string ⟨#[]⟩)) (fun g hg e=>by cases e;exact QBa jp.out K5.out (by decide) hg)
     unfold Q5e at z4
     unfold Q5e at z1 z2 z3
     obtain⟨q0,q1,q2,_⟩:=three z1
     exact bodyPost_ret (v:=.tuple #[.agg #[.int .i64 1,.slice va q.length vc,.string ⟨#[]⟩],.bool true]) (by simp[results,Tryz.results141,go_sem,q0,q1,q2]) rfl ⟨z2,_,rfl,z4,z3,by omega⟩
    | error q=>
     obtain⟨k,c⟩:=q
     simp only at Hd H9
     subst Hd
     go_wp2_with fail
     refine(by exact H9:Calls _ _ _ _ _).mono ?_
     rintro e w5 ⟨Hs,v,rfl,⟨ea,ex,en,ec,es,rfl⟩,Hi⟩
     have Kz:=ja.out.keeps Hs (Ne.symm mH)
     have kt:=gN.out.trans Hs (S:=(· = r)) (fun _ _ e=>e)
     obtain⟨n0,n1,n2,nf0,nf1,nf2,nl⟩:=three Kz
     have K5:=hid Kz
     have GS:=hid kt
     have KE:=hid Hi
     clear H9 Hs Kz kt Hi
     go_wp2_with fail
     have z1:=QPa K5.out (.int .i64 ea) (.slice ex en ec) (.string es)
     have z2:=Qua GS.out (B:=w.heap.size) (.inl (Nat.le_refl _)) (.int .i64 ea) (.slice ex en ec) (.string es)
     have z3:=KE.out.three K5.out (.int .i64 ea) (.slice ex en ec) (.string es)
     unfold Q5e at z1 z2 z3
     obtain⟨q0,q1,q2,_⟩:=three z1
     exact bodyPost_ret (v:=.tuple #[.agg #[.int .i64 ea,.slice ex en ec,.string es],.bool false]) (by simp[results,Tryz.results141,go_sem,q0,q1,q2]) rfl ⟨z2,_,rfl,⟨ea,ex,en,ec,es,rfl⟩,z3⟩
   | false=>
    rw[hk,if_neg (by simp)]at Hd
    have kU:=QTc _ r base file L (.slice (some ⟨gL,0,none⟩) L.length cL) ov i D gD 4 [91]
    go_wp2_with fail
    refine(by exact kU:Calls _ _ _ _ _).mono ?_
    rintro e w3 ⟨rfl,gv⟩
    have kb3:Qaa (fun _=>False) _ w3:=Qaa.of_fresh gv _
    have gD:=gD.keeps kb3
    have gT:=gT.keeps kb3 (fun e=>e)
    have gd:=gd.trans kb3 (S:=(· = r)) (fun _ _ e=>e.elim)
    have GT:=GT.keeps kb3 (fun e=>e)
    clear kU gv kb3 hk
    cases hk:isK L i 4 [91]with
    | true=>
     rw[hk,if_pos rfl]at Hd
     obtain⟨Gh,k4⟩:=gD.step (Qkd Kh.out jg hk (by decide))
     have H9:=Qim _ r base file L (.slice (some ⟨gL,0,none⟩) L.length cL) ov (i+1) D Gh
     unfold QMe at H9
     have Gn:=gd.trans k4 (S:=(· = r)) (fun _ _ e=>e)
     have Ky:=gT.keeps k4 (Ne.symm mH)
     obtain⟨c1,c1f,crl,_⟩:=gD.at1
     have M5:=Gn.size
     have ja:=hid Ky
     have gN:=hid Gn
     clear gd gT gD Gh k4 Ky Gn
     generalize QMc L (Q6a L) (i+1) []=R at *
     cases R with
     | ok q=>
      obtain⟨j,q⟩:=q
      simp only at Hd H9
      subst Hd
      go_wp2_with fail
      refine(by exact H9:Calls _ _ _ _ _).mono ?_
      rintro e w5 ⟨Hs,cv,rfl,Hb,G8,nH⟩
      unfold Qph
      have Kz:=ja.out.keeps Hs (Ne.symm mH)
      have kt:=gN.out.trans Hs (S:=(· = r)) (fun _ _ e=>e)
      have kZ:Qea w5 w.heap.size cv ([]):=Hb.lower M5
      have fu:=G8.holds
      have nJ:=G8.lt
      obtain⟨va,vc,rfl⟩:=kZ.slice
      obtain⟨n0,n1,n2,nf0,nf1,nf2,nl⟩:=three Kz
      have jp:=hid kZ
      have K5:=hid Kz
      have GS:=hid kt
      clear H9 Hb kZ G8 Hs Kz kt
      go_wp2_with fail
      have z1:=QPa K5.out (.int .i64 3) (.slice va 0 vc) (.string ⟨q.toArray⟩)
      have z2:=Qua GS.out (B:=w.heap.size) (.inl (Nat.le_refl _)) (.int .i64 3) (.slice va 0 vc) (.string ⟨q.toArray⟩)
      have z3:=HH.out.from z2 (Qwc fu mH (.int .i64 3) (.slice va 0 vc) (.string ⟨q.toArray⟩)) nJ (by omega)
      have z4:=Qba jp.out (Qua (S:=(· = w.heap.size)) (Qaa.refl _ _) (.inr rfl) (.int .i64 3) (.slice va 0 vc) (.string ⟨q.toArray⟩)) (fun g hg e=>by cases e;exact QBa jp.out K5.out (by decide) hg)
      unfold Q5e at z4
      unfold Q5e at z1 z2 z3
      obtain⟨q0,q1,q2,_⟩:=three z1
      exact bodyPost_ret (v:=.tuple #[.agg #[.int .i64 3,.slice va 0 vc,.string ⟨q.toArray⟩],.bool true]) (by simp[results,Tryz.results141,go_sem,q0,q1,q2]) rfl ⟨z2,_,rfl,z4,z3,by omega⟩
     | error q=>
      obtain⟨k,c⟩:=q
      simp only at Hd H9
      subst Hd
      go_wp2_with fail
      refine(by exact H9:Calls _ _ _ _ _).mono ?_
      rintro e w5 ⟨Hs,v,rfl,⟨ea,ex,en,ec,es,rfl⟩,Hi⟩
      have Kz:=ja.out.keeps Hs (Ne.symm mH)
      have kt:=gN.out.trans Hs (S:=(· = r)) (fun _ _ e=>e)
      obtain⟨n0,n1,n2,nf0,nf1,nf2,nl⟩:=three Kz
      have K5:=hid Kz
      have GS:=hid kt
      have KE:=hid Hi
      clear H9 Hs Kz kt Hi
      go_wp2_with fail
      have z1:=QPa K5.out (.int .i64 ea) (.slice ex en ec) (.string es)
      have z2:=Qua GS.out (B:=w.heap.size) (.inl (Nat.le_refl _)) (.int .i64 ea) (.slice ex en ec) (.string es)
      have z3:=KE.out.three K5.out (.int .i64 ea) (.slice ex en ec) (.string es)
      unfold Q5e at z1 z2 z3
      obtain⟨q0,q1,q2,_⟩:=three z1
      exact bodyPost_ret (v:=.tuple #[.agg #[.int .i64 ea,.slice ex en ec,.string es],.bool false]) (by simp[results,Tryz.results141,go_sem,q0,q1,q2]) rfl ⟨z2,_,rfl,⟨ea,ex,en,ec,es,rfl⟩,z3⟩
    | false=>
     rw[hk,if_neg (by simp)]at Hd
     subst Hd
     obtain⟨x0,x1,x2,x3,x4,x5⟩:=Qfa GT
     have hf:=GE.out _ gD
     have qP:=hid GT
     have KW:=hid gT
     have Hy:=hid gd
     clear GT gT gd gD
     go_wp2_with fail
     refine(by exact hf:Calls _ _ _ _ _).mono ?_
     rintro e w4 ⟨rfl,Hi,Hr⟩
     have Ky:=KW.out.keeps Hr (Ne.symm mH)
     have Gn:=Hy.out.trans Hr (S:=(· = r)) (fun _ _ e=>e)
     obtain⟨n0,n1,n2,nf0,nf1,nf2,nl⟩:=three Ky
     have ja:=hid Ky
     have gN:=hid Gn
     have KE:=hid Hi
     clear hf Hr Ky Gn Hi
     go_wp2_with fail
     have z1:=QPa ja.out (.int .i64 0) (.slice none 0 0) (.string ⟨#[]⟩)
     have z2:=Qua gN.out (B:=w.heap.size) (.inl (Nat.le_refl _)) (.int .i64 0) (.slice none 0 0) (.string ⟨#[]⟩)
     have z3:=KE.out.three ja.out (.int .i64 0) (.slice none 0 0) (.string ⟨#[]⟩)
     unfold Q5e at z1 z2 z3
     obtain⟨q0,q1,q2,_⟩:=three z1
     exact bodyPost_ret (v:=.tuple #[.agg #[.int .i64 0,.slice none 0 0,.string ⟨#[]⟩],.bool false]) (by simp[results,Tryz.results141,go_sem,q0,q1,q2]) rfl ⟨z2,_,rfl,⟨0,none,0,0,⟨#[]⟩,rfl⟩,z3⟩
def QWb(R:Rs (Nat × List Qra))(r base:Nat)(file:Int)(L:List Tok)(lv:Value)(i:Nat)(D:List Qra)(w:World)(e:Ending)(w':World):Prop:=
 Below base w w'∧match R with
  | .ok (j,ds)=>e = .returned (.bool true)∧∃ov',QTa w' r base file L lv ov' j (D++ds)∧i<j
  | .error (k,c)=>e = .returned (.bool false)∧∃ov',Qib w' r file L lv ov' k c
section
variable{w w':World}{r base:Nat}{file:Int}{L:List Tok}{lv ov:Value}{i:Nat}{D:List Qra}
theorem QTa.below(h:QTa w r base file L lv ov i D)(k:Qaa (· = r) w w'):Below base w w':=k.below h.size (fun j hj e=>by have:=h.low;omega)
theorem QQk.noteBelow{x fp:Value}(h:QQk w r base file lv x ov fp D)(k:Qaa (fun b=>b=r∨ov.ownBlock=some b) w w'):Below base w w':=by
 refine k.below h.2.2.2 (fun j hj e=>?_)
 rcases e with rfl|e
 ·have:=h.2.2.1;omega
 ·obtain⟨vs,_,Hb,_⟩:=h.2.1
  have:=(Qva Hb e).2.1
  omega
theorem QTa.bad(h:QTa w r base file L lv ov i D)(k:Qaa (· = r) w w'){q:Nat}{c:Int}(hb:Qib w' r file L lv ov q c) :
 ∃x f,QQk w' r base file lv x ov (.pointer (some ⟨f,0,none⟩)) D∧Qca w' f #[.int .i64 file,.int .i64 (tkN L q).line,.int .i64 (tkN L q).col,.int .i64 c] 68:=by
 obtain⟨x,f,h1,h2⟩:=hb
 exact⟨x,f,⟨h1,h.defs.keeps k (QNa.one h.holds (by decide) (by decide) (by decide)),h.low,Nat.le_trans h.size k.size⟩,h2⟩
theorem QTa.noted{ov':Value}{d:Qra}(h:QTa w r base file L lv ov i D)(hr:QQk w' r base file lv (.int .i64 i) ov' (.pointer none) (D++[d]))(k:Qaa (fun b=>b=r∨ov.ownBlock=some b) w w')(hc:D.length+1≤i):QTa w' r base file L lv ov' i (D++[d]):=
 ⟨hr.1,h.toks.keeps k (fun b e=>by
  rcases e with rfl|e
  ·exact h.low
  ·obtain⟨vs,_,Hb,_⟩:=h.defs
   exact(Qva Hb e).2.1),hr.2.1,hr.2.2.1,hr.2.2.2,h.lt,h.ok,by simp;omega⟩
theorem Q1k{x:Value}{f:Nat}{ov':Value}{d:Qra}{q:Nat}{c:Int}(h:QQk w r base file lv x ov (.pointer (some ⟨f,0,none⟩)) D)(hf:Qca w f #[.int .i64 file,.int .i64 (tkN L q).line,.int .i64 (tkN L q).col,.int .i64 c] 68)
 (hr:QQk w' r base file lv x ov' (.pointer (some ⟨f,0,none⟩)) (D++[d])) (k:Qaa (fun b=>b=r∨ov.ownBlock=some b) w w'):Qib w' r file L lv ov' q c:=by
 refine⟨x,f,hr.1,hf.keeps k (fun e=>?_)⟩
 rcases e with rfl|e
 ·exact QSc h.1 hf (by decide) rfl
 ·obtain⟨vs,_,Hb,_⟩:=h.2.1
  exact QBa Hb hf (by decide) e
end
theorem Qzi{L:List Tok}{kind:Int}{right:List UInt8→Bool}{i j:Nat}(h:Qha L kind right i = .ok j):j=i+1:=by
 unfold Qha at h
 split at h
 ·split at h
  ·cases h;rfl
  ·cases h
 ·cases h
set_option maxRecDepth 100000 in
theorem Qsd(w:World)(r base:Nat)(file:Int)(L:List Tok)(lv ov:Value)(i:Nat)(D:List Qra)(h:QTa w r base file L lv ov i D)(kind what:Int)(before:List UInt8)(f:Nat)(right:List UInt8→Bool)(hf:Qxg f right)(hw8:what≠8)(gn:(tkN L i).kind≠8)(Hk:before.length≤10) :
 Calls Tryz.prog 57 #[.pointer (some ⟨r,0,none⟩),.int .i64 kind,.int .i64 what,.string ⟨before.toArray⟩,.func (.func f) #[] #[]] w (QWb (Qhd L kind what before right i) r base file L lv i D w):=by
 have gu:=Qtc _ r base file L lv ov i D h
 have Hj:=h.ok.next h.lt gn
 have rE:=h
 have Hd:∃R,Qhd L kind what before right i=R:=⟨_,rfl⟩
 obtain⟨RR,Hd⟩:=Hd
 rw[Hd]
 unfold Qhd at Hd
 have hx2:=h.ok.at (i+1)
 have iR:=Qpa before (tkN L (i+1)).text (by omega)
 unfold QYd at iR
 unfold Qbb at gu
 have pC:=hid (fun j=>Qzi (L:=L) (kind:=what) (right:=right) (i:=i+1) (j:=j))
 generalize GQ:tkN L i=t at *
 obtain⟨t0,t1,t2,t3,t4⟩:=t
 simp only at gu Hd
 have gh:=hid GQ
 have HH:=hid rE
 have mZ:=h.holds.lt
 have ef:=h.cnt
 have jg:L.length≤6001:=h.ok.len
 clear gn rE GQ h
 go_enter Tryz.func57,Tryz.ntmps57
 go_wp2_with fail
 refine gu.mono ?_
 rintro e w1 ⟨rfl,He⟩
 have k1:Qaa (fun _=>False) w (w1.alloc (.cells #[.int .i64 t0,.string ⟨t1.toArray⟩,.int .i64 t2,.int .i64 file,.int .i64 t3,.int .i64 t4] 65)):=(Qaa.of_fresh He (fun _=>False)).alloc _
 have Gk:=HH.out.keeps k1
 have Mc:=Qca.new w1 #[.int .i64 t0,.string ⟨t1.toArray⟩,.int .i64 t2,.int .i64 file,.int .i64 t3,.int .i64 t4] 65
 have KK:w1.heap.size≠r:=by have:=He.size;omega
 obtain⟨Gc,k2⟩:=Gk.step Hj
 have GF:=Mc.keeps k2 KK
 have ga:=(k1.mono (S:=(· = r)) (fun _ _ e=>e.elim)).trans k2 (S:=(· = r)) (fun _ _ e=>e)
 obtain⟨c1,c1f,crl,_⟩:=Gk.at1
 have bW:=QGc _ r base file L lv ov (i+1) D Gc what hw8 f right hf
 unfold QLc Qbb at bW
 have mT:=hid Gc
 have JG:=hid GF
 have Gs:=hid ga
 clear gu He k1 Gk Mc k2 Gc GF ga
 generalize Qha L what right (i+1)=TR at *
 generalize tkN L (i+1)=s at *
 obtain⟨s0,s1,s2,s3,s4⟩:=s
 simp only at bW Hd hx2 iR
 generalize Mg:before++s1=nm at *
 go_wp2_with fail
 refine(by exact bW:Calls _ _ _ _ _).mono ?_
 rintro e w3 ⟨Hc,hm⟩
 have gd:=(Gs.out.trans Hc (S:=(· = r)) (fun _ _ e=>e)).alloc (.cells #[.int .i64 s0,.string ⟨s1.toArray⟩,.int .i64 s2,.int .i64 file,.int .i64 s3,.int .i64 s4] 65)
 have GT:=(JG.out.keeps Hc KK).alloc (.cells #[.int .i64 s0,.string ⟨s1.toArray⟩,.int .i64 s2,.int .i64 file,.int .i64 s3,.int .i64 s4] 65)
 have fw:=Qca.new w3 #[.int .i64 s0,.string ⟨s1.toArray⟩,.int .i64 s2,.int .i64 file,.int .i64 s3,.int .i64 s4] 65
 obtain⟨m0,m1,m2,m3,m4,m5⟩:=Qfa GT
 obtain⟨n0,n1,n2,n3,n4,n5⟩:=Qfa fw
 clear bW
 cases TR with
 | ok j=>
  simp only at hm Hd
  obtain⟨rfl,gD⟩:=hm
  have Gh:=gD.alloc (.cells #[.int .i64 s0,.string ⟨s1.toArray⟩,.int .i64 s2,.int .i64 file,.int .i64 s3,.int .i64 s4] 65)
  have M2:=QJe _ r base file lv (.int .i64 j) ov (.pointer none) D ⟨kind,⟨#[]⟩,⟨nm.toArray⟩,[],t3,t4⟩ (.slice none 0 0) Gh.raw (Qia.none _ _) (by have:=Gh.cnt;have:=Gh.lt;have:=Gh.ok.len;omega)
  unfold Q5b at M2
  have hj:=pC.out j rfl
  subst hj
  go_wp2_with fail
  refine(by exact M2:Calls _ _ _ _ _).mono ?_
  rintro e w4 ⟨rfl,ov',mF,Hr⟩
  have G8:=Gh.noted mF Hr (by omega)
  have Jb:=(HH.out.below gd).trans (Gh.raw.noteBelow Hr)
  have Hf:=QUc w4 r base file L lv ov' (i+1+1) _ G8 [59]
  unfold Qyc at Hf
  unfold Q1a at Hd
  have HB:=hid Jb
  have Mk:=hid G8
  clear M2 mF Hr Jb G8 Gh gD Hc gd GT fw Gs JG mT
  cases hk:isK L (i+1+1) 4 [59]with
  | true=>
   rw[hk,if_pos rfl]at Hd
   simp only at Hd
   subst Hd
   rw[hk]at Hf
   go_wp2_with fail
   refine(by exact Hf:Calls _ _ _ _ _).mono ?_
   rintro e w5 ⟨rfl,Hs,hy,_⟩
   have KX:=hy (by trivial)
   have K8:=HB.out.trans (Mk.out.below Hs)
   clear Hf hy
   go_wp2_with fail
   go_ret
   exact⟨K8,rfl,ov',KX,by omega⟩
  | false=>
   rw[hk,if_neg (by simp)]at Hd
   simp only at Hd
   subst Hd
   rw[hk]at Hf
   go_wp2_with fail
   refine(by exact Hf:Calls _ _ _ _ _).mono ?_
   rintro e w5 ⟨rfl,Hs,_,hn⟩
   have KX:=hn (by trivial)
   have K8:=HB.out.trans (Mk.out.below Hs)
   clear Hf hn
   go_wp2_with fail
   go_ret
   exact⟨K8,rfl,ov',KX⟩
 | error q=>
  obtain⟨k,c⟩:=q
  simp only at hm Hd
  obtain⟨rfl,Hi⟩:=hm
  obtain⟨x,ff,eI,ML⟩:=HH.out.bad gd (Hi.alloc (.cells #[.int .i64 s0,.string ⟨s1.toArray⟩,.int .i64 s2,.int .i64 file,.int .i64 s3,.int .i64 s4] 65))
  have M2:=QJe _ r base file lv x ov (.pointer (some ⟨ff,0,none⟩)) D ⟨kind,⟨#[]⟩,⟨nm.toArray⟩,[],t3,t4⟩ (.slice none 0 0) eI (Qia.none _ _) (by omega)
  unfold Q5b at M2
  subst Hd
  go_wp2_with fail
  refine(by exact M2:Calls _ _ _ _ _).mono ?_
  rintro e w4 ⟨rfl,ov',mF,Hr⟩
  have mu:=HH.out.below gd
  have Jb:=eI.noteBelow Hr
  have Hh:=Q1k (L:=L) eI ML mF Hr
  go_wp2_with fail
  go_ret
  exact⟨mu.trans Jb,rfl,ov',Hh⟩
theorem Quf:(Tryz.prog.info? 75).map (fun i=>(i.zero,i.size,i.bytes))=some (some (.agg #[.int .i64 0,.slice none 0 0,.string ⟨#[]⟩]),3,48):=by kernel_rfl
def Qvm(r base:Nat)(file:Int)(L:List Tok)(lv:Value)(n:Nat):Prop:=∀(w:World) (ov:Value) (i:Nat) (D:List Qra) (d:Qra) (dp:Nat),QTa w r base file L lv ov i D→d.parts=[]→3*(L.length-i)≤n→dp≤100→
 Calls Tryz.prog 55 #[.pointer (some ⟨r,0,none⟩),Q5b file d (.slice none 0 0),.int .i64 dp] w (QWb (Q7a L n (.body d dp) i) r base file L lv i D w)
def QJi(r base:Nat)(file:Int)(L:List Tok)(lv:Value)(n:Nat):Prop:=∀(w:World) (ov:Value) (i:Nat) (D:List Qra) (dp:Nat),QTa w r base file L lv ov i D→3*(L.length-i)≤n→dp≤50→
 Calls Tryz.prog 95 #[.pointer (some ⟨r,0,none⟩),.int .i64 dp] w (QWb (Q7a L n (.member dp) i) r base file L lv i D w)
def QXk(r base:Nat)(file:Int)(L:List Tok)(lv:Value)(n:Nat):Prop:=∀(w:World) (ov:Value) (i:Nat) (D:List Qra) (dp:Nat),QTa w r base file L lv ov i D→(tkN L i).kind=1→3*(L.length-i)≤n+1→dp≤99→
 Calls Tryz.prog 124 #[.pointer (some ⟨r,0,none⟩),Qbb file (tkN L i),.int .i64 dp] w (QWb (Q7a L n (.named dp) i) r base file L lv i D w)
theorem Qle:Qxg 123 QUa:=⟨enters_of Tryz.func123 (by kernel_rfl) rfl,fun s w hs=>Q7e s w (by unfold maxLen;omega)⟩
theorem Qfg:Qxg 125 QQb:=⟨enters_of Tryz.func125 (by kernel_rfl) rfl,fun s w hs=>QLh s w (by omega)⟩
set_option maxRecDepth 100000 in
theorem Qmm(r base:Nat)(file:Int)(L:List Tok)(lv:Value)(n:Nat)(hB:Qvm r base file L lv n):QXk r base file L lv (n+1):=by
 intro w ov i D dp h Ht hn K9
 have nZ:=hid hB
 have Hj:=h.ok.next h.lt (by rw[Ht];decide)
 have Kh:=hid h.ok
 have J5:=h.size
 have mZ:=h.holds.lt
 have ef:=h.cnt
 have Ga:=h.ok.len
 have HH:=hid h
 have Kd:=h.ok.at i
 have Hd:∃R,Q7a L (n+1) (.named dp) i=R:=⟨_,rfl⟩
 obtain⟨RR,Hd⟩:=Hd
 rw[Hd]
 rw[Q7a]at Hd
 unfold txN at Hd
 have gh:=hid (show tkN L i=tkN L i from rfl)
 have GE:=hid (fun wx hx=>Qsc wx r base file L lv ov (i+1) D hx i 1)
 unfold Qbb at GE ⊢
 clear Ht h hB
 generalize tkN L i=t at *
 obtain⟨t0,t1,t2,t3,t4⟩:=t
 simp only at Hd GE Kd ⊢
 have ch:∀wx,Calls Tryz.prog 123 #[.string ⟨t1.toArray⟩] wx fun e w'=>e = .returned (.bool (QUa t1))∧wx=w':=fun wx=>Qle.2 ⟨t1.toArray⟩ wx (by simpa[ByteArray.size]using Kd)
 have je:∀wx,Calls Tryz.prog 125 #[.string ⟨t1.toArray⟩] wx fun e w'=>e = .returned (.bool (QQb t1))∧wx=w':=fun wx=>Qfg.2 ⟨t1.toArray⟩ wx (by simpa[ByteArray.size]using Kd)
 obtain⟨Gk,k1⟩:=HH.out.step Hj
 have Gc:=Gk.alloc (.cells #[.int .i64 t0,.string ⟨t1.toArray⟩,.int .i64 t2,.int .i64 file,.int .i64 t3,.int .i64 t4] 65)
 have GF:=Qca.newAt (w:=w.setCell ⟨r,1,none⟩ (.int .i64 ((i:Int)+1))) (B:=w.heap.size) (by simp) #[.int .i64 t0,.string ⟨t1.toArray⟩,.int .i64 t2,.int .i64 file,.int .i64 t3,.int .i64 t4] 65
 have ga:=k1.alloc (.cells #[.int .i64 t0,.string ⟨t1.toArray⟩,.int .i64 t2,.int .i64 file,.int .i64 t3,.int .i64 t4] 65)
 obtain⟨c1,c1f,crl,_⟩:=(HH.out.alloc (.cells #[.int .i64 t0,.string ⟨t1.toArray⟩,.int .i64 t2,.int .i64 file,.int .i64 t3,.int .i64 t4] 65)).at1
 have GV:=QTc _ r base file L lv ov (i+1) D Gc 4 [123]
 have mT:=hid Gc
 have JG:=hid GF
 have Gs:=hid ga
 clear Gk k1 Gc GF ga
 go_enter Tryz.func124,Tryz.ntmps124
 go_wp2_with fail
 refine(by exact GV:Calls _ _ _ _ _).mono ?_
 rintro e w2 ⟨rfl,Hn⟩
 have kb2:Qaa (fun _=>False) _ w2:=Qaa.of_fresh Hn _
 have gD:=mT.out.keeps kb2
 have GT:=JG.out.keeps kb2 (fun e=>e)
 have gd:=Gs.out.trans kb2 (S:=(· = r)) (fun _ _ e=>e.elim)
 obtain⟨m0,m1,m2,m3,m4,m5⟩:=Qfa GT
 clear GV Hn kb2 c1 c1f crl
 cases hk:isK L (i+1) 4 [123]with
 | true=>
  rw[hk,if_pos rfl]at Hd
  cases hg:QUa t1 with
  | true=>
   rw[hg,if_pos rfl]at Hd
   rw[hg]at ch
   obtain⟨dq,i8⟩:∃z,z=dp+1:=⟨_,rfl⟩
   rw[←i8]at Hd
   have Hm:=nZ.out w2 ov (i+1) D ⟨1,⟨#[]⟩,⟨t1.toArray⟩,[],t3,t4⟩ dq gD rfl (by omega) (by omega)
   unfold Q5b QWb at Hm
   rw[Hd]at Hm
   have ei:(dp:Int)+1=(dq:Int):=by omega
   have i9:dq≤100:=by omega
   clear i8
   have Jo:=HH.out.below gd
   have aS:=hid ch
   clear je ch gd GT
   go_wp2_with fail
   refine(aS.out _).mono ?_
   rintro e w3 ⟨rfl,rfl⟩
   go_wp2_with fail
   refine(by exact Hm:Calls _ _ _ _ _).mono ?_
   rintro e w3 ⟨gv,hm⟩
   have Kb:=Jo.trans gv
   unfold QWb
   clear Hm Hd
   cases RR with
   | ok q=>
    obtain⟨j,ds⟩:=q
    simp only at hm
    obtain⟨rfl,ov',Gh,hj⟩:=hm
    go_wp2_with fail
    go_ret
    exact⟨Kb,rfl,ov',Gh,by omega⟩
   | error q=>
    obtain⟨k,c⟩:=q
    simp only at hm
    obtain⟨rfl,ov',Hi⟩:=hm
    go_wp2_with fail
    go_ret
    exact⟨Kb,rfl,ov',Hi⟩
  | false=>
   rw[hg,if_neg (by simp)]at Hd
   subst Hd
   rw[hg]at ch
   have ML:=GE.out _ gD
   have Jo:=HH.out.below gd
   have aS:=hid ch
   clear je ch gd GT
   go_wp2_with fail
   refine(aS.out _).mono ?_
   rintro e w3 ⟨rfl,rfl⟩
   go_wp2_with fail
   refine(by exact ML:Calls _ _ _ _ _).mono ?_
   rintro e w3 ⟨rfl,Hi,Hc⟩
   have gv:=Jo.trans (gD.below Hc)
   go_wp2_with fail
   go_ret
   exact⟨gv,rfl,ov,Hi⟩
 | false=>
  rw[hk,if_neg (by simp)]at Hd
  cases hg:QQb t1 with
  | false=>
   rw[hg,if_neg (by simp)]at Hd
   subst Hd
   rw[hg]at je
   have ML:=GE.out _ gD
   have Jo:=HH.out.below gd
   have MV:=hid je
   clear je ch gd GT
   go_wp2_with fail
   refine(MV.out _).mono ?_
   rintro e w3 ⟨rfl,rfl⟩
   go_wp2_with fail
   refine(by exact ML:Calls _ _ _ _ _).mono ?_
   rintro e w3 ⟨rfl,Hi,Hc⟩
   have gv:=Jo.trans (gD.below Hc)
   go_wp2_with fail
   go_ret
   exact⟨gv,rfl,ov,Hi⟩
  | true=>
   rw[hg,if_pos rfl]at Hd
   rw[hg]at je
   have MV:=hid je
   clear je ch
   go_wp2_with fail
   refine(MV.out _).mono ?_
   rintro e w3 ⟨rfl,rfl⟩
   have Gh:=gD.alloc (.cells #[.int .i64 3,.string ⟨#[]⟩,.string ⟨t1.toArray⟩,.slice none 0 0,.int .i64 file,.int .i64 t3,.int .i64 t4] 34)
   have rB:=Qca.new w2 #[.int .i64 3,.string ⟨#[]⟩,.string ⟨t1.toArray⟩,.slice none 0 0,.int .i64 file,.int .i64 t3,.int .i64 t4] 34
   have Gn:=gd.alloc (.cells #[.int .i64 3,.string ⟨#[]⟩,.string ⟨t1.toArray⟩,.slice none 0 0,.int .i64 file,.int .i64 t3,.int .i64 t4] 34)
   have mS:=gd.size
   have bM:=GT.lt
   have mx:L.length<(i+1)+Q6a L:=by unfold Q6a;omega
   generalize hN:Q6a L=N at *
   generalize hPP:Qgb L N [61] (i+1) []=PP at *
   have fe:=hid hPP
   have qj:=Qia.none (w2.alloc (.cells #[.int .i64 3,.string ⟨#[]⟩,.string ⟨t1.toArray⟩,.slice none 0 0,.int .i64 file,.int .i64 t3,.int .i64 t4] 34)) (w.heap.size+1)
   obtain⟨Z,hZ⟩:∃z,z=w2.heap.size:=⟨_,rfl⟩
   have Mw:Z≠r:=by omega
   have fx:w.heap.size+1≤Z:=by omega
   rw[←hZ]at rB
   clear hN hPP GT gD gd JG mT Gs hg hk
   go_wp2_with fail
   rw[←hZ]
   have HZZ:=hid hZ
   clear m0 m1 m2 m3 m4 m5 hZ
   generalize w2.alloc (.cells #[.int .i64 3,.string ⟨#[]⟩,.string ⟨t1.toArray⟩,.slice none 0 0,.int .i64 file,.int .i64 t3,.int .i64 t4] 34)=w4 at *
   go_loopg [9] N (fun f x wr=>∃(j:Nat) (ps:List QRa) (sep:List UInt8) (pv:Value),x = .string ⟨sep.toArray⟩∧Hid (Qgb L f sep j ps=PP)∧L.length<j+f∧i+1≤j∧ps.length≤j∧Qia wr (w.heap.size+1) pv ps∧QTa wr r base file L lv ov j D∧Qaa (· = r) w wr∧Qca wr Z #[.int .i64 3,.string ⟨#[]⟩,.string ⟨t1.toArray⟩,pv,.int .i64 file,.int .i64 t3,.int .i64 t4] 34)
   case atStart=>exact⟨i+1,[],[61],.slice none 0 0,rfl,fe,mx,Nat.le_refl _,Nat.zero_le _,qj,Gh,Gn,rB⟩
   case round=>
    obtain⟨j,ps,sep,pv,rfl,hR,nE,GH,eE,Gx,hA,hK,hD⟩:=hrel
    obtain⟨va,vc,rfl⟩:=Gx.slice
    have me:=hA.lt
    obtain⟨f,hf⟩:∃f,gk=f+1:=⟨gk-1,by omega⟩
    have hS:=hR.out
    rw[hf,Qgb]at hS
    have GV:=QTc wr r base file L lv ov j D hA 4 sep
    go_wp2_with fail
    refine GV.mono ?_
    rintro e w5 ⟨rfl,mt⟩
    have kb5:Qaa (fun _=>False) wr w5:=Qaa.of_fresh mt _
    have G8:=hA.keeps kb5
    have fq:=hD.keeps kb5 (fun e=>e)
    have kt:=hK.trans kb5 (S:=(· = r)) (fun _ _ e=>e.elim)
    have bP:=Gx.keeps kb5 (QNa.nil _)
    clear GV hR mt hA hD hK Gx kb5
    cases hk:isK L j 4 sep with
    | true=>
     rw[hk,if_pos rfl]at hS
     have aj:=Qkd Kh.out me hk (by decide)
     obtain⟨KX,k6⟩:=G8.step aj
     have rC:=fq.keeps k6 Mw
     have mO:=kt.trans k6 (S:=(· = r)) (fun _ _ e=>e)
     have lS:=bP.keeps k6 (QNa.one G8.holds (by decide) (by decide) (by decide))
     obtain⟨c1,c1f,crl,_⟩:=G8.at1
     have eG:=QCn _ r base file L lv ov (j+1) D KX
     unfold QMe at eG
     have KB:=hid KX
     have oh:=hid rC
     have gC:=hid mO
     have qV:=hid lS
     clear G8 fq kt bP KX k6 rC mO lS
     generalize Qnb L (j+1)=PR at *
     cases PR with
     | ok q=>
      obtain⟨k,p⟩:=q
      simp only at hS eG
      go_wp2_with fail
      refine(by exact eG:Calls _ _ _ _ _).mono ?_
      rintro e w7 ⟨Gd,cv,rfl,aF,ru,hj7⟩
      unfold Qph
      obtain⟨ca,cc,rfl⟩:=aF.slice
      have hw7:=gC.out.size
      have eS:=oh.out.lt
      have kx7:Qaa (· = r) (w5.setCell ⟨r,1,none⟩ (.int .i64 ((j:Int)+1))) (w7.alloc (.cells #[.int .i64 p.kind,.slice ca p.cells.length cc,.string p.text] 75)):=Gd.alloc _
      have kK:=QNa.one KB.out.holds (by decide) (by decide) (by decide)
      have Mb:=ru.alloc (.cells #[.int .i64 p.kind,.slice ca p.cells.length cc,.string p.text] 75)
      have ft:=oh.out.keeps kx7 Mw
      have j8:=gC.out.trans kx7 (S:=(· = r)) (fun _ _ e=>e)
      have tU:=qV.out.keeps kx7 kK
      have rz:Qea (w7.alloc (.cells #[.int .i64 p.kind,.slice ca p.cells.length cc,.string p.text] 75)) (w.heap.size+1) (.slice ca p.cells.length cc) p.cells:=(aF.lower (by omega)).keeps ((Qaa.refl (fun _=>False) w7).alloc _) (QNa.nil _)
      have aU:=Qca.new w7 #[.int .i64 p.kind,.slice ca p.cells.length cc,.string p.text] 75
      obtain⟨vs,kI,Kw,H9⟩:=tU
      have uB:=j8.size
      obtain⟨p0,p1,p2,_⟩:=three aU
      obtain⟨y0,y1,y2,y3,y4,y5,y6⟩:=Qqa ft
      have yf:=ft.free 3
      have yl:=ft.lt
      obtain⟨i0,hi,GL,GM,GN⟩:=info_parts Quf
      have Gj:=hid (World.ownsRow.alloc Kw (.cells #[.int .i64 p.kind,.slice ca p.cells.length cc,.string p.text] 75))
      have qH:=hid ft
      have GR:=hid Mb
      have Mm:=hid j8
      have sJ:=hid rz
      have qZ:=hid Kw
      have oQ:=hid H9
      have HS:=hid hS
      have gU:w.heap.size+1≤w7.heap.size+1:=by have:=ft.lt;simp at this;omega
      clear eG Gd aF ru kx7 kK Mb ft j8 rz aU Kw H9 hS KB oh gC qV c1 c1f crl uB
      go_wp2_with (at_builtin;refine wpList_append_own _ rfl _ _ 32 rfl (w.heap.size+1) 75 i0 _ 3 48 Tryz.underlying32 hi GL GM GN rfl (by decide) _ _ _ rfl (by exact Gj.out) ⟨w7.heap.size+1,0,none⟩ 1 1 [.int .i64 p.kind,.slice ca p.cells.length cc,.string p.text] rfl rfl (Qlb _ _ _ _ (by simp) _ rfl) (by intro u hu;simp only[List.mem_cons,List.not_mem_nil,or_false]at hu;rcases hu with rfl|rfl|rfl <;> rfl) (by unfold maxLen;omega) (by omega) (by simp;omega) ?_)
      intro v' w9 Hp Ha _
      obtain⟨va',vc',rfl⟩:=Qma Hp
      have kg:Qaa (fun b=>(Value.slice va ps.length vc).ownBlock=some b) (w7.alloc (.cells #[.int .i64 p.kind,.slice ca p.cells.length cc,.string p.text] 75)) w9:=((Qaa.refl _ _).alloc _).grown Ha (fun g hg=>.inr hg)
      have Hq:=fun(b:Nat) (xs:Array Value) (t:TypeId) (hx:Qca (w7.alloc (.cells #[.int .i64 p.kind,.slice ca p.cells.length cc,.string p.text] 75)) b xs t) (hn:t≠75)=>QBa qZ.out hx hn
      have dK:=qH.out.keeps kg (Hq _ _ _ qH.out (by decide))
      have jb:=GR.out.holds.keeps kg (Hq _ _ _ GR.out.holds (by decide))
      have jc:Qaa (· = r) w w9:=(Mm.out.alloc (.cells #[.int .i64 p.kind,.slice ca p.cells.length cc,.string p.text] 75)).grown Ha (fun g hg=>by have:=(Qva Gj.out hg).2.1;left;omega)
      have gO:=fun(v:Value) (cs:List Qzb) (hc:Qea (w7.alloc (.cells #[.int .i64 p.kind,.slice ca p.cells.length cc,.string p.text] 75)) (w.heap.size+1) v cs)=>Qba hc kg (fun g hg e=>by
       obtain⟨_,_,cur,q⟩:=Qva qZ.out e
       exact QBa hc q (by decide) hg)
      have lT:Qia w9 (w.heap.size+1) (.slice va' (ps.length+1) vc') (ps++[p]):=by
       refine⟨vs++[.slice ca p.cells.length cc],by simp[kI],?_,fun m hm bM=>?_⟩
       ·rw[Q0c ps vs p _ kI,List.length_append]
        exact Hp
       ·by_cases e:m<ps.length
        ·rw[List.getElem_append_left (by omega),List.getElem_append_left e]
         exact gO _ _ (oQ.out m e (by omega))
        ·have Jt:m=ps.length:=by simp at hm;omega
         subst Jt
         rw[List.getElem_append_right (by omega),List.getElem_append_right (by omega)]
         simp only[kI,Nat.sub_self,List.getElem_cons_zero]
         exact gO _ _ sJ.out
      have k10:=(Qaa.refl (· = Z) w9).setCell (p:=⟨Z,3,none⟩) (.inr rfl) (.slice va' (ps.length+1) vc')
      have cB:Qia (w9.setCell ⟨Z,3,none⟩ (.slice va' (ps.length+1) vc')) (w.heap.size+1) (.slice va' (ps.length+1) vc') (ps++[p]):=by
       obtain⟨us,u1,u2,u3⟩:=lT
       exact⟨us,u1,Qba u2 k10 (fun g hg e=>by cases e;exact QBa u2 dK (by decide) hg),fun m a b=>Qba (u3 m a b) k10 (fun g hg e=>by cases e;exact QBa (u3 m a b) dK (by decide) hg)⟩
      have kr:=jb.keeps k10 (Ne.symm Mw)
      have dL:=jc.setCell (p:=⟨Z,3,none⟩) (.inl (show w.heap.size≤Z by omega)) (.slice va' (ps.length+1) vc')
      have iA:=HH.out.from dL kr GR.out.lt (by omega)
      have iC:=dK.set 3 (.slice va' (ps.length+1) vc')
      obtain⟨_,_,_,x3,_⟩:=Qqa dK
      have x3f:=dK.free 3
      have x3l:=dK.lt
      have JK:=hid cB
      have jj:=hid iA
      have jY:=hid dL
      have og:=hid iC
      clear Hp Ha kg Hq dK jb jc gO lT k10 cB kr dL iA iC y0 y1 y2 y3 y4 y5 y6 yf yl p0 p1 p2 gU Gj
      go_wp2_with fail
      go_roundg (gk-1)
      case measure=>omega
      case rel=>
       refine⟨k,_,[44],_,rfl,?_,by omega,by omega,by simp;omega,JK.out,jj.out,jY.out,og.out⟩
       rw[hf,Nat.add_sub_cancel]
       exact HS
     | error q=>
      obtain⟨k,c⟩:=q
      simp only at hS eG
      subst hS
      simp only at Hd
      subst Hd
      go_wp2_with fail
      refine(by exact eG:Calls _ _ _ _ _).mono ?_
      rintro e w7 ⟨Gd,v,rfl,⟨ea,ex,en,ec,es,rfl⟩,Hi⟩
      have d9:=HH.out.below (gC.out.trans Gd (S:=(· = r)) (fun _ _ e=>e))
      have MZ:=d9.alloc (Nat.le_trans HH.out.size (gC.out.trans Gd (S:=(· = r)) (fun _ _ e=>e)).size) (.cells #[.int .i64 ea,.slice ex en ec,.string es] 75)
      have Kn:=Hi.alloc (.cells #[.int .i64 ea,.slice ex en ec,.string es] 75)
      clear eG
      go_wp2_with fail
      go_ret
      exact⟨MZ,rfl,ov,Kn⟩
    | false=>
     rw[hk,if_neg (by simp)]at hS
     subst hS
     simp only at Hd
     subst Hd
     have M2:=QJe w5 r base file lv (.int .i64 j) ov (.pointer none) D ⟨3,⟨#[]⟩,⟨t1.toArray⟩,ps,t3,t4⟩ (.slice va ps.length vc) G8.raw (bP.lower (by omega)) (by have:=G8.cnt;omega)
     unfold Q5b at M2
     obtain⟨y0,y1,y2,y3,y4,y5,y6⟩:=Qqa fq
     have fy:=HH.out.below kt
     have Mk:=hid G8
     clear bP G8 kt fq
     go_wp2_with fail
     refine(by exact M2:Calls _ _ _ _ _).mono ?_
     rintro e w6 ⟨rfl,ov',l4,Hw⟩
     have KX:=Mk.out.noted l4 Hw (by omega)
     have K8:=fy.trans (Mk.out.raw.noteBelow Hw)
     go_wp2_with fail
     go_ret
     exact⟨K8,rfl,ov',KX,by omega⟩
section
variable{w w':World}{r base:Nat}{file:Int}{L:List Tok}{lv ov ov':Value}{i:Nat}{D:List Qra}{d:Qra}
theorem QTa.noteStep(h:QTa w r base file L lv ov i D)(hr:QQk w' r base file lv (.int .i64 i) ov' (.pointer none) (D++[d]))(k:Qaa (fun b=>b=r∨ov.ownBlock=some b) w w')(hl:i+1<L.length) :
 QTa (w'.setCell ⟨r,1,none⟩ (.int .i64 ((i:Int)+1))) r base file L lv ov' (i+1) (D++[d])∧Below base w (w'.setCell ⟨r,1,none⟩ (.int .i64 ((i:Int)+1)))∧w'.cell? ⟨r,1,none⟩=some (.int .i64 i)∧w'.frozen? ⟨r,1,none⟩=false∧r<w'.heap.size:=by
 have k2:=(Qaa.refl (· = r) w').setCell (p:=⟨r,1,none⟩) (.inr rfl) (.int .i64 ((i:Int)+1))
 have e1:(i:Int)+1=((i+1:Nat):Int):=by omega
 have hH:=hr.1.set 1 (.int .i64 ((i:Int)+1))
 have kK:=QNa.one hr.1 (by decide) (by decide) (by decide)
 have hT:QQe base w' lv file L:=h.toks.keeps k (fun b e=>by
  rcases e with rfl|e
  ·exact h.low
  ·obtain⟨vs,_,Hb,_⟩:=h.defs
   exact(Qva Hb e).2.1)
 refine⟨⟨by rw[←e1];exact hH,hT.keeps k2 (fun b e=>by cases e;exact h.low),hr.2.1.keeps k2 kK,hr.2.2.1,Nat.le_trans hr.2.2.2 k2.size,hl,h.ok,by have:=h.cnt;simp;omega⟩,(h.raw.noteBelow k).trans (k2.below hr.2.2.2 (fun j hj e=>by have:=h.low;omega)),hr.1.cell 1,hr.1.free 1,hr.1.lt⟩
end
theorem Qqm(a b:Int)(s:ByteArray)(file l q:Int)(wx:World):(Instr.field 65 (.agg #[.int .i64 a,.string s,.int .i64 b,.int .i64 file,.int .i64 l,.int .i64 q]) 3).run Tryz.prog wx = .ok (.agg #[.int .i64 file,.int .i64 l,.int .i64 q]) wx:=by kernel_rfl
set_option maxRecDepth 100000 in
theorem QBn(r base:Nat)(file:Int)(L:List Tok)(lv:Value)(n:Nat)(hM:∀m,m<n→QJi r base file L lv m):Qvm r base file L lv (n+1):=by
 intro w ov i D d dp h i7 hn K9
 have oE:=hid hM
 have Kh:=hid h.ok
 have jg:=h.lt
 have J5:=h.size
 have mZ:=h.holds.lt
 have Ga:=h.ok.len
 have HH:=hid h
 have Hd:∃R,Q7a L (n+1) (.body d dp) i=R:=⟨_,rfl⟩
 obtain⟨RR,Hd⟩:=Hd
 rw[Hd]
 rw[Q7a]at Hd
 unfold Q5b
 have gJ:Below w.heap.size w (w.alloc (.cells (QNc file d (.slice none 0 0)) 34)):=(Below.refl _ _).alloc (Nat.le_refl _) _
 have pr:=Qca.new w (QNc file d (.slice none 0 0)) 34
 have Gk:=h.alloc (.cells (QNc file d (.slice none 0 0)) 34)
 unfold QNc at gJ pr Gk
 have GV:=QTc _ r base file L lv ov i D Gk 4 [123]
 have gP:=hid (fun wx ovx jx Dx hx=>Qtc wx r base file L lv ovx jx Dx hx)
 have GE:=hid (fun wx hx=>Qsc wx r base file L lv ov i D hx i 3)
 have G7:=hid (fun wx hx=>QUc wx r base file L lv ov i D hx [123])
 clear hM h
 go_enter Tryz.func55,Tryz.ntmps55
 go_wp2_with fail
 refine(by exact GV:Calls _ _ _ _ _).mono ?_
 rintro e w2 ⟨rfl,Hn⟩
 have kb2:Qaa (fun _=>False) _ w2:=Qaa.of_fresh Hn _
 have k02:Qaa (fun _=>False) w w2:=(Qaa.of_fresh gJ (fun _=>False)).trans kb2 (fun _ _ e=>e)
 have Gc:=Gk.keeps kb2
 have bv:=pr.keeps kb2 (fun e=>e)
 have cG:w.heap.size≠r:=by omega
 clear GV Hn kb2 Gk pr gJ
 cases hk:isK L i 4 [123]with
 | true=>
  rw[hk,if_pos rfl]at Hd
  by_cases h8:8<dp
  ·rw[if_pos h8]at Hd
   subst Hd
   have pj:(8:Int)<(dp:Int):=by omega
   have gu:=gP.out w2 ov i D Gc
   have Jo:=HH.out.below (k02.mono (S:=(· = r)) (fun _ _ e=>e.elim))
   clear h8
   go_wp2_with fail
   refine(by exact gu:Calls _ _ _ _ _).mono ?_
   rintro e w3 ⟨rfl,gv⟩
   have kb3:Qaa (fun _=>False) w2 w3:=Qaa.of_fresh gv _
   have ML:=GE.out w3 (Gc.keeps kb3)
   have gD:=Gc.keeps kb3
   have Kb:=Jo.trans (Gc.below (kb3.mono (S:=(· = r)) (fun _ _ e=>e.elim)))
   unfold Qbb at ML
   unfold Qbb
   clear gu gv kb3
   go_wp2_with fail
   refine(by exact ML:Calls _ _ _ _ _).mono ?_
   rintro e w4 ⟨rfl,Hi,Hr⟩
   have mt:=Kb.trans (gD.below Hr)
   go_wp2_with fail
   go_ret
   exact⟨mt,rfl,ov,Hi⟩
  ·rw[if_neg h8]at Hd
   have pj:¬(8:Int)<(dp:Int):=by omega
   have tG:decide ((8:Int)<(dp:Int))=false:=by simp;omega
   have Hf:=G7.out w2 Gc
   unfold Qyc at Hf
   rw[hk]at Hf
   clear h8
   go_wp2_with fail
   refine(by exact Hf:Calls _ _ _ _ _).mono ?_
   rintro e w3 ⟨rfl,Hc,hy,_⟩
   have gD:=hy (by trivial)
   have rA:=bv.keeps Hc cG
   have gv:=HH.out.below ((k02.mono (S:=(· = r)) (fun _ _ e=>e.elim)).trans Hc (S:=(· = r)) (fun _ _ e=>e))
   have M2:=QJe w3 r base file lv (.int .i64 ((i+1:Nat):Int)) ov (.pointer none) D d (.slice none 0 0) gD.raw (by rw[i7];exact Qia.none _ _) (by have:=gD.cnt;omega)
   unfold Q5b at M2
   obtain⟨y0,y1,y2,y3,y4,y5,y6⟩:=Qqa rA
   have cK:=hid gD
   have kX:=HH.out.cnt
   clear Hf hy Hc Gc bv gD rA k02
   go_wp2_with fail
   refine(by exact M2:Calls _ _ _ _ _).mono ?_
   rintro e w4 ⟨rfl,ov4,mF,Hr⟩
   have Gh:=cK.out.noted mF Hr (by omega)
   have Kb:=gv.trans (cK.out.raw.noteBelow Hr)
   have KH:=hid Hd
   clear M2 mF Hr y0 y1 y2 y3 y4 y5 y6 gv Hd
   go_wp2_with fail
   go_loopg [] n (fun f wr=>∃(j:Nat) (acc:List Qra) (ov':Value),Hid (Q7a L f (.mems dp acc) j=RR)∧3*(L.length-j)+1≤f∧f≤n∧i<j∧QTa wr r base file L lv ov' j (D++acc)∧Below base w wr)
   case atStart=>exact⟨i+1,[d],ov4,KH,by omega,Nat.le_refl _,by omega,Gh,Kb⟩
   case round=>
    obtain⟨j,acc,ov',hR,nE,lm,GH,hA,hb⟩:=hrel
    have me:=hA.lt
    obtain⟨f,hf⟩:∃f,gk=f+1:=⟨gk-1,by omega⟩
    have hS:=hR.out
    rw[hf,Q7a]at hS
    have GV:=QTc wr r base file L lv ov' j _ hA 4 [125]
    go_wp2_with fail
    refine GV.mono ?_
    rintro e w5 ⟨rfl,mt⟩
    have kb5:Qaa (fun _=>False) wr w5:=Qaa.of_fresh mt _
    have G8:=hA.keeps kb5
    have K8:=hb.trans (hA.below (kb5.mono (S:=(· = r)) (fun _ _ e=>e.elim)))
    clear GV hR mt hA hb kb5
    cases hk:isK L j 4 [125]with
    | true=>
     rw[hk,if_pos rfl]at hS
     subst hS
     have aj:=Qkd Kh.out me hk (by decide)
     have gu:=gP.out w5 ov' j _ G8
     unfold Qbb at gu
     generalize tkN L j=t at *
     obtain⟨t0,t1,t2,t3,t4⟩:=t
     simp only at gu
     have bF:=Qqm t0 t2 ⟨t1.toArray⟩ file t3 t4
     go_wp2_with fail
     refine(by exact gu:Calls _ _ _ _ _).mono ?_
     rintro e w6 ⟨rfl,MZ⟩
     have kb6:Qaa (fun _=>False) w5 w6:=Qaa.of_fresh MZ _
     have KX:=G8.keeps kb6
     have d9:=K8.trans (G8.below (kb6.mono (S:=(· = r)) (fun _ _ e=>e.elim)))
     have M2:=QJe w6 r base file lv (.int .i64 j) ov' (.pointer none) (D++acc) ⟨2,⟨#[]⟩,⟨#[]⟩,[],t3,t4⟩ (.slice none 0 0) KX.raw (Qia.none _ _) (by have:=KX.cnt;omega)
     unfold Q5b at M2
     have KB:=hid KX
     clear gu MZ kb6 G8 K8 KX
     go_wp2_with fail
     refine(by exact M2:Calls _ _ _ _ _).mono ?_
     rintro e w7 ⟨rfl,ov7,cC,Gd⟩
     obtain⟨Mb,GO,c1,c1f,crl⟩:=KB.out.noteStep cC Gd aj
     have hj6:j<6001:=by omega
     have Gv:=d9.trans GO
     rw[List.append_assoc]at Mb
     have GR:=hid Mb
     have mK:=hid Gv
     clear M2 cC Gd Mb GO Gv d9
     go_wp2_with fail
     go_ret
     exact⟨mK.out,rfl,ov7,GR.out,by omega⟩
    | false=>
     rw[hk,if_neg (by simp)]at hS
     have lH:=oE.out f (by omega) w5 ov' j (D++acc) dp G8 (by omega) (by omega)
     unfold QWb at lH
     generalize Q7a L f (.member dp) j=MR at *
     go_wp2_with fail
     refine(by exact lH:Calls _ _ _ _ _).mono ?_
     rintro e w6 ⟨MZ,hm⟩
     have d9:=K8.trans MZ
     clear lH MZ K8 G8
     cases MR with
     | ok q=>
      obtain⟨k,ds⟩:=q
      simp only at hm hS
      obtain⟨rfl,ov6,KX,ls⟩:=hm
      rw[List.append_assoc]at KX
      have HS:=hid hS
      clear hS
      go_wp2_with fail
      go_roundg (gk-1)
      case measure=>omega
      case rel=>
       refine⟨k,acc++ds,ov6,?_,by omega,by omega,by omega,KX,d9⟩
       rw[hf,Nat.add_sub_cancel]
       exact HS
     | error q=>
      obtain⟨k,c⟩:=q
      simp only at hm hS
      obtain⟨rfl,ov6,Hi⟩:=hm
      subst hS
      go_wp2_with fail
      go_ret
      exact⟨d9,rfl,ov6,Hi⟩
 | false=>
  rw[hk,if_neg (by simp)]at Hd
  subst Hd
  have Hf:=G7.out w2 Gc
  unfold Qyc at Hf
  rw[hk]at Hf
  go_wp2_with fail
  refine(by exact Hf:Calls _ _ _ _ _).mono ?_
  rintro e w3 ⟨rfl,Hc,_,su⟩
  have gD:=su (by trivial)
  have gv:=HH.out.below ((k02.mono (S:=(· = r)) (fun _ _ e=>e.elim)).trans Hc (S:=(· = r)) (fun _ _ e=>e))
  clear Hf su Hc
  go_wp2_with fail
  go_ret
  exact⟨gv,rfl,ov,gD⟩
set_option maxRecDepth 100000 in
theorem QHk(r base:Nat)(file:Int)(L:List Tok)(lv:Value)(n:Nat)(hB:Qvm r base file L lv n)(hNm:QXk r base file L lv n):QJi r base file L lv (n+1):=by
 intro w ov i D dp h hn K9
 have nZ:=hid hB
 have sU:=hid hNm
 have Kh:=hid h.ok
 have jg:=h.lt
 have mZ:=h.holds.lt
 have Ga:=h.ok.len
 have ef:=h.cnt
 have HH:=hid h
 have Hd:∃R,Q7a L (n+1) (.member dp) i=R:=⟨_,rfl⟩
 obtain⟨RR,Hd⟩:=Hd
 rw[Hd]
 rw[Q7a]at Hd
 have gu:=Qtc w r base file L lv ov i D h
 have jr:=hid (fun wx hx=>QGc wx r base file L lv ov i D hx 5 (by decide) 53 Qna Qbc)
 have Jj:Qha L 5 Qna i=if (tkN L i).kind=5 then(if Qna (tkN L i).text=true then .ok (i+1)else .error (i,1))else .error (i,6):=rfl
 have cQ:=hid (fun wx hx gn=>Qsd wx r base file L lv ov i D hx 4 1 [] 125 QQb Qfg (by decide) gn (by decide))
 have jM:=hid (fun wx hx gn=>Qsd wx r base file L lv ov i D hx 5 1 [] 123 QUa Qle (by decide) gn (by decide))
 have GE:=hid (fun wx hx=>Qsc wx r base file L lv ov i D hx i 6)
 have MI:=hid (fun s (hs:isK L i 7 s=true)=>show(tkN L i).kind≠8 from by
  unfold isK at hs
  simp only[Bool.and_eq_true,decide_eq_true_eq]at hs
  rw[hs.1];decide)
 have aS:=hid (fun(wx:World) (hx:QTa wx r base file L lv ov i D) (h1:(tkN L i).kind=1)=>sU.out wx ov i D dp hx h1 (by omega) (by omega))
 rw[Jj]at Hd
 unfold QLc at jr
 rw[Jj]at jr
 unfold txN at Hd
 unfold Qbb at gu jr GE aS
 clear Jj hB hNm h
 obtain⟨t,GQ⟩:∃t,t=tkN L i:=⟨_,rfl⟩
 rw[←GQ]at gu jr GE aS MI cQ jM Hd
 have gh:=hid GQ
 clear GQ
 obtain⟨t0,t1,t2,t3,t4⟩:=t
 simp only at gu jr GE aS MI cQ jM Hd
 go_enter Tryz.func95,Tryz.ntmps95
 go_wp2_with fail
 refine(by exact gu:Calls _ _ _ _ _).mono ?_
 rintro e w1 ⟨rfl,He⟩
 have kb1:Qaa (fun _=>False) w (w1.alloc (.cells #[.int .i64 t0,.string ⟨t1.toArray⟩,.int .i64 t2,.int .i64 file,.int .i64 t3,.int .i64 t4] 65)):=(Qaa.of_fresh He (fun _=>False)).alloc _
 have Gk:=HH.out.keeps kb1
 have Mc:=Qca.new w1 #[.int .i64 t0,.string ⟨t1.toArray⟩,.int .i64 t2,.int .i64 file,.int .i64 t3,.int .i64 t4] 65
 have KR:=HH.out.below (kb1.mono (S:=(· = r)) (fun _ _ e=>e.elim))
 have KK:w1.heap.size≠r:=by have:=He.size;omega
 obtain⟨m0,m1,m2,m3,m4,m5⟩:=Qfa Mc
 clear gu He kb1
 by_cases h5:t0=5
 ·subst h5
  rw[if_pos rfl]at Hd
  cases hg:Qna t1 with
  | false=>
   simp only[hg,Bool.false_eq_true,reduceIte]at Hd
   subst Hd
   have GQ:=jr.out _ Gk
   simp only[hg,Bool.false_eq_true,reduceIte]at GQ
   have Jw:=hid Gk
   clear Gk Mc
   go_wp2_with fail
   refine(by exact GQ:Calls _ _ _ _ _).mono ?_
   rintro e w3 ⟨Hc,rfl,Hi⟩
   have kW:=(KR.trans (Jw.out.below Hc)).alloc (Nat.le_trans Jw.out.size Hc.size) (.cells #[.int .i64 5,.string ⟨t1.toArray⟩,.int .i64 t2,.int .i64 file,.int .i64 t3,.int .i64 t4] 65)
   have Kn:=Hi.alloc (.cells #[.int .i64 5,.string ⟨t1.toArray⟩,.int .i64 t2,.int .i64 file,.int .i64 t3,.int .i64 t4] 65)
   clear GQ Hi Hc
   go_wp2_with fail
   go_ret
   exact⟨kW,rfl,ov,Kn⟩
  | true=>
   simp only[hg,reduceIte]at Hd
   have GQ:=jr.out _ Gk
   simp only[hg,reduceIte]at GQ
   have Jw:=hid Gk
   have aP:=hid Mc
   clear Gk Mc
   go_wp2_with fail
   refine(by exact GQ:Calls _ _ _ _ _).mono ?_
   rintro e w3 ⟨Hc,rfl,gD⟩
   have kW:=(KR.trans (Jw.out.below Hc)).alloc (Nat.le_trans Jw.out.size Hc.size) (.cells #[.int .i64 5,.string ⟨t1.toArray⟩,.int .i64 t2,.int .i64 file,.int .i64 t3,.int .i64 t4] 65)
   have Gh:=gD.alloc (.cells #[.int .i64 5,.string ⟨t1.toArray⟩,.int .i64 t2,.int .i64 file,.int .i64 t3,.int .i64 t4] 65)
   have mr:=(aP.out.keeps Hc KK).alloc (.cells #[.int .i64 5,.string ⟨t1.toArray⟩,.int .i64 t2,.int .i64 file,.int .i64 t3,.int .i64 t4] 65)
   have bK:w1.heap.size<w3.heap.size:=by have:=(aP.out.keeps Hc KK).lt;exact this
   have bW:=QGc _ r base file L lv ov (i+1) D Gh 1 (by decide) 123 QUa Qle
   have pC:=hid (fun j=>Qzi (L:=L) (kind:=1) (right:=QUa) (i:=i+1) (j:=j))
   unfold QLc Qbb at bW
   have m9:=hid Gh
   have KM:=hid mr
   clear GQ gD Gh mr Hc KR m0 m1 m2 m3 m4 m5
   generalize Qha L 1 QUa (i+1)=TR at *
   generalize tkN L (i+1)=s at *
   obtain⟨s0,s1,s2,s3,s4⟩:=s
   simp only at bW Hd
   go_wp2_with fail
   refine(by exact bW:Calls _ _ _ _ _).mono ?_
   rintro e w5 ⟨Hs,hm⟩
   have km:=(kW.trans (m9.out.below Hs)).alloc (Nat.le_trans m9.out.size Hs.size) (.cells #[.int .i64 s0,.string ⟨s1.toArray⟩,.int .i64 s2,.int .i64 file,.int .i64 s3,.int .i64 s4] 65)
   have KN:=(KM.out.keeps Hs KK).alloc (.cells #[.int .i64 s0,.string ⟨s1.toArray⟩,.int .i64 s2,.int .i64 file,.int .i64 s3,.int .i64 s4] 65)
   have rP:=Qca.new w5 #[.int .i64 s0,.string ⟨s1.toArray⟩,.int .i64 s2,.int .i64 file,.int .i64 s3,.int .i64 s4] 65
   obtain⟨m0,m1,m2,m3,m4,m5⟩:=Qfa KN
   obtain⟨n0,n1,n2,n3,n4,n5⟩:=Qfa rP
   clear bW KN rP kW Hs
   cases TR with
   | error q=>
    obtain⟨k,c⟩:=q
    simp only at hm Hd
    obtain⟨rfl,Hi⟩:=hm
    subst Hd
    have Kn:=Hi.alloc (.cells #[.int .i64 s0,.string ⟨s1.toArray⟩,.int .i64 s2,.int .i64 file,.int .i64 s3,.int .i64 s4] 65)
    clear Hi
    go_wp2_with fail
    go_ret
    exact⟨km,rfl,ov,Kn⟩
   | ok j=>
    simp only at hm Hd
    obtain⟨rfl,G8⟩:=hm
    have hj:=pC.out j rfl
    subst hj
    have KX:=G8.alloc (.cells #[.int .i64 s0,.string ⟨s1.toArray⟩,.int .i64 s2,.int .i64 file,.int .i64 s3,.int .i64 s4] 65)
    obtain⟨dq,i8⟩:∃z,z=dp+1:=⟨_,rfl⟩
    have ei:(dp:Int)+1=(dq:Int):=by omega
    have i9:dq≤100:=by omega
    rw[←i8]at Hd
    clear i8
    have Hm:=nZ.out _ ov (i+1+1) D ⟨1,⟨t1.toArray⟩,⟨s1.toArray⟩,[],t3,t4⟩ dq KX rfl (by omega) i9
    unfold Q5b QWb at Hm
    generalize Q7a L n (.body ⟨1,⟨t1.toArray⟩,⟨s1.toArray⟩,[],t3,t4⟩ dq) (i+1+1)=BR at *
    clear G8 KX
    go_wp2_with fail
    refine(by exact Hm:Calls _ _ _ _ _).mono ?_
    rintro e wd ⟨Ko,hm⟩
    have MA:=km.trans Ko
    clear Hm km Ko
    cases BR with
    | ok q=>
     obtain⟨m,ds⟩:=q
     simp only at hm Hd
     obtain⟨rfl,ovd,KI,Jr⟩:=hm
     have Hf:=QUc wd r base file L lv ovd m _ KI [59]
     unfold Qyc at Hf
     try unfold Q1a at Hd
     have jJ:=hid KI
     have jL:=hid MA
     clear KI MA
     cases hq:isK L m 4 [59]with
     | true=>
      rw[hq,if_pos rfl]at Hd
      simp only at Hd
      subst Hd
      rw[hq]at Hf
      go_wp2_with fail
      refine(by exact Hf:Calls _ _ _ _ _).mono ?_
      rintro e wq ⟨rfl,Kr,hy,_⟩
      have Mr:=hy (by trivial)
      have MB:=jL.out.trans (jJ.out.below Kr)
      clear Hf hy Kr
      go_wp2_with fail
      go_ret
      exact⟨MB,rfl,ovd,Mr,by omega⟩
     | false=>
      rw[hq,if_neg (by simp)]at Hd
      simp only at Hd
      subst Hd
      rw[hq]at Hf
      go_wp2_with fail
      refine(by exact Hf:Calls _ _ _ _ _).mono ?_
      rintro e wq ⟨rfl,Kr,_,hy⟩
      have Mr:=hy (by trivial)
      have MB:=jL.out.trans (jJ.out.below Kr)
      clear Hf hy Kr
      go_wp2_with fail
      go_ret
      exact⟨MB,rfl,ovd,Mr⟩
    | error q=>
     obtain⟨k,c⟩:=q
     simp only at hm Hd
     obtain⟨rfl,ovd,Hi⟩:=hm
     subst Hd
     go_wp2_with fail
     go_ret
     exact⟨MA,rfl,ovd,Hi⟩
 ·rw[if_neg h5]at Hd
  by_cases h1:t0=1
  ·subst h1
   rw[if_pos rfl]at Hd
   have Hm:=aS.out _ Gk rfl
   unfold QWb at Hm
   generalize Q7a L n (.named dp) i=BR at *
   have aP:=hid Mc
   clear Mc Gk
   go_wp2_with fail
   refine(by exact Hm:Calls _ _ _ _ _).mono ?_
   rintro e wd ⟨Ko,hm⟩
   have MA:=KR.trans Ko
   clear Hm KR Ko
   cases BR with
   | ok q=>
    obtain⟨m,ds⟩:=q
    simp only at hm Hd
    obtain⟨rfl,ovd,KI,Jr⟩:=hm
    have Hf:=QUc wd r base file L lv ovd m _ KI [59]
    unfold Qyc at Hf
    try unfold Q1a at Hd
    have jJ:=hid KI
    have jL:=hid MA
    clear KI MA
    cases hq:isK L m 4 [59]with
    | true=>
     rw[hq,if_pos rfl]at Hd
     simp only at Hd
     subst Hd
     rw[hq]at Hf
     go_wp2_with fail
     refine(by exact Hf:Calls _ _ _ _ _).mono ?_
     rintro e wq ⟨rfl,Kr,hy,_⟩
     have Mr:=hy (by trivial)
     have MB:=jL.out.trans (jJ.out.below Kr)
     clear Hf hy Kr
     go_wp2_with fail
     go_ret
     exact⟨MB,rfl,ovd,Mr,by omega⟩
    | false=>
     rw[hq,if_neg (by simp)]at Hd
     simp only at Hd
     subst Hd
     rw[hq]at Hf
     go_wp2_with fail
     refine(by exact Hf:Calls _ _ _ _ _).mono ?_
     rintro e wq ⟨rfl,Kr,_,hy⟩
     have Mr:=hy (by trivial)
     have MB:=jL.out.trans (jJ.out.below Kr)
     clear Hf hy Kr
     go_wp2_with fail
     go_ret
     exact⟨MB,rfl,ovd,Mr⟩
   | error q=>
    obtain⟨k,c⟩:=q
    simp only at hm Hd
    obtain⟨rfl,ovd,Hi⟩:=hm
    subst Hd
    go_wp2_with fail
    go_ret
    exact⟨MA,rfl,ovd,Hi⟩
  ·rw[if_neg h1]at Hd
   have GV:=QTc _ r base file L lv ov i D Gk 7 [100,101,108,101,116,101,45,112,114,111,112,101,114,116,121]
   go_wp2_with fail
   refine(by exact GV:Calls _ _ _ _ _).mono ?_
   rintro e w2 ⟨rfl,Hn⟩
   have kb2:Qaa (fun _=>False) _ w2:=Qaa.of_fresh Hn _
   have Gc:=Gk.keeps kb2
   have GF:=Mc.keeps kb2 (fun e=>e)
   have mS:=KR.trans (Gk.below (kb2.mono (S:=(· = r)) (fun _ _ e=>e.elim)))
   clear GV Hn kb2 Gk Mc KR
   cases hk:isK L i 7 [100,101,108,101,116,101,45,112,114,111,112,101,114,116,121]with
   | true=>
    rw[hk,if_pos rfl]at Hd
    have Hm:=cQ.out _ Gc (MI.out _ hk)
    rw[Hd]at Hm
    unfold QWb at Hm ⊢
    clear Hd hk
    go_wp2_with fail
    refine(by exact Hm:Calls _ _ _ _ _).mono ?_
    rintro e w3 ⟨gv,hm⟩
    have kW:=mS.trans gv
    clear Hm
    cases RR with
    | ok q=>
     obtain⟨j,ds⟩:=q
     simp only at hm
     obtain⟨rfl,ovd,KI,Jr⟩:=hm
     go_wp2_with fail
     go_ret
     exact⟨kW,rfl,ovd,KI,Jr⟩
    | error q=>
     obtain⟨k,c⟩:=q
     simp only at hm
     obtain⟨rfl,ovd,Hi⟩:=hm
     go_wp2_with fail
     go_ret
     exact⟨kW,rfl,ovd,Hi⟩
   | false=>
    rw[hk,if_neg (by simp)]at Hd
    have GV:=QTc _ r base file L lv ov i D Gc 7 [100,101,108,101,116,101,45,110,111,100,101]
    go_wp2_with fail
    refine(by exact GV:Calls _ _ _ _ _).mono ?_
    rintro e w4 ⟨rfl,Kb⟩
    have kb4:Qaa (fun _=>False) _ w4:=Qaa.of_fresh Kb _
    have Gh:=Gc.keeps kb4
    have mr:=GF.keeps kb4 (fun e=>e)
    have M5:=mS.trans (Gc.below (kb4.mono (S:=(· = r)) (fun _ _ e=>e.elim)))
    clear GV Kb kb4 Gc GF mS hk
    cases hk:isK L i 7 [100,101,108,101,116,101,45,110,111,100,101]with
    | true=>
     rw[hk,if_pos rfl]at Hd
     have Hm:=jM.out _ Gh (MI.out _ hk)
     rw[Hd]at Hm
     unfold QWb at Hm ⊢
     clear Hd hk
     go_wp2_with fail
     refine(by exact Hm:Calls _ _ _ _ _).mono ?_
     rintro e w5 ⟨mt,hm⟩
     have km:=M5.trans mt
     clear Hm
     cases RR with
     | ok q=>
      obtain⟨j,ds⟩:=q
      simp only at hm
      obtain⟨rfl,ovd,KI,Jr⟩:=hm
      go_wp2_with fail
      go_ret
      exact⟨km,rfl,ovd,KI,Jr⟩
     | error q=>
      obtain⟨k,c⟩:=q
      simp only at hm
      obtain⟨rfl,ovd,Hi⟩:=hm
      go_wp2_with fail
      go_ret
      exact⟨km,rfl,ovd,Hi⟩
    | false=>
     rw[hk,if_neg (by simp)]at Hd
     subst Hd
     have ML:=GE.out _ Gh
     obtain⟨x0,x1,x2,x3,x4,x5⟩:=Qfa mr
     have m9:=hid Gh
     clear Gh mr
     go_wp2_with fail
     refine(by exact ML:Calls _ _ _ _ _).mono ?_
     rintro e w5 ⟨rfl,Hi,Hs⟩
     have km:=M5.trans (m9.out.below Hs)
     go_wp2_with fail
     go_ret
     exact⟨km,rfl,ov,Hi⟩
theorem Q4o(r base:Nat)(file:Int)(L:List Tok)(lv:Value):∀n m,m≤n→Qvm r base file L lv m∧QJi r base file L lv m∧QXk r base file L lv m:=by
 intro n
 induction n with
 | zero=>
  intro m hm
  obtain rfl:m=0:=by omega
  refine⟨fun w ov i D d dp h _ hn _=>?_,fun w ov i D dp h hn _=>?_,fun w ov i D dp h _ hn _=>?_⟩
  all_goals
   have:=h.lt
   omega
 | succ n ih=>
  intro m hm
  by_cases e:m=n+1
  ·subst e
   exact⟨QBn r base file L lv n (fun m hm=>(ih m (by omega)).2.1),QHk r base file L lv n (ih n (Nat.le_refl _)).1 (ih n (Nat.le_refl _)).2.2,Qmm r base file L lv n (ih n (Nat.le_refl _)).1⟩
  ·exact ih m (by omega)
theorem QGd{r base:Nat}{file:Int}{L:List Tok}{lv:Value}{w:World}{ov:Value}{i:Nat}{D:List Qra}(h:QTa w r base file L lv ov i D)(d:Qra)(hd:d.parts=[]) :
 Calls Tryz.prog 55 #[.pointer (some ⟨r,0,none⟩),Q5b file d (.slice none 0 0),.int .i64 0] w (QWb (Q7a L (Q8b L) (.body d 0) i) r base file L lv i D w):=
 (Q4o r base file L lv (Q8b L) _ (Nat.le_refl _)).1 w ov i D d 0 h hd (by unfold Q8b;omega) (by omega)
set_option maxRecDepth 100000 in
theorem QDn(s:ByteArray)(w:World):Calls Tryz.prog 58 #[.string s] w fun e w'=>e = .returned (.bool true)∧w=w':=by
 go_enter Tryz.func58,Tryz.ntmps58
 go_wp2_with fail
 go_ret
 exact⟨rfl,rfl⟩
theorem QKk:Qxg 58 (fun _=>true):=⟨enters_of Tryz.func58 (by kernel_rfl) rfl,fun s w _=>QDn s w⟩
set_option maxRecDepth 100000 in
theorem Q7o(w:World)(r base:Nat)(file:Int)(L:List Tok)(lv ov:Value)(i:Nat)(D:List Qra)(h:QTa w r base file L lv ov i D) :
 Calls Tryz.prog 29 #[.pointer (some ⟨r,0,none⟩)] w (QWb (Qig L i) r base file L lv i D w):=by
 have Kh:=hid h.ok
 have jg:=h.lt
 have mZ:=h.holds.lt
 have Ga:=h.ok.len
 have ef:=h.cnt
 have HH:=hid h
 have Hd:∃R,Qig L i=R:=⟨_,rfl⟩
 obtain⟨RR,Hd⟩:=Hd
 rw[Hd]
 unfold Qig at Hd
 have gu:=Qtc w r base file L lv ov i D h
 have Kd:=h.ok.at i
 have jr:=hid (fun wx hx=>QGc wx r base file L lv ov i D hx 5 (by decide) 53 Qna Qbc)
 have Jj:Qha L 5 Qna i=if (tkN L i).kind=5 then(if Qna (tkN L i).text=true then .ok (i+1)else .error (i,1))else .error (i,6):=rfl
 have dw:=hid (fun wx hx=>QGc wx r base file L lv ov i D hx 6 (by decide) 53 Qna Qbc)
 have eN:Qha L 6 Qna i=if (tkN L i).kind=6 then(if Qna (tkN L i).text=true then .ok (i+1)else .error (i,1))else .error (i,6):=rfl
 have cQ:=hid (fun wx hx gn=>Qsd wx r base file L lv ov i D hx 6 3 [] 58 (fun _=>true) QKk (by decide) gn (by decide))
 have jM:=hid (fun wx hx gn=>Qsd wx r base file L lv ov i D hx 5 6 [38] 53 Qna Qbc (by decide) gn (by decide))
 have GE:=hid (fun wx hx=>Qsc wx r base file L lv ov i D hx i 6)
 have MI:=hid (fun s (hs:isK L i 7 s=true)=>show(tkN L i).kind≠8 from by
  unfold isK at hs
  simp only[Bool.and_eq_true,decide_eq_true_eq]at hs
  rw[hs.1];decide)
 have bB:=Qpa [38] (tkN L i).text (by simp;omega)
 unfold QYd at bB
 rw[Jj,eN]at Hd
 unfold QLc at jr dw
 rw[Jj]at jr
 rw[eN]at dw
 unfold txN QRi at Hd
 unfold Qbb at gu jr dw GE
 clear Jj eN h
 obtain⟨t,GQ⟩:∃t,t=tkN L i:=⟨_,rfl⟩
 rw[←GQ]at gu jr dw GE MI cQ jM Hd bB Kd
 have gh:=hid GQ
 clear GQ
 obtain⟨t0,t1,t2,t3,t4⟩:=t
 simp only at gu jr dw GE MI cQ jM Hd bB Kd
 go_enter Tryz.func29,Tryz.ntmps29
 go_wp2_with fail
 refine(by exact gu:Calls _ _ _ _ _).mono ?_
 rintro e w1 ⟨rfl,He⟩
 have kb1:Qaa (fun _=>False) w (w1.alloc (.cells #[.int .i64 t0,.string ⟨t1.toArray⟩,.int .i64 t2,.int .i64 file,.int .i64 t3,.int .i64 t4] 65)):=(Qaa.of_fresh He (fun _=>False)).alloc _
 have Gk:=HH.out.keeps kb1
 have Mc:=Qca.new w1 #[.int .i64 t0,.string ⟨t1.toArray⟩,.int .i64 t2,.int .i64 file,.int .i64 t3,.int .i64 t4] 65
 have KR:=HH.out.below (kb1.mono (S:=(· = r)) (fun _ _ e=>e.elim))
 have KK:w1.heap.size≠r:=by have:=He.size;omega
 obtain⟨m0,m1,m2,m3,m4,m5⟩:=Qfa Mc
 clear gu He kb1
 by_cases h5:t0=5
 ·subst h5
  rw[if_pos rfl]at Hd
  cases hg:Qna t1 with
  | false=>
   simp only[hg,Bool.false_eq_true,reduceIte]at Hd
   subst Hd
   have GQ:=jr.out _ Gk
   simp only[hg,Bool.false_eq_true,reduceIte]at GQ
   have Jw:=hid Gk
   clear Gk Mc
   go_wp2_with fail
   refine(by exact GQ:Calls _ _ _ _ _).mono ?_
   rintro e w3 ⟨Hc,rfl,Hi⟩
   have kW:=(KR.trans (Jw.out.below Hc)).alloc (Nat.le_trans Jw.out.size Hc.size) (.cells #[.int .i64 5,.string ⟨t1.toArray⟩,.int .i64 t2,.int .i64 file,.int .i64 t3,.int .i64 t4] 65)
   have Kn:=Hi.alloc (.cells #[.int .i64 5,.string ⟨t1.toArray⟩,.int .i64 t2,.int .i64 file,.int .i64 t3,.int .i64 t4] 65)
   clear GQ Hi Hc
   go_wp2_with fail
   go_ret
   exact⟨kW,rfl,ov,Kn⟩
  | true=>
   simp only[hg,reduceIte]at Hd
   have GQ:=jr.out _ Gk
   simp only[hg,reduceIte]at GQ
   have Jw:=hid Gk
   have aP:=hid Mc
   clear Gk Mc
   go_wp2_with fail
   refine(by exact GQ:Calls _ _ _ _ _).mono ?_
   rintro e w3 ⟨Hc,rfl,gD⟩
   have kW:=(KR.trans (Jw.out.below Hc)).alloc (Nat.le_trans Jw.out.size Hc.size) (.cells #[.int .i64 5,.string ⟨t1.toArray⟩,.int .i64 t2,.int .i64 file,.int .i64 t3,.int .i64 t4] 65)
   have Gh:=gD.alloc (.cells #[.int .i64 5,.string ⟨t1.toArray⟩,.int .i64 t2,.int .i64 file,.int .i64 t3,.int .i64 t4] 65)
   have mr:=(aP.out.keeps Hc KK).alloc (.cells #[.int .i64 5,.string ⟨t1.toArray⟩,.int .i64 t2,.int .i64 file,.int .i64 t3,.int .i64 t4] 65)
   have bK:w1.heap.size<w3.heap.size:=by have:=(aP.out.keeps Hc KK).lt;exact this
   have mh:=QUc _ r base file L lv ov (i+1) D Gh [47]
   unfold Qyc at mh
   unfold Q1a at Hd
   have m9:=hid Gh
   have KM:=hid mr
   clear GQ gD Gh mr Hc KR m0 m1 m2 m3 m4 m5
   cases hs:isK L (i+1) 4 [47]with
   | false=>
    simp only[hs,Bool.false_eq_true,reduceIte]at Hd
    subst Hd
    rw[hs]at mh
    go_wp2_with fail
    refine(by exact mh:Calls _ _ _ _ _).mono ?_
    rintro e w5 ⟨rfl,Hs,_,hy⟩
    have Hi:=hy (by trivial)
    have km:=kW.trans (m9.out.below Hs)
    clear mh hy Hs
    go_wp2_with fail
    go_ret
    exact⟨km,rfl,ov,Hi⟩
   | true=>
    simp only[hs,reduceIte]at Hd
    rw[hs]at mh
    go_wp2_with fail
    refine(by exact mh:Calls _ _ _ _ _).mono ?_
    rintro e w5 ⟨rfl,Hs,hy,_⟩
    have G8:=hy (by trivial)
    have km:=kW.trans (m9.out.below Hs)
    have Mt:=KM.out.keeps Hs KK
    have nJ:w1.heap.size<w5.heap.size:=Mt.lt
    obtain⟨m0,m1,m2,m3,m4,m5⟩:=Qfa Mt
    have Hm:=QGd G8 ⟨1,⟨t1.toArray⟩,⟨#[47]⟩,[],t3,t4⟩ rfl
    unfold Q5b QWb at Hm
    generalize Q7a L (Q8b L) (.body ⟨1,⟨t1.toArray⟩,⟨#[47]⟩,[],t3,t4⟩ 0) (i+1+1)=BR at *
    clear mh hy Hs Mt G8
    go_wp2_with fail
    refine(by exact Hm:Calls _ _ _ _ _).mono ?_
    rintro e wd ⟨Ko,hm⟩
    have MA:=km.trans Ko
    clear Hm km Ko
    cases BR with
    | ok q=>
     obtain⟨m,ds⟩:=q
     simp only at hm Hd
     obtain⟨rfl,ovd,KI,Jr⟩:=hm
     have Hf:=QUc wd r base file L lv ovd m _ KI [59]
     unfold Qyc at Hf
     try unfold Q1a at Hd
     have jJ:=hid KI
     have jL:=hid MA
     clear KI MA
     cases hq:isK L m 4 [59]with
     | true=>
      rw[hq,if_pos rfl]at Hd
      simp only at Hd
      subst Hd
      rw[hq]at Hf
      go_wp2_with fail
      refine(by exact Hf:Calls _ _ _ _ _).mono ?_
      rintro e wq ⟨rfl,Kr,hy,_⟩
      have Mr:=hy (by trivial)
      have MB:=jL.out.trans (jJ.out.below Kr)
      clear Hf hy Kr
      go_wp2_with fail
      go_ret
      exact⟨MB,rfl,ovd,Mr,by omega⟩
     | false=>
      rw[hq,if_neg (by simp)]at Hd
      simp only at Hd
      subst Hd
      rw[hq]at Hf
      go_wp2_with fail
      refine(by exact Hf:Calls _ _ _ _ _).mono ?_
      rintro e wq ⟨rfl,Kr,_,hy⟩
      have Mr:=hy (by trivial)
      have MB:=jL.out.trans (jJ.out.below Kr)
      clear Hf hy Kr
      go_wp2_with fail
      go_ret
      exact⟨MB,rfl,ovd,Mr⟩
    | error q=>
     obtain⟨k,c⟩:=q
     simp only at hm Hd
     obtain⟨rfl,ovd,Hi⟩:=hm
     subst Hd
     go_wp2_with fail
     go_ret
     exact⟨MA,rfl,ovd,Hi⟩
 ·rw[if_neg h5]at Hd
  have GV:=QTc _ r base file L lv ov i D Gk 4 [47]
  go_wp2_with fail
  refine(by exact GV:Calls _ _ _ _ _).mono ?_
  rintro e w2 ⟨rfl,Hn⟩
  have kb2:Qaa (fun _=>False) _ w2:=Qaa.of_fresh Hn _
  have Gc:=Gk.keeps kb2
  have GF:=Mc.keeps kb2 (fun e=>e)
  have mS:=KR.trans (Gk.below (kb2.mono (S:=(· = r)) (fun _ _ e=>e.elim)))
  clear GV Hn kb2 Gk Mc KR m0 m1 m2 m3 m4 m5
  obtain⟨m0,m1,m2,m3,m4,m5⟩:=Qfa GF
  have ki:=GF.lt
  cases hk:isK L i 4 [47]with
  | true=>
   rw[hk,if_pos rfl]at Hd
   obtain⟨gD,k3⟩:=Gc.step (Qkd Kh.out jg hk (by decide))
   have GT:=GF.keeps k3 KK
   obtain⟨c1,c1f,crl,_⟩:=Gc.at1
   have kW:=mS.trans (Gc.below k3)
   obtain⟨x0,x1,x2,x3,x4,x5⟩:=Qfa GT
   have Hm:=QGd gD ⟨1,⟨#[]⟩,⟨#[47]⟩,[],t3,t4⟩ rfl
   unfold Q5b QWb at Hm
   generalize Q7a L (Q8b L) (.body ⟨1,⟨#[]⟩,⟨#[47]⟩,[],t3,t4⟩ 0) (i+1)=BR at *
   clear gD k3 GT Gc GF mS
   go_wp2_with fail
   refine(by exact Hm:Calls _ _ _ _ _).mono ?_
   rintro e wd ⟨Ko,hm⟩
   have MA:=kW.trans Ko
   clear Hm kW Ko
   cases BR with
   | ok q=>
    obtain⟨m,ds⟩:=q
    simp only at hm Hd
    obtain⟨rfl,ovd,KI,Jr⟩:=hm
    have Hf:=QUc wd r base file L lv ovd m _ KI [59]
    unfold Qyc at Hf
    try unfold Q1a at Hd
    have jJ:=hid KI
    have jL:=hid MA
    clear KI MA
    cases hq:isK L m 4 [59]with
    | true=>
     rw[hq,if_pos rfl]at Hd
     simp only at Hd
     subst Hd
     rw[hq]at Hf
     go_wp2_with fail
     refine(by exact Hf:Calls _ _ _ _ _).mono ?_
     rintro e wq ⟨rfl,Kr,hy,_⟩
     have Mr:=hy (by trivial)
     have MB:=jL.out.trans (jJ.out.below Kr)
     clear Hf hy Kr
     go_wp2_with fail
     go_ret
     exact⟨MB,rfl,ovd,Mr,by omega⟩
    | false=>
     rw[hq,if_neg (by simp)]at Hd
     simp only at Hd
     subst Hd
     rw[hq]at Hf
     go_wp2_with fail
     refine(by exact Hf:Calls _ _ _ _ _).mono ?_
     rintro e wq ⟨rfl,Kr,_,hy⟩
     have Mr:=hy (by trivial)
     have MB:=jL.out.trans (jJ.out.below Kr)
     clear Hf hy Kr
     go_wp2_with fail
     go_ret
     exact⟨MB,rfl,ovd,Mr⟩
   | error q=>
    obtain⟨k,c⟩:=q
    simp only at hm Hd
    obtain⟨rfl,ovd,Hi⟩:=hm
    subst Hd
    go_wp2_with fail
    go_ret
    exact⟨MA,rfl,ovd,Hi⟩
  | false=>
   rw[hk,if_neg (by simp)]at Hd
   clear hk
   by_cases h6:t0=6
   ·subst h6
    rw[if_pos rfl]at Hd
    cases hg:Qna t1 with
    | false=>
     simp only[hg,Bool.false_eq_true,reduceIte]at Hd
     subst Hd
     have GQ:=dw.out _ Gc
     simp only[hg,Bool.false_eq_true,reduceIte]at GQ
     have mT:=hid Gc
     clear Gc GF
     go_wp2_with fail
     refine(by exact GQ:Calls _ _ _ _ _).mono ?_
     rintro e w3 ⟨Hc,rfl,Hi⟩
     have kW:=(mS.trans (mT.out.below Hc)).alloc (Nat.le_trans mT.out.size Hc.size) (.cells #[.int .i64 6,.string ⟨t1.toArray⟩,.int .i64 t2,.int .i64 file,.int .i64 t3,.int .i64 t4] 65)
     have Kn:=Hi.alloc (.cells #[.int .i64 6,.string ⟨t1.toArray⟩,.int .i64 t2,.int .i64 file,.int .i64 t3,.int .i64 t4] 65)
     clear GQ Hi Hc
     go_wp2_with fail
     go_ret
     exact⟨kW,rfl,ov,Kn⟩
    | true=>
     simp only[hg,reduceIte]at Hd
     have GQ:=dw.out _ Gc
     simp only[hg,reduceIte]at GQ
     have mT:=hid Gc
     have JG:=hid GF
     clear Gc GF
     go_wp2_with fail
     refine(by exact GQ:Calls _ _ _ _ _).mono ?_
     rintro e w3 ⟨Hc,rfl,gD⟩
     have kW:=(mS.trans (mT.out.below Hc)).alloc (Nat.le_trans mT.out.size Hc.size) (.cells #[.int .i64 6,.string ⟨t1.toArray⟩,.int .i64 t2,.int .i64 file,.int .i64 t3,.int .i64 t4] 65)
     have Gh:=gD.alloc (.cells #[.int .i64 6,.string ⟨t1.toArray⟩,.int .i64 t2,.int .i64 file,.int .i64 t3,.int .i64 t4] 65)
     have mr:=(JG.out.keeps Hc KK).alloc (.cells #[.int .i64 6,.string ⟨t1.toArray⟩,.int .i64 t2,.int .i64 file,.int .i64 t3,.int .i64 t4] 65)
     obtain⟨x0,x1,x2,x3,x4,x5⟩:=Qfa mr
     have nI:=mr.lt
     have Hm:=QGd Gh ⟨1,⟨#[]⟩,⟨(38::t1).toArray⟩,[],t3,t4⟩ rfl
     unfold Q5b QWb at Hm
     generalize Q7a L (Q8b L) (.body ⟨1,⟨#[]⟩,⟨(38::t1).toArray⟩,[],t3,t4⟩ 0) (i+1)=BR at *
     rw[show([38]++t1:List UInt8)=38::t1 from rfl]at bB
     generalize (38::t1:List UInt8)=nm at *
     clear GQ gD Gh mr Hc mS m0 m1 m2 m3 m4 m5
     go_wp2_with fail
     refine(by exact Hm:Calls _ _ _ _ _).mono ?_
     rintro e wd ⟨Ko,hm⟩
     have MA:=kW.trans Ko
     clear Hm kW Ko
     cases BR with
     | ok q=>
      obtain⟨m,ds⟩:=q
      simp only at hm Hd
      obtain⟨rfl,ovd,KI,Jr⟩:=hm
      have Hf:=QUc wd r base file L lv ovd m _ KI [59]
      unfold Qyc at Hf
      try unfold Q1a at Hd
      have jJ:=hid KI
      have jL:=hid MA
      clear KI MA
      cases hq:isK L m 4 [59]with
      | true=>
       rw[hq,if_pos rfl]at Hd
       simp only at Hd
       subst Hd
       rw[hq]at Hf
       go_wp2_with fail
       refine(by exact Hf:Calls _ _ _ _ _).mono ?_
       rintro e wq ⟨rfl,Kr,hy,_⟩
       have Mr:=hy (by trivial)
       have MB:=jL.out.trans (jJ.out.below Kr)
       clear Hf hy Kr
       go_wp2_with fail
       go_ret
       exact⟨MB,rfl,ovd,Mr,by omega⟩
      | false=>
       rw[hq,if_neg (by simp)]at Hd
       simp only at Hd
       subst Hd
       rw[hq]at Hf
       go_wp2_with fail
       refine(by exact Hf:Calls _ _ _ _ _).mono ?_
       rintro e wq ⟨rfl,Kr,_,hy⟩
       have Mr:=hy (by trivial)
       have MB:=jL.out.trans (jJ.out.below Kr)
       clear Hf hy Kr
       go_wp2_with fail
       go_ret
       exact⟨MB,rfl,ovd,Mr⟩
     | error q=>
      obtain⟨k,c⟩:=q
      simp only at hm Hd
      obtain⟨rfl,ovd,Hi⟩:=hm
      subst Hd
      go_wp2_with fail
      go_ret
      exact⟨MA,rfl,ovd,Hi⟩
   ·rw[if_neg h6]at Hd
    have sf:=QTc _ r base file L lv ov i D Gc 7 [105,110,99,108,117,100,101]
    go_wp2_with fail
    refine(by exact sf:Calls _ _ _ _ _).mono ?_
    rintro e w3 ⟨rfl,gv⟩
    have kb3:Qaa (fun _=>False) _ w3:=Qaa.of_fresh gv _
    have gD:=Gc.keeps kb3
    have GT:=GF.keeps kb3 (fun e=>e)
    have kW:=mS.trans (Gc.below (kb3.mono (S:=(· = r)) (fun _ _ e=>e.elim)))
    clear sf gv kb3 Gc GF mS
    cases hk:isK L i 7 [105,110,99,108,117,100,101]with
    | true=>
     rw[hk,if_pos rfl]at Hd
     have Hm:=cQ.out _ gD (MI.out _ hk)
     rw[Hd]at Hm
     unfold QWb at Hm ⊢
     clear Hd hk
     go_wp2_with fail
     refine(by exact Hm:Calls _ _ _ _ _).mono ?_
     rintro e w9 ⟨Gv,hm⟩
     have nc:=kW.trans Gv
     clear Hm
     cases RR with
     | ok q=>
      obtain⟨j,ds⟩:=q
      simp only at hm
      obtain⟨rfl,ovd,KI,Jr⟩:=hm
      go_wp2_with fail
      go_ret
      exact⟨nc,rfl,ovd,KI,Jr⟩
     | error q=>
      obtain⟨k,c⟩:=q
      simp only at hm
      obtain⟨rfl,ovd,Hi⟩:=hm
      go_wp2_with fail
      go_ret
      exact⟨nc,rfl,ovd,Hi⟩
    | false=>
     rw[hk,if_neg (by simp)]at Hd
     clear hk
     have sh:=QTc _ r base file L lv ov i D gD 7 [100,101,108,101,116,101,45,110,111,100,101]
     go_wp2_with fail
     refine(by exact sh:Calls _ _ _ _ _).mono ?_
     rintro e w4 ⟨rfl,Kb⟩
     have kb4:Qaa (fun _=>False) _ w4:=Qaa.of_fresh Kb _
     have Gh:=gD.keeps kb4
     have mr:=GT.keeps kb4 (fun e=>e)
     have M5:=kW.trans (gD.below (kb4.mono (S:=(· = r)) (fun _ _ e=>e.elim)))
     clear sh Kb kb4 gD GT kW
     cases hk:isK L i 7 [100,101,108,101,116,101,45,110,111,100,101]with
     | true=>
      rw[hk,if_pos rfl]at Hd
      have Hm:=jM.out _ Gh (MI.out _ hk)
      rw[Hd]at Hm
      unfold QWb at Hm ⊢
      clear Hd hk
      go_wp2_with fail
      refine(by exact Hm:Calls _ _ _ _ _).mono ?_
      rintro e w9 ⟨Gv,hm⟩
      have nc:=M5.trans Gv
      clear Hm
      cases RR with
      | ok q=>
       obtain⟨j,ds⟩:=q
       simp only at hm
       obtain⟨rfl,ovd,KI,Jr⟩:=hm
       go_wp2_with fail
       go_ret
       exact⟨nc,rfl,ovd,KI,Jr⟩
      | error q=>
       obtain⟨k,c⟩:=q
       simp only at hm
       obtain⟨rfl,ovd,Hi⟩:=hm
       go_wp2_with fail
       go_ret
       exact⟨nc,rfl,ovd,Hi⟩
     | false=>
      rw[hk,if_neg (by simp)]at Hd
      clear hk
      subst Hd
      have ML:=GE.out _ Gh
      obtain⟨x0,x1,x2,x3,x4,x5⟩:=Qfa mr
      have m9:=hid Gh
      clear Gh mr
      go_wp2_with fail
      refine(by exact ML:Calls _ _ _ _ _).mono ?_
      rintro e w5 ⟨rfl,Hi,Hs⟩
      have km:=M5.trans (m9.out.below Hs)
      go_wp2_with fail
      go_ret
      exact⟨km,rfl,ov,Hi⟩
end Go.Proofs.YtofhcgbihonckaaGreat
