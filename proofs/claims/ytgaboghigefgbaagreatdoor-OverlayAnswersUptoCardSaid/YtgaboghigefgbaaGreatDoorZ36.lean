/- Lemmas on the way to the law; no conditions. -/
import Derived.Test.YtgaboghigefgbaaGreatDoorZ35
import Derived.Deep.RegionLaw
import Derived.Deep.AppendLies
import Derived.Test.YtgaboghigefgbaaGreatDoorZ37
import Derived.Laws.IdiomStrings
import Derived.Test.YtgaboghigefgbaaGreatDoorZ38
set_option linter.all false
set_option maxRecDepth 100000
set_option maxHeartbeats 8000000
namespace Go.Proofs.YtgaboghigefgbaaGreatDoor
open Go.Proofs.Tryz
open Go.Lib (hid)
open Go.RowKit
theorem Qft:(prog.info? 123).map (fun i=>(i.zero,i.size,i.bytes))=some (some (.agg #[.int .i64 0,.string ⟨#[]⟩,.string ⟨#[]⟩,.slice none 0 0,.int .i64 0,.int .i64 0,.int .i64 0]),7,88):=by kernel_rfl
def Qje(file:Int)(d:Qrc)(pv:Value):Value:=.agg #[.int .i64 d.kind,.string d.label,.string d.name,pv,.int .i64 file,.int .i64 d.line,.int .i64 d.col]
def QRf(file:Int)(d:Qrc)(pv:Value):Array Value:=#[.int .i64 d.kind,.string d.label,.string d.name,pv,.int .i64 file,.int .i64 d.line,.int .i64 d.col]
theorem Qgd{w:World}{B:Nat}{x0 x1 x2 x3 x4 x5 x6:Value}{t:TypeId}(h:Holds w B #[x0,x1,x2,x3,x4,x5,x6] t) :
 w.cell? ⟨B,0,none⟩=some x0∧w.cell? ⟨B,1,none⟩=some x1∧w.cell? ⟨B,2,none⟩=some x2∧w.cell? ⟨B,3,none⟩=some x3∧w.cell? ⟨B,4,none⟩=some x4∧w.cell? ⟨B,5,none⟩=some x5∧w.cell? ⟨B,6,none⟩=some x6:=
 ⟨h.cell 0,h.cell 1,h.cell 2,h.cell 3,h.cell 4,h.cell 5,h.cell 6⟩
theorem QLa{w:World}{base:Nat}{e t:TypeId}{size:Nat}{v:Value}{n b:Nat}{xs:List Value}{cs:Array Value}(h:w.ownsRow base e size v n xs)(hH:Holds w b cs t)(Hl:t≠e):v.ownBlock≠some b:=by
 intro e2;obtain⟨_,_,cur,h2⟩:=Qle h e2;exact Qzd hH h2 Hl rfl
theorem Q6p{w w1 w8:World}{r base:Nat}{file:Int}{lv x ov fp v8:Value}{D:List Qrc}{d:Qrc}{pv:Value}{vs:List Value}{o:Obj}(h:QNo w r base file lv x ov fp D)(hp:QVa w base pv d.parts)(k1:Qaa (fun _=>False) w w1)
 (MU:vs.length=D.length) (Hn:w.ownsRow base 123 7 ov D.length (QMb file D vs)) (GQ:∀k (h:k<D.length) (h2:k<vs.length),QVa w base vs[k] D[k].parts)
 (Hi:w8.ownsRow base 123 7 v8 (D.length+1) (QMb file D vs++[.int .i64 d.kind,.string d.label,.string d.name,pv,.int .i64 file,.int .i64 d.line,.int .i64 d.col])) (hg:(w1.alloc o).grownBy w8 ov.ownBlock) :
 r<w8.heap.size∧w8.frozen? ⟨r,2,none⟩=false∧w8.cell? ⟨r,2,none⟩=some ov∧QNo (w8.setCell ⟨r,2,none⟩ v8) r base file lv x v8 fp (D++[d])∧Qaa (fun b=>b=r∨ov.ownBlock=some b) w (w8.setCell ⟨r,2,none⟩ v8):=by
 have k2:Qaa (fun b=>ov.ownBlock=some b) w w8:=((k1.alloc o).mono (fun _ _ e=>e.elim)).grown hg (fun i e=>.inr e);have Hl:=QLa Hn h.1 (by decide);have h8:Holds w8 r #[lv,x,ov,fp] 148:=h.1.keeps k2 Hl;have cW:∀{v:Value} {ps:List Qtf},QVa w base v ps→QVa w8 base v ps:=by
  intro v ps Gt;obtain⟨us,u1,u2,u3⟩:=Gt;refine⟨us,u1,Qca u2 k2 (fun g Jk e=>?_),fun j a b=>Qca (u3 j a b) k2 (fun g Jk e=>?_)⟩
  ·obtain⟨_,_,cur,q⟩:=Qle Hn e;exact QLa u2 q (by decide) Jk
  obtain⟨_,_,cur,q⟩:=Qle Hn e;exact QLa (u3 j a b) q (by decide) Jk
 have h9:=h8.set 2 v8;have k3:=(Qaa.refl (· = r) w8).setCell (p:=⟨r,2,none⟩) (.inr rfl) v8;have ha:=Qqc.one h8 (by decide) (by decide) (by decide);refine⟨h8.lt,h8.free 2,h8.cell 2,⟨h9,?_,h.2.2.1,Nat.le_trans h.2.2.2 (Nat.le_trans k2.size k3.size)⟩,(k2.mono (fun _ _ e=>.inr e)).setCell (.inr (.inl rfl)) v8⟩;refine QLb.keeps ?_ k3 ha;refine⟨vs++[pv],by simp[MU],?_,?_⟩
 ·rw[QQf file D vs d pv MU];simpa using Hi
 intro j hj Ge;by_cases e:j<D.length
 ·rw[List.getElem_append_left (by omega),List.getElem_append_left e];exact cW (GQ j e (by omega))
 have g9:j=D.length:=by simp at hj;omega
 subst g9;rw[List.getElem_append_right (by omega),List.getElem_append_right (by omega)];simp only[MU,Nat.sub_self,List.getElem_cons_zero];exact cW hp
theorem Qig(w:World)(r base:Nat)(file:Int)(lv x ov fp:Value)(D:List Qrc)(d:Qrc)(pv:Value)(h:QNo w r base file lv x ov fp D)(hp:QVa w base pv d.parts)(hl:D.length≤20000) :
 Calls prog 199 #[.pointer (some ⟨r,0,none⟩),Qje file d pv] w fun e w'=>e=.returned (.tuple #[])∧∃ov',QNo w' r base file lv x ov' fp (D++[d])∧Qaa (fun b=>b=r∨ov.ownBlock=some b) w w':=by
 obtain⟨pa,pc,rfl⟩:=hp.slice;obtain⟨oa,oc,rfl⟩:=h.2.1.slice;obtain⟨vs,MU,Hn,GQ⟩:=id h.2.1;have Hy:=h.2.2.2;have hH:=h.1;have JY:=hid (fun(w1 w8:World) (v8:Value) (o:Obj) k1 Hi hg=>Q6p (w1:=w1) (w8:=w8) (v8:=v8) (o:=o) h hp k1 MU Hn GQ Hi hg);have Gi:=World.ownsRow.alloc Hn (.cells (QRf file d (.slice pa d.parts.length pc)) 123);have hN:=Holds.new w (QRf file d (.slice pa d.parts.length pc)) 123;have Gl:=hH.alloc (.cells (QRf file d (.slice pa d.parts.length pc)) 123);have k1:=(Qaa.refl (fun _=>False) w).alloc (.cells (QRf file d (.slice pa d.parts.length pc)) 123);unfold Qje;unfold QRf at Gi hN Gl k1;clear GQ Hn h hp hH;generalize QMb file D vs=xs at *
 obtain⟨dk,dl,dn,dp,dli,dc⟩:=d;simp only at *
 obtain⟨i0,hi,Hz,Ho,H4⟩:=info_parts Qft;go_enter func199,ntmps199;go_wp2_with fail;generalize w.alloc (.cells #[.int .i64 dk,.string dl,.string dn,.slice pa dp.length pc,.int .i64 file,.int .i64 dli,.int .i64 dc] 123)=wb at *
 obtain⟨m0,m1,m2,m3,m4,m5,m6⟩:=Qgd hN;have c2:wb.cell? ⟨r,2,none⟩=some (.slice oa D.length oc):=Gl.cell 2;have crl:=Gl.lt;have jm:=hN.lt;have q8:=Nat.le_trans Hy k1.size;have GS:=hid (World.ownsRow.alloc (show wb.drew.ownsRow base 123 7 (.slice oa D.length oc) D.length xs from Gi) (.cells #[.int .i64 dk,.string dl,.string dn,.slice pa dp.length pc,.int .i64 file,.int .i64 dli,.int .i64 dc] 123));clear Gi Gl hN
 go_region_law (refine step_append_lies _ (by rfl) _ _ _ (by rfl) base 123 i0 _ 7 88 underlying115 hi Hz Ho H4 rfl (by omega) _ D.length xs (by rfl) GS.o ⟨wb.heap.size,0,none⟩ 1 1 [.int .i64 dk,.string dl,.string dn,.slice pa dp.length pc,.int .i64 file,.int .i64 dli,.int .i64 dc] (by rfl) (by rfl) (World.news_of_block (cs:=#[.int .i64 dk,.string dl,.string dn,.slice pa dp.length pc,.int .i64 file,.int .i64 dli,.int .i64 dc]) (t:=123) (fr:=(0,0)) (heap_alloc_new wb.drew _)) (by simp[Value.oneCell']) (by omega) (by unfold maxLen;omega) (by omega) (by simp;omega) (wb.heap.size+1) (by simp) ?_;intro gg cap2 w8 gO Hd gj jw;obtain⟨y0,y1,y2,y3,y4⟩:=JY.o wb.drew w8 _ _ k1.drew gO Hd)
 all_goals
  go_wp2_with fail
  go_end0
  exact⟨rfl,_,y3,y4⟩
def QMm(f:Nat)(right:List UInt8→Bool):Prop:=
 (∀args w,(callFunc f args).run prog w=.ok (.enter f args) w)∧∀(s:ByteArray) (w:World),s.size≤16000→Calls prog f #[.string s] w fun e w'=>e=.returned (.bool (right s.data.toList))∧w=w'
theorem Qit{L:List Tok}{i:Nat}{kind:Int}:isK L i kind []=decide ((tkN L i).kind=kind):=by unfold isK;simp
theorem QNq(w:World)(r base:Nat)(file:Int)(L:List Tok)(lv ov:Value)(i:Nat)(D:List Qrc)(h:Qhb w r base file L lv ov i D)(kind:Int)(hk8:kind≠8)(f:Nat)(right:List UInt8→Bool)(hf:QMm f right) :
 Calls prog 161 #[.pointer (some ⟨r,0,none⟩),.int .i64 kind,.func (.func f) #[] #[]] w (Qnj r base file L lv ov i D kind right w):=by
 have He:Below w.heap.size w (w.alloc (.cells #[.int .i64 0,.string ⟨#[]⟩,.int .i64 0,.int .i64 0,.int .i64 0,.int .i64 0] 150)):=Bq;have Kh:=Holds.new w #[.int .i64 0,.string ⟨#[]⟩,.int .i64 0,.int .i64 0,.int .i64 0,.int .i64 0] 150;have ht:=Qrn _ r base file L lv ov i D (h.keeps (Qaa.of_fresh He (fun _=>False))) kind [] hk8;have qG:=fun wx hx=>Qyd wx r base file L lv ov (i+1) D hx i 1;have jb:=h.holds.lt;have aD:=h.size;have iG:=h.ok.at i;have hR:=hid (show QKe L kind right i=if (tkN L i).kind=kind then(if right (tkN L i).text=true then .ok (i+1)else .error (i,1))else .error (i,6)from rfl);obtain⟨JG,hf⟩:=hf;unfold Qmj at ht;rw[Qit]at ht;unfold Qnj;unfold QKb at ht qG ⊢;generalize QKe L kind right i=R at *
 generalize tkN L i=t at *
 obtain⟨t0,t1,t2,t3,t4⟩:=t;simp only at ht qG iG hR ⊢;have Jj:∀wx,Calls prog f #[.string ⟨t1.toArray⟩] wx fun e w'=>e=.returned (.bool (right t1))∧wx=w':=fun wx=>hf ⟨t1.toArray⟩ wx (by simpa[ByteArray.size]using iG);have GW:=hid qG;clear hf qG h iG;go_enter func161,ntmps161;go_wp2_with fail;generalize w.alloc (.cells #[.int .i64 0,.string ⟨#[]⟩,.int .i64 0,.int .i64 0,.int .i64 0,.int .i64 0] 150)=w0 at *
 refine ht.mono ?_;rintro e w1 ⟨rfl,Ga,ql,Mq⟩;have Gh:Qaa (· = r) w w1:=((Qaa.of_fresh He (fun _=>False)).mono (fun _ _ e=>e.elim)).trans Ga (fun _ _ e=>e);have eQ:w.heap.size≠r:=by omega
 have Jc:=Kh.keeps Ga eQ;have iY:=hid (Jc.alloc (.cells #[.int .i64 t0,.string ⟨t1.toArray⟩,.int .i64 t2,.int .i64 file,.int .i64 t3,.int .i64 t4] 150));have cx:=hid (Holds.new w1 #[.int .i64 t0,.string ⟨t1.toArray⟩,.int .i64 t2,.int .i64 file,.int .i64 t3,.int .i64 t4] 150);have jZ:=hid (Gh.alloc (.cells #[.int .i64 t0,.string ⟨t1.toArray⟩,.int .i64 t2,.int .i64 file,.int .i64 t3,.int .i64 t4] 150));have nJ:=Kh.lt;have zD:=Ga.size;have gi:w1.heap.size≠r:=by omega
 have gR:w1.heap.size≠w.heap.size:=by omega
 have HY:=hid ql;have HN:=hid Mq;clear He Kh ht Ga Jc Gh ql Mq;obtain⟨m0,m1,m2,m3,m4,m5⟩:=QGa cx.o;obtain⟨n0,n1,n2,n3,n4,n5⟩:=QGa iY.o;obtain⟨f0,f1,f2,f3,f4,f5⟩:=Qhg iY.o;have l2:=iY.o.lt;have l3:=cx.o.lt
 have Hp:∀(wx:World),Holds wx w.heap.size #[.int .i64 0,.string ⟨#[]⟩,.int .i64 0,.int .i64 0,.int .i64 0,.int .i64 0] 150→Qaa (· = r) w wx→
  Holds (Qnn wx w.heap.size (.int .i64 t0) (.string ⟨t1.toArray⟩) (.int .i64 t2) (.int .i64 file) (.int .i64 t3) (.int .i64 t4)) w.heap.size #[.int .i64 t0,.string ⟨t1.toArray⟩,.int .i64 t2,.int .i64 file,.int .i64 t3,.int .i64 t4] 150∧
  Qaa (· = r) w (Qnn wx w.heap.size (.int .i64 t0) (.string ⟨t1.toArray⟩) (.int .i64 t2) (.int .i64 file) (.int .i64 t3) (.int .i64 t4))∧
  (Qhb wx r base file L lv ov (i+1) D→Qhb (Qnn wx w.heap.size (.int .i64 t0) (.string ⟨t1.toArray⟩) (.int .i64 t2) (.int .i64 file) (.int .i64 t3) (.int .i64 t4)) r base file L lv ov (i+1) D)∧
  (∀c,QBb wx r file L lv ov i c→QBb (Qnn wx w.heap.size (.int .i64 t0) (.string ⟨t1.toArray⟩) (.int .i64 t2) (.int .i64 file) (.int .i64 t3) (.int .i64 t4)) r file L lv ov i c):=by
  intro wx hH hk;refine⟨QVj hH _ _ _ _ _ _,QXd hk (.inl (Nat.le_refl _)) _ _ _ _ _ _,fun hs=>?_,fun c hb=>hb.six hH _ _ _ _ _ _⟩;have k6:=QXd (S:=(· = w.heap.size)) (Qaa.refl _ wx) (B:=w.heap.size) (.inr rfl) (.int .i64 t0) (.string ⟨t1.toArray⟩) (.int .i64 t2) (.int .i64 file) (.int .i64 t3) (.int .i64 t4);have cW:=Qqc.one hH (by decide) (by decide) (by decide);exact⟨hs.holds.keeps k6 (Ne.symm eQ),hs.toks.keeps k6 (fun b e=>by cases e;exact aD),hs.defs.keeps k6 cW,hs.low,Nat.le_trans hs.size k6.size,hs.lt,hs.ok,hs.cnt⟩
 have gV:=hid Hp;clear Hp;by_cases hk:t0=kind
 ·subst hk;have JN:=hid ((HY.o (decide_eq_true rfl)).alloc (.cells #[.int .i64 t0,.string ⟨t1.toArray⟩,.int .i64 t2,.int .i64 file,.int .i64 t3,.int .i64 t4] 150));have kZ:=hR.o;rw[if_pos rfl]at kZ;cases hg:right t1 with
  | true=>
   rw[hg,if_pos rfl]at kZ;subst kZ;rw[hg]at Jj;have rW:=hid Jj;clear Jj hg hR;go_wp2_with fail;refine(rW.o _).mono ?_;rintro e w2 ⟨rfl,rfl⟩;go_wp2_with fail;obtain⟨z1,z2,z3,_⟩:=gV.o _ iY.o jZ.o;replace z3:=z3 JN.o;unfold Qnn at z1 z2 z3;obtain⟨q0,q1,q2,q3,q4,q5⟩:=QGa z1;exact bodyPost_ret (v:=.tuple #[.agg #[.int .i64 t0,.string ⟨t1.toArray⟩,.int .i64 t2,.int .i64 file,.int .i64 t3,.int .i64 t4],.bool true]) (by simp[results,Tryz.results161,go_sem,q0,q1,q2,q3,q4,q5]) rfl ⟨z2,rfl,z3⟩
  | false=>
   rw[hg,if_neg (by simp)]at kZ;subst kZ;rw[hg]at Jj;have rW:=hid Jj;clear Jj hg hR;go_wp2_with fail;refine(rW.o _).mono ?_;rintro e w2 ⟨rfl,rfl⟩;go_wp2_with fail
   go_region_with (go_at_call 168;refine(GW.o _ (by exact JN.o.keeps ((Qaa.refl _ _).drew))).mono ?_;rintro e w4 ⟨rfl,gu,G7⟩;have bH:=iY.o.drew.keeps G7 eQ;have ag:=cx.o.drew.keeps G7 gi;obtain⟨y0,y1,y2,y3,y4,y5⟩:=QGa ag;obtain⟨v0,v1,v2,v3,v4,v5⟩:=QGa bH;obtain⟨p0,p1,p2,p3,p4,p5⟩:=Qhg bH;have yi:=bH.lt)
   all_goals
    go_wp2_with fail;obtain⟨z1,z2,_,z3⟩:=gV.o _ bH (jZ.o.drew.trans G7 (fun _ _ e=>e));replace z3:=z3 1 gu;unfold Qnn at z1 z2 z3;obtain⟨q0,q1,q2,q3,q4,q5⟩:=QGa z1;exact bodyPost_ret (v:=.tuple #[.agg #[.int .i64 t0,.string ⟨t1.toArray⟩,.int .i64 t2,.int .i64 file,.int .i64 t3,.int .i64 t4],.bool false]) (by simp[results,Tryz.results161,go_sem,q0,q1,q2,q3,q4,q5]) rfl ⟨z2,rfl,z3⟩
 have aQ:decide (t0=kind)=false:=decide_eq_false hk;have kZ:=hR.o;rw[if_neg hk]at kZ;subst kZ;have gF:=hid ((HN.o aQ).alloc (.cells #[.int .i64 t0,.string ⟨t1.toArray⟩,.int .i64 t2,.int .i64 file,.int .i64 t3,.int .i64 t4] 150));rw[aQ];clear Jj hR hk;go_wp2_with fail;obtain⟨z1,z2,_,z3⟩:=gV.o _ iY.o jZ.o;replace z3:=z3 6 gF.o;unfold Qnn at z1 z2 z3;obtain⟨q0,q1,q2,q3,q4,q5⟩:=QGa z1;exact bodyPost_ret (v:=.tuple #[.agg #[.int .i64 t0,.string ⟨t1.toArray⟩,.int .i64 t2,.int .i64 file,.int .i64 t3,.int .i64 t4],.bool false]) (by simp[results,Tryz.results161,go_sem,q0,q1,q2,q3,q4,q5]) rfl ⟨z2,rfl,z3⟩
theorem Qph.tokAt{B:Nat}{w:World}{v:Value}{file:Int}{L:List Tok}(h:Qph B w v file L)(hB:B≤w.heap.size)(ho:LOk L):QBl (fun x=>x<w.heap.size) w v (L.map tkX):=by
 obtain⟨g,cap,rfl,hg,hc⟩:=h;refine⟨_,cap,by rw[List.length_map],fun t ht=>?_,fun _=>⟨g,0,rfl,by omega,fun j hj=>?_⟩⟩
 ·obtain⟨u,hu,rfl⟩:=List.mem_map.1 ht;have:=ho.text u hu;show(⟨u.text.toArray⟩:ByteArray).size≤maxLen;simp[ByteArray.size,maxLen];omega
 rw[List.length_map]at hj;have e0:=hc j hj 0 _ rfl;have e1:=hc j hj 1 _ rfl;have e2:=hc j hj 2 _ rfl;rw[List.getElem_map,show 0+j*6=6*j+0 from by omega];exact⟨e0,e1,e2⟩
theorem QRl(L:List (Int × ByteArray × Int))(v:Value)(i:Nat)(w:World)(hv:QBl (fun x=>x<w.heap.size) w v L)(hL:L.length≤1000000000)(hi:i<L.length)(hnp:¬QKd L i=⟨#[40]⟩) :
 Calls prog 230 #[v,.int .i64 i] w fun e w'=>∃res,Rd L .prim 0 i res∧e=.returned (.tuple #[.int .i64 (Q3j res).1,.int .i64 (Q3j res).2.1,.int .i64 (Q3j res).2.2])∧Below w.heap.size w w':=by
 have h:=QBj L v i w hv hL hi hnp;go_enter func230,ntmps230;go_wp2_with fail;refine h.mono ?_;rintro e w' ⟨res,hr,he,hb⟩;generalize hR:Q3j res=R at he;obtain⟨r1,r2,r3⟩:=R;subst he;have HR:=hid hr;have HE:=hid hR;clear hr hR;go_wp2_with fail;go_ret3;exact⟨res,HR.o,by rw[HE.o];rfl,hb⟩
theorem Q8r{L:List (Int × ByteArray × Int)}{i:Nat}{res:Option (Int × Nat × Bool × Bool × Bool)}(hs:¬QKd L i=⟨#[40]⟩)(h:Rd L .prim 0 i res):(evT L 1 .prim 0 i).getD none=res:=by
 cases e:evT L 1 .prim 0 i with
 | none=>rw[evT,if_neg hs]at e;cases e
 | some r=>exact Rd.det ⟨1,e⟩ h
theorem Qwm(L:List Tok)(lv:Value)(B i:Nat)(file:Int)(w:World)(h:Qph B w lv file L)(hB:B≤w.heap.size)(ho:LOk L)(hi:i<L.length) :
 Calls prog 230 #[lv,.int .i64 i] w fun e w'=>e=.returned (.tuple #[.int .i64 (Qvg L i).1,.int .i64 (Qvg L i).2.1,.int .i64 (Qvg L i).2.2])∧Below w.heap.size w w':=by
 refine(QRl (L.map tkX) lv i w (h.tokAt hB ho) (by rw[List.length_map];have:=ho.len;omega) (by rw[List.length_map];exact hi) (ho.np i)).mono ?_;rintro e w' ⟨res,hr,rfl,hb⟩;have:Q3j res=Qvg L i:=by unfold Qvg;rw[Q8r (ho.np i) hr]
 rw[this];exact⟨rfl,hb⟩
theorem Qno{L:List Tok}(ho:LOk L){i:Nat}(hi:i<L.length)(h:(Qvg L i).2.2=0):∃j:Nat,(Qvg L i).2.1=j∧i<j∧j<L.length:=by
 obtain⟨ts,t,e,h8⟩:=ho.last;have hg:(L.map tkX)[i]? = some (tkX L[i]):=by simp[hi]
 have Hl:¬QKd (L.map tkX) i=⟨#[40]⟩:=ho.np i;have hE:evT (L.map tkX) 1 .prim 0 i=some (if (tkX L[i]).1=2 then some ((tkX L[i]).2.2 % 4294967296,i+1,decide (8<0),decide ((tkX L[i]).2.2<0)||decide (4294967295<(tkX L[i]).2.2),false)else none):=by
  rw[evT,if_neg Hl,hg]
 unfold Qvg at h ⊢;rw[hE]at h ⊢;by_cases h2:(tkX L[i]).1=2
 ·rw[if_pos h2]at h ⊢;have Hh:i+1<L.length:=by
   rcases Nat.lt_or_ge (i+1) L.length with c|c
   ·exact c
   exfalso;have hl:L.length=ts.length+1:=by rw[e];simp
   have h3:L[i]=t:=by simp only[e];rw[List.getElem_append_right (by omega)];simp
   rw[h3]at h2;have h4:t.kind=2:=h2;rw[h8]at h4;cases h4
  refine⟨i+1,?_,by omega,Hh⟩;generalize(decide ((tkX L[i]).2.2<0)||decide (4294967295<(tkX L[i]).2.2))=q at *
  cases q <;> simp[Q3j]at h ⊢
 rw[if_neg h2]at h;simp[Q3j]at h
def Qim(p:Qtf)(cv:Value):Value:=.agg #[.int .i64 p.kind,cv,.string p.text]
def Q3u(v:Value):Prop:=∃(a:Int) (x:Option Addr) (n c:Nat) (s:ByteArray),v=.agg #[.int .i64 a,.slice x n c,.string s]
def Qjj(R:Rs (Nat × Qtf))(r base:Nat)(file:Int)(L:List Tok)(lv ov:Value)(i:Nat)(D:List Qrc)(w:World)(e:Ending)(w':World):Prop:=
 Qaa (· = r) w w'∧match R with
  | .ok (j,p)=>∃cv,e=.returned (.tuple #[Qim p cv,.bool true])∧Qnb w' w.heap.size cv p.cells∧Qhb w' r base file L lv ov j D∧i<j
  | .error (k,c)=>∃v,e=.returned (.tuple #[v,.bool false])∧Q3u v∧QBb w' r file L lv ov k c
def Qmn(w:World)(B:Nat)(x0 x1 x2:Value):World:=((w.setCell ⟨B,0,none⟩ x0).setCell ⟨B,1,none⟩ x1).setCell ⟨B,2,none⟩ x2
theorem QPc{w:World}{B:Nat}{a b c:Value}{t:TypeId}(h:Holds w B #[a,b,c] t)(x0 x1 x2:Value):Holds (Qmn w B x0 x1 x2) B #[x0,x1,x2] t:=by
 have:=((h.set 0 x0).set 1 x1).set 2 x2;exact this
theorem QAb{w:World}{a:World}{B:Nat}{S:Nat→Prop}(h:Qaa S a w)(hB:a.heap.size≤B∨S B)(x0 x1 x2:Value):Qaa S a (Qmn w B x0 x1 x2):=
 ((h.setCell (p:=⟨B,0,none⟩) hB x0).setCell (p:=⟨B,1,none⟩) hB x1).setCell (p:=⟨B,2,none⟩) hB x2
theorem Q6i{w:World}{b B:Nat}{cs:Array Value}{t:TypeId}(h:Holds w b cs t)(Hl:b≠B)(x0 x1 x2:Value):Holds (Qmn w B x0 x1 x2) b cs t:=
 ((h.other ⟨B,0,none⟩ x0 Hl).other ⟨B,1,none⟩ x1 Hl).other ⟨B,2,none⟩ x2 Hl
theorem three{w:World}{B:Nat}{x0 x1 x2:Value}{t:TypeId}(h:Holds w B #[x0,x1,x2] t) :
 w.cell? ⟨B,0,none⟩=some x0∧w.cell? ⟨B,1,none⟩=some x1∧w.cell? ⟨B,2,none⟩=some x2∧w.frozen? ⟨B,0,none⟩=false∧w.frozen? ⟨B,1,none⟩=false∧w.frozen? ⟨B,2,none⟩=false∧B<w.heap.size:=
 ⟨h.cell 0,h.cell 1,h.cell 2,h.free 0,h.free 1,h.free 2,h.lt⟩
section
variable{w0 w w':World}{r base:Nat}{file:Int}{L:List Tok}{lv ov:Value}{i:Nat}{D:List Qrc}
theorem Qhb.from(h:Qhb w0 r base file L lv ov i D)(k:Qaa (· = r) w0 w){j:Nat}(hH:Holds w r #[lv,.int .i64 j,ov,.pointer none] 148)(hj:j<L.length)(kV:i≤j):Qhb w r base file L lv ov j D:=h.turn k hH hj kV
theorem Qhb.step(h:Qhb w0 r base file L lv ov i D)(hj:i+1<L.length):Qhb (w0.setCell ⟨r,1,none⟩ (.int .i64 ((i:Int)+1))) r base file L lv ov (i+1) D∧Qaa (· = r) w0 (w0.setCell ⟨r,1,none⟩ (.int .i64 ((i:Int)+1))):=by
 have k:=(Qaa.refl (· = r) w0).setCell (p:=⟨r,1,none⟩) (.inr rfl) (.int .i64 ((i:Int)+1));have e1:(i:Int)+1=((i+1:Nat):Int):=by omega
 have hH:=h.holds.set 1 (.int .i64 ((i:Int)+1));exact⟨h.turn k (by rw[←e1];exact hH) hj (by omega),k⟩
theorem Qhb.at1(h:Qhb w r base file L lv ov i D):w.cell? ⟨r,1,none⟩=some (.int .i64 i)∧w.frozen? ⟨r,1,none⟩=false∧r<w.heap.size∧i<6001:=⟨h.holds.cell 1,h.holds.free 1,h.holds.lt,by have:=h.ok.len;have:=h.lt;omega⟩
end
theorem Q1f{L:List Tok}{i:Nat}{kind:Int}{s:List UInt8}(ho:LOk L)(hi:i<L.length)(h:isK L i kind s=true)(hk:kind≠8):i+1<L.length:=
 ho.next hi (by unfold isK at h;simp only[Bool.and_eq_true,decide_eq_true_eq]at h;rw[h.1];exact hk)
theorem QBb.three{w:World}{r B:Nat}{file:Int}{L:List Tok}{lv ov:Value}{k:Nat}{c:Int}{cs:Array Value}(h:QBb w r file L lv ov k c)(hB:Holds w B cs 196)(x0 x1 x2:Value):QBb (Qmn w B x0 x1 x2) r file L lv ov k c:=
 h.one hB (by decide) (by decide) (QAb (S:=(· = B)) (Qaa.refl _ w) (.inr rfl) x0 x1 x2)
theorem QRr:(prog.info? 198).map (fun i=>(i.zero,i.size,i.bytes))=some (some (.agg #[.int .i64 0,.string ⟨#[]⟩]),2,24):=by kernel_rfl
theorem QLq(w:World)(r base:Nat)(file:Int)(L:List Tok)(lv ov:Value)(i:Nat)(D:List Qrc)(h:Qhb w r base file L lv ov i D) :
 Calls prog 228 #[.pointer (some ⟨r,0,none⟩)] w (Qjj (match QMg L (QBf L) i []with | .ok (j,b)=>.ok (j,⟨1,b,⟨#[]⟩⟩) | .error e=>.error e) r base file L lv ov i D w):=by
 have He:Below w.heap.size w ((w.alloc (.cells #[.int .i64 0,.slice none 0 0,.string ⟨#[]⟩] 196)).alloc (.cells #[.int .i64 1,.slice none 0 0,.string ⟨#[]⟩] 196)):=(Bq).alloc (by simp) _;have gX:=(Holds.new w #[.int .i64 0,.slice none 0 0,.string ⟨#[]⟩] 196).alloc (.cells #[.int .i64 1,.slice none 0 0,.string ⟨#[]⟩] 196);have qM:=Holds.newAt (w:=w.alloc (.cells #[.int .i64 0,.slice none 0 0,.string ⟨#[]⟩] 196)) (B:=w.heap.size+1) (by simp) #[.int .i64 1,.slice none 0 0,.string ⟨#[]⟩] 196;have ku:=h.keeps (Qaa.of_fresh He (fun _=>False));have k0:Qaa (· = r) w _:=Qaa.of_fresh He (· = r);obtain⟨gL,cL,rfl,_⟩:=id h.toks;have jb:=h.holds.lt;have G6:=h.lt;have aD:=h.size;have kt:=hid h.ok;have eE:L.length<i+QBf L:=by unfold QBf;omega
 generalize hN:QBf L=N at *
 generalize Hv:QMg L N i []=RR at *
 have sG:=hid Hv;have HH:=hid h;clear hN Hv h;go_enter func228,ntmps228;go_wp2_with fail;generalize(w.alloc (.cells #[.int .i64 0,.slice none 0 0,.string ⟨#[]⟩] 196)).alloc (.cells #[.int .i64 1,.slice none 0 0,.string ⟨#[]⟩] 196)=w0 at *
 go_loopg [] N (fun f wr=>∃(j:Nat) (acc:List Q2g) (cv:Value),Hid (QMg L f j acc=RR)∧L.length<j+f∧i≤j∧acc.length≤j∧Qnb wr (w.heap.size+1+1) cv acc∧Qhb wr r base file L (.slice (some ⟨gL,0,none⟩) L.length cL) ov j D∧Qaa (· = r) w wr∧
  Holds wr w.heap.size #[.int .i64 0,.slice none 0 0,.string ⟨#[]⟩] 196∧Holds wr (w.heap.size+1) #[.int .i64 1,cv,.string ⟨#[]⟩] 196)
 case atStart=>exact⟨i,[],.slice none 0 0,sG,eE,Nat.le_refl _,Nat.zero_le _,Qnb.none _ _,ku,k0,gX,qM⟩
 case round=>
  obtain⟨j,acc,cv,hR,uy,kV,ma,Hi,hA,hK,hZ,hP⟩:=hrel;obtain⟨va,vc,rfl⟩:=Qea Hi;have g9:=hA.lt;have mg:=kt.o.len;obtain⟨f,hf⟩:∃f,gk=f+1:=⟨gk-1,by omega⟩;have hS:=hR.o;rw[hf,QMg]at hS;have Kb:=QZd wr r base file L (.slice (some ⟨gL,0,none⟩) L.length cL) ov j D hA 4 [62];go_wp2_with fail;refine Kb.mono ?_;rintro e w1 ⟨rfl,Hb⟩;have kb1:Qaa (fun _=>False) wr w1:=Qaa.of_fresh Hb _;have kD:=hA.keeps kb1;have Hm:=hZ.keeps kb1 (fun e=>e);have JC:=hP.keeps kb1 (fun e=>e);have Gh:=hK.trans kb1 (S:=(· = r)) (fun _ _ e=>e.elim);have kY:=Qca Hi kb1 (fun _ _ e=>e);have jo:=Gh.size;have Ae:=Hm.lt;have hPl:=JC.lt;clear Kb hR Hb hA hZ hP hK Hi;obtain⟨c1,c1f,crl,cj⟩:=kD.at1;have JK:r≠w.heap.size:=by omega
  have JJ:r≠w.heap.size+1:=by omega
  cases hk:isK L j 4 [62]with
  | true=>
   rw[hk,if_pos rfl]at hS;subst hS;obtain⟨GF,k2⟩:=kD.step (Q1f kt.o g9 hk (by decide));have H7:=Qca kY k2 (fun g hg e=>by cases e;exact QLa kY kD.holds (by decide) hg);have Hx:=Hm.keeps k2 (Ne.symm JK);have mF:=JC.keeps k2 (Ne.symm JJ);have H3:=Gh.trans k2 (S:=(· = r)) (fun _ _ e=>e);have Gl:=GF.holds;have GI:=GF.lt;obtain⟨m0,m1,m2,mf0,mf1,mf2,ml⟩:=three mF;obtain⟨n0,n1,n2,nf0,nf1,nf2,nl⟩:=three Hx;have mu:=hid Hx;have jZ:=hid H3;have KK:=hid (Q1b H7 (show w.heap.size≤w.heap.size+1+1 by omega));have JZ:=hid H7;clear kY H7 kD GF Hm JC Gh k2 kb1 Hx mF H3;go_wp2_with fail;have z1:=QPc mu.o (.int .i64 1) (.slice va acc.length vc) (.string ⟨#[]⟩);have z2:=QAb jZ.o (B:=w.heap.size) (.inl (Nat.le_refl _)) (.int .i64 1) (.slice va acc.length vc) (.string ⟨#[]⟩);have z3:=HH.o.from z2 (Q6i Gl JK (.int .i64 1) (.slice va acc.length vc) (.string ⟨#[]⟩)) GI (by omega);have z4:=Qca KK.o (QAb (S:=(· = w.heap.size)) (Qaa.refl _ _) (.inr rfl) (.int .i64 1) (.slice va acc.length vc) (.string ⟨#[]⟩)) (fun g hg e=>by have:=(Qle JZ.o hg).2.1;omega);unfold Qmn at z4;unfold Qmn at z1 z2 z3;obtain⟨q0,q1,q2,_⟩:=three z1;exact bodyPost_ret (v:=.tuple #[.agg #[.int .i64 1,.slice va acc.length vc,.string ⟨#[]⟩],.bool true]) (by simp[results,Tryz.results228,go_sem,q0,q1,q2]) rfl ⟨z2,_,rfl,z4,z3,by omega⟩
  | false=>
   rw[hk,if_neg (by simp)]at hS;have Gf:=Q2c w1 r base file L (.slice (some ⟨gL,0,none⟩) L.length cL) ov j D kD;have GW:=hid (fun wx hx c=>Qyd wx r base file L (.slice (some ⟨gL,0,none⟩) L.length cL) ov j D hx j c);have J0:=hid (fun(wx:World) (hx:Qhb wx r base file L (.slice (some ⟨gL,0,none⟩) L.length cL) ov j D)=>Qwm L (.slice (some ⟨gL,0,none⟩) L.length cL) base j file wx hx.toks hx.size kt.o g9);have qw:=hid (Qno kt.o g9);have pH:=kt.o.next g9;have mJ:=kt.o.k6 j;unfold txN at hS;unfold QKb at Gf GW;generalize tkN L j=t at *
   obtain⟨t0,t1,t2,t3,t4⟩:=t;simp only at Gf GW hS pH;go_wp2_with fail;refine Gf.mono ?_;rintro e w2 ⟨rfl,Hc⟩;have k2:Qaa (fun _=>False) w1 (w2.alloc (.cells #[.int .i64 t0,.string ⟨t1.toArray⟩,.int .i64 t2,.int .i64 file,.int .i64 t3,.int .i64 t4] 150)):=(Qaa.of_fresh Hc (fun _=>False)).alloc (.cells #[.int .i64 t0,.string ⟨t1.toArray⟩,.int .i64 t2,.int .i64 file,.int .i64 t3,.int .i64 t4] 150);have HA:=hid (kD.keeps k2);have HZ:=hid (Hm.keeps k2 (fun e=>e));have HP:=hid (JC.keeps k2 (fun e=>e));have HK:=hid (Gh.trans k2 (S:=(· = r)) (fun _ _ e=>e.elim));have HR:=hid (Qca kY k2 (fun _ _ e=>e));have HM:=hid (Holds.new w2 #[.int .i64 t0,.string ⟨t1.toArray⟩,.int .i64 t2,.int .i64 file,.int .i64 t3,.int .i64 t4] 150);have HB:=hid (show w.heap.size+1+1≤(w2.alloc (.cells #[.int .i64 t0,.string ⟨t1.toArray⟩,.int .i64 t2,.int .i64 file,.int .i64 t3,.int .i64 t4] 150)).heap.size by have:=k2.size;omega);obtain⟨B,hB⟩:∃z,z=w2.heap.size:=⟨_,rfl⟩;have tz:B≠r:=by have:=Hc.size;omega
   have hBz:w.heap.size+1+1≤B:=by have:=Hc.size;omega
   have rD:w.heap.size≠r:=Ne.symm JK;have Gm:w.heap.size+1≠r:=Ne.symm JJ;rw[←hB]at HM;clear Gf Hc k2 kD Hm JC Gh kY kb1 c1 c1f;by_cases h6:t0=6
   ·exact absurd h6 mJ
   rw[if_neg h6]at hS;obtain⟨y0,y1,y2,y3,y4,y5⟩:=QGa HM.o;rw[hB]at y0 y1 y2 y3 y4 y5;generalize Qvg L j=PX at *
   obtain⟨p1,p2,p3⟩:=PX;simp only at hS J0 qw;have c0:=HA.o.holds.cell 0;have c1:=HA.o.holds.cell 1;have crl:=HA.o.holds.lt;clear pH;go_wp2_with fail
   go_region_with (go_at_call 230;refine(J0.o _ (by exact HA.o.keeps ((Qaa.refl _ _).drew))).mono ?_;rintro e w3 ⟨rfl,Hg⟩)
   all_goals
    have kb3:Qaa (fun _=>False) (w2.alloc (.cells #[.int .i64 t0,.string ⟨t1.toArray⟩,.int .i64 t2,.int .i64 file,.int .i64 t3,.int .i64 t4] 150)) w3:=((Qaa.refl (fun _=>False) (w2.alloc (.cells #[.int .i64 t0,.string ⟨t1.toArray⟩,.int .i64 t2,.int .i64 file,.int .i64 t3,.int .i64 t4] 150))).drew).trans (Qaa.of_fresh Hg (fun _=>False)) (fun _ _ e=>e);have xg:=HA.o.keeps kb3;have HB:=hid (show w.heap.size+1+1≤w3.heap.size from Nat.le_trans HB.o kb3.size);have HZ:=hid (HZ.o.keeps kb3 (fun e=>e));have HP:=hid (HP.o.keeps kb3 (fun e=>e));have HM:=hid (HM.o.keeps kb3 (fun e=>e));have HK:=hid (HK.o.trans kb3 (S:=(· = r)) (fun _ _ e=>e.elim));have HR:=hid (Qca HR.o kb3 (fun _ _ e=>e));have HA:=hid xg;clear Hg kb3 xg c0 c1 y0 y1 y2 y3 y4 y5 crl;have crl:=HA.o.holds.lt;by_cases h0:p3=0
    ·subst h0;rw[if_neg (by simp)]at hS;obtain⟨k,rfl,ip,uL⟩:=qw.o rfl;simp only[Int.toNat_natCast]at hS;have GS:=hid (World.ownsRow.alloc HR.o (.cells #[.int .i64 p1,.string ⟨#[]⟩] 198));obtain⟨i0,hi,Hz,Ho,H4⟩:=info_parts QRr;have gx:w.heap.size+1+1≤w3.heap.size:=HB.o;have crl:=HA.o.holds.lt;obtain⟨m0,m1,m2,mf0,mf1,mf2,ml⟩:=three HP.o;go_wp2_with(at_builtin;refine wpList_append_own _ rfl _ _ 194 rfl (w.heap.size+1+1) 198 i0 _ 2 24 underlying194 hi Hz Ho H4 rfl (by decide) _ _ _ rfl (by exact GS.o) ⟨w3.heap.size,0,none⟩ 1 1 [.int .i64 p1,.string ⟨#[]⟩] rfl rfl (Q8a _ _ _ _ (by simp) _ rfl) (by intro u hu;simp only[List.mem_cons,List.not_mem_nil,or_false]at hu;rcases hu with rfl|rfl <;> rfl) (by unfold maxLen;omega) (by omega) (by simp;omega) ?_);intro v' w9 Hj Hd _;obtain⟨va',vc',rfl⟩:=Qea Hj;have lC:Qaa (· = r) w w9:=(HK.o.alloc (.cells #[.int .i64 p1,.string ⟨#[]⟩] 198)).grown Hd (fun g hg=>by have:=(Qle GS.o hg).2.1;left;omega);have eK:=fun(b:Nat) (xs:Array Value) (t:TypeId) (hx:Holds w3 b xs t) (Hl:t≠198)=>(hx.alloc (.cells #[.int .i64 p1,.string ⟨#[]⟩] 198)).grown Hd (QLa HR.o hx Hl);have Me:=eK _ _ _ HZ.o (by decide);have tL:=eK _ _ _ HP.o (by decide);have nW:=eK _ _ _ HA.o.holds (by decide);obtain⟨mm0,mm1,mm2,mg0,mg1,mg2,mgl⟩:=three tL;have bh:Qnb w9 (w.heap.size+1+1) (.slice va' (acc.length+1) vc') (acc++[⟨p1,⟨#[]⟩⟩]):=by
      unfold Qnb;rw[Qoi,List.length_append];exact Hj
     have oj:=tL.set 1 (.slice va' (acc.length+1) vc');have k10:=(Qaa.refl (· = w.heap.size+1) w9).setCell (p:=⟨w.heap.size+1,1,none⟩) (.inr rfl) (.slice va' (acc.length+1) vc');have kG:=Qca bh k10 (fun g hg e=>by have:=(Qle bh hg).2.1;omega);have oE:=Me.keeps k10 (by omega);have MD:=nW.keeps k10 JJ;have Jo:=lC.setCell (p:=⟨w.heap.size+1,1,none⟩) (.inl (by simp)) (.slice va' (acc.length+1) vc');have nA:=hid kG;have fq:=hid oj;have sS:=hid oE;have nc:=hid MD;have fk:=hid Jo;have HS:=hid hS;have hr10:=MD.cell 1;have hrf10:=MD.free 1;have hrl10:=MD.lt;clear Hj Hd eK Me tL nW lC bh oj k10 kG oE MD Jo hS GS m0 m1 m2 mf0 mf1 mf2 ml gx;go_wp2_with fail;have kf:=(Qaa.refl (· = r) (w9.setCell ⟨w.heap.size+1,1,none⟩ (.slice va' (acc.length+1) vc'))).setCell (p:=⟨r,1,none⟩) (.inr rfl) (.int .i64 (k:Int));have iD:=Qca nA.o kf (fun g hg e=>by cases e;exact QLa nA.o nc.o (by decide) hg);have tE:=nc.o.set 1 (.int .i64 (k:Int));have nX:=fk.o.trans kf (S:=(· = r)) (fun _ _ e=>e);have t9:=sS.o.keeps kf rD;have tK:=fq.o.keeps kf Gm;have tu:=HH.o.from nX tE uL (by omega);go_roundg (gk-1)
     case measure=>omega
     case rel=>
      refine⟨k,_,_,?_,by omega,by omega,by simp;omega,iD,tu,nX,t9,tK⟩;rw[hf,Nat.add_sub_cancel];exact HS
    rw[if_pos h0]at hS;subst hS;have zE:(p3 != 0)=true:=by simpa using h0
    have h0n:¬p3=0:=h0;clear h0;obtain⟨y0,y1,y2,y3,y4,y5⟩:=QGa HM.o;rw[hB]at y0 y1 y2 y3 y4 y5;obtain⟨m0,m1,m2,mf0,mf1,mf2,ml⟩:=three HP.o;have rV:=hid (fun wx hx=>GW.o wx hx p3);go_wp2_with fail
    go_region_with (go_at_call 168;refine(rV.o _ (by exact HA.o.keeps ((Qaa.refl _ _).drew))).mono ?_;rintro e w4 ⟨rfl,gu,G7⟩;have GY:=HZ.o.drew.keeps G7 rD;have bJ:=HP.o.drew.keeps G7 Gm;have ag:=HM.o.drew.keeps G7 tz;obtain⟨a0,a1,a2,af0,af1,af2,al⟩:=three GY;obtain⟨b0,b1,b2,bf0,bf1,bf2,bl⟩:=three bJ;obtain⟨d0,d1,d2,d3,d4,d5⟩:=QGa ag;rw[hB]at d0 d1 d2 d3 d4 d5)
    all_goals
     go_wp2_with fail;have z1:=QPc GY (.int .i64 1) (.slice va acc.length vc) (.string ⟨#[]⟩);have z2:=QAb (HK.o.drew.trans G7 (S:=(· = r)) (fun _ _ e=>e)) (B:=w.heap.size) (.inl (Nat.le_refl _)) (.int .i64 1) (.slice va acc.length vc) (.string ⟨#[]⟩);have z3:=gu.three GY (.int .i64 1) (.slice va acc.length vc) (.string ⟨#[]⟩);unfold Qmn at z1 z2 z3;obtain⟨q0,q1,q2,_⟩:=three z1;exact bodyPost_ret (v:=.tuple #[.agg #[.int .i64 1,.slice va acc.length vc,.string ⟨#[]⟩],.bool false]) (by simp[results,Tryz.results228,go_sem,q0,q1,q2]) rfl ⟨z2,_,rfl,⟨1,va,acc.length,vc,⟨#[]⟩,rfl⟩,z3⟩
theorem Qos(w:World)(r base:Nat)(file:Int)(L:List Tok)(lv ov:Value)(i:Nat)(D:List Qrc)(h:Qhb w r base file L lv ov i D) :
 Calls prog 224 #[.pointer (some ⟨r,0,none⟩)] w (Qjj (Qjq L i) r base file L lv ov i D w):=by
 have He:Below w.heap.size w (w.alloc (.cells #[.int .i64 0,.slice none 0 0,.string ⟨#[]⟩] 196)):=Bq;have gX:=Holds.new w #[.int .i64 0,.slice none 0 0,.string ⟨#[]⟩] 196;obtain⟨gL,cL,rfl,_⟩:=id h.toks;have Gf:=Q2c _ r base file L (.slice (some ⟨gL,0,none⟩) L.length cL) ov i D (h.keeps (Qaa.of_fresh He (fun _=>False)));have jb:=h.holds.lt;have G6:=h.lt;have aD:=h.size;have kt:=hid h.ok;have vg:=kt.o.next G6;have GH:=kt.o.k3 i;have mJ:=kt.o.k6 i;have HH:=hid h;have GW:=hid (fun wx hx=>Qyd wx r base file L (.slice (some ⟨gL,0,none⟩) L.length cL) ov i D hx i 6);have Hv:∃R,Qjq L i=R:=⟨_,rfl⟩;obtain⟨RR,Hv⟩:=Hv;rw[Hv];unfold Qjq txN at Hv;unfold QKb at Gf GW;clear h;generalize tkN L i=t at *
 obtain⟨t0,t1,t2,t3,t4⟩:=t;simp only at Gf GW Hv vg;go_enter func224,ntmps224;go_wp2_with fail;refine Gf.mono ?_;rintro e w1 ⟨rfl,Hb⟩;have k1:Qaa (fun _=>False) w w1:=(Qaa.of_fresh He (fun _=>False)).trans (Qaa.of_fresh Hb (fun _=>False)) (fun _ _ e=>e);have kD:=HH.o.keeps k1;have Hm:=gX.fr Hb;have JK:r≠w.heap.size:=by omega
 have GF:=kD.alloc (.cells #[.int .i64 t0,.string ⟨t1.toArray⟩,.int .i64 t2,.int .i64 file,.int .i64 t3,.int .i64 t4] 150);have Hx:=Hm.alloc (.cells #[.int .i64 t0,.string ⟨t1.toArray⟩,.int .i64 t2,.int .i64 file,.int .i64 t3,.int .i64 t4] 150);have H3:=(k1.mono (S:=(· = r)) (fun _ _ e=>e.elim)).alloc (.cells #[.int .i64 t0,.string ⟨t1.toArray⟩,.int .i64 t2,.int .i64 file,.int .i64 t3,.int .i64 t4] 150);have kE:=Holds.new w1 #[.int .i64 t0,.string ⟨t1.toArray⟩,.int .i64 t2,.int .i64 file,.int .i64 t3,.int .i64 t4] 150;have dJ:=Hm.lt;have lH:w1.heap.size≠r:=by have:=kD.holds.lt;omega
 obtain⟨y0,y1,y2,y3,y4,y5⟩:=QGa kE;clear Gf He gX Hb k1 kD Hm;by_cases h3:t0=3
 ·exact absurd h3 GH
 rw[if_neg h3]at Hv;by_cases h6:t0=6
 ·exact absurd h6 mJ
 rw[if_neg h6]at Hv;have Kb:=QZd _ r base file L (.slice (some ⟨gL,0,none⟩) L.length cL) ov i D GF 4 [60];go_wp2_with fail;refine Calls.mono (by exact Kb) ?_;rintro e w2 ⟨rfl,Hc⟩;have kb2:Qaa (fun _=>False) _ w2:=Qaa.of_fresh Hc _;have GP:=GF.keeps kb2;have gf:=Hx.keeps kb2 (fun e=>e);have H9:=H3.trans kb2 (S:=(· = r)) (fun _ _ e=>e.elim);have KW:=kE.keeps kb2 (fun e=>e);clear Kb Hc kb2 GF Hx H3 kE y0 y1 y2 y3 y4 y5;cases hk:isK L i 4 [60]with
 | true=>
  rw[hk,if_pos rfl]at Hv;obtain⟨kP,k4⟩:=GP.step (Q1f kt.o G6 hk (by decide));have GQ:=QLq _ r base file L (.slice (some ⟨gL,0,none⟩) L.length cL) ov (i+1) D kP;unfold Qjj at GQ;have KA:=H9.trans k4 (S:=(· = r)) (fun _ _ e=>e);have GY:=gf.keeps k4 (Ne.symm JK);obtain⟨c1,c1f,crl,_⟩:=GP.at1;have eX:=KA.size;have M2:=hid GY;have iV:=hid KA;clear H9 gf GP kP k4 GY KA;generalize QMg L (QBf L) (i+1) []=R at *
  cases R with
  | ok q=>
   obtain⟨j,q⟩:=q;simp only at Hv GQ;subst Hv;go_wp2_with fail;refine Calls.mono (by exact GQ) ?_;rintro e w5 ⟨KZ,cv,rfl,Hn,K7,hj5⟩;unfold Qim;have gN:=M2.o.keeps KZ (Ne.symm JK);have gW:=iV.o.trans KZ (S:=(· = r)) (fun _ _ e=>e);have be:Qnb w5 w.heap.size cv (q):=Hn.lower eX;have qI:=K7.holds;have rj:=K7.lt;obtain⟨va,vc,rfl⟩:=be.slice;obtain⟨n0,n1,n2,nf0,nf1,nf2,nl⟩:=three gN;have wE:=hid be;have J2:=hid gN;have ng:=hid gW;clear GQ Hn be K7 KZ gN gW;go_wp2_with fail;have z1:=QPc J2.o (.int .i64 1) (.slice va q.length vc) (.string ⟨#[]⟩);have z2:=QAb ng.o (B:=w.heap.size) (.inl (Nat.le_refl _)) (.int .i64 1) (.slice va q.length vc) (.string ⟨#[]⟩);have z3:=HH.o.from z2 (Q6i qI JK (.int .i64 1) (.slice va q.length vc) (.string ⟨#[]⟩)) rj (by omega);have z4:=Qca wE.o (QAb (S:=(· = w.heap.size)) (Qaa.refl _ _) (.inr rfl) (.int .i64 1) (.slice va q.length vc) (.string ⟨#[]⟩)) (fun g hg e=>by cases e;exact QLa wE.o J2.o (by decide) hg);unfold Qmn at z4;unfold Qmn at z1 z2 z3;obtain⟨q0,q1,q2,_⟩:=three z1;exact bodyPost_ret (v:=.tuple #[.agg #[.int .i64 1,.slice va q.length vc,.string ⟨#[]⟩],.bool true]) (by simp[results,Tryz.results224,go_sem,q0,q1,q2]) rfl ⟨z2,_,rfl,z4,z3,by omega⟩
  | error q=>
   obtain⟨k,c⟩:=q;simp only at Hv GQ;subst Hv;go_wp2_with fail;refine Calls.mono (by exact GQ) ?_;rintro e w5 ⟨KZ,v,rfl,⟨ea,ex,en,ec,es,rfl⟩,gu⟩;have gN:=M2.o.keeps KZ (Ne.symm JK);have gW:=iV.o.trans KZ (S:=(· = r)) (fun _ _ e=>e);obtain⟨n0,n1,n2,nf0,nf1,nf2,nl⟩:=three gN;have J2:=hid gN;have ng:=hid gW;have ch:=hid gu;clear GQ KZ gN gW gu;go_wp2_with fail;have z1:=QPc J2.o (.int .i64 ea) (.slice ex en ec) (.string es);have z2:=QAb ng.o (B:=w.heap.size) (.inl (Nat.le_refl _)) (.int .i64 ea) (.slice ex en ec) (.string es);have z3:=ch.o.three J2.o (.int .i64 ea) (.slice ex en ec) (.string es);unfold Qmn at z1 z2 z3;obtain⟨q0,q1,q2,_⟩:=three z1;exact bodyPost_ret (v:=.tuple #[.agg #[.int .i64 ea,.slice ex en ec,.string es],.bool false]) (by simp[results,Tryz.results224,go_sem,q0,q1,q2]) rfl ⟨z2,_,rfl,⟨ea,ex,en,ec,es,rfl⟩,z3⟩
 | false=>
  rw[hk,if_neg (by simp)]at Hv;have Jm:=QZd _ r base file L (.slice (some ⟨gL,0,none⟩) L.length cL) ov i D GP 4 [91];go_wp2_with fail;refine Calls.mono (by exact Jm) ?_;rintro e w3 ⟨rfl,Hg⟩;have kb3:Qaa (fun _=>False) _ w3:=Qaa.of_fresh Hg _;have GP:=GP.keeps kb3;have gf:=gf.keeps kb3 (fun e=>e);have H9:=H9.trans kb3 (S:=(· = r)) (fun _ _ e=>e.elim);have KW:=KW.keeps kb3 (fun e=>e);clear Jm Hg kb3 hk;cases hk:isK L i 4 [91]with
  | true=>
   exact absurd hk (by rw[kt.o.sq i];decide)
  | false=>
   rw[hk,if_neg (by simp)]at Hv;subst Hv;obtain⟨x0,x1,x2,x3,x4,x5⟩:=QGa KW;have hf:=GW.o _ GP;have HM3:=hid KW;have KT:=hid gf;have dP:=hid H9;clear KW gf H9 GP;go_wp2_with fail;refine Calls.mono (by exact hf) ?_;rintro e w4 ⟨rfl,gu,G7⟩;have GY:=KT.o.keeps G7 (Ne.symm JK);have KA:=dP.o.trans G7 (S:=(· = r)) (fun _ _ e=>e);obtain⟨n0,n1,n2,nf0,nf1,nf2,nl⟩:=three GY;have M2:=hid GY;have iV:=hid KA;have ch:=hid gu;clear hf G7 GY KA gu;go_wp2_with fail;have z1:=QPc M2.o (.int .i64 0) (.slice none 0 0) (.string ⟨#[]⟩);have z2:=QAb iV.o (B:=w.heap.size) (.inl (Nat.le_refl _)) (.int .i64 0) (.slice none 0 0) (.string ⟨#[]⟩);have z3:=ch.o.three M2.o (.int .i64 0) (.slice none 0 0) (.string ⟨#[]⟩);unfold Qmn at z1 z2 z3;obtain⟨q0,q1,q2,_⟩:=three z1;exact bodyPost_ret (v:=.tuple #[.agg #[.int .i64 0,.slice none 0 0,.string ⟨#[]⟩],.bool false]) (by simp[results,Tryz.results224,go_sem,q0,q1,q2]) rfl ⟨z2,_,rfl,⟨0,none,0,0,⟨#[]⟩,rfl⟩,z3⟩
def QNd(R:Rs (Nat × List Qrc))(r base:Nat)(file:Int)(L:List Tok)(lv:Value)(i:Nat)(D:List Qrc)(w:World)(e:Ending)(w':World):Prop:=
 Below base w w'∧match R with
  | .ok (j,ds)=>e=.returned (.bool true)∧∃ov',Qhb w' r base file L lv ov' j (D++ds)∧i<j
  | .error (k,c)=>e=.returned (.bool false)∧∃ov',QBb w' r file L lv ov' k c
section
variable{w w':World}{r base:Nat}{file:Int}{L:List Tok}{lv ov:Value}{i:Nat}{D:List Qrc}
theorem Qhb.below(h:Qhb w r base file L lv ov i D)(k:Qaa (· = r) w w'):Below base w w':=k.below h.size (fun j hj e=>by have:=h.low;omega)
theorem QNo.noteBelow{x fp:Value}(h:QNo w r base file lv x ov fp D)(k:Qaa (fun b=>b=r∨ov.ownBlock=some b) w w'):Below base w w':=by
 refine k.below h.2.2.2 (fun j hj e=>?_);rcases e with rfl|e
 ·have:=h.2.2.1;omega
 obtain⟨vs,_,Hn,_⟩:=h.2.1;have:=(Qle Hn e).2.1;omega
theorem Qhb.bad(h:Qhb w r base file L lv ov i D)(k:Qaa (· = r) w w'){q:Nat}{c:Int}(hb:QBb w' r file L lv ov q c) :
 ∃x f,QNo w' r base file lv x ov (.pointer (some ⟨f,0,none⟩)) D∧Holds w' f #[.int .i64 file,.int .i64 (tkN L q).line,.int .i64 (tkN L q).col,.int .i64 c] 153:=by
 obtain⟨x,f,h1,h2⟩:=hb;exact⟨x,f,⟨h1,h.defs.keeps k (Qqc.one h.holds (by decide) (by decide) (by decide)),h.low,Nat.le_trans h.size k.size⟩,h2⟩
theorem Qhb.noted{ov':Value}{d:Qrc}(h:Qhb w r base file L lv ov i D)(hr:QNo w' r base file lv (.int .i64 i) ov' (.pointer none) (D++[d]))(k:Qaa (fun b=>b=r∨ov.ownBlock=some b) w w')(hc:D.length+1≤i):Qhb w' r base file L lv ov' i (D++[d]):=
 ⟨hr.1,h.toks.keeps k (fun b e=>by
  rcases e with rfl|e
  ·exact h.low
  obtain⟨vs,_,Hn,_⟩:=h.defs;exact(Qle Hn e).2.1),hr.2.1,hr.2.2.1,hr.2.2.2,h.lt,h.ok,by simp;omega⟩
theorem Q3o{x:Value}{f:Nat}{ov':Value}{d:Qrc}{q:Nat}{c:Int}(h:QNo w r base file lv x ov (.pointer (some ⟨f,0,none⟩)) D)(hf:Holds w f #[.int .i64 file,.int .i64 (tkN L q).line,.int .i64 (tkN L q).col,.int .i64 c] 153)
 (hr:QNo w' r base file lv x ov' (.pointer (some ⟨f,0,none⟩)) (D++[d])) (k:Qaa (fun b=>b=r∨ov.ownBlock=some b) w w'):QBb w' r file L lv ov' q c:=by
 refine⟨x,f,hr.1,hf.keeps k (fun e=>?_)⟩;rcases e with rfl|e
 ·exact Qzd h.1 hf (by decide) rfl
 obtain⟨vs,_,Hn,_⟩:=h.2.1;exact QLa Hn hf (by decide) e
end
theorem QPq{L:List Tok}{kind:Int}{right:List UInt8→Bool}{i j:Nat}(h:QKe L kind right i=.ok j):j=i+1:=by
 unfold QKe at h;split at h
 ·split at h
  ·cases h;rfl
  cases h
 cases h
theorem Qxm(w:World)(r base:Nat)(file:Int)(L:List Tok)(lv ov:Value)(i:Nat)(D:List Qrc)(h:Qhb w r base file L lv ov i D)(kind what:Int)(before:List UInt8)(f:Nat)(right:List UInt8→Bool)(hf:QMm f right)(yz:what≠8)(hk8:(tkN L i).kind≠8)(jm:before.length≤10) :
 Calls prog 166 #[.pointer (some ⟨r,0,none⟩),.int .i64 kind,.int .i64 what,.string ⟨before.toArray⟩,.func (.func f) #[] #[]] w (QNd (Q7s L kind what before right i) r base file L lv i D w):=by
 have Gf:=Q2c _ r base file L lv ov i D h;have Hh:=h.ok.next h.lt hk8;have xx:=h;have Hv:∃R,Q7s L kind what before right i=R:=⟨_,rfl⟩;obtain⟨RR,Hv⟩:=Hv;rw[Hv];unfold Q7s at Hv;have hx2:=h.ok.at (i+1);have xR:=Qoj before (tkN L (i+1)).text (by omega);unfold Q7q at xR;unfold QKb at Gf;have zY:=hid (fun j=>QPq (L:=L) (kind:=what) (right:=right) (i:=i+1) (j:=j));generalize Kq:tkN L i=t at *
 obtain⟨t0,t1,t2,t3,t4⟩:=t;simp only at Gf Hv;have jC:=hid Kq;have HH:=hid xx;have jb:=h.holds.lt;have ie:=h.cnt;have G6:L.length≤6001:=h.ok.len;clear hk8 xx Kq h;go_enter func166,ntmps166;go_wp2_with fail;refine Gf.mono ?_;rintro e w1 ⟨rfl,Hb⟩;have k1:Qaa (fun _=>False) w (w1.alloc (.cells #[.int .i64 t0,.string ⟨t1.toArray⟩,.int .i64 t2,.int .i64 file,.int .i64 t3,.int .i64 t4] 150)):=(Qaa.of_fresh Hb (fun _=>False)).alloc _;have kD:=HH.o.keeps k1;have Jz:=Holds.new w1 #[.int .i64 t0,.string ⟨t1.toArray⟩,.int .i64 t2,.int .i64 file,.int .i64 t3,.int .i64 t4] 150;have lH:w1.heap.size≠r:=by have:=Hb.size;omega
 obtain⟨GF,k2⟩:=kD.step Hh;have kE:=Jz.keeps k2 lH;have H3:=(k1.mono (S:=(· = r)) (fun _ _ e=>e.elim)).trans k2 (S:=(· = r)) (fun _ _ e=>e);obtain⟨c1,c1f,crl,_⟩:=kD.at1;have lN:=QNq _ r base file L lv ov (i+1) D GF what yz f right hf;unfold Qnj QKb at lN;have JN:=hid GF;have cx:=hid kE;have jZ:=hid H3;clear Gf Hb k1 kD Jz k2 GF kE H3;generalize QKe L what right (i+1)=TR at *
 generalize tkN L (i+1)=s at *
 obtain⟨s0,s1,s2,s3,s4⟩:=s;simp only at lN Hv hx2 xR;generalize Ht:before++s1=nm at *
 go_wp2_with fail;refine Calls.mono (by exact lN) ?_;rintro e w3 ⟨GH,hm⟩;have H9:=(jZ.o.trans GH (S:=(· = r)) (fun _ _ e=>e)).alloc (.cells #[.int .i64 s0,.string ⟨s1.toArray⟩,.int .i64 s2,.int .i64 file,.int .i64 s3,.int .i64 s4] 150);have KW:=(cx.o.keeps GH lH).alloc (.cells #[.int .i64 s0,.string ⟨s1.toArray⟩,.int .i64 s2,.int .i64 file,.int .i64 s3,.int .i64 s4] 150);have Mm:=Holds.new w3 #[.int .i64 s0,.string ⟨s1.toArray⟩,.int .i64 s2,.int .i64 file,.int .i64 s3,.int .i64 s4] 150;obtain⟨m0,m1,m2,m3,m4,m5⟩:=QGa KW;obtain⟨n0,n1,n2,n3,n4,n5⟩:=QGa Mm;clear lN;cases TR with
 | ok j=>
  simp only at hm Hv;obtain⟨rfl,GP⟩:=hm;have kP:=GP.alloc (.cells #[.int .i64 s0,.string ⟨s1.toArray⟩,.int .i64 s2,.int .i64 file,.int .i64 s3,.int .i64 s4] 150);have kh:=Qig _ r base file lv (.int .i64 j) ov (.pointer none) D ⟨kind,⟨#[]⟩,⟨nm.toArray⟩,[],t3,t4⟩ (.slice none 0 0) kP.raw (QVa.none _ _) (by have:=kP.cnt;have:=kP.lt;have:=kP.ok.len;omega);unfold Qje at kh;have hj:=zY.o j rfl;subst hj;go_wp2_with fail;refine Calls.mono (by exact kh) ?_;rintro e w4 ⟨rfl,ov',mm,G7⟩;have K7:=kP.noted mm G7 (by omega);have mR:=(HH.o.below H9).trans (kP.raw.noteBelow G7);have gE:=Qmh w4 r base file L lv ov' (i+1+1) _ K7 [59];unfold Qvf at gE;unfold Qfl at Hv;have HB:=hid mR;have lS:=hid K7;clear kh mm G7 mR K7 kP GP GH H9 KW Mm jZ cx JN;cases hk:isK L (i+1+1) 4 [59]with
  | true=>
   rw[hk,if_pos rfl]at Hv;simp only at Hv;subst Hv;rw[hk]at gE;go_wp2_with fail;refine Calls.mono (by exact gE) ?_;rintro e w5 ⟨rfl,KZ,hy,_⟩;have Mc:=hy (by trivial);have gn:=HB.o.trans (lS.o.below KZ);clear gE hy;go_wp2_with fail;go_ret;exact⟨gn,rfl,ov',Mc,by omega⟩
  | false=>
   rw[hk,if_neg (by simp)]at Hv;simp only at Hv;subst Hv;rw[hk]at gE;go_wp2_with fail;refine Calls.mono (by exact gE) ?_;rintro e w5 ⟨rfl,KZ,_,hn⟩;have Mc:=hn (by trivial);have gn:=HB.o.trans (lS.o.below KZ);clear gE hn;go_wp2_with fail;go_ret;exact⟨gn,rfl,ov',Mc⟩
 | error q=>
  obtain⟨k,c⟩:=q;simp only at hm Hv;obtain⟨rfl,gu⟩:=hm;obtain⟨x,ff,iB,jr⟩:=HH.o.bad H9 (gu.alloc (.cells #[.int .i64 s0,.string ⟨s1.toArray⟩,.int .i64 s2,.int .i64 file,.int .i64 s3,.int .i64 s4] 150));have kh:=Qig _ r base file lv x ov (.pointer (some ⟨ff,0,none⟩)) D ⟨kind,⟨#[]⟩,⟨nm.toArray⟩,[],t3,t4⟩ (.slice none 0 0) iB (QVa.none _ _) (by omega);unfold Qje at kh;subst Hv;go_wp2_with fail;refine Calls.mono (by exact kh) ?_;rintro e w4 ⟨rfl,ov',mm,G7⟩;have mQ:=HH.o.below H9;have mR:=iB.noteBelow G7;have Hp:=Q3o (L:=L) iB jr mm G7;go_wp2_with fail;go_ret;exact⟨mQ.trans mR,rfl,ov',Hp⟩
theorem QTr:(prog.info? 196).map (fun i=>(i.zero,i.size,i.bytes))=some (some (.agg #[.int .i64 0,.slice none 0 0,.string ⟨#[]⟩]),3,48):=by kernel_rfl
def Qer(r base:Nat)(file:Int)(L:List Tok)(lv:Value)(n:Nat):Prop:=∀(w:World) (ov:Value) (i:Nat) (D:List Qrc) (d:Qrc) (dp:Nat),Qhb w r base file L lv ov i D→d.parts=[]→3*(L.length-i)≤n→dp≤100→
 Calls prog 164 #[.pointer (some ⟨r,0,none⟩),Qje file d (.slice none 0 0),.int .i64 dp] w (QNd (Qmi L n (.body d dp) i) r base file L lv i D w)
def Qzl(r base:Nat)(file:Int)(L:List Tok)(lv:Value)(n:Nat):Prop:=∀(w:World) (ov:Value) (i:Nat) (D:List Qrc) (dp:Nat),Qhb w r base file L lv ov i D→3*(L.length-i)≤n→dp≤50→
 Calls prog 200 #[.pointer (some ⟨r,0,none⟩),.int .i64 dp] w (QNd (Qmi L n (.member dp) i) r base file L lv i D w)
def QSo(r base:Nat)(file:Int)(L:List Tok)(lv:Value)(n:Nat):Prop:=∀(w:World) (ov:Value) (i:Nat) (D:List Qrc) (dp:Nat),Qhb w r base file L lv ov i D→(tkN L i).kind=1→3*(L.length-i)≤n+1→dp≤99→
 Calls prog 215 #[.pointer (some ⟨r,0,none⟩),QKb file (tkN L i),.int .i64 dp] w (QNd (Qmi L n (.named dp) i) r base file L lv i D w)
theorem Qzm:QMm 50 QTa:=⟨enters_of func50 (by kernel_rfl) rfl,fun s w hs=>Qac s w (by unfold maxLen;omega)⟩
theorem Qei:QMm 97 QXe:=⟨enters_of func97 (by kernel_rfl) rfl,fun s w hs=>Qyc s w (by omega)⟩
theorem QMq(r base:Nat)(file:Int)(L:List Tok)(lv:Value)(n:Nat)(hB:Qer r base file L lv n):QSo r base file L lv (n+1):=by
 intro w ov i D dp h Ga hn eB;have vU:=hid hB;have Hh:=h.ok.next h.lt (by rw[Ga];decide);have kt:=hid h.ok;have aD:=h.size;have jb:=h.holds.lt;have ie:=h.cnt;have hlen:=h.ok.len;have HH:=hid h;have Mi:=h.ok.at i;have Hv:∃R,Qmi L (n+1) (.named dp) i=R:=⟨_,rfl⟩;obtain⟨RR,Hv⟩:=Hv;rw[Hv];rw[Qmi]at Hv;unfold txN at Hv;have jC:=hid (show tkN L i=tkN L i from rfl);have GW:=hid (fun wx hx=>Qyd wx r base file L lv ov (i+1) D hx i 1);unfold QKb at GW ⊢;clear Ga h hB;generalize tkN L i=t at *
 obtain⟨t0,t1,t2,t3,t4⟩:=t;simp only at Hv GW Mi ⊢;have eh:∀wx,Calls prog 50 #[.string ⟨t1.toArray⟩] wx fun e w'=>e=.returned (.bool (QTa t1))∧wx=w':=fun wx=>Qzm.2 ⟨t1.toArray⟩ wx (by simpa[ByteArray.size]using Mi);have et:∀wx,Calls prog 97 #[.string ⟨t1.toArray⟩] wx fun e w'=>e=.returned (.bool (QXe t1))∧wx=w':=fun wx=>Qei.2 ⟨t1.toArray⟩ wx (by simpa[ByteArray.size]using Mi);obtain⟨kD,k1⟩:=HH.o.step Hh;have GF:=kD.alloc (.cells #[.int .i64 t0,.string ⟨t1.toArray⟩,.int .i64 t2,.int .i64 file,.int .i64 t3,.int .i64 t4] 150);have kE:=Holds.newAt (w:=w.setCell ⟨r,1,none⟩ (.int .i64 ((i:Int)+1))) (B:=w.heap.size) (by simp) #[.int .i64 t0,.string ⟨t1.toArray⟩,.int .i64 t2,.int .i64 file,.int .i64 t3,.int .i64 t4] 150;have H3:=k1.alloc (.cells #[.int .i64 t0,.string ⟨t1.toArray⟩,.int .i64 t2,.int .i64 file,.int .i64 t3,.int .i64 t4] 150);obtain⟨c1,c1f,crl,_⟩:=(HH.o.alloc (.cells #[.int .i64 t0,.string ⟨t1.toArray⟩,.int .i64 t2,.int .i64 file,.int .i64 t3,.int .i64 t4] 150)).at1;have Kb:=QZd _ r base file L lv ov (i+1) D GF 4 [123];have JN:=hid GF;have cx:=hid kE;have jZ:=hid H3;clear kD k1 GF kE H3;go_enter func215,ntmps215;go_wp2_with fail;refine Calls.mono (by exact Kb) ?_;rintro e w2 ⟨rfl,Hc⟩;have kb2:Qaa (fun _=>False) _ w2:=Qaa.of_fresh Hc _;have GP:=JN.o.keeps kb2;have KW:=cx.o.keeps kb2 (fun e=>e);have H9:=jZ.o.trans kb2 (S:=(· = r)) (fun _ _ e=>e.elim);obtain⟨m0,m1,m2,m3,m4,m5⟩:=QGa KW;clear Kb Hc kb2 c1 c1f crl;cases hk:isK L (i+1) 4 [123]with
 | true=>
  rw[hk,if_pos rfl]at Hv;cases hg:QTa t1 with
  | true=>
   rw[hg,if_pos rfl]at Hv;rw[hg]at eh;obtain⟨dq,xX⟩:∃z,z=dp+1:=⟨_,rfl⟩;rw[←xX]at Hv;have GD:=vU.o w2 ov (i+1) D ⟨1,⟨#[]⟩,⟨t1.toArray⟩,[],t3,t4⟩ dq GP rfl (by omega) (by omega);unfold Qje QNd at GD;rw[Hv]at GD;have hdpI:(dp:Int)+1=(dq:Int):=by omega
   have hdq2:dq≤100:=by omega
   clear xX;have jo:=HH.o.below H9;have Kg:=hid eh;clear et eh H9 KW;go_wp2_with fail;refine(Kg.o _).mono ?_;rintro e w3 ⟨rfl,rfl⟩;go_wp2_with fail;refine Calls.mono (by exact GD) ?_;rintro e w3 ⟨Hg,hm⟩;have Hu:=jo.trans Hg;unfold QNd;clear GD Hv;cases RR with
   | ok q=>
    obtain⟨j,ds⟩:=q;simp only at hm;obtain⟨rfl,ov',kP,hj⟩:=hm;go_wp2_with fail;go_ret;exact⟨Hu,rfl,ov',kP,by omega⟩
   | error q=>
    obtain⟨k,c⟩:=q;simp only at hm;obtain⟨rfl,ov',gu⟩:=hm;go_wp2_with fail;go_ret;exact⟨Hu,rfl,ov',gu⟩
  | false=>
   rw[hg,if_neg (by simp)]at Hv;subst Hv;rw[hg]at eh;have jr:=GW.o _ GP;have jo:=HH.o.below H9;have Kg:=hid eh;clear et eh H9 KW;go_wp2_with fail;refine(Kg.o _).mono ?_;rintro e w3 ⟨rfl,rfl⟩;go_wp2_with fail;refine Calls.mono (by exact jr) ?_;rintro e w3 ⟨rfl,gu,GH⟩;have Hg:=jo.trans (GP.below GH);go_wp2_with fail;go_ret;exact⟨Hg,rfl,ov,gu⟩
 | false=>
  rw[hk,if_neg (by simp)]at Hv;cases hg:QXe t1 with
  | false=>
   rw[hg,if_neg (by simp)]at Hv;subst Hv;rw[hg]at et;have jr:=GW.o _ GP;have jo:=HH.o.below H9;have J0:=hid et;clear et eh H9 KW;go_wp2_with fail;refine(J0.o _).mono ?_;rintro e w3 ⟨rfl,rfl⟩;go_wp2_with fail;refine Calls.mono (by exact jr) ?_;rintro e w3 ⟨rfl,gu,GH⟩;have Hg:=jo.trans (GP.below GH);go_wp2_with fail;go_ret;exact⟨Hg,rfl,ov,gu⟩
  | true=>
   rw[hg,if_pos rfl]at Hv;rw[hg]at et;have J0:=hid et;clear et eh;go_wp2_with fail;refine(J0.o _).mono ?_;rintro e w3 ⟨rfl,rfl⟩;have kP:=GP.alloc (.cells #[.int .i64 3,.string ⟨#[]⟩,.string ⟨t1.toArray⟩,.slice none 0 0,.int .i64 file,.int .i64 t3,.int .i64 t4] 123);have xm:=Holds.new w2 #[.int .i64 3,.string ⟨#[]⟩,.string ⟨t1.toArray⟩,.slice none 0 0,.int .i64 file,.int .i64 t3,.int .i64 t4] 123;have KA:=H9.alloc (.cells #[.int .i64 3,.string ⟨#[]⟩,.string ⟨t1.toArray⟩,.slice none 0 0,.int .i64 file,.int .i64 t3,.int .i64 t4] 123);have bw:=H9.size;have pD:=KW.lt;have eE:L.length<(i+1)+QBf L:=by unfold QBf;omega
   generalize hN:QBf L=N at *
   generalize bK:QVk L N [61] (i+1) []=PP at *
   have qw:=hid bK;have vt:=QVa.none (w2.alloc (.cells #[.int .i64 3,.string ⟨#[]⟩,.string ⟨t1.toArray⟩,.slice none 0 0,.int .i64 file,.int .i64 t3,.int .i64 t4] 123)) (w.heap.size+1);obtain⟨Z,hZ⟩:∃z,z=w2.heap.size:=⟨_,rfl⟩;have ud:Z≠r:=by omega
   have hZw:w.heap.size+1≤Z:=by omega
   rw[←hZ]at xm;clear hN bK KW GP H9 cx JN jZ hg hk;go_wp2_with fail;rw[←hZ];have HZZ:=hid hZ;clear m0 m1 m2 m3 m4 m5 hZ;generalize w2.alloc (.cells #[.int .i64 3,.string ⟨#[]⟩,.string ⟨t1.toArray⟩,.slice none 0 0,.int .i64 file,.int .i64 t3,.int .i64 t4] 123)=w4 at *
   go_loopg [9] N (fun f x wr=>∃(j:Nat) (ps:List Qtf) (sep:List UInt8) (pv:Value),x=.string ⟨sep.toArray⟩∧Hid (QVk L f sep j ps=PP)∧L.length<j+f∧i+1≤j∧ps.length≤j∧QVa wr (w.heap.size+1) pv ps∧Qhb wr r base file L lv ov j D∧Qaa (· = r) w wr∧Holds wr Z #[.int .i64 3,.string ⟨#[]⟩,.string ⟨t1.toArray⟩,pv,.int .i64 file,.int .i64 t3,.int .i64 t4] 123)
   case atStart=>exact⟨i+1,[],[61],.slice none 0 0,rfl,qw,eE,Nat.le_refl _,Nat.zero_le _,vt,kP,KA,xm⟩
   case round=>
    obtain⟨j,ps,sep,pv,rfl,hR,uy,kV,gz,Gt,hA,hK,hD⟩:=hrel;obtain⟨va,vc,rfl⟩:=Gt.slice;have g9:=hA.lt;obtain⟨f,hf⟩:∃f,gk=f+1:=⟨gk-1,by omega⟩;have hS:=hR.o;rw[hf,QVk]at hS;have Kb:=QZd wr r base file L lv ov j D hA 4 sep;go_wp2_with fail;refine Kb.mono ?_;rintro e w5 ⟨rfl,H5⟩;have kb5:Qaa (fun _=>False) wr w5:=Qaa.of_fresh H5 _;have K7:=hA.keeps kb5;have qF:=hD.keeps kb5 (fun e=>e);have gW:=hK.trans kb5 (S:=(· = r)) (fun _ _ e=>e.elim);have dD:=Gt.keeps kb5 (Qqc.nil _);clear Kb hR H5 hA hD hK Gt kb5;cases hk:isK L j 4 sep with
    | true=>
     rw[hk,if_pos rfl]at hS;have lA:=Q1f kt.o g9 hk (by decide);obtain⟨Mc,k6⟩:=K7.step lA;have xr:=qF.keeps k6 ud;have Kl:=gW.trans k6 (S:=(· = r)) (fun _ _ e=>e);have pR:=dD.keeps k6 (Qqc.one K7.holds (by decide) (by decide) (by decide));obtain⟨c1,c1f,crl,_⟩:=K7.at1;have K4:=Qos _ r base file L lv ov (j+1) D Mc;unfold Qjj at K4;have qm:=hid Mc;have rS:=hid xr;have je:=hid Kl;have wC:=hid pR;clear K7 qF gW dD Mc k6 xr Kl pR;generalize Qjq L (j+1)=PR at *
     cases PR with
     | ok q=>
      obtain⟨k,p⟩:=q;simp only at hS K4;go_wp2_with fail;refine Calls.mono (by exact K4) ?_;rintro e w7 ⟨jN,cv,rfl,bf,xd,hj7⟩;unfold Qim;obtain⟨ca,cc,rfl⟩:=bf.slice;have AN:=je.o.size;have dJ:=rS.o.lt;have kx7:Qaa (· = r) (w5.setCell ⟨r,1,none⟩ (.int .i64 ((j:Int)+1))) (w7.alloc (.cells #[.int .i64 p.kind,.slice ca p.cells.length cc,.string p.text] 196)):=jN.alloc _;have cW:=Qqc.one qm.o.holds (by decide) (by decide) (by decide);have i4:=xd.alloc (.cells #[.int .i64 p.kind,.slice ca p.cells.length cc,.string p.text] 196);have i6:=rS.o.keeps kx7 ud;have M5:=je.o.trans kx7 (S:=(· = r)) (fun _ _ e=>e);have zT:=wC.o.keeps kx7 cW;have J5:Qnb (w7.alloc (.cells #[.int .i64 p.kind,.slice ca p.cells.length cc,.string p.text] 196)) (w.heap.size+1) (.slice ca p.cells.length cc) p.cells:=(bf.lower (by omega)).keeps ((Qaa.refl (fun _=>False) w7).alloc _) (Qqc.nil _);have i5:=Holds.new w7 #[.int .i64 p.kind,.slice ca p.cells.length cc,.string p.text] 196;obtain⟨vs,MU,bg,GQ⟩:=zT;have lM:=M5.size;obtain⟨p0,p1,p2,_⟩:=three i5;obtain⟨y0,y1,y2,y3,y4,y5,y6⟩:=Qgd i6;have yf:=i6.free 3;have yl:=i6.lt;obtain⟨i0,hi,Hz,Ho,H4⟩:=info_parts QTr;have GS:=hid (World.ownsRow.alloc bg (.cells #[.int .i64 p.kind,.slice ca p.cells.length cc,.string p.text] 196));have v7:=hid i6;have lT:=hid i4;have fm:=hid M5;have yH:=hid J5;have wF:=hid bg;have sL:=hid GQ;have HS:=hid hS;have gx:w.heap.size+1≤w7.heap.size+1:=by have:=i6.lt;simp at this;omega
      clear K4 jN bf xd kx7 cW i4 i6 M5 J5 i5 bg GQ hS qm rS je wC c1 c1f crl lM;go_wp2_with(at_builtin;refine wpList_append_own _ rfl _ _ 121 rfl (w.heap.size+1) 196 i0 _ 3 48 underlying121 hi Hz Ho H4 rfl (by decide) _ _ _ rfl (by exact GS.o) ⟨w7.heap.size+1,0,none⟩ 1 1 [.int .i64 p.kind,.slice ca p.cells.length cc,.string p.text] rfl rfl (Q8a _ _ _ _ (by simp) _ rfl) (by intro u hu;simp only[List.mem_cons,List.not_mem_nil,or_false]at hu;rcases hu with rfl|rfl|rfl <;> rfl) (by unfold maxLen;omega) (by omega) (by simp;omega) ?_);intro v' w9 Hj Hd _;obtain⟨va',vc',rfl⟩:=Qea Hj;have kg:Qaa (fun b=>(Value.slice va ps.length vc).ownBlock=some b) (w7.alloc (.cells #[.int .i64 p.kind,.slice ca p.cells.length cc,.string p.text] 196)) w9:=((Qaa.refl _ _).alloc _).grown Hd (fun g hg=>.inr hg);have Hl:=fun(b:Nat) (xs:Array Value) (t:TypeId) (hx:Holds (w7.alloc (.cells #[.int .i64 p.kind,.slice ca p.cells.length cc,.string p.text] 196)) b xs t) (hn:t≠196)=>QLa wF.o hx hn;have fI:=v7.o.keeps kg (Hl _ _ _ v7.o (by decide));have nW:=lT.o.holds.keeps kg (Hl _ _ _ lT.o.holds (by decide));have xA:Qaa (· = r) w w9:=(fm.o.alloc (.cells #[.int .i64 p.kind,.slice ca p.cells.length cc,.string p.text] 196)).grown Hd (fun g hg=>by have:=(Qle GS.o hg).2.1;left;omega);have Hw:=fun(v:Value) (cs:List Q2g) (hc:Qnb (w7.alloc (.cells #[.int .i64 p.kind,.slice ca p.cells.length cc,.string p.text] 196)) (w.heap.size+1) v cs)=>Qca hc kg (fun g hg e=>by
       obtain⟨_,_,cur,q⟩:=Qle wF.o e;exact QLa hc q (by decide) hg)
      have pS:QVa w9 (w.heap.size+1) (.slice va' (ps.length+1) vc') (ps++[p]):=by
       refine⟨vs++[.slice ca p.cells.length cc],by simp[MU],?_,fun m hm pD=>?_⟩
       ·rw[Qkf ps vs p _ MU,List.length_append];exact Hj
       by_cases e:m<ps.length
       ·rw[List.getElem_append_left (by omega),List.getElem_append_left e];exact Hw _ _ (sL.o m e (by omega))
       have ro:m=ps.length:=by simp at hm;omega
       subst ro;rw[List.getElem_append_right (by omega),List.getElem_append_right (by omega)];simp only[MU,Nat.sub_self,List.getElem_cons_zero];exact Hw _ _ yH.o
      have k10:=(Qaa.refl (· = Z) w9).setCell (p:=⟨Z,3,none⟩) (.inr rfl) (.slice va' (ps.length+1) vc');have eP:QVa (w9.setCell ⟨Z,3,none⟩ (.slice va' (ps.length+1) vc')) (w.heap.size+1) (.slice va' (ps.length+1) vc') (ps++[p]):=by
       obtain⟨us,u1,u2,u3⟩:=pS;exact⟨us,u1,Qca u2 k10 (fun g hg e=>by cases e;exact QLa u2 fI (by decide) hg),fun m a b=>Qca (u3 m a b) k10 (fun g hg e=>by cases e;exact QLa (u3 m a b) fI (by decide) hg)⟩
      have MD:=nW.keeps k10 (Ne.symm ud);have fL:=xA.setCell (p:=⟨Z,3,none⟩) (.inl (show w.heap.size≤Z by omega)) (.slice va' (ps.length+1) vc');have nL:=HH.o.from fL MD lT.o.lt (by omega);have nT:=fI.set 3 (.slice va' (ps.length+1) vc');obtain⟨_,_,_,x3,_⟩:=Qgd fI;have x3f:=fI.free 3;have x3l:=fI.lt;have fq:=hid eP;have rH:=hid nL;have fk:=hid fL;have rR:=hid nT;clear Hj Hd kg Hl fI nW xA Hw pS k10 eP MD fL nL nT y0 y1 y2 y3 y4 y5 y6 yf yl p0 p1 p2 gx GS;go_wp2_with fail;go_roundg (gk-1)
      case measure=>omega
      case rel=>
       refine⟨k,_,[44],_,rfl,?_,by omega,by omega,by simp;omega,fq.o,rH.o,fk.o,rR.o⟩;rw[hf,Nat.add_sub_cancel];exact HS
     | error q=>
      obtain⟨k,c⟩:=q;simp only at hS K4;subst hS;simp only at Hv;subst Hv;go_wp2_with fail;refine Calls.mono (by exact K4) ?_;rintro e w7 ⟨jN,v,rfl,⟨ea,ex,en,ec,es,rfl⟩,gu⟩;have Gd:=HH.o.below (je.o.trans jN (S:=(· = r)) (fun _ _ e=>e));have G9:=Gd.alloc (Nat.le_trans HH.o.size (je.o.trans jN (S:=(· = r)) (fun _ _ e=>e)).size) (.cells #[.int .i64 ea,.slice ex en ec,.string es] 196);have oL:=gu.alloc (.cells #[.int .i64 ea,.slice ex en ec,.string es] 196);clear K4;go_wp2_with fail;go_ret;exact⟨G9,rfl,ov,oL⟩
    | false=>
     rw[hk,if_neg (by simp)]at hS;subst hS;simp only at Hv;subst Hv;have kh:=Qig w5 r base file lv (.int .i64 j) ov (.pointer none) D ⟨3,⟨#[]⟩,⟨t1.toArray⟩,ps,t3,t4⟩ (.slice va ps.length vc) K7.raw (dD.lower (by omega)) (by have:=K7.cnt;omega);unfold Qje at kh;obtain⟨y0,y1,y2,y3,y4,y5,y6⟩:=Qgd qF;have cY:=HH.o.below gW;have lS:=hid K7;clear dD K7 gW qF;go_wp2_with fail;refine Calls.mono (by exact kh) ?_;rintro e w6 ⟨rfl,ov',pV,mJ⟩;have Mc:=lS.o.noted pV mJ (by omega);have gn:=cY.trans (lS.o.raw.noteBelow mJ);go_wp2_with fail;go_ret;exact⟨gn,rfl,ov',Mc,by omega⟩
section
variable{w w':World}{r base:Nat}{file:Int}{L:List Tok}{lv ov ov':Value}{i:Nat}{D:List Qrc}{d:Qrc}
theorem Qhb.noteStep(h:Qhb w r base file L lv ov i D)(hr:QNo w' r base file lv (.int .i64 i) ov' (.pointer none) (D++[d]))(k:Qaa (fun b=>b=r∨ov.ownBlock=some b) w w')(hl:i+1<L.length) :
 Qhb (w'.setCell ⟨r,1,none⟩ (.int .i64 ((i:Int)+1))) r base file L lv ov' (i+1) (D++[d])∧Below base w (w'.setCell ⟨r,1,none⟩ (.int .i64 ((i:Int)+1)))∧w'.cell? ⟨r,1,none⟩=some (.int .i64 i)∧w'.frozen? ⟨r,1,none⟩=false∧r<w'.heap.size:=by
 have k2:=(Qaa.refl (· = r) w').setCell (p:=⟨r,1,none⟩) (.inr rfl) (.int .i64 ((i:Int)+1));have e1:(i:Int)+1=((i+1:Nat):Int):=by omega
 have hH:=hr.1.set 1 (.int .i64 ((i:Int)+1));have cW:=Qqc.one hr.1 (by decide) (by decide) (by decide);have hT:Qph base w' lv file L:=h.toks.keeps k (fun b e=>by
  rcases e with rfl|e
  ·exact h.low
  obtain⟨vs,_,Hn,_⟩:=h.defs;exact(Qle Hn e).2.1)
 refine⟨⟨by rw[←e1];exact hH,hT.keeps k2 (fun b e=>by cases e;exact h.low),hr.2.1.keeps k2 cW,hr.2.2.1,Nat.le_trans hr.2.2.2 k2.size,hl,h.ok,by have:=h.cnt;simp;omega⟩,(h.raw.noteBelow k).trans (k2.below hr.2.2.2 (fun j hj e=>by have:=h.low;omega)),hr.1.cell 1,hr.1.free 1,hr.1.lt⟩
end
theorem QRq(a b:Int)(s:ByteArray)(file l q:Int)(wx:World):(Instr.field 150 (.agg #[.int .i64 a,.string s,.int .i64 b,.int .i64 file,.int .i64 l,.int .i64 q]) 3).run prog wx=.ok (.agg #[.int .i64 file,.int .i64 l,.int .i64 q]) wx:=by kernel_rfl
theorem Qns(r base:Nat)(file:Int)(L:List Tok)(lv:Value)(n:Nat)(hM:∀m,m<n→Qzl r base file L lv m):Qer r base file L lv (n+1):=by
 intro w ov i D d dp h uu hn eB;have zd:=hid hM;have kt:=hid h.ok;have G6:=h.lt;have aD:=h.size;have jb:=h.holds.lt;have hlen:=h.ok.len;have HH:=hid h;have Hv:∃R,Qmi L (n+1) (.body d dp) i=R:=⟨_,rfl⟩;obtain⟨RR,Hv⟩:=Hv;rw[Hv];rw[Qmi]at Hv;unfold Qje;have He:Below w.heap.size w (w.alloc (.cells (QRf file d (.slice none 0 0)) 123)):=Bq;have tC:=Holds.new w (QRf file d (.slice none 0 0)) 123;have kD:=h.alloc (.cells (QRf file d (.slice none 0 0)) 123);unfold QRf at He tC kD;have Kb:=QZd _ r base file L lv ov i D kD 4 [123];have JY:=hid (fun wx ovx jx Dx hx=>Q2c wx r base file L lv ovx jx Dx hx);have GW:=hid (fun wx hx=>Qyd wx r base file L lv ov i D hx i 3);have wG:=hid (fun wx hx=>Qmh wx r base file L lv ov i D hx [123]);clear hM h;go_enter func164,ntmps164;go_wp2_with fail;refine Calls.mono (by exact Kb) ?_;rintro e w2 ⟨rfl,Hc⟩;have kb2:Qaa (fun _=>False) _ w2:=Qaa.of_fresh Hc _;have k02:Qaa (fun _=>False) w w2:=(Qaa.of_fresh He (fun _=>False)).trans kb2 (fun _ _ e=>e);have GF:=kD.keeps kb2;have qE:=tC.keeps kb2 (fun e=>e);have rD:w.heap.size≠r:=by omega
 clear Kb Hc kb2 kD tC He;cases hk:isK L i 4 [123]with
 | true=>
  rw[hk,if_pos rfl]at Hv;by_cases h8:8<dp
  ·rw[if_pos h8]at Hv;subst Hv;have zI:(8:Int)<(dp:Int):=by omega
   have Gf:=JY.o w2 ov i D GF;have jo:=HH.o.below (k02.mono (S:=(· = r)) (fun _ _ e=>e.elim));clear h8;go_wp2_with fail;refine Calls.mono (by exact Gf) ?_;rintro e w3 ⟨rfl,Hg⟩;have kb3:Qaa (fun _=>False) w2 w3:=Qaa.of_fresh Hg _;have jr:=GW.o w3 (GF.keeps kb3);have GP:=GF.keeps kb3;have Hu:=jo.trans (GF.below (kb3.mono (S:=(· = r)) (fun _ _ e=>e.elim)));unfold QKb at jr;unfold QKb;clear Gf Hg kb3;go_wp2_with fail;refine Calls.mono (by exact jr) ?_;rintro e w4 ⟨rfl,gu,G7⟩;have H5:=Hu.trans (GP.below G7);go_wp2_with fail;go_ret;exact⟨H5,rfl,ov,gu⟩
  rw[if_neg h8]at Hv;have zI:¬(8:Int)<(dp:Int):=by omega
  have h8D:decide ((8:Int)<(dp:Int))=false:=by simp;omega
  have gE:=wG.o w2 GF;unfold Qvf at gE;rw[hk]at gE;clear h8;go_wp2_with fail;refine Calls.mono (by exact gE) ?_;rintro e w3 ⟨rfl,GH,hy,_⟩;have GP:=hy (by trivial);have xk:=qE.keeps GH rD;have Hg:=HH.o.below ((k02.mono (S:=(· = r)) (fun _ _ e=>e.elim)).trans GH (S:=(· = r)) (fun _ _ e=>e));have kh:=Qig w3 r base file lv (.int .i64 ((i+1:Nat):Int)) ov (.pointer none) D d (.slice none 0 0) GP.raw (by rw[uu];exact QVa.none _ _) (by have:=GP.cnt;omega);unfold Qje at kh;obtain⟨y0,y1,y2,y3,y4,y5,y6⟩:=Qgd xk;have vT:=hid GP;have xU:=HH.o.cnt;clear gE hy GH GF qE GP xk k02;go_wp2_with fail;refine Calls.mono (by exact kh) ?_;rintro e w4 ⟨rfl,ov4,mm,G7⟩;have kP:=vT.o.noted mm G7 (by omega);have Hu:=Hg.trans (vT.o.raw.noteBelow G7);have sG:=hid Hv;clear kh mm G7 y0 y1 y2 y3 y4 y5 y6 Hg Hv;go_wp2_with fail;go_loopg [] n (fun f wr=>∃(j:Nat) (acc:List Qrc) (ov':Value),Hid (Qmi L f (.mems dp acc) j=RR)∧3*(L.length-j)+1≤f∧f≤n∧i<j∧Qhb wr r base file L lv ov' j (D++acc)∧Below base w wr)
  case atStart=>exact⟨i+1,[d],ov4,sG,by omega,Nat.le_refl _,by omega,kP,Hu⟩
  case round=>
   obtain⟨j,acc,ov',hR,uy,xZ,kV,hA,hb⟩:=hrel;have g9:=hA.lt;obtain⟨f,hf⟩:∃f,gk=f+1:=⟨gk-1,by omega⟩;have hS:=hR.o;rw[hf,Qmi]at hS;have Kb:=QZd wr r base file L lv ov' j _ hA 4 [125];go_wp2_with fail;refine Kb.mono ?_;rintro e w5 ⟨rfl,H5⟩;have kb5:Qaa (fun _=>False) wr w5:=Qaa.of_fresh H5 _;have K7:=hA.keeps kb5;have gn:=hb.trans (hA.below (kb5.mono (S:=(· = r)) (fun _ _ e=>e.elim)));clear Kb hR H5 hA hb kb5;cases hk:isK L j 4 [125]with
   | true=>
    rw[hk,if_pos rfl]at hS;subst hS;have lA:=Q1f kt.o g9 hk (by decide);have Gf:=JY.o w5 ov' j _ K7;unfold QKb at Gf;generalize tkN L j=t at *
    obtain⟨t0,t1,t2,t3,t4⟩:=t;simp only at Gf;have oV:=QRq t0 t2 ⟨t1.toArray⟩ file t3 t4;go_wp2_with fail;refine Calls.mono (by exact Gf) ?_;rintro e w6 ⟨rfl,G9⟩;have kb6:Qaa (fun _=>False) w5 w6:=Qaa.of_fresh G9 _;have Mc:=K7.keeps kb6;have Gd:=gn.trans (K7.below (kb6.mono (S:=(· = r)) (fun _ _ e=>e.elim)));have kh:=Qig w6 r base file lv (.int .i64 j) ov' (.pointer none) (D++acc) ⟨2,⟨#[]⟩,⟨#[]⟩,[],t3,t4⟩ (.slice none 0 0) Mc.raw (QVa.none _ _) (by have:=Mc.cnt;omega);unfold Qje at kh;have qm:=hid Mc;clear Gf G9 kb6 K7 gn Mc;go_wp2_with fail;refine Calls.mono (by exact kh) ?_;rintro e w7 ⟨rfl,ov7,eR,jN⟩;obtain⟨i4,KB,c1,c1f,crl⟩:=qm.o.noteStep eR jN lA;have hj6:j<6001:=by omega
    have Gq:=Gd.trans KB;rw[List.append_assoc]at i4;have lT:=hid i4;have lX:=hid Gq;clear kh eR jN i4 KB Gq Gd;go_wp2_with fail;go_ret;exact⟨lX.o,rfl,ov7,lT.o,by omega⟩
   | false=>
    rw[hk,if_neg (by simp)]at hS;have rm:=zd.o f (by omega) w5 ov' j (D++acc) dp K7 (by omega) (by omega);unfold QNd at rm;generalize Qmi L f (.member dp) j=MR at *
    go_wp2_with fail;refine Calls.mono (by exact rm) ?_;rintro e w6 ⟨G9,hm⟩;have Gd:=gn.trans G9;clear rm G9 gn K7;cases MR with
    | ok q=>
     obtain⟨k,ds⟩:=q;simp only at hm hS;obtain⟨rfl,ov6,Mc,ip⟩:=hm;rw[List.append_assoc]at Mc;have HS:=hid hS;clear hS;go_wp2_with fail;go_roundg (gk-1)
     case measure=>omega
     case rel=>
      refine⟨k,acc++ds,ov6,?_,by omega,by omega,by omega,Mc,Gd⟩;rw[hf,Nat.add_sub_cancel];exact HS
    | error q=>
     obtain⟨k,c⟩:=q;simp only at hm hS;obtain⟨rfl,ov6,gu⟩:=hm;subst hS;go_wp2_with fail;go_ret;exact⟨Gd,rfl,ov6,gu⟩
 | false=>
  rw[hk,if_neg (by simp)]at Hv;subst Hv;have gE:=wG.o w2 GF;unfold Qvf at gE;rw[hk]at gE;go_wp2_with fail;refine Calls.mono (by exact gE) ?_;rintro e w3 ⟨rfl,GH,_,yr⟩;have GP:=yr (by trivial);have Hg:=HH.o.below ((k02.mono (S:=(· = r)) (fun _ _ e=>e.elim)).trans GH (S:=(· = r)) (fun _ _ e=>e));clear gE yr GH;go_wp2_with fail;go_ret;exact⟨Hg,rfl,ov,GP⟩
theorem QEo(r base:Nat)(file:Int)(L:List Tok)(lv:Value)(n:Nat)(hB:Qer r base file L lv n)(li:QSo r base file L lv n):Qzl r base file L lv (n+1):=by
 intro w ov i D dp h hn eB;have vU:=hid hB;have zh:=hid li;have kt:=hid h.ok;have G6:=h.lt;have jb:=h.holds.lt;have hlen:=h.ok.len;have ie:=h.cnt;have HH:=hid h;have Hv:∃R,Qmi L (n+1) (.member dp) i=R:=⟨_,rfl⟩;obtain⟨RR,Hv⟩:=Hv;rw[Hv];rw[Qmi]at Hv;have Gf:=Q2c w r base file L lv ov i D h;have cm:=hid (fun wx hx hk8=>Qxm wx r base file L lv ov i D hx 4 1 [] 97 QXe Qei (by decide) hk8 (by decide));have GW:=hid (fun wx hx=>Qyd wx r base file L lv ov i D hx i 6);have iX:=hid (fun s (hs:isK L i 7 s=true)=>show(tkN L i).kind≠8 from by
  unfold isK at hs;simp only[Bool.and_eq_true,decide_eq_true_eq]at hs;rw[hs.1];decide)
 have Kg:=hid (fun(wx:World) (hx:Qhb wx r base file L lv ov i D) (h1:(tkN L i).kind=1)=>zh.o wx ov i D dp hx h1 (by omega) (by omega));unfold txN at Hv;unfold QKb at Gf GW Kg;clear hB li h;obtain⟨t,Kq⟩:∃t,t=tkN L i:=⟨_,rfl⟩;rw[←Kq]at Gf GW Kg iX cm Hv;have KZ:=kt.o.k5 i;rw[←Kq]at KZ;have jC:=hid Kq;clear Kq;obtain⟨t0,t1,t2,t3,t4⟩:=t;simp only at Gf GW Kg iX cm Hv;go_enter func200,ntmps200;go_wp2_with fail;refine Calls.mono (by exact Gf) ?_;rintro e w1 ⟨rfl,Hb⟩;have kb1:Qaa (fun _=>False) w (w1.alloc (.cells #[.int .i64 t0,.string ⟨t1.toArray⟩,.int .i64 t2,.int .i64 file,.int .i64 t3,.int .i64 t4] 150)):=(Qaa.of_fresh Hb (fun _=>False)).alloc _;have kD:=HH.o.keeps kb1;have Jz:=Holds.new w1 #[.int .i64 t0,.string ⟨t1.toArray⟩,.int .i64 t2,.int .i64 file,.int .i64 t3,.int .i64 t4] 150;have bu:=HH.o.below (kb1.mono (S:=(· = r)) (fun _ _ e=>e.elim));have lH:w1.heap.size≠r:=by have:=Hb.size;omega
 obtain⟨m0,m1,m2,m3,m4,m5⟩:=QGa Jz;clear Gf Hb kb1;by_cases h5:t0=5
 ·exact absurd h5 KZ
 rw[if_neg h5]at Hv;by_cases h1:t0=1
 ·subst h1;rw[if_pos rfl]at Hv;have GD:=Kg.o _ kD rfl;unfold QNd at GD;generalize Qmi L n (.named dp) i=BR at *
  have HM1:=hid Jz;clear Jz kD;go_wp2_with fail;refine Calls.mono (by exact GD) ?_;rintro e wd ⟨aB,hm⟩;have G0:=bu.trans aB;clear GD bu aB;cases BR with
  | ok q=>
   obtain⟨m,ds⟩:=q;simp only at hm Hv;obtain⟨rfl,ovd,cF,uH⟩:=hm;have gE:=Qmh wd r base file L lv ovd m _ cF [59];unfold Qvf at gE
   try unfold Qfl at Hv
   have lU:=hid cF;have lZ:=hid G0;clear cF G0;cases hq:isK L m 4 [59]with
   | true=>
    rw[hq,if_pos rfl]at Hv;simp only at Hv;subst Hv;rw[hq]at gE;go_wp2_with fail;refine Calls.mono (by exact gE) ?_;rintro e wq ⟨rfl,aR,hy,_⟩;have fE:=hy (by trivial);have JF:=lZ.o.trans (lU.o.below aR);clear gE hy aR;go_wp2_with fail;go_ret;exact⟨JF,rfl,ovd,fE,by omega⟩
   | false=>
    rw[hq,if_neg (by simp)]at Hv;simp only at Hv;subst Hv;rw[hq]at gE;go_wp2_with fail;refine Calls.mono (by exact gE) ?_;rintro e wq ⟨rfl,aR,_,hy⟩;have fE:=hy (by trivial);have JF:=lZ.o.trans (lU.o.below aR);clear gE hy aR;go_wp2_with fail;go_ret;exact⟨JF,rfl,ovd,fE⟩
  | error q=>
   obtain⟨k,c⟩:=q;simp only at hm Hv;obtain⟨rfl,ovd,gu⟩:=hm;subst Hv;go_wp2_with fail;go_ret;exact⟨G0,rfl,ovd,gu⟩
 rw[if_neg h1]at Hv;have Kb:=QZd _ r base file L lv ov i D kD 7 [100,101,108,101,116,101,45,112,114,111,112,101,114,116,121];go_wp2_with fail;refine Calls.mono (by exact Kb) ?_;rintro e w2 ⟨rfl,Hc⟩;have kb2:Qaa (fun _=>False) _ w2:=Qaa.of_fresh Hc _;have GF:=kD.keeps kb2;have kE:=Jz.keeps kb2 (fun e=>e);have bw:=bu.trans (kD.below (kb2.mono (S:=(· = r)) (fun _ _ e=>e.elim)));clear Kb Hc kb2 kD Jz bu;cases hk:isK L i 7 [100,101,108,101,116,101,45,112,114,111,112,101,114,116,121]with
 | true=>
  rw[hk,if_pos rfl]at Hv;have GD:=cm.o _ GF (iX.o _ hk);rw[Hv]at GD;unfold QNd at GD ⊢;clear Hv hk;go_wp2_with fail;refine Calls.mono (by exact GD) ?_;rintro e w3 ⟨Hg,hm⟩;have dI:=bw.trans Hg;clear GD;cases RR with
  | ok q=>
   obtain⟨j,ds⟩:=q;simp only at hm;obtain⟨rfl,ovd,cF,uH⟩:=hm;go_wp2_with fail;go_ret;exact⟨dI,rfl,ovd,cF,uH⟩
  | error q=>
   obtain⟨k,c⟩:=q;simp only at hm;obtain⟨rfl,ovd,gu⟩:=hm;go_wp2_with fail;go_ret;exact⟨dI,rfl,ovd,gu⟩
 | false=>
  rw[hk,if_neg (by simp)]at Hv;have Kb:=QZd _ r base file L lv ov i D GF 7 [100,101,108,101,116,101,45,110,111,100,101];go_wp2_with fail;refine Calls.mono (by exact Kb) ?_;rintro e w4 ⟨rfl,Hu⟩;have kb4:Qaa (fun _=>False) _ w4:=Qaa.of_fresh Hu _;have kP:=GF.keeps kb4;have ag:=kE.keeps kb4 (fun e=>e);have eX:=bw.trans (GF.below (kb4.mono (S:=(· = r)) (fun _ _ e=>e.elim)));clear Kb Hu kb4 GF kE bw hk;cases hk:isK L i 7 [100,101,108,101,116,101,45,110,111,100,101]with
  | true=>
   exact absurd hk (by rw[kt.o.dn i];decide)
  | false=>
   rw[hk,if_neg (by simp)]at Hv;subst Hv;have jr:=GW.o _ kP;obtain⟨x0,x1,x2,x3,x4,x5⟩:=QGa ag;have rI:=hid kP;clear kP ag;go_wp2_with fail;refine Calls.mono (by exact jr) ?_;rintro e w5 ⟨rfl,gu,KZ⟩;have iK:=eX.trans (rI.o.below KZ);go_wp2_with fail;go_ret;exact⟨iK,rfl,ov,gu⟩
theorem QFt(r base:Nat)(file:Int)(L:List Tok)(lv:Value):∀n m,m≤n→Qer r base file L lv m∧Qzl r base file L lv m∧QSo r base file L lv m:=by
 intro n
 induction n with
 | zero=>
  intro m hm;obtain rfl:m=0:=by omega
  refine⟨fun w ov i D d dp h _ hn _=>?_,fun w ov i D dp h hn _=>?_,fun w ov i D dp h _ hn _=>?_⟩
  all_goals
   have:=h.lt;omega
 | succ n ih=>
  intro m hm;by_cases e:m=n+1
  ·subst e;exact⟨Qns r base file L lv n (fun m hm=>(ih m (by omega)).2.1),QEo r base file L lv n (ih n (Nat.le_refl _)).1 (ih n (Nat.le_refl _)).2.2,QMq r base file L lv n (ih n (Nat.le_refl _)).1⟩
  exact ih m (by omega)
theorem Qhl{r base:Nat}{file:Int}{L:List Tok}{lv:Value}{w:World}{ov:Value}{i:Nat}{D:List Qrc}(h:Qhb w r base file L lv ov i D)(d:Qrc)(hd:d.parts=[]) :
 Calls prog 164 #[.pointer (some ⟨r,0,none⟩),Qje file d (.slice none 0 0),.int .i64 0] w (QNd (Qmi L (QAp L) (.body d 0) i) r base file L lv i D w):=
 (QFt r base file L lv (QAp L) _ (Nat.le_refl _)).1 w ov i D d 0 h hd (by unfold QAp;omega) (by omega)
theorem QGt(w:World)(r base:Nat)(file:Int)(L:List Tok)(lv ov:Value)(i:Nat)(D:List Qrc)(h:Qhb w r base file L lv ov i D) :
 Calls prog 122 #[.pointer (some ⟨r,0,none⟩)] w (QNd (Qnu L i) r base file L lv i D w):=by
 have kt:=hid h.ok;have G6:=h.lt;have jb:=h.holds.lt;have hlen:=h.ok.len;have ie:=h.cnt;have HH:=hid h;have Hv:∃R,Qnu L i=R:=⟨_,rfl⟩;obtain⟨RR,Hv⟩:=Hv;rw[Hv];unfold Qnu at Hv;have Gf:=Q2c w r base file L lv ov i D h;have Mi:=h.ok.at i;have GW:=hid (fun wx hx=>Qyd wx r base file L lv ov i D hx i 6);have iX:=hid (fun s (hs:isK L i 7 s=true)=>show(tkN L i).kind≠8 from by
  unfold isK at hs;simp only[Bool.and_eq_true,decide_eq_true_eq]at hs;rw[hs.1];decide)
 unfold txN Qsu at Hv;unfold QKb at Gf GW;clear h;obtain⟨t,Kq⟩:∃t,t=tkN L i:=⟨_,rfl⟩;rw[←Kq]at Gf GW iX Hv Mi;have KZ:=kt.o.k5 i;have mJ:=kt.o.k6 i;rw[←Kq]at KZ mJ;have jC:=hid Kq;clear Kq;obtain⟨t0,t1,t2,t3,t4⟩:=t;simp only at Gf GW iX Hv Mi;go_enter func122,ntmps122;go_wp2_with fail;refine Calls.mono (by exact Gf) ?_;rintro e w1 ⟨rfl,Hb⟩;have kb1:Qaa (fun _=>False) w (w1.alloc (.cells #[.int .i64 t0,.string ⟨t1.toArray⟩,.int .i64 t2,.int .i64 file,.int .i64 t3,.int .i64 t4] 150)):=(Qaa.of_fresh Hb (fun _=>False)).alloc _;have kD:=HH.o.keeps kb1;have Jz:=Holds.new w1 #[.int .i64 t0,.string ⟨t1.toArray⟩,.int .i64 t2,.int .i64 file,.int .i64 t3,.int .i64 t4] 150;have bu:=HH.o.below (kb1.mono (S:=(· = r)) (fun _ _ e=>e.elim));have lH:w1.heap.size≠r:=by have:=Hb.size;omega
 obtain⟨m0,m1,m2,m3,m4,m5⟩:=QGa Jz;clear Gf Hb kb1;by_cases h5:t0=5
 ·exact absurd h5 KZ
 rw[if_neg h5]at Hv;have Kb:=QZd _ r base file L lv ov i D kD 4 [47];go_wp2_with fail;refine Calls.mono (by exact Kb) ?_;rintro e w2 ⟨rfl,Hc⟩;have kb2:Qaa (fun _=>False) _ w2:=Qaa.of_fresh Hc _;have GF:=kD.keeps kb2;have kE:=Jz.keeps kb2 (fun e=>e);have bw:=bu.trans (kD.below (kb2.mono (S:=(· = r)) (fun _ _ e=>e.elim)));clear Kb Hc kb2 kD Jz bu m0 m1 m2 m3 m4 m5;obtain⟨m0,m1,m2,m3,m4,m5⟩:=QGa kE;have GI:=kE.lt;cases hk:isK L i 4 [47]with
 | true=>
  rw[hk,if_pos rfl]at Hv;obtain⟨GP,k3⟩:=GF.step (Q1f kt.o G6 hk (by decide));have KW:=kE.keeps k3 lH;obtain⟨c1,c1f,crl,_⟩:=GF.at1;have dI:=bw.trans (GF.below k3);obtain⟨x0,x1,x2,x3,x4,x5⟩:=QGa KW;have GD:=Qhl GP ⟨1,⟨#[]⟩,⟨#[47]⟩,[],t3,t4⟩ rfl;unfold Qje QNd at GD;generalize Qmi L (QAp L) (.body ⟨1,⟨#[]⟩,⟨#[47]⟩,[],t3,t4⟩ 0) (i+1)=BR at *
  clear GP k3 KW GF kE bw;go_wp2_with fail;refine Calls.mono (by exact GD) ?_;rintro e wd ⟨aB,hm⟩;have G0:=dI.trans aB;clear GD dI aB;cases BR with
  | ok q=>
   obtain⟨m,ds⟩:=q;simp only at hm Hv;obtain⟨rfl,ovd,cF,uH⟩:=hm;have gE:=Qmh wd r base file L lv ovd m _ cF [59];unfold Qvf at gE
   try unfold Qfl at Hv
   have lU:=hid cF;have lZ:=hid G0;clear cF G0;cases hq:isK L m 4 [59]with
   | true=>
    rw[hq,if_pos rfl]at Hv;simp only at Hv;subst Hv;rw[hq]at gE;go_wp2_with fail;refine Calls.mono (by exact gE) ?_;rintro e wq ⟨rfl,aR,hy,_⟩;have fE:=hy (by trivial);have JF:=lZ.o.trans (lU.o.below aR);clear gE hy aR;go_wp2_with fail;go_ret;exact⟨JF,rfl,ovd,fE,by omega⟩
   | false=>
    rw[hq,if_neg (by simp)]at Hv;simp only at Hv;subst Hv;rw[hq]at gE;go_wp2_with fail;refine Calls.mono (by exact gE) ?_;rintro e wq ⟨rfl,aR,_,hy⟩;have fE:=hy (by trivial);have JF:=lZ.o.trans (lU.o.below aR);clear gE hy aR;go_wp2_with fail;go_ret;exact⟨JF,rfl,ovd,fE⟩
  | error q=>
   obtain⟨k,c⟩:=q;simp only at hm Hv;obtain⟨rfl,ovd,gu⟩:=hm;subst Hv;go_wp2_with fail;go_ret;exact⟨G0,rfl,ovd,gu⟩
 | false=>
  rw[hk,if_neg (by simp)]at Hv;clear hk;by_cases h6:t0=6
  ·exact absurd h6 mJ
  rw[if_neg h6]at Hv;have yd:=QZd _ r base file L lv ov i D GF 7 [105,110,99,108,117,100,101];go_wp2_with fail;refine Calls.mono (by exact yd) ?_;rintro e w3 ⟨rfl,Hg⟩;have kb3:Qaa (fun _=>False) _ w3:=Qaa.of_fresh Hg _;have GP:=GF.keeps kb3;have KW:=kE.keeps kb3 (fun e=>e);have dI:=bw.trans (GF.below (kb3.mono (S:=(· = r)) (fun _ _ e=>e.elim)));clear yd Hg kb3 GF kE bw;cases hk:isK L i 7 [105,110,99,108,117,100,101]with
  | true=>
   exact absurd hk (by rw[kt.o.inc i];decide)
  | false=>
   rw[hk,if_neg (by simp)]at Hv;clear hk;have ye:=QZd _ r base file L lv ov i D GP 7 [100,101,108,101,116,101,45,110,111,100,101];go_wp2_with fail;refine Calls.mono (by exact ye) ?_;rintro e w4 ⟨rfl,Hu⟩;have kb4:Qaa (fun _=>False) _ w4:=Qaa.of_fresh Hu _;have kP:=GP.keeps kb4;have ag:=KW.keeps kb4 (fun e=>e);have eX:=dI.trans (GP.below (kb4.mono (S:=(· = r)) (fun _ _ e=>e.elim)));clear ye Hu kb4 GP KW dI;cases hk:isK L i 7 [100,101,108,101,116,101,45,110,111,100,101]with
   | true=>
    exact absurd hk (by rw[kt.o.dn i];decide)
   | false=>
    rw[hk,if_neg (by simp)]at Hv;clear hk;subst Hv;have jr:=GW.o _ kP;obtain⟨x0,x1,x2,x3,x4,x5⟩:=QGa ag;have rI:=hid kP;clear kP ag;go_wp2_with fail;refine Calls.mono (by exact jr) ?_;rintro e w5 ⟨rfl,gu,KZ⟩;have iK:=eX.trans (rI.o.below KZ);go_wp2_with fail;go_ret;exact⟨iK,rfl,ov,gu⟩
end Go.Proofs.YtgaboghigefgbaaGreatDoor
