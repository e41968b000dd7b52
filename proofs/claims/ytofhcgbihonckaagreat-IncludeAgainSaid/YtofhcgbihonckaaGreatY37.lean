/- bringupref04: top, a reference (printed by gr4y.py). -/
import Derived.Test.YtofhcgbihonckaaGreatY36
import Derived.Test.YtofhcgbihonckaaGreatY34
import Derived.Deep.DeepCutAuto
set_option linter.all false
set_option maxHeartbeats 8000000
namespace Go.Proofs.YtofhcgbihonckaaGreat
open Go.Lib (hid)
open Go.RowKit
set_option maxRecDepth 100000 in
theorem Qwk(r base:Nat)(file:Int)(L:List Tok)(lv:Value)(w:World)(ov:Value)(i:Nat)(D:List Qra)(h:QZa w r base file L lv ov i D)(hB:B4C r base file L lv (Q8b L))(h6:(tkN L i).kind=6)(ke:D.length≤2*i) :
 Calls Tryz.prog 34 #[.pointer (some ⟨r,0,none⟩)] w (QVb r base file L lv D (Qmc L (QFh (Qha L 6 Qna i) (Q7a L (Q8b L) (.body ⟨1,⟨#[]⟩,⟨(38::(tkN L i).text).toArray⟩,[],(tkN L i).line,(tkN L i).col⟩ 0) (i+1)))) w):=by
 have h1:isK L i 7 [105,110,99,108,117,100,101]=false:=by unfold isK;rw[decide_eq_false (by rw[h6];decide)];rfl
 have h2:isK L i 7 [100,101,108,101,116,101,45,110,111,100,101]=false:=by unfold isK;rw[decide_eq_false (by rw[h6];decide)];rfl
 obtain⟨c0,c1,c2,c3,_,_,_,f1,f2,f3,_,_,_,cl⟩:=h.cells
 obtain⟨n1,n2⟩:=h.num
 have HH:=hid h
 have gP:=hid (h.ok.next h.lt (by rw[h6];decide))
 obtain⟨g,cap,rfl,hg,d0,d1,d2,d3,d4,d5⟩:=h.toks.at h.lt
 have gl:g<w.heap.size:=World.block_lt_of_cell? w _ d0
 rw[h6]at d0
 obtain⟨tl,gm⟩:∃t,t=(tkN L i).line:=⟨_,rfl⟩
 obtain⟨tc,gQ⟩:∃t,t=(tkN L i).col:=⟨_,rfl⟩
 rw[←gm]at d4
 rw[←gQ]at d5
 have Kk:=hid gm
 have Kj:=hid gQ
 clear gm gQ
 have hN:=Qca.new w #[.int .i64 0,.int .i64 0,.int .i64 0] 27
 have Hk:Below w.heap.size w (w.alloc (.cells #[.int .i64 0,.int .i64 0,.int .i64 0] 27)):=(Below.refl _ _).alloc (Nat.le_refl _) _
 have c0':=(Hk.cell cl).trans c0
 have c1':=(Hk.cell cl).trans c1
 have d3':=(Hk.cell gl).trans d3
 have d4':=(Hk.cell gl).trans d4
 have d5':=(Hk.cell gl).trans d5
 obtain⟨m0,m1,m2,mf0,mf1,mf2,ml⟩:=three hN
 have hM:=(Qca.new w #[.int .i64 file,.int .i64 tl,.int .i64 tc] 27).drew
 have Hc:Qaa (fun _=>False) w (w.alloc (.cells #[.int .i64 file,.int .i64 tl,.int .i64 tc] 27)).drew:=((Qaa.refl _ w).alloc _).drew
 have h3:=h.keeps Hc
 obtain⟨x0,x1,x2,_,_,_,xl⟩:=three hM
 obtain⟨y0,y1,_,y3,_,_,_,z1,_,z3,_,_,_,yl⟩:=h3.cells
 have e0:=(Hc.cell (p:=⟨g,i*6,none⟩) gl (fun e=>e)).trans d0
 have gl3:=Nat.lt_of_lt_of_le gl Hc.size
 have H3:=hid h3
 have Hy:=hid Hc
 have HM:=hid hM
 have Hu:=fun wx hx=>QMb wx r base file L (.slice (some ⟨g,0,none⟩) L.length cap) ov i D hx 7 [105,110,99,108,117,100,101] (by decide)
 have gf:=fun wx hx=>QMb wx r base file L (.slice (some ⟨g,0,none⟩) L.length cap) ov i D hx 7 [100,101,108,101,116,101,45,110,111,100,101] (by decide)
 rw[h1]at Hu
 rw[h2]at gf
 have Kg:=hid Hu
 have mM:=hid gf
 have GG:w.heap.size≠r:=by omega
 have Hx:=hid (show ∀b,b<base→¬b=r from fun b hb e=>by have:=h.low;omega)
 have Gt:=hid (fun wx hx=>Q0b wx r base file L (.slice (some ⟨g,0,none⟩) L.length cap) ov i D hx 6 (by decide))
 have fm:=Qpa [38] (tkN L i).text (by have:=h.ok.at i;simp;omega)
 have j5:=Qpa [38] [] (by simp)
 unfold QYd at fm j5
 unfold Q5a at Gt
 obtain⟨XA,dT⟩:∃x:ByteArray,x=⟨(38::(tkN L i).text).toArray⟩:=⟨_,rfl⟩
 obtain⟨X,hX⟩:∃x,x=txN L i:=⟨_,rfl⟩
 have iQ:(⟨([38]++(tkN L i).text).toArray⟩:ByteArray)=XA:=dT.symm
 have jQ:(⟨((tkN L i).text).toArray⟩:ByteArray)=X:=hX.symm
 rw[iQ,jQ]at fm
 rw[←hX]at Gt
 rw[←dT]
 obtain⟨BR,Ms⟩:∃R,R=Q7a L (Q8b L) (.body ⟨1,⟨#[]⟩,XA,[],(tkN L i).line,(tkN L i).col⟩ 0) (i+1):=⟨_,rfl⟩
 have KE:Hid (∀wx ovx,QZa wx r base file L (.slice (some ⟨g,0,none⟩) L.length cap) ovx (i+1) (D++[⟨1,⟨#[]⟩,XA,[],tl,tc⟩])→Calls Tryz.prog 66 #[.pointer (some ⟨r,0,none⟩),.int .i64 0] wx (QVb r base file L (.slice (some ⟨g,0,none⟩) L.length cap) D BR wx)):=hid (fun wx ovx hx=>by
  have h9:=hB wx ovx (i+1) D ⟨1,⟨#[]⟩,XA,[],tl,tc⟩ 0 hx (by omega) (by unfold Q8b;omega) (by omega)
  rw[show(((0:Nat):Int))=0 from rfl,Kk.out,Kj.out,←Ms]at h9
  exact h9)
 rw[←Ms]
 obtain⟨T,hT⟩:∃T,T=Qha L 6 (QJa 3) i:=⟨_,rfl⟩
 rw[←hT]at Gt
 have gX:Qha L 6 Qna i=T:=hT.symm
 rw[gX]
 have MT:=hid (show ∀j,T = .ok j→j=i+1 from fun j e=>Q2b (by rw[←hT];exact e))
 have jn:=hid ke
 clear h h1 h2 Hu gf hN Hk hM Hc h3 Ms hT gX hX dT iQ jQ hB ke h6
 go_enter Tryz.func34,Tryz.ntmps34
 go_wp2_with fail
 go_region
 generalize (w.alloc (.cells #[.int .i64 file,.int .i64 tl,.int .i64 tc] 27)).drew=w3 at *
 clear c0 c1 c2 c3 d0 d1 d2 d3 d4 d5 c0' c1' d3' d4' d5' m0 m1 m2 mf0 mf1 mf2 ml gl cl f1 f2 f3
 go_wp2_with fail
 refine(by exact Kg.out _ H3.out:Calls _ _ _ _ _).mono ?_
 rintro e w40 ⟨rfl,GB⟩
 have gi:=hid GB
 clear GB
 go_wp2_with fail
 refine(by exact mM.out _ (H3.out.keeps gi.out):Calls _ _ _ _ _).mono ?_
 rintro e w4 ⟨rfl,Hr⟩
 have gN:=hid (Hy.out.trans (gi.out.trans Hr (fun _ _ e=>e)) (fun _ _ e=>e))
 have KM:=hid (HM.out.keeps (gi.out.trans Hr (fun _ _ e=>e)) (fun e=>e))
 have h4:=HH.out.keeps gN.out
 obtain⟨b0,b1,_,b3,_,_,_,_,_,_,_,_,_,bl⟩:=h4.cells
 have e4:=((gi.out.trans Hr (fun _ _ e=>e)).cell (p:=⟨g,i*6,none⟩) gl3 (fun e=>e)).trans e0
 have gl4:=Nat.lt_of_lt_of_le gl3 (gi.out.trans Hr (fun _ _ e=>e)).size
 have H4:=hid h4
 clear Hr h4 e0 gl3 x0 x1 x2 xl y0 y1 y3 z1 z3 yl
 go_wp2_with fail
 go_quiet (fail)
 go_wp2_with fail
 generalize hw6:World.drewN w4 _=w6
 have Hw:Qaa (fun _=>False) w4 w6:=by rw[←hw6];exact Qda _ _
 have H6:=hid (H4.out.keeps Hw)
 have gC:=hid ((gN.out.trans Hw (fun _ _ e=>e)).mono (S:=(· = r)) (fun _ _ e=>e.elim))
 have KG:=hid (KM.out.keeps Hw (fun e=>e))
 clear Hw hw6
 obtain⟨p0,p1,p2,_,_,_,pl⟩:=three KG.out
 cases T with
 | ok j=>
  have Gf:=MT.out j rfl
  have KC:=hid (fun wx ovx (hx:QZa wx r base file L (.slice (some ⟨g,0,none⟩) L.length cap) ovx j D)=>Qmb wx r base file L (.slice (some ⟨g,0,none⟩) L.length cap) ovx j D ⟨1,⟨#[]⟩,XA,[],tl,tc⟩ (.slice none 0 0) hx (Qia.none _ _) (by have:=jn.out;omega))
  go_region_with (first | (go_at_call 65;refine(by exact Gt.out _ (by exact H6.out.keeps ((Qaa.refl _ _).drew)):Calls _ _ _ _ _).mono ?_;rintro e w7 ⟨Gd,rfl,MX⟩;have MP:=hid MX;have GC:=(((Qaa.refl (fun _=>False) w6).drew).mono (S:=(· = r)) (fun _ _ e=>e.elim)).trans Gd (fun _ _ e=>e);have MW:=KG.out.keeps GC GG;obtain⟨v0,v1,v2,_,_,_,vl⟩:=three MW;have Ml:=hid (gC.out.trans GC (fun _ _ e=>e));clear MX Gd GC MW) | (go_at_call 64;refine(by exact KC.out _ _ MP.out:Calls _ _ _ _ _).mono ?_;rintro e w8 ⟨rfl,ov8,gI,GO⟩))
  all_goals
   have JA:=hid (KE.out w8 ov8 (by rw[Gf]at gI;exact gI))
   have GW:=hid (((Ml.out.below HH.out.size Hx.out)).trans GO)
   clear gI GO
   go_wp2_with fail
   refine(by exact JA.out:Calls _ _ _ _ _).mono ?_
   rintro e w9 ⟨rfl,Gv,MF⟩
   have mK:=hid (GW.out.trans Gv)
   clear Gv
   cases BR with
   | ok q=>
    obtain⟨m,ds⟩:=q
    obtain⟨ov9,Mx,jR⟩:=MF
    have gh:=hid (Qob w9 r base file L _ ov9 m (D++ds) Mx [59] (by decide))
    have bd:=hid jR
    have bp:=hid Mx.size
    clear Mx jR
    go_wp2_with fail
    refine(by exact gh.out:Calls _ _ _ _ _).mono ?_
    rintro e w10 ⟨rfl,GJ,t1,t2⟩
    have Ki:=hid (And.intro t1 t2)
    have KD:=hid (mK.out.trans (GJ.below bp.out Hx.out))
    clear GJ t1 t2
    go_wp2_with fail
    refine bodyPost_ret (results_none rfl _ _ _) rfl ?_
    refine⟨rfl,KD.out,?_⟩
    cases hg:isK L m 4 [59]with
    | true=>
     rw[show Qmc L (QFh (.ok j) (.ok (m,ds)))=_ from Qpc hg]
     exact⟨ov9,Ki.out.1 hg,by have:=bd.out;omega⟩
    | false=>
     rw[show Qmc L (QFh (.ok j) (.ok (m,ds)))=_ from QXb hg]
     exact Ki.out.2 hg
   | error q=>
    obtain⟨k,c⟩:=q
    have Kf:=hid MF
    clear MF
    have Gw:=hid (Qoa w9 r file L k c Kf.out ⟨#[59]⟩)
    go_wp2_with fail
    refine(by exact Gw.out:Calls _ _ _ _ _).mono ?_
    rintro e w10 ⟨rfl,rfl⟩
    go_wp2_with fail
    refine bodyPost_ret (results_none rfl _ _ _) rfl ?_
    exact⟨rfl,mK.out,Kf.out⟩
 | error q=>
  obtain⟨k,c⟩:=q
  go_region_with (first | (go_at_call 65;refine(by exact Gt.out _ (by exact H6.out.keeps ((Qaa.refl _ _).drew)):Calls _ _ _ _ _).mono ?_;rintro e w7 ⟨Gd,rfl,MX⟩;have MP:=hid MX;have GC:=(((Qaa.refl (fun _=>False) w6).drew).mono (S:=(· = r)) (fun _ _ e=>e.elim)).trans Gd (fun _ _ e=>e);have MW:=KG.out.keeps GC GG;obtain⟨v0,v1,v2,_,_,_,vl⟩:=three MW;have Ml:=hid (gC.out.trans GC (fun _ _ e=>e));clear MX Gd GC MW) | (go_at_call 64;refine(by exact Q3a _ r file L k c MP.out _ _ _ _ _ _ _ _ _:Calls _ _ _ _ _).mono ?_;rintro e w8 ⟨rfl,gI,gn⟩))
  all_goals
   have KL:Hid (Calls Tryz.prog 66 #[.pointer (some ⟨r,0,none⟩),.int .i64 0] w8 (fun e w'=>e = .returned (.tuple #[])∧w8=w')):=hid (by
    have h9:=Qac w8 r file L k c gI 0 (by decide)
    rw[show(((0:Nat):Int))=0 from rfl]at h9
    exact h9)
   have GW:=hid ((Ml.out.trans (gn.mono (S:=(· = r)) (fun _ _ e=>e.elim)) (fun _ _ e=>e)).below HH.out.size Hx.out)
   have GR:=hid gI
   clear gI gn
   go_wp2_with fail
   refine(by exact KL.out:Calls _ _ _ _ _).mono ?_
   rintro e w9 ⟨rfl,rfl⟩
   have Gw:=hid (Qoa w8 r file L k c GR.out ⟨#[59]⟩)
   go_wp2_with fail
   refine(by exact Gw.out:Calls _ _ _ _ _).mono ?_
   rintro e w10 ⟨rfl,rfl⟩
   go_wp2_with fail
   refine bodyPost_ret (results_none rfl _ _ _) rfl ?_
   exact⟨rfl,GW.out,GR.out⟩
set_option maxRecDepth 100000 in
theorem Qpi(r base:Nat)(file:Int)(L:List Tok)(lv:Value)(w:World)(ov:Value)(i:Nat)(D:List Qra)(h:QZa w r base file L lv ov i D)(hB:B4C r base file L lv (Q8b L))(h1:isK L i 7 [105,110,99,108,117,100,101]=false)(h2:isK L i 7 [100,101,108,101,116,101,45,110,111,100,101]=false)(k5:(tkN L i).kind≠5)(k6:(tkN L i).kind≠6)(hs:isK L i 4 [47]=true)(ke:D.length≤2*i) :
 Calls Tryz.prog 34 #[.pointer (some ⟨r,0,none⟩)] w (QVb r base file L lv D (Qmc L (Q7a L (Q8b L) (.body ⟨1,⟨#[]⟩,⟨#[47]⟩,[],(tkN L i).line,(tkN L i).col⟩ 0) (i+1))) w):=by
 obtain⟨c0,c1,c2,c3,_,_,_,f1,f2,f3,_,_,_,cl⟩:=h.cells
 obtain⟨n1,n2⟩:=h.num
 have HH:=hid h
 obtain⟨g,cap,rfl,hg,d0,d1,d2,d3,d4,d5⟩:=h.toks.at h.lt
 have gl:g<w.heap.size:=World.block_lt_of_cell? w _ d0
 obtain⟨kd,Mf⟩:∃x,x=(tkN L i).kind:=⟨_,rfl⟩
 rw[←Mf]at d0 k5 k6
 obtain⟨tl,gm⟩:∃t,t=(tkN L i).line:=⟨_,rfl⟩
 obtain⟨tc,gQ⟩:∃t,t=(tkN L i).col:=⟨_,rfl⟩
 rw[←gm]at d4
 rw[←gQ]at d5
 have Kk:=hid gm
 have Kj:=hid gQ
 clear gm gQ
 have hN:=Qca.new w #[.int .i64 0,.int .i64 0,.int .i64 0] 27
 have Hk:Below w.heap.size w (w.alloc (.cells #[.int .i64 0,.int .i64 0,.int .i64 0] 27)):=(Below.refl _ _).alloc (Nat.le_refl _) _
 have c0':=(Hk.cell cl).trans c0
 have c1':=(Hk.cell cl).trans c1
 have d3':=(Hk.cell gl).trans d3
 have d4':=(Hk.cell gl).trans d4
 have d5':=(Hk.cell gl).trans d5
 obtain⟨m0,m1,m2,mf0,mf1,mf2,ml⟩:=three hN
 have hM:=(Qca.new w #[.int .i64 file,.int .i64 tl,.int .i64 tc] 27).drew
 have Hc:Qaa (fun _=>False) w (w.alloc (.cells #[.int .i64 file,.int .i64 tl,.int .i64 tc] 27)).drew:=((Qaa.refl _ w).alloc _).drew
 have h3:=h.keeps Hc
 obtain⟨x0,x1,x2,_,_,_,xl⟩:=three hM
 obtain⟨y0,y1,_,y3,_,_,_,z1,_,z3,_,_,_,yl⟩:=h3.cells
 have e0:=(Hc.cell (p:=⟨g,i*6,none⟩) gl (fun e=>e)).trans d0
 have gl3:=Nat.lt_of_lt_of_le gl Hc.size
 have H3:=hid h3
 have Hy:=hid Hc
 have HM:=hid hM
 have Hu:=fun wx hx=>QMb wx r base file L (.slice (some ⟨g,0,none⟩) L.length cap) ov i D hx 7 [105,110,99,108,117,100,101] (by decide)
 have gf:=fun wx hx=>QMb wx r base file L (.slice (some ⟨g,0,none⟩) L.length cap) ov i D hx 7 [100,101,108,101,116,101,45,110,111,100,101] (by decide)
 rw[h1]at Hu
 rw[h2]at gf
 have Kg:=hid Hu
 have mM:=hid gf
 have GG:w.heap.size≠r:=by omega
 have Hx:=hid (show ∀b,b<base→¬b=r from fun b hb e=>by have:=h.low;omega)
 obtain⟨BR,Ms⟩:∃R,R=Q7a L (Q8b L) (.body ⟨1,⟨#[]⟩,⟨#[47]⟩,[],(tkN L i).line,(tkN L i).col⟩ 0) (i+1):=⟨_,rfl⟩
 have KE:Hid (∀wx ovx,QZa wx r base file L (.slice (some ⟨g,0,none⟩) L.length cap) ovx (i+1) (D++[⟨1,⟨#[]⟩,⟨#[47]⟩,[],tl,tc⟩])→Calls Tryz.prog 66 #[.pointer (some ⟨r,0,none⟩),.int .i64 0] wx (QVb r base file L (.slice (some ⟨g,0,none⟩) L.length cap) D BR wx)):=hid (fun wx ovx hx=>by
  have h9:=hB wx ovx (i+1) D ⟨1,⟨#[]⟩,⟨#[47]⟩,[],tl,tc⟩ 0 hx (by omega) (by unfold Q8b;omega) (by omega)
  rw[show(((0:Nat):Int))=0 from rfl,Kk.out,Kj.out,←Ms]at h9
  exact h9)
 rw[←Ms]
 have jn:=hid ke
 have G7:=hid hs
 have q6:(kd == 6)=false:=by rw[beq_eq_false_iff_ne];exact k6
 have q5:(kd == 5)=false:=by rw[beq_eq_false_iff_ne];exact k5
 clear h h1 h2 Hu gf hN Hk hM Hc h3 Ms hB ke hs Mf k5 k6
 go_enter Tryz.func34,Tryz.ntmps34
 go_wp2_with fail
 go_region
 generalize (w.alloc (.cells #[.int .i64 file,.int .i64 tl,.int .i64 tc] 27)).drew=w3 at *
 clear c0 c1 c2 c3 d0 d1 d2 d3 d4 d5 c0' c1' d3' d4' d5' m0 m1 m2 mf0 mf1 mf2 ml gl cl f1 f2 f3
 go_wp2_with fail
 refine(by exact Kg.out _ H3.out:Calls _ _ _ _ _).mono ?_
 rintro e w40 ⟨rfl,GB⟩
 have gi:=hid GB
 clear GB
 go_wp2_with fail
 refine(by exact mM.out _ (H3.out.keeps gi.out):Calls _ _ _ _ _).mono ?_
 rintro e w4 ⟨rfl,Hr⟩
 have gN:=hid (Hy.out.trans (gi.out.trans Hr (fun _ _ e=>e)) (fun _ _ e=>e))
 have KM:=hid (HM.out.keeps (gi.out.trans Hr (fun _ _ e=>e)) (fun e=>e))
 have h4:=HH.out.keeps gN.out
 obtain⟨b0,b1,_,b3,_,_,_,_,_,_,_,_,_,bl⟩:=h4.cells
 have e4:=((gi.out.trans Hr (fun _ _ e=>e)).cell (p:=⟨g,i*6,none⟩) gl3 (fun e=>e)).trans e0
 have gl4:=Nat.lt_of_lt_of_le gl3 (gi.out.trans Hr (fun _ _ e=>e)).size
 have H4:=hid h4
 clear Hr h4 e0 gl3 x0 x1 x2 xl y0 y1 y3 z1 z3 yl
 go_wp2_with fail
 go_quiet (fail)
 go_wp2_with fail
 go_quiet (fail)
 go_wp2_with fail
 generalize hw6:World.drewN w4 _=w6
 have Hw:Qaa (fun _=>False) w4 w6:=by rw[←hw6];exact Qda _ _
 have H6:=hid (H4.out.keeps Hw)
 have gC:=hid ((gN.out.trans Hw (fun _ _ e=>e)).mono (S:=(· = r)) (fun _ _ e=>e.elim))
 have KG:=hid (KM.out.keeps Hw (fun e=>e))
 clear Hw hw6
 have dx:=hid (Qob w6 r base file L (.slice (some ⟨g,0,none⟩) L.length cap) ov (i) D H6.out [47] (by decide))
 refine(by exact dx.out:Calls _ _ _ _ _).mono ?_
 rintro e w7 ⟨rfl,Gd,t1,_⟩
 have MP:=hid (t1 G7.out)
 have cY:=hid (KG.out.keeps Gd GG)
 have Ml:=hid (gC.out.trans Gd (fun _ _ e=>e))
 obtain⟨v0,v1,v2,_,_,_,vl⟩:=three cY.out
 have KC:=hid (Qmb w7 r base file L (.slice (some ⟨g,0,none⟩) L.length cap) ov (i+1) D ⟨1,⟨#[]⟩,⟨#[47]⟩,[],tl,tc⟩ (.slice none 0 0) MP.out (Qia.none _ _) (by have:=jn.out;omega))
 clear Gd t1
 go_wp2_with fail
 refine(by exact KC.out:Calls _ _ _ _ _).mono ?_
 rintro e w8 ⟨rfl,ov8,gI,GO⟩
 have JA:=hid (KE.out w8 ov8 gI)
 have GW:=hid ((Ml.out.below HH.out.size Hx.out).trans GO)
 clear gI GO
 go_wp2_with fail
 refine(by exact JA.out:Calls _ _ _ _ _).mono ?_
 rintro e w9 ⟨rfl,Gv,MF⟩
 have mK:=hid (GW.out.trans Gv)
 clear Gv
 cases BR with
 | ok q=>
  obtain⟨m,ds⟩:=q
  obtain⟨ov9,Mx,jR⟩:=MF
  have gh:=hid (Qob w9 r base file L _ ov9 m (D++ds) Mx [59] (by decide))
  have bd:=hid jR
  have bp:=hid Mx.size
  clear Mx jR
  go_wp2_with fail
  refine(by exact gh.out:Calls _ _ _ _ _).mono ?_
  rintro e w10 ⟨rfl,GJ,t1,t2⟩
  have Ki:=hid (And.intro t1 t2)
  have KD:=hid (mK.out.trans (GJ.below bp.out Hx.out))
  clear GJ t1 t2
  go_wp2_with fail
  refine bodyPost_ret (results_none rfl _ _ _) rfl ?_
  refine⟨rfl,KD.out,?_⟩
  cases hg:isK L m 4 [59]with
  | true=>
   rw[Qpc hg]
   exact⟨ov9,Ki.out.1 hg,by have:=bd.out;omega⟩
  | false=>
   rw[QXb hg]
   exact Ki.out.2 hg
 | error q=>
  obtain⟨k,c⟩:=q
  have Kf:=hid MF
  clear MF
  have Gw:=hid (Qoa w9 r file L k c Kf.out ⟨#[59]⟩)
  go_wp2_with fail
  refine(by exact Gw.out:Calls _ _ _ _ _).mono ?_
  rintro e w10 ⟨rfl,rfl⟩
  go_wp2_with fail
  refine bodyPost_ret (results_none rfl _ _ _) rfl ?_
  exact⟨rfl,mK.out,Kf.out⟩
set_option maxRecDepth 100000 in
theorem Qkj(r base:Nat)(file:Int)(L:List Tok)(lv:Value)(w:World)(ov:Value)(i:Nat)(D:List Qra)(h:QZa w r base file L lv ov i D)(h1:isK L i 7 [105,110,99,108,117,100,101]=false)(h2:isK L i 7 [100,101,108,101,116,101,45,110,111,100,101]=false)(k5:(tkN L i).kind≠5)(k6:(tkN L i).kind≠6)(hs:isK L i 4 [47]=false) :
 Calls Tryz.prog 34 #[.pointer (some ⟨r,0,none⟩)] w (QVb r base file L lv D (.error (i,6)) w):=by
 obtain⟨c0,c1,c2,c3,_,_,_,f1,f2,f3,_,_,_,cl⟩:=h.cells
 obtain⟨n1,n2⟩:=h.num
 have HH:=hid h
 obtain⟨g,cap,rfl,hg,d0,d1,d2,d3,d4,d5⟩:=h.toks.at h.lt
 have gl:g<w.heap.size:=World.block_lt_of_cell? w _ d0
 obtain⟨kd,Mf⟩:∃x,x=(tkN L i).kind:=⟨_,rfl⟩
 rw[←Mf]at d0 k5 k6
 obtain⟨tl,gm⟩:∃t,t=(tkN L i).line:=⟨_,rfl⟩
 obtain⟨tc,gQ⟩:∃t,t=(tkN L i).col:=⟨_,rfl⟩
 rw[←gm]at d4
 rw[←gQ]at d5
 have Kk:=hid gm
 have Kj:=hid gQ
 clear gm gQ
 have hN:=Qca.new w #[.int .i64 0,.int .i64 0,.int .i64 0] 27
 have Hk:Below w.heap.size w (w.alloc (.cells #[.int .i64 0,.int .i64 0,.int .i64 0] 27)):=(Below.refl _ _).alloc (Nat.le_refl _) _
 have c0':=(Hk.cell cl).trans c0
 have c1':=(Hk.cell cl).trans c1
 have d3':=(Hk.cell gl).trans d3
 have d4':=(Hk.cell gl).trans d4
 have d5':=(Hk.cell gl).trans d5
 obtain⟨m0,m1,m2,mf0,mf1,mf2,ml⟩:=three hN
 have hM:=(Qca.new w #[.int .i64 file,.int .i64 tl,.int .i64 tc] 27).drew
 have Hc:Qaa (fun _=>False) w (w.alloc (.cells #[.int .i64 file,.int .i64 tl,.int .i64 tc] 27)).drew:=((Qaa.refl _ w).alloc _).drew
 have h3:=h.keeps Hc
 obtain⟨x0,x1,x2,_,_,_,xl⟩:=three hM
 obtain⟨y0,y1,_,y3,_,_,_,z1,_,z3,_,_,_,yl⟩:=h3.cells
 have e0:=(Hc.cell (p:=⟨g,i*6,none⟩) gl (fun e=>e)).trans d0
 have gl3:=Nat.lt_of_lt_of_le gl Hc.size
 have H3:=hid h3
 have Hy:=hid Hc
 have HM:=hid hM
 have Hu:=fun wx hx=>QMb wx r base file L (.slice (some ⟨g,0,none⟩) L.length cap) ov i D hx 7 [105,110,99,108,117,100,101] (by decide)
 have gf:=fun wx hx=>QMb wx r base file L (.slice (some ⟨g,0,none⟩) L.length cap) ov i D hx 7 [100,101,108,101,116,101,45,110,111,100,101] (by decide)
 rw[h1]at Hu
 rw[h2]at gf
 have Kg:=hid Hu
 have mM:=hid gf
 have GG:w.heap.size≠r:=by omega
 have Hx:=hid (show ∀b,b<base→¬b=r from fun b hb e=>by have:=h.low;omega)
 obtain⟨k,c,au⟩:∃(k:Nat) (c:Int),(k,c)=(i,(6:Int)):=⟨_,_,rfl⟩
 rw[←au]
 have fV:=hid au
 have G7:=hid hs
 have q6:(kd == 6)=false:=by rw[beq_eq_false_iff_ne];exact k6
 have q5:(kd == 5)=false:=by rw[beq_eq_false_iff_ne];exact k5
 clear h h1 h2 Hu gf hN Hk hM Hc h3 hs Mf k5 k6 au
 go_enter Tryz.func34,Tryz.ntmps34
 go_wp2_with fail
 go_region
 generalize (w.alloc (.cells #[.int .i64 file,.int .i64 tl,.int .i64 tc] 27)).drew=w3 at *
 clear c0 c1 c2 c3 d0 d1 d2 d3 d4 d5 c0' c1' d3' d4' d5' m0 m1 m2 mf0 mf1 mf2 ml gl cl f1 f2 f3
 go_wp2_with fail
 refine(by exact Kg.out _ H3.out:Calls _ _ _ _ _).mono ?_
 rintro e w40 ⟨rfl,GB⟩
 have gi:=hid GB
 clear GB
 go_wp2_with fail
 refine(by exact mM.out _ (H3.out.keeps gi.out):Calls _ _ _ _ _).mono ?_
 rintro e w4 ⟨rfl,Hr⟩
 have gN:=hid (Hy.out.trans (gi.out.trans Hr (fun _ _ e=>e)) (fun _ _ e=>e))
 have KM:=hid (HM.out.keeps (gi.out.trans Hr (fun _ _ e=>e)) (fun e=>e))
 have h4:=HH.out.keeps gN.out
 obtain⟨b0,b1,_,b3,_,_,_,_,_,_,_,_,_,bl⟩:=h4.cells
 have e4:=((gi.out.trans Hr (fun _ _ e=>e)).cell (p:=⟨g,i*6,none⟩) gl3 (fun e=>e)).trans e0
 have gl4:=Nat.lt_of_lt_of_le gl3 (gi.out.trans Hr (fun _ _ e=>e)).size
 have H4:=hid h4
 clear Hr h4 e0 gl3 x0 x1 x2 xl y0 y1 y3 z1 z3 yl
 go_wp2_with fail
 go_quiet (fail)
 go_wp2_with fail
 go_quiet (fail)
 go_wp2_with fail
 generalize hw6:World.drewN w4 _=w6
 have Hw:Qaa (fun _=>False) w4 w6:=by rw[←hw6];exact Qda _ _
 have H6:=hid (H4.out.keeps Hw)
 have gC:=hid ((gN.out.trans Hw (fun _ _ e=>e)).mono (S:=(· = r)) (fun _ _ e=>e.elim))
 have KG:=hid (KM.out.keeps Hw (fun e=>e))
 clear Hw hw6
 have dx:=hid (Qob w6 r base file L (.slice (some ⟨g,0,none⟩) L.length cap) ov (i) D H6.out [47] (by decide))
 refine(by exact dx.out:Calls _ _ _ _ _).mono ?_
 rintro e w7 ⟨rfl,Gd,_,t2⟩
 have jX:=hid (show Qyb w7 r file L k c from by injection fV.out with e1 e2;rw[e1,e2];exact t2 G7.out)
 have cY:=hid (KG.out.keeps Gd GG)
 have Ml:=hid (gC.out.trans Gd (fun _ _ e=>e))
 obtain⟨v0,v1,v2,_,_,_,vl⟩:=three cY.out
 clear Gd t2
 go_wp2_with fail
 refine(by exact Q3a w7 r file L k c jX.out _ _ _ _ _ _ _ _ _:Calls _ _ _ _ _).mono ?_
 rintro e w8 ⟨rfl,gI,gn⟩
 have KL:Hid (Calls Tryz.prog 66 #[.pointer (some ⟨r,0,none⟩),.int .i64 0] w8 (fun e w'=>e = .returned (.tuple #[])∧w8=w')):=hid (by
  have h9:=Qac w8 r file L k c gI 0 (by decide)
  rw[show(((0:Nat):Int))=0 from rfl]at h9
  exact h9)
 have GW:=hid ((Ml.out.trans (gn.mono (S:=(· = r)) (fun _ _ e=>e.elim)) (fun _ _ e=>e)).below HH.out.size Hx.out)
 have GR:=hid gI
 clear gI gn
 go_wp2_with fail
 refine(by exact KL.out:Calls _ _ _ _ _).mono ?_
 rintro e w9 ⟨rfl,rfl⟩
 have Gw:=hid (Qoa w8 r file L k c GR.out ⟨#[59]⟩)
 go_wp2_with fail
 refine(by exact Gw.out:Calls _ _ _ _ _).mono ?_
 rintro e w10 ⟨rfl,rfl⟩
 go_wp2_with fail
 refine bodyPost_ret (results_none rfl _ _ _) rfl ?_
 exact⟨rfl,GW.out,GR.out⟩
set_option maxRecDepth 100000 in
theorem Qvk(r base:Nat)(file:Int)(L:List Tok)(lv:Value)(w:World)(ov:Value)(i:Nat)(D:List Qra)(h:QZa w r base file L lv ov i D)(hB:B4C r base file L lv (Q8b L))(h5:(tkN L i).kind=5)(hl:Qna (tkN L i).text=true)(hs:isK L (i+1) 4 [47]=true)(ke:D.length≤2*i) :
 Calls Tryz.prog 34 #[.pointer (some ⟨r,0,none⟩)] w (QVb r base file L lv D (Qmc L (Q7a L (Q8b L) (.body ⟨1,txN L i,⟨#[47]⟩,[],(tkN L i).line,(tkN L i).col⟩ 0) (i+1+1))) w):=by
 have h1:isK L i 7 [105,110,99,108,117,100,101]=false:=by unfold isK;rw[decide_eq_false (by rw[h5];decide)];rfl
 have h2:isK L i 7 [100,101,108,101,116,101,45,110,111,100,101]=false:=by unfold isK;rw[decide_eq_false (by rw[h5];decide)];rfl
 obtain⟨c0,c1,c2,c3,_,_,_,f1,f2,f3,_,_,_,cl⟩:=h.cells
 obtain⟨n1,n2⟩:=h.num
 have HH:=hid h
 have gP:=hid (h.ok.next h.lt (by rw[h5];decide))
 obtain⟨g,cap,rfl,hg,d0,d1,d2,d3,d4,d5⟩:=h.toks.at h.lt
 have gl:g<w.heap.size:=World.block_lt_of_cell? w _ d0
 rw[h5]at d0
 obtain⟨tl,gm⟩:∃t,t=(tkN L i).line:=⟨_,rfl⟩
 obtain⟨tc,gQ⟩:∃t,t=(tkN L i).col:=⟨_,rfl⟩
 rw[←gm]at d4
 rw[←gQ]at d5
 have Kk:=hid gm
 have Kj:=hid gQ
 clear gm gQ
 have hN:=Qca.new w #[.int .i64 0,.int .i64 0,.int .i64 0] 27
 have Hk:Below w.heap.size w (w.alloc (.cells #[.int .i64 0,.int .i64 0,.int .i64 0] 27)):=(Below.refl _ _).alloc (Nat.le_refl _) _
 have c0':=(Hk.cell cl).trans c0
 have c1':=(Hk.cell cl).trans c1
 have d3':=(Hk.cell gl).trans d3
 have d4':=(Hk.cell gl).trans d4
 have d5':=(Hk.cell gl).trans d5
 obtain⟨m0,m1,m2,mf0,mf1,mf2,ml⟩:=three hN
 have hM:=(Qca.new w #[.int .i64 file,.int .i64 tl,.int .i64 tc] 27).drew
 have Hc:Qaa (fun _=>False) w (w.alloc (.cells #[.int .i64 file,.int .i64 tl,.int .i64 tc] 27)).drew:=((Qaa.refl _ w).alloc _).drew
 have h3:=h.keeps Hc
 obtain⟨x0,x1,x2,_,_,_,xl⟩:=three hM
 obtain⟨y0,y1,_,y3,_,_,_,z1,_,z3,_,_,_,yl⟩:=h3.cells
 have e0:=(Hc.cell (p:=⟨g,i*6,none⟩) gl (fun e=>e)).trans d0
 have gl3:=Nat.lt_of_lt_of_le gl Hc.size
 have H3:=hid h3
 have Hy:=hid Hc
 have HM:=hid hM
 have Hu:=fun wx hx=>QMb wx r base file L (.slice (some ⟨g,0,none⟩) L.length cap) ov i D hx 7 [105,110,99,108,117,100,101] (by decide)
 have gf:=fun wx hx=>QMb wx r base file L (.slice (some ⟨g,0,none⟩) L.length cap) ov i D hx 7 [100,101,108,101,116,101,45,110,111,100,101] (by decide)
 rw[h1]at Hu
 rw[h2]at gf
 have Kg:=hid Hu
 have mM:=hid gf
 have GG:w.heap.size≠r:=by omega
 have Hx:=hid (show ∀b,b<base→¬b=r from fun b hb e=>by have:=h.low;omega)
 have K4:=hid (fun wx hx=>Q0b wx r base file L (.slice (some ⟨g,0,none⟩) L.length cap) ov i D hx 5 (by decide))
 rw[show Qha L 5 (QJa 3) i = .ok (i+1)from by unfold Qha;rw[if_pos h5];exact if_pos hl]at K4
 unfold Q5a at K4
 obtain⟨LX,aV⟩:∃x,x=txN L i:=⟨_,rfl⟩
 rw[←aV]at K4
 rw[←aV]
 obtain⟨BR,Ms⟩:∃R,R=Q7a L (Q8b L) (.body ⟨1,LX,⟨#[47]⟩,[],(tkN L i).line,(tkN L i).col⟩ 0) (i+1+1):=⟨_,rfl⟩
 have KE:Hid (∀wx ovx,QZa wx r base file L (.slice (some ⟨g,0,none⟩) L.length cap) ovx (i+1+1) (D++[⟨1,LX,⟨#[47]⟩,[],tl,tc⟩])→Calls Tryz.prog 66 #[.pointer (some ⟨r,0,none⟩),.int .i64 0] wx (QVb r base file L (.slice (some ⟨g,0,none⟩) L.length cap) D BR wx)):=hid (fun wx ovx hx=>by
  have h9:=hB wx ovx (i+1+1) D ⟨1,LX,⟨#[47]⟩,[],tl,tc⟩ 0 hx (by omega) (by unfold Q8b;omega) (by omega)
  rw[show(((0:Nat):Int))=0 from rfl,Kk.out,Kj.out,←Ms]at h9
  exact h9)
 rw[←Ms]
 have jn:=hid ke
 have G7:=hid hs
 clear h h1 h2 Hu gf hN Hk hM Hc h3 Ms hB ke hs hl aV h5
 go_enter Tryz.func34,Tryz.ntmps34
 go_wp2_with fail
 go_region
 generalize (w.alloc (.cells #[.int .i64 file,.int .i64 tl,.int .i64 tc] 27)).drew=w3 at *
 clear c0 c1 c2 c3 d0 d1 d2 d3 d4 d5 c0' c1' d3' d4' d5' m0 m1 m2 mf0 mf1 mf2 ml gl cl f1 f2 f3
 go_wp2_with fail
 refine(by exact Kg.out _ H3.out:Calls _ _ _ _ _).mono ?_
 rintro e w40 ⟨rfl,GB⟩
 have gi:=hid GB
 clear GB
 go_wp2_with fail
 refine(by exact mM.out _ (H3.out.keeps gi.out):Calls _ _ _ _ _).mono ?_
 rintro e w4 ⟨rfl,Hr⟩
 have gN:=hid (Hy.out.trans (gi.out.trans Hr (fun _ _ e=>e)) (fun _ _ e=>e))
 have KM:=hid (HM.out.keeps (gi.out.trans Hr (fun _ _ e=>e)) (fun e=>e))
 have h4:=HH.out.keeps gN.out
 obtain⟨b0,b1,_,b3,_,_,_,_,_,_,_,_,_,bl⟩:=h4.cells
 have e4:=((gi.out.trans Hr (fun _ _ e=>e)).cell (p:=⟨g,i*6,none⟩) gl3 (fun e=>e)).trans e0
 have gl4:=Nat.lt_of_lt_of_le gl3 (gi.out.trans Hr (fun _ _ e=>e)).size
 have H4:=hid h4
 clear Hr h4 e0 gl3 x0 x1 x2 xl y0 y1 y3 z1 z3 yl
 go_wp2_with fail
 go_quiet (fail)
 go_wp2_with fail
 go_quiet (fail)
 go_wp2_with fail
 generalize km:World.drewN w4 _=w5
 have Hs:Qaa (fun _=>False) w4 w5:=by rw[←km];exact Qda _ _
 clear km
 refine(by exact K4.out _ (H4.out.keeps Hs):Calls _ _ _ _ _).mono ?_
 rintro e w6 ⟨Hw,rfl,G9⟩
 have my:=(Hs.mono (S:=(· = r)) (fun _ _ e=>e.elim)).trans Hw (fun _ _ e=>e)
 have H6:=hid G9
 have gC:=hid ((gN.out.mono (S:=(· = r)) (fun _ _ e=>e.elim)).trans my (fun _ _ e=>e))
 have KG:=hid (KM.out.keeps my GG)
 clear Hs Hw my G9
 go_wp2_with fail
 have dx:=hid (Qob w6 r base file L (.slice (some ⟨g,0,none⟩) L.length cap) ov (i+1) D H6.out [47] (by decide))
 refine(by exact dx.out:Calls _ _ _ _ _).mono ?_
 rintro e w7 ⟨rfl,Gd,t1,_⟩
 have MP:=hid (t1 G7.out)
 have cY:=hid (KG.out.keeps Gd GG)
 have Ml:=hid (gC.out.trans Gd (fun _ _ e=>e))
 obtain⟨v0,v1,v2,_,_,_,vl⟩:=three cY.out
 have KC:=hid (Qmb w7 r base file L (.slice (some ⟨g,0,none⟩) L.length cap) ov (i+1+1) D ⟨1,LX,⟨#[47]⟩,[],tl,tc⟩ (.slice none 0 0) MP.out (Qia.none _ _) (by have:=jn.out;omega))
 clear Gd t1
 go_wp2_with fail
 refine(by exact KC.out:Calls _ _ _ _ _).mono ?_
 rintro e w8 ⟨rfl,ov8,gI,GO⟩
 have JA:=hid (KE.out w8 ov8 gI)
 have GW:=hid ((Ml.out.below HH.out.size Hx.out).trans GO)
 clear gI GO
 go_wp2_with fail
 refine(by exact JA.out:Calls _ _ _ _ _).mono ?_
 rintro e w9 ⟨rfl,Gv,MF⟩
 have mK:=hid (GW.out.trans Gv)
 clear Gv
 cases BR with
 | ok q=>
  obtain⟨m,ds⟩:=q
  obtain⟨ov9,Mx,jR⟩:=MF
  have gh:=hid (Qob w9 r base file L _ ov9 m (D++ds) Mx [59] (by decide))
  have bd:=hid jR
  have bp:=hid Mx.size
  clear Mx jR
  go_wp2_with fail
  refine(by exact gh.out:Calls _ _ _ _ _).mono ?_
  rintro e w10 ⟨rfl,GJ,t1,t2⟩
  have Ki:=hid (And.intro t1 t2)
  have KD:=hid (mK.out.trans (GJ.below bp.out Hx.out))
  clear GJ t1 t2
  go_wp2_with fail
  refine bodyPost_ret (results_none rfl _ _ _) rfl ?_
  refine⟨rfl,KD.out,?_⟩
  cases hg:isK L m 4 [59]with
  | true=>
   rw[Qpc hg]
   exact⟨ov9,Ki.out.1 hg,by have:=bd.out;omega⟩
  | false=>
   rw[QXb hg]
   exact Ki.out.2 hg
 | error q=>
  obtain⟨k,c⟩:=q
  have Kf:=hid MF
  clear MF
  have Gw:=hid (Qoa w9 r file L k c Kf.out ⟨#[59]⟩)
  go_wp2_with fail
  refine(by exact Gw.out:Calls _ _ _ _ _).mono ?_
  rintro e w10 ⟨rfl,rfl⟩
  go_wp2_with fail
  refine bodyPost_ret (results_none rfl _ _ _) rfl ?_
  exact⟨rfl,mK.out,Kf.out⟩
set_option maxRecDepth 100000 in
theorem Qij(r base:Nat)(file:Int)(L:List Tok)(lv:Value)(w:World)(ov:Value)(i:Nat)(D:List Qra)(h:QZa w r base file L lv ov i D)(h5:(tkN L i).kind=5)(hl:Qna (tkN L i).text=true)(hs:isK L (i+1) 4 [47]=false) :
 Calls Tryz.prog 34 #[.pointer (some ⟨r,0,none⟩)] w (QVb r base file L lv D (.error (i+1,6)) w):=by
 have h1:isK L i 7 [105,110,99,108,117,100,101]=false:=by unfold isK;rw[decide_eq_false (by rw[h5];decide)];rfl
 have h2:isK L i 7 [100,101,108,101,116,101,45,110,111,100,101]=false:=by unfold isK;rw[decide_eq_false (by rw[h5];decide)];rfl
 obtain⟨c0,c1,c2,c3,_,_,_,f1,f2,f3,_,_,_,cl⟩:=h.cells
 obtain⟨n1,n2⟩:=h.num
 have HH:=hid h
 have gP:=hid (h.ok.next h.lt (by rw[h5];decide))
 obtain⟨g,cap,rfl,hg,d0,d1,d2,d3,d4,d5⟩:=h.toks.at h.lt
 have gl:g<w.heap.size:=World.block_lt_of_cell? w _ d0
 rw[h5]at d0
 obtain⟨tl,gm⟩:∃t,t=(tkN L i).line:=⟨_,rfl⟩
 obtain⟨tc,gQ⟩:∃t,t=(tkN L i).col:=⟨_,rfl⟩
 rw[←gm]at d4
 rw[←gQ]at d5
 have Kk:=hid gm
 have Kj:=hid gQ
 clear gm gQ
 have hN:=Qca.new w #[.int .i64 0,.int .i64 0,.int .i64 0] 27
 have Hk:Below w.heap.size w (w.alloc (.cells #[.int .i64 0,.int .i64 0,.int .i64 0] 27)):=(Below.refl _ _).alloc (Nat.le_refl _) _
 have c0':=(Hk.cell cl).trans c0
 have c1':=(Hk.cell cl).trans c1
 have d3':=(Hk.cell gl).trans d3
 have d4':=(Hk.cell gl).trans d4
 have d5':=(Hk.cell gl).trans d5
 obtain⟨m0,m1,m2,mf0,mf1,mf2,ml⟩:=three hN
 have hM:=(Qca.new w #[.int .i64 file,.int .i64 tl,.int .i64 tc] 27).drew
 have Hc:Qaa (fun _=>False) w (w.alloc (.cells #[.int .i64 file,.int .i64 tl,.int .i64 tc] 27)).drew:=((Qaa.refl _ w).alloc _).drew
 have h3:=h.keeps Hc
 obtain⟨x0,x1,x2,_,_,_,xl⟩:=three hM
 obtain⟨y0,y1,_,y3,_,_,_,z1,_,z3,_,_,_,yl⟩:=h3.cells
 have e0:=(Hc.cell (p:=⟨g,i*6,none⟩) gl (fun e=>e)).trans d0
 have gl3:=Nat.lt_of_lt_of_le gl Hc.size
 have H3:=hid h3
 have Hy:=hid Hc
 have HM:=hid hM
 have Hu:=fun wx hx=>QMb wx r base file L (.slice (some ⟨g,0,none⟩) L.length cap) ov i D hx 7 [105,110,99,108,117,100,101] (by decide)
 have gf:=fun wx hx=>QMb wx r base file L (.slice (some ⟨g,0,none⟩) L.length cap) ov i D hx 7 [100,101,108,101,116,101,45,110,111,100,101] (by decide)
 rw[h1]at Hu
 rw[h2]at gf
 have Kg:=hid Hu
 have mM:=hid gf
 have GG:w.heap.size≠r:=by omega
 have Hx:=hid (show ∀b,b<base→¬b=r from fun b hb e=>by have:=h.low;omega)
 obtain⟨k,c,au⟩:∃(k:Nat) (c:Int),(k,c)=(i+1,(6:Int)):=⟨_,_,rfl⟩
 rw[←au]
 have fV:=hid au
 have K4:=hid (fun wx hx=>Q0b wx r base file L (.slice (some ⟨g,0,none⟩) L.length cap) ov i D hx 5 (by decide))
 rw[show Qha L 5 (QJa 3) i = .ok (i+1)from by unfold Qha;rw[if_pos h5];exact if_pos hl]at K4
 unfold Q5a at K4
 obtain⟨LX,aV⟩:∃x,x=txN L i:=⟨_,rfl⟩
 rw[←aV]at K4
 have G7:=hid hs
 clear h h1 h2 Hu gf hN Hk hM Hc h3 hs hl aV h5 au
 go_enter Tryz.func34,Tryz.ntmps34
 go_wp2_with fail
 go_region
 generalize (w.alloc (.cells #[.int .i64 file,.int .i64 tl,.int .i64 tc] 27)).drew=w3 at *
 clear c0 c1 c2 c3 d0 d1 d2 d3 d4 d5 c0' c1' d3' d4' d5' m0 m1 m2 mf0 mf1 mf2 ml gl cl f1 f2 f3
 go_wp2_with fail
 refine(by exact Kg.out _ H3.out:Calls _ _ _ _ _).mono ?_
 rintro e w40 ⟨rfl,GB⟩
 have gi:=hid GB
 clear GB
 go_wp2_with fail
 refine(by exact mM.out _ (H3.out.keeps gi.out):Calls _ _ _ _ _).mono ?_
 rintro e w4 ⟨rfl,Hr⟩
 have gN:=hid (Hy.out.trans (gi.out.trans Hr (fun _ _ e=>e)) (fun _ _ e=>e))
 have KM:=hid (HM.out.keeps (gi.out.trans Hr (fun _ _ e=>e)) (fun e=>e))
 have h4:=HH.out.keeps gN.out
 obtain⟨b0,b1,_,b3,_,_,_,_,_,_,_,_,_,bl⟩:=h4.cells
 have e4:=((gi.out.trans Hr (fun _ _ e=>e)).cell (p:=⟨g,i*6,none⟩) gl3 (fun e=>e)).trans e0
 have gl4:=Nat.lt_of_lt_of_le gl3 (gi.out.trans Hr (fun _ _ e=>e)).size
 have H4:=hid h4
 clear Hr h4 e0 gl3 x0 x1 x2 xl y0 y1 y3 z1 z3 yl
 go_wp2_with fail
 go_quiet (fail)
 go_wp2_with fail
 go_quiet (fail)
 go_wp2_with fail
 generalize km:World.drewN w4 _=w5
 have Hs:Qaa (fun _=>False) w4 w5:=by rw[←km];exact Qda _ _
 clear km
 refine(by exact K4.out _ (H4.out.keeps Hs):Calls _ _ _ _ _).mono ?_
 rintro e w6 ⟨Hw,rfl,G9⟩
 have my:=(Hs.mono (S:=(· = r)) (fun _ _ e=>e.elim)).trans Hw (fun _ _ e=>e)
 have H6:=hid G9
 have gC:=hid ((gN.out.mono (S:=(· = r)) (fun _ _ e=>e.elim)).trans my (fun _ _ e=>e))
 have KG:=hid (KM.out.keeps my GG)
 clear Hs Hw my G9
 go_wp2_with fail
 have dx:=hid (Qob w6 r base file L (.slice (some ⟨g,0,none⟩) L.length cap) ov (i+1) D H6.out [47] (by decide))
 refine(by exact dx.out:Calls _ _ _ _ _).mono ?_
 rintro e w7 ⟨rfl,Gd,_,t2⟩
 have jX:=hid (show Qyb w7 r file L k c from by injection fV.out with e1 e2;rw[e1,e2];exact t2 G7.out)
 have cY:=hid (KG.out.keeps Gd GG)
 have Ml:=hid (gC.out.trans Gd (fun _ _ e=>e))
 obtain⟨v0,v1,v2,_,_,_,vl⟩:=three cY.out
 clear Gd t2
 go_wp2_with fail
 refine(by exact Q3a w7 r file L k c jX.out _ _ _ _ _ _ _ _ _:Calls _ _ _ _ _).mono ?_
 rintro e w8 ⟨rfl,gI,gn⟩
 have KL:Hid (Calls Tryz.prog 66 #[.pointer (some ⟨r,0,none⟩),.int .i64 0] w8 (fun e w'=>e = .returned (.tuple #[])∧w8=w')):=hid (by
  have h9:=Qac w8 r file L k c gI 0 (by decide)
  rw[show(((0:Nat):Int))=0 from rfl]at h9
  exact h9)
 have GW:=hid ((Ml.out.trans (gn.mono (S:=(· = r)) (fun _ _ e=>e.elim)) (fun _ _ e=>e)).below HH.out.size Hx.out)
 have GR:=hid gI
 clear gI gn
 go_wp2_with fail
 refine(by exact KL.out:Calls _ _ _ _ _).mono ?_
 rintro e w9 ⟨rfl,rfl⟩
 have Gw:=hid (Qoa w8 r file L k c GR.out ⟨#[59]⟩)
 go_wp2_with fail
 refine(by exact Gw.out:Calls _ _ _ _ _).mono ?_
 rintro e w10 ⟨rfl,rfl⟩
 go_wp2_with fail
 refine bodyPost_ret (results_none rfl _ _ _) rfl ?_
 exact⟨rfl,GW.out,GR.out⟩
set_option maxRecDepth 100000 in
theorem Qjj(r base:Nat)(file:Int)(L:List Tok)(lv:Value)(w:World)(ov:Value)(i:Nat)(D:List Qra)(h:QZa w r base file L lv ov i D)(h5:(tkN L i).kind=5)(hl:Qna (tkN L i).text=false) :
 Calls Tryz.prog 34 #[.pointer (some ⟨r,0,none⟩)] w (QVb r base file L lv D (.error (i,1)) w):=by
 have h1:isK L i 7 [105,110,99,108,117,100,101]=false:=by unfold isK;rw[decide_eq_false (by rw[h5];decide)];rfl
 have h2:isK L i 7 [100,101,108,101,116,101,45,110,111,100,101]=false:=by unfold isK;rw[decide_eq_false (by rw[h5];decide)];rfl
 obtain⟨c0,c1,c2,c3,_,_,_,f1,f2,f3,_,_,_,cl⟩:=h.cells
 obtain⟨n1,n2⟩:=h.num
 have HH:=hid h
 have gP:=hid (h.ok.next h.lt (by rw[h5];decide))
 obtain⟨g,cap,rfl,hg,d0,d1,d2,d3,d4,d5⟩:=h.toks.at h.lt
 have gl:g<w.heap.size:=World.block_lt_of_cell? w _ d0
 rw[h5]at d0
 obtain⟨tl,gm⟩:∃t,t=(tkN L i).line:=⟨_,rfl⟩
 obtain⟨tc,gQ⟩:∃t,t=(tkN L i).col:=⟨_,rfl⟩
 rw[←gm]at d4
 rw[←gQ]at d5
 have Kk:=hid gm
 have Kj:=hid gQ
 clear gm gQ
 have hN:=Qca.new w #[.int .i64 0,.int .i64 0,.int .i64 0] 27
 have Hk:Below w.heap.size w (w.alloc (.cells #[.int .i64 0,.int .i64 0,.int .i64 0] 27)):=(Below.refl _ _).alloc (Nat.le_refl _) _
 have c0':=(Hk.cell cl).trans c0
 have c1':=(Hk.cell cl).trans c1
 have d3':=(Hk.cell gl).trans d3
 have d4':=(Hk.cell gl).trans d4
 have d5':=(Hk.cell gl).trans d5
 obtain⟨m0,m1,m2,mf0,mf1,mf2,ml⟩:=three hN
 have hM:=(Qca.new w #[.int .i64 file,.int .i64 tl,.int .i64 tc] 27).drew
 have Hc:Qaa (fun _=>False) w (w.alloc (.cells #[.int .i64 file,.int .i64 tl,.int .i64 tc] 27)).drew:=((Qaa.refl _ w).alloc _).drew
 have h3:=h.keeps Hc
 obtain⟨x0,x1,x2,_,_,_,xl⟩:=three hM
 obtain⟨y0,y1,_,y3,_,_,_,z1,_,z3,_,_,_,yl⟩:=h3.cells
 have e0:=(Hc.cell (p:=⟨g,i*6,none⟩) gl (fun e=>e)).trans d0
 have gl3:=Nat.lt_of_lt_of_le gl Hc.size
 have H3:=hid h3
 have Hy:=hid Hc
 have HM:=hid hM
 have Hu:=fun wx hx=>QMb wx r base file L (.slice (some ⟨g,0,none⟩) L.length cap) ov i D hx 7 [105,110,99,108,117,100,101] (by decide)
 have gf:=fun wx hx=>QMb wx r base file L (.slice (some ⟨g,0,none⟩) L.length cap) ov i D hx 7 [100,101,108,101,116,101,45,110,111,100,101] (by decide)
 rw[h1]at Hu
 rw[h2]at gf
 have Kg:=hid Hu
 have mM:=hid gf
 have GG:w.heap.size≠r:=by omega
 have Hx:=hid (show ∀b,b<base→¬b=r from fun b hb e=>by have:=h.low;omega)
 have K4:=hid (fun wx hx=>Q0b wx r base file L (.slice (some ⟨g,0,none⟩) L.length cap) ov i D hx 5 (by decide))
 rw[show Qha L 5 (QJa 3) i = .error (i,1)from by unfold Qha;rw[if_pos h5];exact if_neg (by show ¬Qna _=true;rw[hl];exact Bool.false_ne_true)]at K4
 unfold Q5a at K4
 obtain⟨k,c,au⟩:∃(k:Nat) (c:Int),(k,c)=(i,(1:Int)):=⟨_,_,rfl⟩
 rw[←au]
 have fV:=hid au
 clear h h1 h2 Hu gf hN Hk hM Hc h3 hl h5 au
 go_enter Tryz.func34,Tryz.ntmps34
 go_wp2_with fail
 go_region
 generalize (w.alloc (.cells #[.int .i64 file,.int .i64 tl,.int .i64 tc] 27)).drew=w3 at *
 clear c0 c1 c2 c3 d0 d1 d2 d3 d4 d5 c0' c1' d3' d4' d5' m0 m1 m2 mf0 mf1 mf2 ml gl cl f1 f2 f3
 go_wp2_with fail
 refine(by exact Kg.out _ H3.out:Calls _ _ _ _ _).mono ?_
 rintro e w40 ⟨rfl,GB⟩
 have gi:=hid GB
 clear GB
 go_wp2_with fail
 refine(by exact mM.out _ (H3.out.keeps gi.out):Calls _ _ _ _ _).mono ?_
 rintro e w4 ⟨rfl,Hr⟩
 have gN:=hid (Hy.out.trans (gi.out.trans Hr (fun _ _ e=>e)) (fun _ _ e=>e))
 have KM:=hid (HM.out.keeps (gi.out.trans Hr (fun _ _ e=>e)) (fun e=>e))
 have h4:=HH.out.keeps gN.out
 obtain⟨b0,b1,_,b3,_,_,_,_,_,_,_,_,_,bl⟩:=h4.cells
 have e4:=((gi.out.trans Hr (fun _ _ e=>e)).cell (p:=⟨g,i*6,none⟩) gl3 (fun e=>e)).trans e0
 have gl4:=Nat.lt_of_lt_of_le gl3 (gi.out.trans Hr (fun _ _ e=>e)).size
 have H4:=hid h4
 clear Hr h4 e0 gl3 x0 x1 x2 xl y0 y1 y3 z1 z3 yl
 go_wp2_with fail
 go_quiet (fail)
 go_wp2_with fail
 go_quiet (fail)
 go_wp2_with fail
 generalize km:World.drewN w4 _=w5
 have Hs:Qaa (fun _=>False) w4 w5:=by rw[←km];exact Qda _ _
 clear km
 refine(by exact K4.out _ (H4.out.keeps Hs):Calls _ _ _ _ _).mono ?_
 rintro e w6 ⟨Hw,rfl,G9⟩
 have my:=(Hs.mono (S:=(· = r)) (fun _ _ e=>e.elim)).trans Hw (fun _ _ e=>e)
 have ba:=hid (show Qyb w6 r file L k c from by injection fV.out with e1 e2;rw[e1,e2];exact G9)
 have gC:=hid ((gN.out.mono (S:=(· = r)) (fun _ _ e=>e.elim)).trans my (fun _ _ e=>e))
 have KG:=hid (KM.out.keeps my GG)
 obtain⟨v0,v1,v2,_,_,_,vl⟩:=three KG.out
 have tj:=hid (Qoa w6 r file L k c ba.out ⟨#[47]⟩)
 clear Hs Hw my G9
 go_wp2_with fail
 refine(by exact tj.out:Calls _ _ _ _ _).mono ?_
 rintro e w7 ⟨rfl,rfl⟩
 go_wp2_with fail
 refine(by exact Q3a w6 r file L k c ba.out _ _ _ _ _ _ _ _ _:Calls _ _ _ _ _).mono ?_
 rintro e w8 ⟨rfl,gI,gn⟩
 have KL:Hid (Calls Tryz.prog 66 #[.pointer (some ⟨r,0,none⟩),.int .i64 0] w8 (fun e w'=>e = .returned (.tuple #[])∧w8=w')):=hid (by
  have h9:=Qac w8 r file L k c gI 0 (by decide)
  rw[show(((0:Nat):Int))=0 from rfl]at h9
  exact h9)
 have GW:=hid ((gC.out.trans (gn.mono (S:=(· = r)) (fun _ _ e=>e.elim)) (fun _ _ e=>e)).below HH.out.size Hx.out)
 have GR:=hid gI
 clear gI gn
 go_wp2_with fail
 refine(by exact KL.out:Calls _ _ _ _ _).mono ?_
 rintro e w9 ⟨rfl,rfl⟩
 have Gw:=hid (Qoa w8 r file L k c GR.out ⟨#[59]⟩)
 go_wp2_with fail
 refine(by exact Gw.out:Calls _ _ _ _ _).mono ?_
 rintro e w10 ⟨rfl,rfl⟩
 go_wp2_with fail
 refine bodyPost_ret (results_none rfl _ _ _) rfl ?_
 exact⟨rfl,GW.out,GR.out⟩
end Go.Proofs.YtofhcgbihonckaaGreat
