/- bringupref04: top, include (printed by gr4x.py). -/
import Derived.Test.YtofhcgbihonckaaGreatY30
import Derived.Test.YtofhcgbihonckaaGreatY17
import Derived.Deep.DeepCutAuto
set_option linter.all false
set_option maxHeartbeats 8000000
namespace Go.Proofs.YtofhcgbihonckaaGreat
open Go.Lib (hid)
open Go.RowKit
set_option maxRecDepth 100000 in
theorem Qhj(w:World)(r base:Nat)(file:Int)(L:List Tok)(lv ov:Value)(i:Nat)(D:List Qra)(h:QZa w r base file L lv ov i D)(hk:(tkN L i).kind=7)(h1:isK L i 7 [105,110,99,108,117,100,101]=true)(ke:D.length≤2*i) :
 Calls Tryz.prog 34 #[.pointer (some ⟨r,0,none⟩)] w (QVb r base file L lv D (Qhd L 6 3 [] (fun _=>true) i) w):=by
 obtain⟨c0,c1,c2,c3,_,_,_,f1,f2,f3,_,_,_,cl⟩:=h.cells
 obtain⟨n1,n2⟩:=h.num
 have Hu:=fun wx hx=>QMb wx r base file L lv ov i D hx 7 [105,110,99,108,117,100,101] (by decide)
 have Gt:=hid (fun wx hx=>QVj wx r base file L lv ov (i+1) D hx 3 (by decide))
 have gP:=hid (h.ok.next h.lt (by rw[hk];decide))
 rw[h1]at Hu
 have Kg:=hid Hu
 have HF:=hid (fun wx hx=>QCb wx r base file L lv ov i D hx 6 (by decide))
 have HH:=hid h
 obtain⟨g,cap,rfl,hg,d0,d1,d2,d3,d4,d5⟩:=h.toks.at h.lt
 have gl:g<w.heap.size:=World.block_lt_of_cell? w _ d0
 rw[hk]at d0
 obtain⟨tl,gm⟩:∃t,t=(tkN L i).line:=⟨_,rfl⟩
 obtain⟨tc,gQ⟩:∃t,t=(tkN L i).col:=⟨_,rfl⟩
 rw[←gm]at d4
 rw[←gQ]at d5
 have Kk:=hid gm
 have Kj:=hid gQ
 clear gm gQ
 have hN:=Qca.new w #[.int .i64 0,.int .i64 0,.int .i64 0] 27
 have Hk:Below w.heap.size w (w.alloc (.cells #[.int .i64 0,.int .i64 0,.int .i64 0] 27)):=(Below.refl _ _).alloc (Nat.le_refl _) _
 have c0':=(Hk.cell cl).trans c0
 have c1':=(Hk.cell cl).trans c1
 have d3':=(Hk.cell gl).trans d3
 have d4':=(Hk.cell gl).trans d4
 have d5':=(Hk.cell gl).trans d5
 obtain⟨m0,m1,m2,mf0,mf1,mf2,ml⟩:=three hN
 have hM:=(Qca.new w #[.int .i64 file,.int .i64 tl,.int .i64 tc] 27).drew
 have Hc:Qaa (fun _=>False) w (w.alloc (.cells #[.int .i64 file,.int .i64 tl,.int .i64 tc] 27)).drew:=((Qaa.refl _ w).alloc _).drew
 have h3:=h.keeps Hc
 obtain⟨x0,x1,x2,_,_,_,xl⟩:=three hM
 obtain⟨y0,y1,_,y3,_,_,_,z1,_,z3,_,_,_,yl⟩:=h3.cells
 have e0:=(Hc.cell (p:=⟨g,i*6,none⟩) gl (fun e=>e)).trans d0
 have gl3:=Nat.lt_of_lt_of_le gl Hc.size
 have H3:=hid h3
 have Hy:=hid Hc
 have HM:=hid hM
 clear h hk h1 Hu hN Hk hM Hc h3
 go_enter Tryz.func34,Tryz.ntmps34
 go_wp2_with fail
 go_region
 generalize (w.alloc (.cells #[.int .i64 file,.int .i64 tl,.int .i64 tc] 27)).drew=w3 at *
 go_wp2_with fail
 refine(by exact Kg.out _ H3.out:Calls _ _ _ _ _).mono ?_
 rintro e w4 ⟨rfl,Hr⟩
 have gN:=hid Hr
 clear Hr
 have h4:=H3.out.keeps gN.out
 have H4:=hid h4
 obtain⟨_,b1,_,b3,_,_,_,a1,_,_,_,_,_,bl⟩:=h4.cells
 have KM:=hid (HM.out.keeps gN.out (fun e=>e))
 have MI:=hid ((Hy.out.trans gN.out (fun _ _ e=>e)).mono (S:=(· = r)) (fun _ _ e=>e.elim))
 clear h4
 go_wp2_with fail
 obtain⟨gW,gE⟩:=H4.out.step gP.out
 have Mt:=KM.out.keeps gE (by omega)
 obtain⟨p0,p1,p2,_,_,_,pl⟩:=three Mt
 have H5:=hid gW
 have Mn:=hid Mt
 have JF:=hid (MI.out.trans gE (fun _ _ e=>e))
 generalize w4.setCell ⟨r,1,none⟩ (.int .i64 ((i:Int)+1))=w5 at *
 clear gW gE Mt b1 b3 a1 bl
 obtain⟨T,hT⟩:∃T,T=Qha L 3 (QJa 4) (i+1):=⟨_,rfl⟩
 rw[←hT]at Gt
 have Ma:=hid hT
 clear hT
 cases T with
 | ok j=>
  have KC:=hid (fun wx ovx (hx:QZa wx r base file L (.slice (some ⟨g,0,none⟩) L.length cap) ovx j D) (X:ByteArray) (hj:i+1≤j)=>Qmb wx r base file L (.slice (some ⟨g,0,none⟩) L.length cap) ovx j D ⟨6,⟨#[]⟩,X,[],tl,tc⟩ (.slice none 0 0) hx (Qia.none _ _) (by omega))
  have Gf:j=i+2:=Q2b Ma.out.symm
  have GG:w.heap.size≠r:=by omega
  go_region_with (first | (go_at_call 65;refine(by exact Gt.out _ (by exact H5.out.keeps ((Qaa.refl _ _).drew)):Calls _ _ _ _ _).mono ?_;rintro e w6 ⟨Hw,rfl,G9⟩;have KB:=hid G9;have gA:=(((Qaa.refl (fun _=>False) w5).drew).mono (S:=(· = r)) (fun _ _ e=>e.elim)).trans Hw (fun _ _ e=>e);have KN:=Mn.out.keeps gA GG;obtain⟨q0,q1,q2,_,_,_,ql⟩:=three KN;have gC:=hid (JF.out.trans gA (fun _ _ e=>e));clear G9 Hw gA KN) | (go_at_call 64;refine(by exact KC.out _ _ KB.out _ (by omega):Calls _ _ _ _ _).mono ?_;rintro e w8 ⟨rfl,ov8,gI,GO⟩))
  all_goals
   have gh:=hid (Qob w8 r base file L _ ov8 j _ gI [59] (by decide))
   have GW:=hid GO
   clear gI GO
   go_wp2_with fail
   refine(by exact gh.out:Calls _ _ _ _ _).mono ?_
   rintro e w9 ⟨rfl,GP,t1,t2⟩
   have JN:=hid (And.intro t1 t2)
   have MU:=hid GP
   clear GP t1 t2
   go_wp2_with fail
   refine bodyPost_ret (results_none rfl _ _ _) rfl ?_
   have gB:∀b,b<base→¬b=r:=fun b hb e=>by have:=HH.out.low;omega
   have gq:=((gC.out.below HH.out.size gB).trans GW.out).trans (MU.out.below (Nat.le_trans HH.out.size (Nat.le_trans gC.out.size GW.out.size)) gB)
   refine⟨rfl,gq,?_⟩
   cases hg:isK L j 4 [59]with
   | true=>
    rw[show Qhd L 6 3 [] (fun _=>true) i=_ from Q3g Ma.out.symm hg]
    refine⟨ov8,?_,by simp;omega⟩
    have h9:=JN.out.1 hg
    rw[Kk.out,Kj.out]at h9
    exact h9
   | false=>
    rw[show Qhd L 6 3 [] (fun _=>true) i=_ from Qqf Ma.out.symm hg]
    exact JN.out.2 hg
 | error q=>
  obtain⟨k,c⟩:=q
  have GG:w.heap.size≠r:=by omega
  go_region_with (first | (go_at_call 65;refine(by exact Gt.out _ (by exact H5.out.keeps ((Qaa.refl _ _).drew)):Calls _ _ _ _ _).mono ?_;rintro e w6 ⟨Hw,rfl,G9⟩;have KB:=hid G9;have gA:=(((Qaa.refl (fun _=>False) w5).drew).mono (S:=(· = r)) (fun _ _ e=>e.elim)).trans Hw (fun _ _ e=>e);have KN:=Mn.out.keeps gA GG;obtain⟨q0,q1,q2,_,_,_,ql⟩:=three KN;have gC:=hid (JF.out.trans gA (fun _ _ e=>e));clear G9 Hw gA KN) | (go_at_call 64;refine(by exact Q3a _ r file L k c KB.out _ _ _ _ _ _ _ _ _:Calls _ _ _ _ _).mono ?_;rintro e w8 ⟨rfl,gI,gn⟩))
  all_goals
   have gh:=hid (Qoa w8 r file L k c gI ⟨#[59]⟩)
   have Mm:=hid (gC.out.trans (gn.mono (S:=(· = r)) (fun _ _ e=>e.elim)) (fun _ _ e=>e))
   have GR:=hid gI
   clear gI gn
   go_wp2_with fail
   refine(by exact gh.out:Calls _ _ _ _ _).mono ?_
   rintro e w9 ⟨rfl,rfl⟩
   go_wp2_with fail
   refine bodyPost_ret (results_none rfl _ _ _) rfl ?_
   refine⟨rfl,Mm.out.below HH.out.size (fun b hb e=>by have:=HH.out.low;omega),?_⟩
   rw[show Qhd L 6 3 [] (fun _=>true) i=_ from Qrf Ma.out.symm]
   exact GR.out
set_option maxRecDepth 100000 in
theorem Qgj(w:World)(r base:Nat)(file:Int)(L:List Tok)(lv ov:Value)(i:Nat)(D:List Qra)(h:QZa w r base file L lv ov i D)(hk:(tkN L i).kind=7)(h1:isK L i 7 [105,110,99,108,117,100,101]=false)(h2:isK L i 7 [100,101,108,101,116,101,45,110,111,100,101]=true)(ke:D.length≤2*i) :
 Calls Tryz.prog 34 #[.pointer (some ⟨r,0,none⟩)] w (QVb r base file L lv D (Qhd L 5 6 [38] Qna i) w):=by
 obtain⟨c0,c1,c2,c3,_,_,_,f1,f2,f3,_,_,_,cl⟩:=h.cells
 obtain⟨n1,n2⟩:=h.num
 have Hu:=fun wx hx=>QMb wx r base file L lv ov i D hx 7 [105,110,99,108,117,100,101] (by decide)
 have Gt:=hid (fun wx hx=>Q0b wx r base file L lv ov (i+1) D hx 6 (by decide))
 have fm:=Qpa [38] (tkN L (i+1)).text (by have:=h.ok.at (i+1);simp;omega)
 have j5:=Qpa [38] [] (by simp)
 unfold QYd at fm j5
 unfold Q5a at Gt
 obtain⟨XA,dT⟩:∃x:ByteArray,x=⟨([38]++(tkN L (i+1)).text).toArray⟩:=⟨_,rfl⟩
 obtain⟨X,hX⟩:∃x,x=txN L (i+1):=⟨_,rfl⟩
 rw[←dT]at fm
 rw[show(⟨((tkN L (i+1)).text).toArray⟩:ByteArray)=X from hX.symm]at fm
 rw[←hX]at Gt
 have tr:=hid dT
 clear dT hX
 have gP:=hid (h.ok.next h.lt (by rw[hk];decide))
 have gf:=fun wx hx=>QMb wx r base file L lv ov i D hx 7 [100,101,108,101,116,101,45,110,111,100,101] (by decide)
 rw[h1]at Hu
 rw[h2]at gf
 have mM:=hid gf
 have Kg:=hid Hu
 have HF:=hid (fun wx hx=>QCb wx r base file L lv ov i D hx 6 (by decide))
 have HH:=hid h
 obtain⟨g,cap,rfl,hg,d0,d1,d2,d3,d4,d5⟩:=h.toks.at h.lt
 have gl:g<w.heap.size:=World.block_lt_of_cell? w _ d0
 rw[hk]at d0
 obtain⟨tl,gm⟩:∃t,t=(tkN L i).line:=⟨_,rfl⟩
 obtain⟨tc,gQ⟩:∃t,t=(tkN L i).col:=⟨_,rfl⟩
 rw[←gm]at d4
 rw[←gQ]at d5
 have Kk:=hid gm
 have Kj:=hid gQ
 clear gm gQ
 have hN:=Qca.new w #[.int .i64 0,.int .i64 0,.int .i64 0] 27
 have Hk:Below w.heap.size w (w.alloc (.cells #[.int .i64 0,.int .i64 0,.int .i64 0] 27)):=(Below.refl _ _).alloc (Nat.le_refl _) _
 have c0':=(Hk.cell cl).trans c0
 have c1':=(Hk.cell cl).trans c1
 have d3':=(Hk.cell gl).trans d3
 have d4':=(Hk.cell gl).trans d4
 have d5':=(Hk.cell gl).trans d5
 obtain⟨m0,m1,m2,mf0,mf1,mf2,ml⟩:=three hN
 have hM:=(Qca.new w #[.int .i64 file,.int .i64 tl,.int .i64 tc] 27).drew
 have Hc:Qaa (fun _=>False) w (w.alloc (.cells #[.int .i64 file,.int .i64 tl,.int .i64 tc] 27)).drew:=((Qaa.refl _ w).alloc _).drew
 have h3:=h.keeps Hc
 obtain⟨x0,x1,x2,_,_,_,xl⟩:=three hM
 obtain⟨y0,y1,_,y3,_,_,_,z1,_,z3,_,_,_,yl⟩:=h3.cells
 have e0:=(Hc.cell (p:=⟨g,i*6,none⟩) gl (fun e=>e)).trans d0
 have gl3:=Nat.lt_of_lt_of_le gl Hc.size
 have H3:=hid h3
 have Hy:=hid Hc
 have HM:=hid hM
 clear h hk h1 h2 Hu gf hN Hk hM Hc h3
 go_enter Tryz.func34,Tryz.ntmps34
 go_wp2_with fail
 go_region
 generalize (w.alloc (.cells #[.int .i64 file,.int .i64 tl,.int .i64 tc] 27)).drew=w3 at *
 go_wp2_with fail
 refine(by exact Kg.out _ H3.out:Calls _ _ _ _ _).mono ?_
 rintro e w40 ⟨rfl,GB⟩
 have gi:=hid GB
 clear GB
 go_wp2_with fail
 refine(by exact mM.out _ (H3.out.keeps gi.out):Calls _ _ _ _ _).mono ?_
 rintro e w4 ⟨rfl,Hr⟩
 have gN:=hid (gi.out.trans Hr (fun _ _ e=>e))
 clear Hr
 have h4:=H3.out.keeps gN.out
 have H4:=hid h4
 obtain⟨_,b1,_,b3,_,_,_,a1,_,_,_,_,_,bl⟩:=h4.cells
 have KM:=hid (HM.out.keeps gN.out (fun e=>e))
 have MI:=hid ((Hy.out.trans gN.out (fun _ _ e=>e)).mono (S:=(· = r)) (fun _ _ e=>e.elim))
 clear h4
 go_wp2_with fail
 obtain⟨gW,gE⟩:=H4.out.step gP.out
 have Mt:=KM.out.keeps gE (by omega)
 obtain⟨p0,p1,p2,_,_,_,pl⟩:=three Mt
 have H5:=hid gW
 have Mn:=hid Mt
 have JF:=hid (MI.out.trans gE (fun _ _ e=>e))
 generalize w4.setCell ⟨r,1,none⟩ (.int .i64 ((i:Int)+1))=w5 at *
 clear gW gE Mt b1 b3 a1 bl
 obtain⟨T,hT⟩:∃T,T=Qha L 6 (QJa 3) (i+1):=⟨_,rfl⟩
 rw[←hT]at Gt
 have Ma:=hid hT
 clear hT
 cases T with
 | ok j=>
  have KC:=hid (fun wx ovx (hx:QZa wx r base file L (.slice (some ⟨g,0,none⟩) L.length cap) ovx j D) (hj:i+1≤j)=>Qmb wx r base file L (.slice (some ⟨g,0,none⟩) L.length cap) ovx j D ⟨5,⟨#[]⟩,XA,[],tl,tc⟩ (.slice none 0 0) hx (Qia.none _ _) (by omega))
  have Gf:j=i+2:=Q2b Ma.out.symm
  have GG:w.heap.size≠r:=by omega
  go_region_with (first | (go_at_call 65;refine(by exact Gt.out _ (by exact H5.out.keeps ((Qaa.refl _ _).drew)):Calls _ _ _ _ _).mono ?_;rintro e w6 ⟨Hw,rfl,G9⟩;have KB:=hid G9;have gA:=(((Qaa.refl (fun _=>False) w5).drew).mono (S:=(· = r)) (fun _ _ e=>e.elim)).trans Hw (fun _ _ e=>e);have KN:=Mn.out.keeps gA GG;obtain⟨q0,q1,q2,_,_,_,ql⟩:=three KN;have gC:=hid (JF.out.trans gA (fun _ _ e=>e));clear G9 Hw gA KN) | (go_at_call 64;refine(by exact KC.out _ _ KB.out (by omega):Calls _ _ _ _ _).mono ?_;rintro e w8 ⟨rfl,ov8,gI,GO⟩))
  all_goals
   have gh:=hid (Qob w8 r base file L _ ov8 j _ gI [59] (by decide))
   have GW:=hid GO
   clear gI GO
   go_wp2_with fail
   refine(by exact gh.out:Calls _ _ _ _ _).mono ?_
   rintro e w9 ⟨rfl,GP,t1,t2⟩
   have JN:=hid (And.intro t1 t2)
   have MU:=hid GP
   clear GP t1 t2
   go_wp2_with fail
   refine bodyPost_ret (results_none rfl _ _ _) rfl ?_
   have gB:∀b,b<base→¬b=r:=fun b hb e=>by have:=HH.out.low;omega
   have gq:=((gC.out.below HH.out.size gB).trans GW.out).trans (MU.out.below (Nat.le_trans HH.out.size (Nat.le_trans gC.out.size GW.out.size)) gB)
   refine⟨rfl,gq,?_⟩
   cases hg:isK L j 4 [59]with
   | true=>
    rw[show Qhd L 5 6 [38] Qna i=_ from Q3g Ma.out.symm hg]
    refine⟨ov8,?_,by simp;omega⟩
    have h9:=JN.out.1 hg
    rw[Kk.out,Kj.out,tr.out]at h9
    exact h9
   | false=>
    rw[show Qhd L 5 6 [38] Qna i=_ from Qqf Ma.out.symm hg]
    exact JN.out.2 hg
 | error q=>
  obtain⟨k,c⟩:=q
  have GG:w.heap.size≠r:=by omega
  go_region_with (first | (go_at_call 65;refine(by exact Gt.out _ (by exact H5.out.keeps ((Qaa.refl _ _).drew)):Calls _ _ _ _ _).mono ?_;rintro e w6 ⟨Hw,rfl,G9⟩;have KB:=hid G9;have gA:=(((Qaa.refl (fun _=>False) w5).drew).mono (S:=(· = r)) (fun _ _ e=>e.elim)).trans Hw (fun _ _ e=>e);have KN:=Mn.out.keeps gA GG;obtain⟨q0,q1,q2,_,_,_,ql⟩:=three KN;have gC:=hid (JF.out.trans gA (fun _ _ e=>e));clear G9 Hw gA KN) | (go_at_call 64;refine(by exact Q3a _ r file L k c KB.out _ _ _ _ _ _ _ _ _:Calls _ _ _ _ _).mono ?_;rintro e w8 ⟨rfl,gI,gn⟩))
  all_goals
   have gh:=hid (Qoa w8 r file L k c gI ⟨#[59]⟩)
   have Mm:=hid (gC.out.trans (gn.mono (S:=(· = r)) (fun _ _ e=>e.elim)) (fun _ _ e=>e))
   have GR:=hid gI
   clear gI gn
   go_wp2_with fail
   refine(by exact gh.out:Calls _ _ _ _ _).mono ?_
   rintro e w9 ⟨rfl,rfl⟩
   go_wp2_with fail
   refine bodyPost_ret (results_none rfl _ _ _) rfl ?_
   refine⟨rfl,Mm.out.below HH.out.size (fun b hb e=>by have:=HH.out.low;omega),?_⟩
   rw[show Qhd L 5 6 [38] Qna i=_ from Qrf Ma.out.symm]
   exact GR.out
end Go.Proofs.YtofhcgbihonckaaGreat
