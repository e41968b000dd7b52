/- bringupref04: member, a property's deletion . -/
import Derived.Test.YtofhcgbihonckaaGreatY29
import Derived.Test.YtofhcgbihonckaaGreatY13
import Derived.Deep.RegionWith
import Derived.Deep.LoopGhost
import Derived.Deep.AppendLies
import Derived.Deep.RegionLaw
import Derived.Laws.AppendOwn
import Derived.Laws.OwnMore
set_option linter.all false
set_option maxHeartbeats 8000000
namespace Go.Proofs.YtofhcgbihonckaaGreat
open Go.Lib (hid)
open Go.RowKit
theorem Q2b{L:List Tok}{kind:Int}{f:List UInt8→Bool}{i j:Nat}(h:Qha L kind f i = .ok j):j=i+1:=by
 unfold Qha at h
 split at h
 ·split at h
  ·injection h with h;exact h.symm
  ·cases h
 ·cases h
theorem Q3g{L:List Tok}{kind what:Int}{b:List UInt8}{f:List UInt8→Bool}{i j:Nat}(h:Qha L what f (i+1) = .ok j)(hs:isK L j 4 [59]=true):Qhd L kind what b f i = .ok (j+1,[⟨kind,⟨#[]⟩,⟨(b++(tkN L (i+1)).text).toArray⟩,[],(tkN L i).line,(tkN L i).col⟩]):=by
 have Hf:Q1a L [59] j = .ok (j+1):=by unfold Q1a;rw[if_pos hs]
 unfold Qhd
 simp only[h,Hf]
theorem Qqf{L:List Tok}{kind what:Int}{b:List UInt8}{f:List UInt8→Bool}{i j:Nat}(h:Qha L what f (i+1) = .ok j)(hs:isK L j 4 [59]=false):Qhd L kind what b f i = .error (j,6):=by
 have Hf:Q1a L [59] j = .error (j,6):=by unfold Q1a;rw[if_neg (by rw[hs];exact Bool.false_ne_true)]
 unfold Qhd
 simp only[h,Hf]
theorem Qrf{L:List Tok}{kind what:Int}{b:List UInt8}{f:List UInt8→Bool}{i:Nat}{q:Nat × Int}(h:Qha L what f (i+1) = .error q):Qhd L kind what b f i = .error q:=by
 unfold Qhd
 simp only[h]
set_option maxRecDepth 100000 in
theorem Qog(w:World)(r base:Nat)(file:Int)(L:List Tok)(lv ov:Value)(i:Nat)(D:List Qra)(h:QZa w r base file L lv ov i D)(dp:Nat)(K9:(dp:Int)≤1000000)(hk:(tkN L i).kind=7)(h1:isK L i 7 [100,101,108,101,116,101,45,112,114,111,112,101,114,116,121]=true)(ke:D.length≤2*i) :
 Calls Tryz.prog 109 #[.pointer (some ⟨r,0,none⟩),.int .i64 (dp:Int)] w (QVb r base file L lv D (Qhd L 4 1 [] QQb i) w):=by
 obtain⟨c0,c1,c2,c3,_,_,_,f1,f2,f3,_,_,_,cl⟩:=h.cells
 obtain⟨n1,n2⟩:=h.num
 have Hu:=fun wx hx=>QMb wx r base file L lv ov i D hx 7 [100,101,108,101,116,101,45,112,114,111,112,101,114,116,121] (by decide)
 have Gt:=hid (fun wx hx=>Qwh wx r base file L lv ov (i+1) D hx 1 (by decide))
 have gP:=hid (h.ok.next h.lt (by rw[hk];decide))
 rw[h1]at Hu
 have Kg:=hid Hu
 have HF:=hid (fun wx hx=>QCb wx r base file L lv ov i D hx 6 (by decide))
 have HH:=hid h
 obtain⟨g,cap,rfl,hg,d0,d1,d2,d3,d4,d5⟩:=h.toks.at h.lt
 have gl:g<w.heap.size:=World.block_lt_of_cell? w _ d0
 rw[hk]at d0
 obtain⟨tl,gm⟩:∃t,t=(tkN L i).line:=⟨_,rfl⟩
 obtain⟨tc,gQ⟩:∃t,t=(tkN L i).col:=⟨_,rfl⟩
 rw[←gm]at d4
 rw[←gQ]at d5
 have Kk:=hid gm
 have Kj:=hid gQ
 clear gm gQ
 have hN:=Qca.new w #[.int .i64 0,.int .i64 0,.int .i64 0] 27
 have Hk:Below w.heap.size w (w.alloc (.cells #[.int .i64 0,.int .i64 0,.int .i64 0] 27)):=(Below.refl _ _).alloc (Nat.le_refl _) _
 have c0':=(Hk.cell cl).trans c0
 have c1':=(Hk.cell cl).trans c1
 have d3':=(Hk.cell gl).trans d3
 have d4':=(Hk.cell gl).trans d4
 have d5':=(Hk.cell gl).trans d5
 obtain⟨m0,m1,m2,mf0,mf1,mf2,ml⟩:=three hN
 have hM:=(Qca.new w #[.int .i64 file,.int .i64 tl,.int .i64 tc] 27).drew
 have Hc:Qaa (fun _=>False) w (w.alloc (.cells #[.int .i64 file,.int .i64 tl,.int .i64 tc] 27)).drew:=((Qaa.refl _ w).alloc _).drew
 have h3:=h.keeps Hc
 obtain⟨x0,x1,x2,_,_,_,xl⟩:=three hM
 obtain⟨y0,y1,_,y3,_,_,_,z1,_,z3,_,_,_,yl⟩:=h3.cells
 have e0:=(Hc.cell (p:=⟨g,i*6,none⟩) gl (fun e=>e)).trans d0
 have gl3:=Nat.lt_of_lt_of_le gl Hc.size
 have H3:=hid h3
 have Hy:=hid Hc
 have HM:=hid hM
 clear h hk h1 Hu hN Hk hM Hc h3
 go_enter Tryz.func109,Tryz.ntmps109
 go_wp2_with fail
 go_region
 generalize (w.alloc (.cells #[.int .i64 file,.int .i64 tl,.int .i64 tc] 27)).drew=w3 at *
 go_wp2_with fail
 go_quiet (fail)
 go_wp2_with fail
 refine(by exact Kg.out _ (H3.out.keeps (Qda _ _)):Calls _ _ _ _ _).mono ?_
 rintro e w4 ⟨rfl,Hr⟩
 have gN:=hid ((Qda w3 _).trans Hr (fun _ _ e=>e))
 clear Hr
 have h4:=H3.out.keeps gN.out
 have H4:=hid h4
 obtain⟨_,b1,_,b3,_,_,_,a1,_,_,_,_,_,bl⟩:=h4.cells
 have KM:=hid (HM.out.keeps gN.out (fun e=>e))
 have MI:=hid ((Hy.out.trans gN.out (fun _ _ e=>e)).mono (S:=(· = r)) (fun _ _ e=>e.elim))
 clear h4
 go_wp2_with fail
 obtain⟨gW,gE⟩:=H4.out.step gP.out
 have Mt:=KM.out.keeps gE (by omega)
 obtain⟨p0,p1,p2,_,_,_,pl⟩:=three Mt
 have H5:=hid gW
 have Mn:=hid Mt
 have JF:=hid (MI.out.trans gE (fun _ _ e=>e))
 generalize w4.setCell ⟨r,1,none⟩ (.int .i64 ((i:Int)+1))=w5 at *
 clear gW gE Mt b1 b3 a1 bl
 obtain⟨T,hT⟩:∃T,T=Qha L 1 (QJa 2) (i+1):=⟨_,rfl⟩
 rw[←hT]at Gt
 have Ma:=hid hT
 clear hT
 cases T with
 | ok j=>
  have KC:=hid (fun wx ovx (hx:QZa wx r base file L (.slice (some ⟨g,0,none⟩) L.length cap) ovx j D) (X:ByteArray) (hj:i+1≤j)=>Qmb wx r base file L (.slice (some ⟨g,0,none⟩) L.length cap) ovx j D ⟨4,⟨#[]⟩,X,[],tl,tc⟩ (.slice none 0 0) hx (Qia.none _ _) (by omega))
  have Gf:j=i+2:=Q2b Ma.out.symm
  have GG:w.heap.size≠r:=by omega
  go_region_with (first | (go_at_call 65;refine(by exact Gt.out _ (by exact H5.out.keeps ((Qaa.refl _ _).drew)):Calls _ _ _ _ _).mono ?_;rintro e w6 ⟨Hw,rfl,G9⟩;have KB:=hid G9;have gA:=(((Qaa.refl (fun _=>False) w5).drew).mono (S:=(· = r)) (fun _ _ e=>e.elim)).trans Hw (fun _ _ e=>e);have KN:=Mn.out.keeps gA GG;obtain⟨q0,q1,q2,_,_,_,ql⟩:=three KN;have gC:=hid (JF.out.trans gA (fun _ _ e=>e));clear G9 Hw gA KN) | (go_at_call 64;refine(by exact KC.out _ _ KB.out _ (by omega):Calls _ _ _ _ _).mono ?_;rintro e w8 ⟨rfl,ov8,gI,GO⟩))
  all_goals
   have gh:=hid (Qob w8 r base file L _ ov8 j _ gI [59] (by decide))
   have GW:=hid GO
   clear gI GO
   go_wp2_with fail
   refine(by exact gh.out:Calls _ _ _ _ _).mono ?_
   rintro e w9 ⟨rfl,GP,t1,t2⟩
   have JN:=hid (And.intro t1 t2)
   have MU:=hid GP
   clear GP t1 t2
   go_wp2_with fail
   refine bodyPost_ret (results_none rfl _ _ _) rfl ?_
   have gB:∀b,b<base→¬b=r:=fun b hb e=>by have:=HH.out.low;omega
   have gq:=((gC.out.below HH.out.size gB).trans GW.out).trans (MU.out.below (Nat.le_trans HH.out.size (Nat.le_trans gC.out.size GW.out.size)) gB)
   refine⟨rfl,gq,?_⟩
   cases hg:isK L j 4 [59]with
   | true=>
    rw[show Qhd L 4 1 [] QQb i=_ from Q3g Ma.out.symm hg]
    refine⟨ov8,?_,by simp;omega⟩
    have h9:=JN.out.1 hg
    rw[Kk.out,Kj.out]at h9
    exact h9
   | false=>
    rw[show Qhd L 4 1 [] QQb i=_ from Qqf Ma.out.symm hg]
    exact JN.out.2 hg
 | error q=>
  obtain⟨k,c⟩:=q
  have GG:w.heap.size≠r:=by omega
  go_region_with (first | (go_at_call 65;refine(by exact Gt.out _ (by exact H5.out.keeps ((Qaa.refl _ _).drew)):Calls _ _ _ _ _).mono ?_;rintro e w6 ⟨Hw,rfl,G9⟩;have KB:=hid G9;have gA:=(((Qaa.refl (fun _=>False) w5).drew).mono (S:=(· = r)) (fun _ _ e=>e.elim)).trans Hw (fun _ _ e=>e);have KN:=Mn.out.keeps gA GG;obtain⟨q0,q1,q2,_,_,_,ql⟩:=three KN;have gC:=hid (JF.out.trans gA (fun _ _ e=>e));clear G9 Hw gA KN) | (go_at_call 64;refine(by exact Q3a _ r file L k c KB.out _ _ _ _ _ _ _ _ _:Calls _ _ _ _ _).mono ?_;rintro e w8 ⟨rfl,gI,gn⟩))
  all_goals
   have gh:=hid (Qoa w8 r file L k c gI ⟨#[59]⟩)
   have Mm:=hid (gC.out.trans (gn.mono (S:=(· = r)) (fun _ _ e=>e.elim)) (fun _ _ e=>e))
   have GR:=hid gI
   clear gI gn
   go_wp2_with fail
   refine(by exact gh.out:Calls _ _ _ _ _).mono ?_
   rintro e w9 ⟨rfl,rfl⟩
   go_wp2_with fail
   refine bodyPost_ret (results_none rfl _ _ _) rfl ?_
   refine⟨rfl,Mm.out.below HH.out.size (fun b hb e=>by have:=HH.out.low;omega),?_⟩
   rw[show Qhd L 4 1 [] QQb i=_ from Qrf Ma.out.symm]
   exact GR.out
set_option maxRecDepth 100000 in
theorem Qng(w:World)(r base:Nat)(file:Int)(L:List Tok)(lv ov:Value)(i:Nat)(D:List Qra)(h:QZa w r base file L lv ov i D)(dp:Nat)(K9:(dp:Int)≤1000000)(hk:(tkN L i).kind=7)(h1:isK L i 7 [100,101,108,101,116,101,45,112,114,111,112,101,114,116,121]=false)(h2:isK L i 7 [100,101,108,101,116,101,45,110,111,100,101]=true)(ke:D.length≤2*i) :
 Calls Tryz.prog 109 #[.pointer (some ⟨r,0,none⟩),.int .i64 (dp:Int)] w (QVb r base file L lv D (Qhd L 5 1 [] QUa i) w):=by
 obtain⟨c0,c1,c2,c3,_,_,_,f1,f2,f3,_,_,_,cl⟩:=h.cells
 obtain⟨n1,n2⟩:=h.num
 have Hu:=fun wx hx=>QMb wx r base file L lv ov i D hx 7 [100,101,108,101,116,101,45,112,114,111,112,101,114,116,121] (by decide)
 have Gt:=hid (fun wx hx=>Qvh wx r base file L lv ov (i+1) D hx 1 (by decide))
 have gP:=hid (h.ok.next h.lt (by rw[hk];decide))
 have gf:=fun wx hx=>QMb wx r base file L lv ov i D hx 7 [100,101,108,101,116,101,45,110,111,100,101] (by decide)
 rw[h1]at Hu
 rw[h2]at gf
 have mM:=hid gf
 have Kg:=hid Hu
 have HF:=hid (fun wx hx=>QCb wx r base file L lv ov i D hx 6 (by decide))
 have HH:=hid h
 obtain⟨g,cap,rfl,hg,d0,d1,d2,d3,d4,d5⟩:=h.toks.at h.lt
 have gl:g<w.heap.size:=World.block_lt_of_cell? w _ d0
 rw[hk]at d0
 obtain⟨tl,gm⟩:∃t,t=(tkN L i).line:=⟨_,rfl⟩
 obtain⟨tc,gQ⟩:∃t,t=(tkN L i).col:=⟨_,rfl⟩
 rw[←gm]at d4
 rw[←gQ]at d5
 have Kk:=hid gm
 have Kj:=hid gQ
 clear gm gQ
 have hN:=Qca.new w #[.int .i64 0,.int .i64 0,.int .i64 0] 27
 have Hk:Below w.heap.size w (w.alloc (.cells #[.int .i64 0,.int .i64 0,.int .i64 0] 27)):=(Below.refl _ _).alloc (Nat.le_refl _) _
 have c0':=(Hk.cell cl).trans c0
 have c1':=(Hk.cell cl).trans c1
 have d3':=(Hk.cell gl).trans d3
 have d4':=(Hk.cell gl).trans d4
 have d5':=(Hk.cell gl).trans d5
 obtain⟨m0,m1,m2,mf0,mf1,mf2,ml⟩:=three hN
 have hM:=(Qca.new w #[.int .i64 file,.int .i64 tl,.int .i64 tc] 27).drew
 have Hc:Qaa (fun _=>False) w (w.alloc (.cells #[.int .i64 file,.int .i64 tl,.int .i64 tc] 27)).drew:=((Qaa.refl _ w).alloc _).drew
 have h3:=h.keeps Hc
 obtain⟨x0,x1,x2,_,_,_,xl⟩:=three hM
 obtain⟨y0,y1,_,y3,_,_,_,z1,_,z3,_,_,_,yl⟩:=h3.cells
 have e0:=(Hc.cell (p:=⟨g,i*6,none⟩) gl (fun e=>e)).trans d0
 have gl3:=Nat.lt_of_lt_of_le gl Hc.size
 have H3:=hid h3
 have Hy:=hid Hc
 have HM:=hid hM
 clear h hk h1 h2 Hu gf hN Hk hM Hc h3
 go_enter Tryz.func109,Tryz.ntmps109
 go_wp2_with fail
 go_region
 generalize (w.alloc (.cells #[.int .i64 file,.int .i64 tl,.int .i64 tc] 27)).drew=w3 at *
 go_wp2_with fail
 go_quiet (fail)
 go_wp2_with fail
 refine(by exact Kg.out _ (H3.out.keeps (Qda _ _)):Calls _ _ _ _ _).mono ?_
 rintro e w40 ⟨rfl,GB⟩
 have gi:=hid ((Qda w3 _).trans GB (fun _ _ e=>e))
 clear GB
 go_wp2_with fail
 refine(by exact mM.out _ (H3.out.keeps gi.out):Calls _ _ _ _ _).mono ?_
 rintro e w4 ⟨rfl,Hr⟩
 have gN:=hid (gi.out.trans Hr (fun _ _ e=>e))
 clear Hr
 have h4:=H3.out.keeps gN.out
 have H4:=hid h4
 obtain⟨_,b1,_,b3,_,_,_,a1,_,_,_,_,_,bl⟩:=h4.cells
 have KM:=hid (HM.out.keeps gN.out (fun e=>e))
 have MI:=hid ((Hy.out.trans gN.out (fun _ _ e=>e)).mono (S:=(· = r)) (fun _ _ e=>e.elim))
 clear h4
 go_wp2_with fail
 obtain⟨gW,gE⟩:=H4.out.step gP.out
 have Mt:=KM.out.keeps gE (by omega)
 obtain⟨p0,p1,p2,_,_,_,pl⟩:=three Mt
 have H5:=hid gW
 have Mn:=hid Mt
 have JF:=hid (MI.out.trans gE (fun _ _ e=>e))
 generalize w4.setCell ⟨r,1,none⟩ (.int .i64 ((i:Int)+1))=w5 at *
 clear gW gE Mt b1 b3 a1 bl
 obtain⟨T,hT⟩:∃T,T=Qha L 1 (QJa 1) (i+1):=⟨_,rfl⟩
 rw[←hT]at Gt
 have Ma:=hid hT
 clear hT
 cases T with
 | ok j=>
  have KC:=hid (fun wx ovx (hx:QZa wx r base file L (.slice (some ⟨g,0,none⟩) L.length cap) ovx j D) (X:ByteArray) (hj:i+1≤j)=>Qmb wx r base file L (.slice (some ⟨g,0,none⟩) L.length cap) ovx j D ⟨5,⟨#[]⟩,X,[],tl,tc⟩ (.slice none 0 0) hx (Qia.none _ _) (by omega))
  have Gf:j=i+2:=Q2b Ma.out.symm
  have GG:w.heap.size≠r:=by omega
  go_region_with (first | (go_at_call 65;refine(by exact Gt.out _ (by exact H5.out.keeps ((Qaa.refl _ _).drew)):Calls _ _ _ _ _).mono ?_;rintro e w6 ⟨Hw,rfl,G9⟩;have KB:=hid G9;have gA:=(((Qaa.refl (fun _=>False) w5).drew).mono (S:=(· = r)) (fun _ _ e=>e.elim)).trans Hw (fun _ _ e=>e);have KN:=Mn.out.keeps gA GG;obtain⟨q0,q1,q2,_,_,_,ql⟩:=three KN;have gC:=hid (JF.out.trans gA (fun _ _ e=>e));clear G9 Hw gA KN) | (go_at_call 64;refine(by exact KC.out _ _ KB.out _ (by omega):Calls _ _ _ _ _).mono ?_;rintro e w8 ⟨rfl,ov8,gI,GO⟩))
  all_goals
   have gh:=hid (Qob w8 r base file L _ ov8 j _ gI [59] (by decide))
   have GW:=hid GO
   clear gI GO
   go_wp2_with fail
   refine(by exact gh.out:Calls _ _ _ _ _).mono ?_
   rintro e w9 ⟨rfl,GP,t1,t2⟩
   have JN:=hid (And.intro t1 t2)
   have MU:=hid GP
   clear GP t1 t2
   go_wp2_with fail
   refine bodyPost_ret (results_none rfl _ _ _) rfl ?_
   have gB:∀b,b<base→¬b=r:=fun b hb e=>by have:=HH.out.low;omega
   have gq:=((gC.out.below HH.out.size gB).trans GW.out).trans (MU.out.below (Nat.le_trans HH.out.size (Nat.le_trans gC.out.size GW.out.size)) gB)
   refine⟨rfl,gq,?_⟩
   cases hg:isK L j 4 [59]with
   | true=>
    rw[show Qhd L 5 1 [] QUa i=_ from Q3g Ma.out.symm hg]
    refine⟨ov8,?_,by simp;omega⟩
    have h9:=JN.out.1 hg
    rw[Kk.out,Kj.out]at h9
    exact h9
   | false=>
    rw[show Qhd L 5 1 [] QUa i=_ from Qqf Ma.out.symm hg]
    exact JN.out.2 hg
 | error q=>
  obtain⟨k,c⟩:=q
  have GG:w.heap.size≠r:=by omega
  go_region_with (first | (go_at_call 65;refine(by exact Gt.out _ (by exact H5.out.keeps ((Qaa.refl _ _).drew)):Calls _ _ _ _ _).mono ?_;rintro e w6 ⟨Hw,rfl,G9⟩;have KB:=hid G9;have gA:=(((Qaa.refl (fun _=>False) w5).drew).mono (S:=(· = r)) (fun _ _ e=>e.elim)).trans Hw (fun _ _ e=>e);have KN:=Mn.out.keeps gA GG;obtain⟨q0,q1,q2,_,_,_,ql⟩:=three KN;have gC:=hid (JF.out.trans gA (fun _ _ e=>e));clear G9 Hw gA KN) | (go_at_call 64;refine(by exact Q3a _ r file L k c KB.out _ _ _ _ _ _ _ _ _:Calls _ _ _ _ _).mono ?_;rintro e w8 ⟨rfl,gI,gn⟩))
  all_goals
   have gh:=hid (Qoa w8 r file L k c gI ⟨#[59]⟩)
   have Mm:=hid (gC.out.trans (gn.mono (S:=(· = r)) (fun _ _ e=>e.elim)) (fun _ _ e=>e))
   have GR:=hid gI
   clear gI gn
   go_wp2_with fail
   refine(by exact gh.out:Calls _ _ _ _ _).mono ?_
   rintro e w9 ⟨rfl,rfl⟩
   go_wp2_with fail
   refine bodyPost_ret (results_none rfl _ _ _) rfl ?_
   refine⟨rfl,Mm.out.below HH.out.size (fun b hb e=>by have:=HH.out.low;omega),?_⟩
   rw[show Qhd L 5 1 [] QUa i=_ from Qrf Ma.out.symm]
   exact GR.out
theorem Qug(n:Nat)(w:World)(r base:Nat)(file:Int)(L:List Tok)(lv ov:Value)(i:Nat)(D:List Qra)(h:QZa w r base file L lv ov i D)(dp:Nat)(K9:(dp:Int)≤1000000)(hk:(tkN L i).kind=7)(ke:D.length≤2*i) :
 Calls Tryz.prog 109 #[.pointer (some ⟨r,0,none⟩),.int .i64 (dp:Int)] w (QVb r base file L lv D (Q7a L (n+1) (.member dp) i) w):=by
 have e:Q7a L (n+1) (.member dp) i=if isK L i 7 [100,101,108,101,116,101,45,112,114,111,112,101,114,116,121]=true then Qhd L 4 1 [] QQb i
  else if isK L i 7 [100,101,108,101,116,101,45,110,111,100,101]=true then Qhd L 5 1 [] QUa i
  else .error (i,6):=by
  rw[Q7a,if_neg (by rw[hk];decide),if_neg (by rw[hk];decide)]
 rw[e]
 cases h1:isK L i 7 [100,101,108,101,116,101,45,112,114,111,112,101,114,116,121]with
 | true=>
  rw[if_pos rfl]
  exact Qog w r base file L lv ov i D h dp K9 hk h1 ke
 | false=>
  rw[if_neg Bool.false_ne_true]
  cases h2:isK L i 7 [100,101,108,101,116,101,45,110,111,100,101]with
  | true=>
   rw[if_pos rfl]
   exact Qng w r base file L lv ov i D h dp K9 hk h1 h2 ke
  | false=>
   rw[if_neg Bool.false_ne_true]
   exact Qtg w r base file L lv ov i D h dp K9 hk h1 h2
def B4C(r base:Nat)(file:Int)(L:List Tok)(lv:Value)(n:Nat):Prop:=∀(w:World) (ov:Value) (i:Nat) (D:List Qra) (d:Qra) (dp:Nat),QZa w r base file L lv ov i (D++[d])→D.length+1≤2*i→3*(L.length-i)≤n→dp≤100→
 Calls Tryz.prog 66 #[.pointer (some ⟨r,0,none⟩),.int .i64 (dp:Int)] w (QVb r base file L lv D (Q7a L n (.body d dp) i) w)
def M4C(r base:Nat)(file:Int)(L:List Tok)(lv:Value)(n:Nat):Prop:=∀(w:World) (ov:Value) (i:Nat) (D:List Qra) (dp:Nat),QZa w r base file L lv ov i D→D.length≤2*i→3*(L.length-i)≤n→dp≤50→
 Calls Tryz.prog 109 #[.pointer (some ⟨r,0,none⟩),.int .i64 (dp:Int)] w (QVb r base file L lv D (Q7a L n (.member dp) i) w)
set_option maxRecDepth 100000 in
theorem QVo(r base:Nat)(file:Int)(L:List Tok)(lv:Value)(n:Nat)(hM:∀m,m≤n→M4C r base file L lv m):B4C r base file L lv (n+1):=by
 intro w ov i D d dp h ke hn K9
 have oE:=hid hM
 obtain⟨c0,c1,c2,c3,_,_,_,f1,f2,f3,_,_,_,cl⟩:=h.cells
 obtain⟨n1,n2⟩:=h.num
 have mV:=fun wx hx=>QMb wx r base file L lv ov i (D++[d]) hx 4 [123] (by decide)
 have gh:=hid (fun wx hx=>Qob wx r base file L lv ov i (D++[d]) hx [123] (by decide))
 have HF:=hid (fun wx hx=>QCb wx r base file L lv ov i (D++[d]) hx 3 (by decide))
 have HH:=hid h
 have ei:(dp:Int)≤100:=by omega
 have i7:(0:Int)≤(dp:Int):=by omega
 obtain⟨RR,Hd⟩:∃R,Q7a L (n+1) (.body d dp) i=R:=⟨_,rfl⟩
 rw[Hd]
 rw[Q7a]at Hd
 have gB:∀b,b<base→¬b=r:=fun b hb e=>by have:=h.low;omega
 have jg:=h.lt
 cases hy:isK L i 4 [123]with
 | true=>
  rw[hy,if_pos rfl]at Hd
  rw[hy]at mV
  have KS:=hid mV
  have gu:=h.ok.next h.lt (by rw[(Qcc (by decide) hy).1];decide)
  have HY:=hid hy
  by_cases h8:8<dp
  ·rw[if_pos h8]at Hd
   have pj:(8:Int)<(dp:Int):=by omega
   have KH:=hid Hd
   clear h hy mV hM Hd h8
   go_enter Tryz.func66,Tryz.ntmps66
   go_wp2_with fail
   refine(by exact KS.out _ HH.out:Calls _ _ _ _ _).mono ?_
   rintro e w1 ⟨rfl,Ht⟩
   have Gg:=hid Ht
   clear Ht
   go_wp2_with fail
   refine(by exact HF.out _ (HH.out.keeps Gg.out):Calls _ _ _ _ _).mono ?_
   rintro e w2 ⟨rfl,Hi,Ho⟩
   have HB:=hid Hi
   have Gs:=hid ((Gg.out.mono (S:=(· = r)) (fun _ _ e=>e.elim)).trans Ho (fun _ _ e=>e))
   obtain⟨kX,lv',x',ov',hH⟩:=id Hi
   have b3:=hH.cell 3
   have bl:=hH.lt
   have Gw:=hid (fun s=>Qoa w2 r file L i 3 HB.out s)
   clear Hi Ho hH kX
   go_wp2_with fail
   refine(by exact Gw.out ⟨#[123]⟩:Calls _ _ _ _ _).mono ?_
   rintro e w3 ⟨rfl,rfl⟩
   go_wp2_with fail
   go_loopg [] 1 (fun f wr=>w2=wr)
   case atStart=>rfl
   case round=>
    obtain rfl:=hrel
    go_wp2_with fail
    refine(by exact Gw.out ⟨#[125]⟩:Calls _ _ _ _ _).mono ?_
    rintro e w4 ⟨rfl,rfl⟩
    go_wp2_with fail
    refine bodyPost_ret (results_none rfl _ _ _) rfl ?_
    exact⟨rfl,Gs.out.below HH.out.size gB,by rw[←KH.out];exact HB.out⟩
  ·rw[if_neg h8]at Hd
   have pj:¬(8:Int)<(dp:Int):=by omega
   have tG:decide ((8:Int)<(dp:Int))=false:=by simp;omega
   have ud:n+1≤n+1:=Nat.le_refl _
   have KH:=hid Hd
   clear h hy mV hM Hd h8
   go_enter Tryz.func66,Tryz.ntmps66
   go_wp2_with fail
   refine(by exact KS.out _ HH.out:Calls _ _ _ _ _).mono ?_
   rintro e w1 ⟨rfl,Ht⟩
   have Gg:=hid Ht
   clear Ht
   go_wp2_with fail
   refine(by exact gh.out _ (HH.out.keeps Gg.out):Calls _ _ _ _ _).mono ?_
   rintro e w2 ⟨rfl,Ho,ht,_⟩
   have mT:=hid (ht HY.out)
   have GI:=hid (((Gg.out.mono (S:=(· = r)) (fun _ _ e=>e.elim)).trans Ho (fun _ _ e=>e)).below HH.out.size gB)
   clear Ho ht
   go_wp2_with fail
   go_loopg [] n (fun f wr=>Hid (Below base w wr)∧((∃(j:Nat) (acc:List Qra) (ov':Value),Hid (Q7a L f (.mems dp acc) j=RR)∧Hid (3*(L.length-j)+1≤f∧f≤n∧D.length+acc.length≤2*j∧j<L.length)∧Hid (QZa wr r base file L lv ov' j (D++acc)))∨(∃k c,Hid (RR = .error (k,c))∧Hid (Qyb wr r file L k c))))
   case atStart=>exact⟨GI,.inl ⟨i+1,[d],ov,KH,hid ⟨by omega,Nat.le_refl _,by simp;omega,gu⟩,mT⟩⟩
   case round=>
    obtain⟨HB,⟨j,acc,ov',HS,HN,HA⟩|⟨k,c,HE,KE⟩⟩:=hrel
    ·obtain⟨f,hf⟩:∃f,gk=f+1:=⟨gk-1,by have:=HN.out;omega⟩
     have hS:=HS.out
     rw[hf,Q7a]at hS
     have hA:=HA.out
     obtain⟨a0,a1,a2,a3,_,_,_,g1,g2,g3,_,_,_,al⟩:=hA.cells
     obtain⟨m1,m2⟩:=hA.num
     have mV:=QMb wr r base file L lv ov' j _ hA 4 [125] (by decide)
     have Hx:=hid gB
     cases hk:isK L j 4 [125]with
     | true=>
      rw[hk,if_pos rfl]at hS
      rw[hk]at mV
      have KF:=hid mV
      have HK:=hid hk
      have Gr:=hid hS
      obtain⟨tl,gm⟩:∃t,t=(tkN L j).line:=⟨_,rfl⟩
      obtain⟨tc,gQ⟩:∃t,t=(tkN L j).col:=⟨_,rfl⟩
      have Kk:=hid gm
      have Kj:=hid gQ
      clear hA mV hk hS gm gQ gB
      go_wp2_with fail
      refine(by exact KF.out:Calls _ _ _ _ _).mono ?_
      rintro e w5 ⟨rfl,Hs⟩
      have G8:=HA.out.keeps Hs
      have Mk:=hid G8
      have jl:=hid (HB.out.trans ((Hs.mono (S:=(· = r)) (fun _ _ e=>e.elim)).below HA.out.size Hx.out))
      obtain⟨x0,x1,x2,x3,_,_,_,y1,y2,y3,_,_,_,xl⟩:=G8.cells
      obtain⟨g,cap,rfl,hg,d0,d1,d2,d3,d4,d5⟩:=G8.toks.at G8.lt
      have gl:g<w5.heap.size:=World.block_lt_of_cell? w5 _ d0
      rw[←Kk.out]at d4
      rw[←Kj.out]at d5
      have KC:=hid (fun wx hx=>Qmb wx r base file L (.slice (some ⟨g,0,none⟩) L.length cap) ov' j (D++acc) ⟨2,⟨#[]⟩,⟨#[]⟩,[],tl,tc⟩ (.slice none 0 0) hx (Qia.none _ _) (by have:=HN.out;simp;omega))
      clear G8 Hs
      go_wp2_with fail
      go_region_with ((go_at_call 64;refine(by exact KC.out _ (Mk.out.keeps ((Qaa.refl _ _).drew)):Calls _ _ _ _ _).mono ?_;rintro e w6 ⟨rfl,ov6,G9,K8⟩))
      all_goals
       have oR:=hid (Qob w6 r base file L _ ov6 j _ G9 [125] (by decide))
       have ba:=hid K8
       have tf:=hid G9.size
       clear G9 K8
       go_wp2_with fail
       refine(by exact oR.out:Calls _ _ _ _ _).mono ?_
       rintro e w7 ⟨rfl,Gd,sE,_⟩
       have MP:=hid (sE HK.out)
       have jX:=hid ((jl.out.trans ((((Qaa.refl (fun _=>False) w5).drew).below Mk.out.size (fun _ _ e=>e)).trans ba.out)).trans (Gd.below tf.out Hx.out))
       clear Gd sE
       go_wp2_with fail
       refine bodyPost_ret (results_none rfl _ _ _) rfl ?_
       refine⟨rfl,jX.out,?_⟩
       rw[←Gr.out]
       refine⟨ov6,?_,by have:=HN.out;simp;omega⟩
       have h9:=MP.out
       rw[List.append_assoc,Kk.out,Kj.out]at h9
       exact h9
     | false=>
      rw[hk,if_neg Bool.false_ne_true]at hS
      rw[hk]at mV
      have KF:=hid mV
      have qQ:=hid (fun wx hx=>oE.out f (by have:=HN.out;omega) wx ov' j (D++acc) dp hx (by have:=HN.out;rw[List.length_append];omega) (by have:=HN.out;omega) (by have:=ei;omega))
      have jP:=hid hS
      have nk:=hid (fun m ds h=>((Qeg L f).2.2.1 dp j m ds h).1)
      obtain⟨MR,rI⟩:∃m,m=Q7a L f (.member dp) j:=⟨_,rfl⟩
      rw[←rI]at qQ jP nk
      have oj:=hid hf
      clear hA mV hk hS gB rI hf HS
      go_wp2_with fail
      refine(by exact KF.out:Calls _ _ _ _ _).mono ?_
      rintro e w5 ⟨rfl,Hs⟩
      have Mk:=hid (HA.out.keeps Hs)
      have jl:=hid (HB.out.trans ((Hs.mono (S:=(· = r)) (fun _ _ e=>e.elim)).below HA.out.size Hx.out))
      clear Hs
      go_wp2_with fail
      refine(by exact qQ.out _ Mk.out:Calls _ _ _ _ _).mono ?_
      rintro e w6 ⟨rfl,K8,fF⟩
      have ba:=hid (jl.out.trans K8)
      clear K8
      cases MR with
      | ok q=>
       obtain⟨m,ds⟩:=q
       obtain⟨ov6,G9,iX⟩:=fF
       have KB:=hid G9
       have od:=hid iX
       have Hj:=nk.out _ _ rfl
       have KU:=hid jP.out
       clear G9 iX
       go_wp2_with fail
       go_roundg f
       case measure=>have:=oj.out;omega
       case rel=>exact⟨ba,.inl ⟨m,acc++ds,ov6,KU,hid (by have:=HN.out;have:=oj.out;have h3:=od.out;rw[List.length_append]at h3 ⊢;have:=KB.out.lt;omega),hid (by rw[←List.append_assoc];exact KB.out)⟩⟩
      | error q=>
       obtain⟨m,c⟩:=q
       have KE:=hid fF
       have KU:=hid jP.out
       clear fF
       go_wp2_with fail
       go_roundg f
       case measure=>have:=oj.out;omega
       case rel=>exact⟨ba,.inr ⟨m,c,hid KU.out.symm,KE⟩⟩
    ·obtain⟨kX,lv',x',ov',hH⟩:=id KE.out
     have b3:=hH.cell 3
     have bl:=hH.lt
     have fz:(c == 0)=false:=by rw[beq_eq_false_iff_ne];exact kX
     have Gw:=hid (fun s=>Qoa wr r file L k c KE.out s)
     clear hH kX
     go_wp2_with fail
     refine(by exact Gw.out ⟨#[125]⟩:Calls _ _ _ _ _).mono ?_
     rintro e w4 ⟨rfl,rfl⟩
     go_wp2_with fail
     refine bodyPost_ret (results_none rfl _ _ _) rfl ?_
     exact⟨rfl,HB.out,by rw[HE.out];exact KE.out⟩
 | false=>
  rw[hy,if_neg Bool.false_ne_true]at Hd
  rw[hy]at mV
  have KS:=hid mV
  have HY:=hid hy
  have KH:=hid Hd
  clear h hy mV hM Hd
  go_enter Tryz.func66,Tryz.ntmps66
  go_wp2_with fail
  refine(by exact KS.out _ HH.out:Calls _ _ _ _ _).mono ?_
  rintro e w1 ⟨rfl,Ht⟩
  have Gg:=hid Ht
  clear Ht
  go_wp2_with fail
  refine(by exact gh.out _ (HH.out.keeps Gg.out):Calls _ _ _ _ _).mono ?_
  rintro e w2 ⟨rfl,Ho,_,ht⟩
  have HB:=hid (ht HY.out)
  have Gs:=hid ((Gg.out.mono (S:=(· = r)) (fun _ _ e=>e.elim)).trans Ho (fun _ _ e=>e))
  obtain⟨kX,lv',x',ov',hH⟩:=id HB.out
  have b3:=hH.cell 3
  have bl:=hH.lt
  have Gw:=hid (fun s=>Qoa w2 r file L i 6 HB.out s)
  clear Ho hH kX ht
  go_wp2_with fail
  go_loopg [] 1 (fun f wr=>w2=wr)
  case atStart=>rfl
  case round=>
   obtain rfl:=hrel
   go_wp2_with fail
   refine(by exact Gw.out ⟨#[125]⟩:Calls _ _ _ _ _).mono ?_
   rintro e w4 ⟨rfl,rfl⟩
   go_wp2_with fail
   refine bodyPost_ret (results_none rfl _ _ _) rfl ?_
   exact⟨rfl,Gs.out.below HH.out.size gB,by rw[←KH.out];exact HB.out⟩
def Qwb(w:World)(lo base:Nat)(v:Value)(ps:List QRa):Prop:=
 ∃vs:List Value,vs.length=ps.length∧w.ownsRow lo 75 3 v ps.length (Qza ps vs)∧∀k (h:k<ps.length) (h2:k<vs.length),Qea w base vs[k] ps[k].cells
section
variable{w w':World}{lo base:Nat}{v:Value}{ps:List QRa}
theorem Qwb.keeps{S:Nat→Prop}(h:Qwb w lo base v ps)(k:Qaa S w w')(ha:QNa w S):Qwb w' lo base v ps:=by
 obtain⟨vs,h1,h2,h3⟩:=h
 exact⟨vs,h1,Qba h2 k (Q8c h2 ha (.inr (.inl rfl))),fun j h h'=>(h3 j h h').keeps k ha⟩
theorem Qwb.row(h:Qwb w lo base v ps)(hb:base≤lo):Qia w base v ps:=by
 obtain⟨vs,h1,h2,h3⟩:=h
 exact⟨vs,h1,Qpd h2 hb,h3⟩
theorem Qwb.none(w:World)(lo base:Nat):Qwb w lo base (.slice none 0 0) []:=by
 obtain⟨vs,h1,h2,h3⟩:=Qia.none w lo
 exact⟨vs,h1,h2,fun k h=>by simp at h⟩
theorem Qwb.slice(h:Qwb w lo base v ps):∃a c,v = .slice a ps.length c:=by obtain⟨_,_,h,_⟩:=h;exact Qma h
end
theorem QUj(w:World)(r base:Nat)(file:Int)(L:List Tok)(lv ov:Value)(i:Nat)(D:List Qra)(h:QZa w r base file L lv ov i D) :
 Calls Tryz.prog 130 #[.pointer (some ⟨r,0,none⟩)] w (fun e w'=>∃(p:QRa) (ca:Option Addr) (cc:Nat),e = .returned (.agg #[.int .i64 p.kind,.slice ca p.cells.length cc,.string p.text])∧Qea w' base (.slice ca p.cells.length cc) p.cells∧Qaa (· = r) w w'∧match Qnb L i with
  | .ok (j,q)=>q=p∧QZa w' r base file L lv ov j D
  | .error (k,c)=>Qyb w' r file L k c):=by
 refine(QXo w r base file L lv ov i D h).mono ?_
 intro e w' ho
 unfold Qic at ho
 cases hc:Qnb L i with
 | ok q=>
  obtain⟨j,p⟩:=q
  rw[hc]at ho
  obtain⟨hk,cv,e1,e2,e3⟩:=ho
  obtain⟨ca,cc,rfl⟩:=Qma e2
  exact⟨p,ca,cc,e1,e2,hk,rfl,e3⟩
 | error q=>
  obtain⟨k,c⟩:=q
  rw[hc]at ho
  obtain⟨hk,p,cv,e1,e2,e3⟩:=ho
  obtain⟨ca,cc,rfl⟩:=Qma e2
  exact⟨p,ca,cc,e1,e2,hk,e3⟩
end Go.Proofs.YtofhcgbihonckaaGreat
