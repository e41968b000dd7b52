/- bringupref04: member at a label (printed by gr4v.py). -/
import Derived.Test.YtofhcgbihonckaaGreatY34
import Derived.Deep.DeepCutAuto
set_option linter.all false
set_option maxHeartbeats 8000000
namespace Go.Proofs.YtofhcgbihonckaaGreat
open Go.Lib (hid)
open Go.RowKit
set_option maxRecDepth 100000 in
theorem Qrg(r base:Nat)(file:Int)(L:List Tok)(lv:Value)(w:World)(ov:Value)(i:Nat)(D:List Qra)(h:QZa w r base file L lv ov i D)(dp:Nat)(K9:dp≤50)(h5:(tkN L i).kind=5)(hl:Qna (tkN L i).text=false) :
 Calls Tryz.prog 109 #[.pointer (some ⟨r,0,none⟩),.int .i64 (dp:Int)] w (QVb r base file L lv D (.error (i,1)) w):=by
 obtain⟨c0,c1,c2,c3,_,_,_,f1,f2,f3,_,_,_,cl⟩:=h.cells
 obtain⟨n1,n2⟩:=h.num
 have HH:=hid h
 have gP:=hid (h.ok.next h.lt (by rw[h5];decide))
 obtain⟨g,cap,rfl,hg,d0,d1,d2,d3,d4,d5⟩:=h.toks.at h.lt
 have gl:g<w.heap.size:=World.block_lt_of_cell? w _ d0
 rw[h5]at d0
 obtain⟨tl,gm⟩:∃t,t=(tkN L i).line:=⟨_,rfl⟩
 obtain⟨tc,gQ⟩:∃t,t=(tkN L i).col:=⟨_,rfl⟩
 rw[←gm]at d4
 rw[←gQ]at d5
 have Kk:=hid gm
 have Kj:=hid gQ
 clear gm gQ
 have hN:=Qca.new w #[.int .i64 0,.int .i64 0,.int .i64 0] 27
 have Hk:Below w.heap.size w (w.alloc (.cells #[.int .i64 0,.int .i64 0,.int .i64 0] 27)):=(Below.refl _ _).alloc (Nat.le_refl _) _
 have c0':=(Hk.cell cl).trans c0
 have c1':=(Hk.cell cl).trans c1
 have d3':=(Hk.cell gl).trans d3
 have d4':=(Hk.cell gl).trans d4
 have d5':=(Hk.cell gl).trans d5
 obtain⟨m0,m1,m2,mf0,mf1,mf2,ml⟩:=three hN
 have hM:=(Qca.new w #[.int .i64 file,.int .i64 tl,.int .i64 tc] 27).drew
 have Hc:Qaa (fun _=>False) w (w.alloc (.cells #[.int .i64 file,.int .i64 tl,.int .i64 tc] 27)).drew:=((Qaa.refl _ w).alloc _).drew
 have h3:=h.keeps Hc
 obtain⟨x0,x1,x2,_,_,_,xl⟩:=three hM
 obtain⟨y0,y1,_,y3,_,_,_,z1,_,z3,_,_,_,yl⟩:=h3.cells
 have e0:=(Hc.cell (p:=⟨g,i*6,none⟩) gl (fun e=>e)).trans d0
 have gl3:=Nat.lt_of_lt_of_le gl Hc.size
 have H3:=hid h3
 have Hy:=hid Hc
 have HM:=hid hM
 have K4:=hid (fun wx hx=>Q0b wx r base file L (.slice (some ⟨g,0,none⟩) L.length cap) ov i D hx 5 (by decide))
 rw[show Qha L 5 (QJa 3) i = .error (i,1)from by unfold Qha;rw[if_pos h5];exact if_neg (by show ¬Qna _=true;rw[hl];exact Bool.false_ne_true)]at K4
 have J8:(dp:Int)≤50:=by omega
 have GG:w.heap.size≠r:=by omega
 have Hx:=hid (show ∀b,b<base→¬b=r from fun b hb e=>by have:=h.low;omega)
 clear h h5 hl hN Hk hM Hc h3
 go_enter Tryz.func109,Tryz.ntmps109
 go_wp2_with fail
 go_region
 generalize (w.alloc (.cells #[.int .i64 file,.int .i64 tl,.int .i64 tc] 27)).drew=w3 at *
 clear c0 c1 c2 c3 d0 d1 d2 d3 d4 d5 c0' c1' d3' d4' d5' m0 m1 m2 mf0 mf1 mf2 ml gl cl f1 f2 f3
 go_wp2_with fail
 go_quiet (fail)
 go_wp2_with fail
 go_quiet (fail)
 go_wp2_with fail
 refine(by exact K4.out _ (by exact H3.out.keeps (Qda _ _)):Calls _ _ _ _ _).mono ?_
 rintro e w4 ⟨Hr,rfl,Kb⟩
 have jk:=hid Kb
 have gN:=hid (((Hy.out.trans (Qda _ _) (fun _ _ e=>e)).mono (S:=(· = r)) (fun _ _ e=>e.elim)).trans Hr (fun _ _ e=>e))
 obtain⟨kX,lv',x',ov',hH⟩:=id Kb
 have b3:=hH.cell 3
 have bl:=hH.lt
 clear Kb Hr hH kX
 go_wp2_with fail
 refine bodyPost_ret (results_none rfl _ _ _) rfl ?_
 exact⟨rfl,gN.out.below HH.out.size Hx.out,jk.out⟩
set_option maxRecDepth 100000 in
theorem Qqg(r base:Nat)(file:Int)(L:List Tok)(lv:Value)(w:World)(ov:Value)(i:Nat)(D:List Qra)(h:QZa w r base file L lv ov i D)(dp:Nat)(K9:dp≤50)(h5:(tkN L i).kind=5)(hl:Qna (tkN L i).text=true)(h1:(tkN L (i+1)).kind≠1) :
 Calls Tryz.prog 109 #[.pointer (some ⟨r,0,none⟩),.int .i64 (dp:Int)] w (QVb r base file L lv D (.error (i+1,6)) w):=by
 obtain⟨c0,c1,c2,c3,_,_,_,f1,f2,f3,_,_,_,cl⟩:=h.cells
 obtain⟨n1,n2⟩:=h.num
 have HH:=hid h
 have gP:=hid (h.ok.next h.lt (by rw[h5];decide))
 obtain⟨g,cap,rfl,hg,d0,d1,d2,d3,d4,d5⟩:=h.toks.at h.lt
 have gl:g<w.heap.size:=World.block_lt_of_cell? w _ d0
 rw[h5]at d0
 obtain⟨tl,gm⟩:∃t,t=(tkN L i).line:=⟨_,rfl⟩
 obtain⟨tc,gQ⟩:∃t,t=(tkN L i).col:=⟨_,rfl⟩
 rw[←gm]at d4
 rw[←gQ]at d5
 have Kk:=hid gm
 have Kj:=hid gQ
 clear gm gQ
 have hN:=Qca.new w #[.int .i64 0,.int .i64 0,.int .i64 0] 27
 have Hk:Below w.heap.size w (w.alloc (.cells #[.int .i64 0,.int .i64 0,.int .i64 0] 27)):=(Below.refl _ _).alloc (Nat.le_refl _) _
 have c0':=(Hk.cell cl).trans c0
 have c1':=(Hk.cell cl).trans c1
 have d3':=(Hk.cell gl).trans d3
 have d4':=(Hk.cell gl).trans d4
 have d5':=(Hk.cell gl).trans d5
 obtain⟨m0,m1,m2,mf0,mf1,mf2,ml⟩:=three hN
 have hM:=(Qca.new w #[.int .i64 file,.int .i64 tl,.int .i64 tc] 27).drew
 have Hc:Qaa (fun _=>False) w (w.alloc (.cells #[.int .i64 file,.int .i64 tl,.int .i64 tc] 27)).drew:=((Qaa.refl _ w).alloc _).drew
 have h3:=h.keeps Hc
 obtain⟨x0,x1,x2,_,_,_,xl⟩:=three hM
 obtain⟨y0,y1,_,y3,_,_,_,z1,_,z3,_,_,_,yl⟩:=h3.cells
 have e0:=(Hc.cell (p:=⟨g,i*6,none⟩) gl (fun e=>e)).trans d0
 have gl3:=Nat.lt_of_lt_of_le gl Hc.size
 have H3:=hid h3
 have Hy:=hid Hc
 have HM:=hid hM
 have K4:=hid (fun wx hx=>Q0b wx r base file L (.slice (some ⟨g,0,none⟩) L.length cap) ov i D hx 5 (by decide))
 rw[show Qha L 5 (QJa 3) i = .ok (i+1)from by unfold Qha;rw[if_pos h5];exact if_pos hl]at K4
 have J8:(dp:Int)≤50:=by omega
 have GG:w.heap.size≠r:=by omega
 have Hx:=hid (show ∀b,b<base→¬b=r from fun b hb e=>by have:=h.low;omega)
 have HF:=hid (fun wx hx=>QCb wx r base file L (.slice (some ⟨g,0,none⟩) L.length cap) ov (i+1) D hx 6 (by decide))
 have kA:((tkN L (i+1)).kind != 1)=true:=by rw[bne_iff_ne];exact h1
 clear h h5 hl hN Hk hM Hc h3 h1
 go_enter Tryz.func109,Tryz.ntmps109
 go_wp2_with fail
 go_region
 generalize (w.alloc (.cells #[.int .i64 file,.int .i64 tl,.int .i64 tc] 27)).drew=w3 at *
 clear c0 c1 c2 c3 d0 d1 d2 d3 d4 d5 c0' c1' d3' d4' d5' m0 m1 m2 mf0 mf1 mf2 ml gl cl f1 f2 f3
 go_wp2_with fail
 go_quiet (fail)
 go_wp2_with fail
 go_quiet (fail)
 go_wp2_with fail
 refine(by exact K4.out _ (by exact H3.out.keeps (Qda _ _)):Calls _ _ _ _ _).mono ?_
 rintro e w4 ⟨Hr,rfl,Ja⟩
 have m9:=hid Ja
 have jD:=((Qda w3 _).mono (S:=(· = r)) (fun _ _ e=>e.elim)).trans Hr (fun _ _ e=>e)
 have KM:=hid (HM.out.keeps jD GG)
 have gN:=hid ((Hy.out.mono (S:=(· = r)) (fun _ _ e=>e.elim)).trans jD (fun _ _ e=>e))
 obtain⟨b0,b1,_,b3,_,_,_,_,_,_,_,_,_,bl⟩:=Ja.cells
 obtain⟨g1,cap1,eg1,pQ,k0,_⟩:=Ja.toks.at Ja.lt
 cases eg1
 have kl:g<w4.heap.size:=World.block_lt_of_cell? w4 _ k0
 obtain⟨n3,n4⟩:=Ja.num
 generalize (tkN L (i+1)).kind=kd at *
 clear Ja Hr jD
 go_wp2_with fail
 go_quiet (fail)
 go_wp2_with fail
 refine(by exact HF.out _ (m9.out.keeps (Qda _ _)):Calls _ _ _ _ _).mono ?_
 rintro e w6 ⟨rfl,Hi,Hw⟩
 have ba:=hid Hi
 have gC:=hid ((gN.out.trans (Qda w4 _) (fun _ _ e=>e.elim)).trans Hw (fun _ _ e=>e))
 clear Hi Hw
 go_wp2_with fail
 refine bodyPost_ret (results_none rfl _ _ _) rfl ?_
 exact⟨rfl,gC.out.below HH.out.size Hx.out,ba.out⟩
end Go.Proofs.YtofhcgbihonckaaGreat
