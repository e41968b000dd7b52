/- bringupref04: member at a label (printed by gr4v.py). -/
import Derived.Test.YtofhcgbihonckaaGreatY43
import Derived.Deep.DeepCutAuto
set_option linter.all false
set_option maxHeartbeats 8000000
namespace Go.Proofs.YtofhcgbihonckaaGreat
open Go.Lib (hid)
open Go.RowKit
set_option maxRecDepth 100000 in
theorem Qpg(n:Nat)(r base:Nat)(file:Int)(L:List Tok)(lv:Value)(w:World)(ov:Value)(i:Nat)(D:List Qra)(h:QZa w r base file L lv ov i D)(dp:Nat)(K9:dp≤50)(h5:(tkN L i).kind=5)(hB:B4C r base file L lv n)(hl:Qna (tkN L i).text=true)(h1:(tkN L (i+1)).kind=1)(ke:D.length≤2*i)(hn:3*(L.length-i)≤n+1) :
 Calls Tryz.prog 109 #[.pointer (some ⟨r,0,none⟩),.int .i64 (dp:Int)] w (QVb r base file L lv D (Qmc L (QFh (Qha L 1 QUa (i+1)) (Q7a L n (.body ⟨1,txN L i,txN L (i+1),[],(tkN L i).line,(tkN L i).col⟩ (dp+1)) (i+1+1)))) w):=by
 obtain⟨c0,c1,c2,c3,_,_,_,f1,f2,f3,_,_,_,cl⟩:=h.cells
 obtain⟨n1,n2⟩:=h.num
 have HH:=hid h
 have gP:=hid (h.ok.next h.lt (by rw[h5];decide))
 obtain⟨g,cap,rfl,hg,d0,d1,d2,d3,d4,d5⟩:=h.toks.at h.lt
 have gl:g<w.heap.size:=World.block_lt_of_cell? w _ d0
 rw[h5]at d0
 obtain⟨tl,gm⟩:∃t,t=(tkN L i).line:=⟨_,rfl⟩
 obtain⟨tc,gQ⟩:∃t,t=(tkN L i).col:=⟨_,rfl⟩
 rw[←gm]at d4
 rw[←gQ]at d5
 have Kk:=hid gm
 have Kj:=hid gQ
 clear gm gQ
 have hN:=Qca.new w #[.int .i64 0,.int .i64 0,.int .i64 0] 27
 have Hk:Below w.heap.size w (w.alloc (.cells #[.int .i64 0,.int .i64 0,.int .i64 0] 27)):=(Below.refl _ _).alloc (Nat.le_refl _) _
 have c0':=(Hk.cell cl).trans c0
 have c1':=(Hk.cell cl).trans c1
 have d3':=(Hk.cell gl).trans d3
 have d4':=(Hk.cell gl).trans d4
 have d5':=(Hk.cell gl).trans d5
 obtain⟨m0,m1,m2,mf0,mf1,mf2,ml⟩:=three hN
 have hM:=(Qca.new w #[.int .i64 file,.int .i64 tl,.int .i64 tc] 27).drew
 have Hc:Qaa (fun _=>False) w (w.alloc (.cells #[.int .i64 file,.int .i64 tl,.int .i64 tc] 27)).drew:=((Qaa.refl _ w).alloc _).drew
 have h3:=h.keeps Hc
 obtain⟨x0,x1,x2,_,_,_,xl⟩:=three hM
 obtain⟨y0,y1,_,y3,_,_,_,z1,_,z3,_,_,_,yl⟩:=h3.cells
 have e0:=(Hc.cell (p:=⟨g,i*6,none⟩) gl (fun e=>e)).trans d0
 have gl3:=Nat.lt_of_lt_of_le gl Hc.size
 have H3:=hid h3
 have Hy:=hid Hc
 have HM:=hid hM
 have K4:=hid (fun wx hx=>Q0b wx r base file L (.slice (some ⟨g,0,none⟩) L.length cap) ov i D hx 5 (by decide))
 rw[show Qha L 5 (QJa 3) i = .ok (i+1)from by unfold Qha;rw[if_pos h5];exact if_pos hl]at K4
 have J8:(dp:Int)≤50:=by omega
 have GG:w.heap.size≠r:=by omega
 have Hx:=hid (show ∀b,b<base→¬b=r from fun b hb e=>by have:=h.low;omega)
 have bi:=hid (h.ok.next gP.out (by rw[h1];decide))
 have Gt:=hid (fun wx hx=>Qvh wx r base file L (.slice (some ⟨g,0,none⟩) L.length cap) ov (i+1) D hx 1 (by decide))
 have lD:=hid (show((txN L i).toList == [])=false from by
  rw[beq_eq_false_iff_ne,ByteArray.toList_eq]
  intro e
  have e2:(tkN L i).text=[]:=by unfold txN at e;simpa using e
  rw[e2]at hl
  revert hl
  decide)
 obtain⟨LX,aV⟩:∃x,x=txN L i:=⟨_,rfl⟩
 unfold Q5a at K4
 rw[←aV]at K4 lD
 rw[←aV]
 obtain⟨BR,Ms⟩:∃R,R=Q7a L n (.body ⟨1,LX,txN L (i+1),[],(tkN L i).line,(tkN L i).col⟩ (dp+1)) (i+1+1):=⟨_,rfl⟩
 have KE:Hid (∀wx ovx,QZa wx r base file L (.slice (some ⟨g,0,none⟩) L.length cap) ovx (i+1+1) (D++[⟨1,LX,txN L (i+1),[],tl,tc⟩])→Calls Tryz.prog 66 #[.pointer (some ⟨r,0,none⟩),.int .i64 ((dp:Int)+1)] wx (QVb r base file L (.slice (some ⟨g,0,none⟩) L.length cap) D BR wx)):=hid (fun wx ovx hx=>by
  have h9:=hB wx ovx (i+1+1) D ⟨1,LX,txN L (i+1),[],tl,tc⟩ (dp+1) hx (by omega) (by omega) (by omega)
  rw[show((dp+1:Nat):Int)=(dp:Int)+1 from by omega,Kk.out,Kj.out,←Ms]at h9
  exact h9)
 rw[←Ms]
 obtain⟨T,hT⟩:∃T,T=Qha L 1 (QJa 1) (i+1):=⟨_,rfl⟩
 rw[←hT]at Gt
 have gX:Qha L 1 QUa (i+1)=T:=hT.symm
 rw[gX]
 have MT:=hid (show ∀j,T = .ok j→j=i+1+1 from fun j e=>Q2b (by rw[←hT];exact e))
 have jn:=hid (show D.length≤2*(i+1)from by omega)
 clear h h5 hl hN Hk hM Hc h3 Ms hT gX aV hB ke
 go_enter Tryz.func109,Tryz.ntmps109
 go_wp2_with fail
 go_region
 generalize (w.alloc (.cells #[.int .i64 file,.int .i64 tl,.int .i64 tc] 27)).drew=w3 at *
 clear c0 c1 c2 c3 d0 d1 d2 d3 d4 d5 c0' c1' d3' d4' d5' m0 m1 m2 mf0 mf1 mf2 ml gl cl f1 f2 f3
 go_wp2_with fail
 go_quiet (fail)
 go_wp2_with fail
 go_quiet (fail)
 go_wp2_with fail
 refine(by exact K4.out _ (by exact H3.out.keeps (Qda _ _)):Calls _ _ _ _ _).mono ?_
 rintro e w4 ⟨Hr,rfl,Ja⟩
 have m9:=hid Ja
 have jD:=((Qda w3 _).mono (S:=(· = r)) (fun _ _ e=>e.elim)).trans Hr (fun _ _ e=>e)
 have KM:=hid (HM.out.keeps jD GG)
 have gN:=hid ((Hy.out.mono (S:=(· = r)) (fun _ _ e=>e.elim)).trans jD (fun _ _ e=>e))
 obtain⟨b0,b1,_,b3,_,_,_,_,_,_,_,_,_,bl⟩:=Ja.cells
 obtain⟨g1,cap1,eg1,pQ,k0,_⟩:=Ja.toks.at Ja.lt
 cases eg1
 have kl:g<w4.heap.size:=World.block_lt_of_cell? w4 _ k0
 obtain⟨n3,n4⟩:=Ja.num
 rw[h1]at k0
 clear Ja Hr jD h1
 go_wp2_with fail
 go_quiet (fail)
 go_wp2_with fail
 generalize km:World.drewN w4 _=w5
 have Hs:Qaa (fun _=>False) w4 w5:=by rw[←km];exact Qda _ _
 have H5:=hid (m9.out.keeps Hs)
 have Mn:=hid (KM.out.keeps Hs (fun e=>e))
 have GS:=hid (gN.out.trans Hs (fun _ _ e=>e.elim))
 obtain⟨g',cap',eg,hg',q0,q1,q2,q3,q4,q5⟩:=H5.out.toks.at bi.out
 cases eg
 obtain⟨kd,Mf⟩:∃x,x=(tkN L (i+1+1)).kind:=⟨_,rfl⟩
 obtain⟨tx,Kd⟩:∃x,x=(tkN L (i+1+1)).text:=⟨_,rfl⟩
 rw[←Mf]at q0
 rw[←Kd]at q1
 clear Mf Kd
 have ql:g<w5.heap.size:=World.block_lt_of_cell? w5 _ q0
 obtain⟨b0,b1,_,b3,_,_,_,_,_,_,_,_,_,bl⟩:=H5.out.cells
 generalize (tkN L (i+1+1)).value=tv at *
 generalize (tkN L (i+1+1)).line=tl2 at *
 generalize (tkN L (i+1+1)).col=tc2 at *
 have Mv:=Qca.new w5 #[.int .i64 0,.string ⟨#[]⟩,.int .i64 0,.int .i64 0,.int .i64 0,.int .i64 0] 65
 have g9:Below w5.heap.size w5 (w5.alloc (.cells #[.int .i64 0,.string ⟨#[]⟩,.int .i64 0,.int .i64 0,.int .i64 0,.int .i64 0] 65)):=(Below.refl _ _).alloc (Nat.le_refl _) _
 have b0':=(g9.cell bl).trans b0
 have b1':=(g9.cell bl).trans b1
 have q0':=(g9.cell ql).trans q0
 have q1':=(g9.cell ql).trans q1
 have q2':=(g9.cell ql).trans q2
 have q3':=(g9.cell ql).trans q3
 have q4':=(g9.cell ql).trans q4
 have q5':=(g9.cell ql).trans q5
 obtain⟨g0,g1,g2,g3,g4,g5⟩:=QIb Mv
 obtain⟨o0,o1,o2,o3,o4,o5⟩:=Qfa Mv
 have Hj:=Mv.lt
 have Hw:Qaa (fun _=>False) w5 (w5.alloc (.cells #[.int .i64 kd,.string ⟨tx.toArray⟩,.int .i64 tv,.int .i64 file,.int .i64 tl2,.int .i64 tc2] 65)).drew:=((Qaa.refl _ w5).alloc _).drew
 have Mu:=(Qca.new w5 #[.int .i64 kd,.string ⟨tx.toArray⟩,.int .i64 tv,.int .i64 file,.int .i64 tl2,.int .i64 tc2] 65).drew
 obtain⟨u0,u1,_,_,_,_⟩:=Qfa Mu
 have ul:=Mu.lt
 have h6:=H5.out.keeps Hw
 have KG:=hid (Mn.out.keeps Hw (fun e=>e))
 have gC:=hid (GS.out.trans Hw (fun _ _ e=>e.elim))
 obtain⟨s0,s1,_,s3,_,_,_,r1,_,_,_,_,_,sl⟩:=h6.cells
 have H6:=hid h6
 have oF:=hid Mu
 have KR:IntKind.i64.wrap ((((i+1):Nat):Int)+1)=(((i+1):Nat):Int)+1:=IntWalk.i64_in _ (by omega)
 have mS:(0:Int)≤(((i+1):Nat):Int)+1:=by omega
 have kW:(((i+1):Nat):Int)+1<(L.length:Int):=by have:=bi.out;omega
 have M5:((((i+1):Nat):Int)+1).toNat=(i+1)+1:=by omega
 clear Mv g9 Hw Mu h6 Hs
 go_region
 generalize (w5.alloc (.cells #[.int .i64 kd,.string ⟨tx.toArray⟩,.int .i64 tv,.int .i64 file,.int .i64 tl2,.int .i64 tc2] 65)).drew=w6 at *
 clear KR mS kW M5 b0 b1 b3 bl b0' b1' q0 q1 q2 q3 q4 q5 q0' q1' q2' q3' q4' q5' g0 g1 g2 g3 g4 g5 o0 o1 o2 o3 o4 o5 Hj ql
 have hlne2:=lD.out
 go_upto_region 18 with fail
 obtain⟨p0,p1,p2,_,_,_,pl⟩:=three KG.out
 cases T with
 | ok j=>
  have Gf:=MT.out j rfl
  have KC:=hid (fun wx ovx (hx:QZa wx r base file L (.slice (some ⟨g,0,none⟩) L.length cap) ovx j D) (X:ByteArray)=>Qmb wx r base file L (.slice (some ⟨g,0,none⟩) L.length cap) ovx j D ⟨1,LX,X,[],tl,tc⟩ (.slice none 0 0) hx (Qia.none _ _) (by have:=jn.out;omega))
  go_region_with (first | (go_at_call 65;refine(by exact Gt.out _ (by exact H6.out.keeps ((Qaa.refl _ _).drew)):Calls _ _ _ _ _).mono ?_;rintro e w7 ⟨Gd,rfl,MX⟩;have MP:=hid MX;have GC:=(((Qaa.refl (fun _=>False) w6).drew).mono (S:=(· = r)) (fun _ _ e=>e.elim)).trans Gd (fun _ _ e=>e);have MW:=KG.out.keeps GC GG;obtain⟨v0,v1,v2,_,_,_,vl⟩:=three MW;have Ml:=hid (gC.out.trans GC (fun _ _ e=>e));clear MX Gd GC MW) | (go_at_call 64;refine(by exact KC.out _ _ MP.out _:Calls _ _ _ _ _).mono ?_;rintro e w8 ⟨rfl,ov8,gI,GO⟩))
  all_goals
   have JA:=hid (KE.out w8 ov8 (by rw[Gf]at gI;exact gI))
   have GW:=hid (((Ml.out.below HH.out.size Hx.out)).trans GO)
   clear gI GO
   go_wp2_with fail
   refine(by exact JA.out:Calls _ _ _ _ _).mono ?_
   rintro e w9 ⟨rfl,Gv,MF⟩
   have mK:=hid (GW.out.trans Gv)
   clear Gv
   cases BR with
   | ok q=>
    obtain⟨m,ds⟩:=q
    obtain⟨ov9,Mx,jR⟩:=MF
    have gh:=hid (Qob w9 r base file L _ ov9 m (D++ds) Mx [59] (by decide))
    have bd:=hid jR
    have bp:=hid Mx.size
    clear Mx jR
    go_wp2_with fail
    refine(by exact gh.out:Calls _ _ _ _ _).mono ?_
    rintro e w10 ⟨rfl,GJ,t1,t2⟩
    have Ki:=hid (And.intro t1 t2)
    have KD:=hid (mK.out.trans (GJ.below bp.out Hx.out))
    clear GJ t1 t2
    go_wp2_with fail
    refine bodyPost_ret (results_none rfl _ _ _) rfl ?_
    refine⟨rfl,KD.out,?_⟩
    cases hg:isK L m 4 [59]with
    | true=>
     rw[show Qmc L (QFh (.ok j) (.ok (m,ds)))=_ from Qpc hg]
     exact⟨ov9,Ki.out.1 hg,by have:=bd.out;omega⟩
    | false=>
     rw[show Qmc L (QFh (.ok j) (.ok (m,ds)))=_ from QXb hg]
     exact Ki.out.2 hg
   | error q=>
    obtain⟨k,c⟩:=q
    have Kf:=hid MF
    clear MF
    have Gw:=hid (Qoa w9 r file L k c Kf.out ⟨#[59]⟩)
    go_wp2_with fail
    refine(by exact Gw.out:Calls _ _ _ _ _).mono ?_
    rintro e w10 ⟨rfl,rfl⟩
    go_wp2_with fail
    refine bodyPost_ret (results_none rfl _ _ _) rfl ?_
    exact⟨rfl,mK.out,Kf.out⟩
 | error q=>
  obtain⟨k,c⟩:=q
  go_region_with (first | (go_at_call 65;refine(by exact Gt.out _ (by exact H6.out.keeps ((Qaa.refl _ _).drew)):Calls _ _ _ _ _).mono ?_;rintro e w7 ⟨Gd,rfl,MX⟩;have MP:=hid MX;have GC:=(((Qaa.refl (fun _=>False) w6).drew).mono (S:=(· = r)) (fun _ _ e=>e.elim)).trans Gd (fun _ _ e=>e);have MW:=KG.out.keeps GC GG;obtain⟨v0,v1,v2,_,_,_,vl⟩:=three MW;have Ml:=hid (gC.out.trans GC (fun _ _ e=>e));clear MX Gd GC MW) | (go_at_call 64;refine(by exact Q3a _ r file L k c MP.out _ _ _ _ _ _ _ _ _:Calls _ _ _ _ _).mono ?_;rintro e w8 ⟨rfl,gI,gn⟩))
  all_goals
   have KL:Hid (Calls Tryz.prog 66 #[.pointer (some ⟨r,0,none⟩),.int .i64 ((dp:Int)+1)] w8 (fun e w'=>e = .returned (.tuple #[])∧w8=w')):=hid (by
    have h9:=Qac w8 r file L k c gI (dp+1) (by omega)
    rw[show((dp+1:Nat):Int)=(dp:Int)+1 from by omega]at h9
    exact h9)
   have GW:=hid ((Ml.out.trans (gn.mono (S:=(· = r)) (fun _ _ e=>e.elim)) (fun _ _ e=>e)).below HH.out.size Hx.out)
   have GR:=hid gI
   clear gI gn
   go_wp2_with fail
   refine(by exact KL.out:Calls _ _ _ _ _).mono ?_
   rintro e w9 ⟨rfl,rfl⟩
   have Gw:=hid (Qoa w8 r file L k c GR.out ⟨#[59]⟩)
   go_wp2_with fail
   refine(by exact Gw.out:Calls _ _ _ _ _).mono ?_
   rintro e w10 ⟨rfl,rfl⟩
   go_wp2_with fail
   refine bodyPost_ret (results_none rfl _ _ _) rfl ?_
   exact⟨rfl,GW.out,GR.out⟩
end Go.Proofs.YtofhcgbihonckaaGreat
