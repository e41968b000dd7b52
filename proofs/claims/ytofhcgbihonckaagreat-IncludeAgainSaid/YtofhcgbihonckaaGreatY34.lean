/- bringupref04: member, a node without a label (printed by gr4s.py). -/
import Derived.Test.YtofhcgbihonckaaGreatY30
import Derived.Deep.RegionWith
import Derived.Deep.LoopGhost
import Derived.Deep.AppendLies
import Derived.Deep.RegionLaw
import Derived.Laws.AppendOwn
import Derived.Laws.OwnMore
set_option linter.all false
set_option maxHeartbeats 8000000
namespace Go.Proofs.YtofhcgbihonckaaGreat
open Go.Lib (hid)
open Go.RowKit
def QFh{α β:Type}(T:Rs α)(R:Rs β):Rs β:=match T with
 | .ok _=>R
 | .error e=>.error e
def Qmc(L:List Tok)(R:Rs (Nat × List Qra)):Rs (Nat × List Qra):=match R with
 | .error e=>.error e
 | .ok (m,ds)=>match Q1a L [59] m with
  | .error e=>.error e
  | .ok q=>.ok (q,ds)
theorem Qpc{L:List Tok}{m:Nat}{ds:List Qra}(hs:isK L m 4 [59]=true):Qmc L (.ok (m,ds)) = .ok (m+1,ds):=by
 have Hf:Q1a L [59] m = .ok (m+1):=by unfold Q1a;rw[if_pos hs]
 unfold Qmc
 simp only[Hf]
theorem QXb{L:List Tok}{m:Nat}{ds:List Qra}(hs:isK L m 4 [59]=false):Qmc L (.ok (m,ds)) = .error (m,6):=by
 have Hf:Q1a L [59] m = .error (m,6):=by unfold Q1a;rw[if_neg (by rw[hs];exact Bool.false_ne_true)]
 unfold Qmc
 simp only[Hf]
theorem Qee{L:List Tok}{n dp i:Nat}(h1:(tkN L i).kind=1):Q7a L (n+1) (.member dp) i=Qmc L (Q7a L n (.named dp) i):=by
 rw[Q7a,if_neg (by rw[h1];decide),if_pos h1]
 rfl
theorem Qpk{L:List Tok}{n dp i:Nat}(hb:isK L (i+1) 4 [123]=true):Q7a L (n+1) (.named dp) i=(if QUa (tkN L i).text=true then Q7a L n (.body ⟨1,⟨#[]⟩,txN L i,[],(tkN L i).line,(tkN L i).col⟩ (dp+1)) (i+1)else .error (i,1)):=by
 rw[Q7a,if_pos hb]
theorem Qei{L:List Tok}{n dp i:Nat}(h5:(tkN L i).kind=5):Q7a L (n+1) (.member dp) i=match Qha L 5 Qna i with
 | .error e=>.error e
 | .ok j=>match Qha L 1 QUa j with
  | .error e=>.error e
  | .ok k=>Qmc L (Q7a L n (.body ⟨1,txN L i,txN L j,[],(tkN L i).line,(tkN L i).col⟩ (dp+1)) k):=by
 rw[Q7a,if_pos h5]
 rfl
set_option maxRecDepth 100000 in
theorem Qsg(r base:Nat)(file:Int)(L:List Tok)(lv:Value)(n:Nat)(hB:B4C r base file L lv n)(w:World)(ov:Value)(i:Nat)(D:List Qra)(h:QZa w r base file L lv ov i D)(dp:Nat)(K9:dp≤50)(hk:(tkN L i).kind=1)(hb:isK L (i+1) 4 [123]=true)(ke:D.length≤2*i)(hn:3*(L.length-i)≤n+2) :
 Calls Tryz.prog 109 #[.pointer (some ⟨r,0,none⟩),.int .i64 (dp:Int)] w (QVb r base file L lv D (Q7a L (n+2) (.member dp) i) w):=by
 rw[Qee hk,Qpk hb]
 obtain⟨c0,c1,c2,c3,_,_,_,f1,f2,f3,_,_,_,cl⟩:=h.cells
 obtain⟨n1,n2⟩:=h.num
 have HH:=hid h
 have gP:=hid (h.ok.next h.lt (by rw[hk];decide))
 obtain⟨g,cap,rfl,hg,d0,d1,d2,d3,d4,d5⟩:=h.toks.at h.lt
 have gl:g<w.heap.size:=World.block_lt_of_cell? w _ d0
 rw[hk]at d0
 obtain⟨tl,gm⟩:∃t,t=(tkN L i).line:=⟨_,rfl⟩
 obtain⟨tc,gQ⟩:∃t,t=(tkN L i).col:=⟨_,rfl⟩
 rw[←gm]at d4
 rw[←gQ]at d5
 have Kk:=hid gm
 have Kj:=hid gQ
 clear gm gQ
 have hN:=Qca.new w #[.int .i64 0,.int .i64 0,.int .i64 0] 27
 have Hk:Below w.heap.size w (w.alloc (.cells #[.int .i64 0,.int .i64 0,.int .i64 0] 27)):=(Below.refl _ _).alloc (Nat.le_refl _) _
 have c0':=(Hk.cell cl).trans c0
 have c1':=(Hk.cell cl).trans c1
 have d3':=(Hk.cell gl).trans d3
 have d4':=(Hk.cell gl).trans d4
 have d5':=(Hk.cell gl).trans d5
 obtain⟨m0,m1,m2,mf0,mf1,mf2,ml⟩:=three hN
 have hM:=(Qca.new w #[.int .i64 file,.int .i64 tl,.int .i64 tc] 27).drew
 have Hc:Qaa (fun _=>False) w (w.alloc (.cells #[.int .i64 file,.int .i64 tl,.int .i64 tc] 27)).drew:=((Qaa.refl _ w).alloc _).drew
 have h3:=h.keeps Hc
 obtain⟨x0,x1,x2,_,_,_,xl⟩:=three hM
 obtain⟨y0,y1,_,y3,_,_,_,z1,_,z3,_,_,_,yl⟩:=h3.cells
 have e0:=(Hc.cell (p:=⟨g,i*6,none⟩) gl (fun e=>e)).trans d0
 have gl3:=Nat.lt_of_lt_of_le gl Hc.size
 have H3:=hid h3
 have Hy:=hid Hc
 have HM:=hid hM
 have Gt:=hid (fun wx hx=>Qvh wx r base file L (.slice (some ⟨g,0,none⟩) L.length cap) ov i D hx 1 (by decide))
 have HJ:=hid (Qcc (by decide) hb)
 obtain⟨BR,Ms⟩:∃R,R=Q7a L n (.body ⟨1,⟨#[]⟩,txN L i,[],(tkN L i).line,(tkN L i).col⟩ (dp+1)) (i+1):=⟨_,rfl⟩
 have KE:Hid (∀wx ovx,QZa wx r base file L (.slice (some ⟨g,0,none⟩) L.length cap) ovx (i+1) (D++[⟨1,⟨#[]⟩,txN L i,[],tl,tc⟩])→Calls Tryz.prog 66 #[.pointer (some ⟨r,0,none⟩),.int .i64 ((dp:Int)+1)] wx (QVb r base file L (.slice (some ⟨g,0,none⟩) L.length cap) D BR wx)):=hid (fun wx ovx hx=>by
  have h9:=hB wx ovx (i+1) D ⟨1,⟨#[]⟩,txN L i,[],tl,tc⟩ (dp+1) hx (by omega) (by omega) (by omega)
  rw[show((dp+1:Nat):Int)=(dp:Int)+1 from by omega,Kk.out,Kj.out,←Ms]at h9
  exact h9)
 have HT:=hid (show Qha L 1 (QJa 1) i=if QUa (tkN L i).text=true then .ok (i+1)else .error (i,1)from by unfold Qha;rw[if_pos hk];rfl)
 rw[←Ms]
 obtain⟨T,hT⟩:∃T,T=Qha L 1 (QJa 1) i:=⟨_,rfl⟩
 rw[←hT]at Gt HT
 have J8:(dp:Int)≤50:=by omega
 have Hd:(if QUa (tkN L i).text=true then BR else .error (i,1))=QFh T BR:=by
  rw[HT.out]
  split <;> rfl
 rw[Hd]
 have Gf:∀j,T = .ok j→j=i+1:=fun j e=>by
  have h9:=HT.out
  rw[e]at h9
  split at h9
  ·injection h9
  ·cases h9
 have MT:=hid Gf
 have jn:=hid ke
 have GG:w.heap.size≠r:=by omega
 have Hx:=hid (show ∀b,b<base→¬b=r from fun b hb e=>by have:=h.low;omega)
 clear h hk hb hB hN Hk hM Hc h3 hT HT Hd Ms Gf ke
 go_enter Tryz.func109,Tryz.ntmps109
 go_wp2_with fail
 go_region
 generalize (w.alloc (.cells #[.int .i64 file,.int .i64 tl,.int .i64 tc] 27)).drew=w3 at *
 clear c0 c1 c2 c3 d0 d1 d2 d3 d4 d5 c0' c1' d3' d4' d5' m0 m1 m2 mf0 mf1 mf2 ml gl cl f1 f2 f3
 go_wp2_with fail
 go_quiet (fail)
 go_wp2_with fail
 go_quiet (fail)
 go_wp2_with fail
 go_quiet (fail)
 go_wp2_with fail
 generalize km:World.drewN (World.drewN w3 _) _=w5
 have Hs:Qaa (fun _=>False) w3 w5:=by rw[←km];exact(Qda _ _).trans (Qda _ _) (fun _ _ e=>e)
 have H5:=hid (H3.out.keeps Hs)
 have Mn:=hid (HM.out.keeps Hs (fun e=>e))
 have GS:=hid (Hy.out.trans Hs (fun _ _ e=>e))
 obtain⟨g',cap',eg,hg',q0,q1,q2,q3,q4,q5⟩:=H5.out.toks.at gP.out
 cases eg
 rw[HJ.out.1]at q0
 rw[HJ.out.2]at q1
 have ql:g<w5.heap.size:=World.block_lt_of_cell? w5 _ q0
 obtain⟨b0,b1,_,b3,_,_,_,_,_,_,_,_,_,bl⟩:=H5.out.cells
 generalize (tkN L (i+1)).value=tv at *
 generalize (tkN L (i+1)).line=tl2 at *
 generalize (tkN L (i+1)).col=tc2 at *
 have Mv:=Qca.new w5 #[.int .i64 0,.string ⟨#[]⟩,.int .i64 0,.int .i64 0,.int .i64 0,.int .i64 0] 65
 have g9:Below w5.heap.size w5 (w5.alloc (.cells #[.int .i64 0,.string ⟨#[]⟩,.int .i64 0,.int .i64 0,.int .i64 0,.int .i64 0] 65)):=(Below.refl _ _).alloc (Nat.le_refl _) _
 have b0':=(g9.cell bl).trans b0
 have b1':=(g9.cell bl).trans b1
 have q0':=(g9.cell ql).trans q0
 have q1':=(g9.cell ql).trans q1
 have q2':=(g9.cell ql).trans q2
 have q3':=(g9.cell ql).trans q3
 have q4':=(g9.cell ql).trans q4
 have q5':=(g9.cell ql).trans q5
 obtain⟨g0,g1,g2,g3,g4,g5⟩:=QIb Mv
 obtain⟨o0,o1,o2,o3,o4,o5⟩:=Qfa Mv
 have Hj:=Mv.lt
 have Hw:Qaa (fun _=>False) w5 (w5.alloc (.cells #[.int .i64 4,.string ⟨#[123]⟩,.int .i64 tv,.int .i64 file,.int .i64 tl2,.int .i64 tc2] 65)).drew:=((Qaa.refl _ w5).alloc _).drew
 have Mu:=(Qca.new w5 #[.int .i64 4,.string ⟨#[123]⟩,.int .i64 tv,.int .i64 file,.int .i64 tl2,.int .i64 tc2] 65).drew
 obtain⟨u0,u1,_,_,_,_⟩:=Qfa Mu
 have ul:=Mu.lt
 have h6:=H5.out.keeps Hw
 have KG:=hid (Mn.out.keeps Hw (fun e=>e))
 have gC:=hid ((GS.out.trans Hw (fun _ _ e=>e)).mono (S:=(· = r)) (fun _ _ e=>e.elim))
 obtain⟨s0,s1,_,s3,_,_,_,r1,_,_,_,_,_,sl⟩:=h6.cells
 have H6:=hid h6
 have oF:=hid Mu
 have KR:IntKind.i64.wrap (((i:Nat):Int)+1)=((i:Nat):Int)+1:=IntWalk.i64_in _ (by omega)
 have mS:(0:Int)≤((i:Nat):Int)+1:=by omega
 have kW:((i:Nat):Int)+1<(L.length:Int):=by have:=gP.out;omega
 have M5:(((i:Nat):Int)+1).toNat=i+1:=by omega
 clear Mv g9 Hw Mu h6 Hs
 go_region
 generalize (w5.alloc (.cells #[.int .i64 4,.string ⟨#[123]⟩,.int .i64 tv,.int .i64 file,.int .i64 tl2,.int .i64 tc2] 65)).drew=w6 at *
 clear KR mS kW M5 b0 b1 b3 bl b0' b1' q0 q1 q2 q3 q4 q5 q0' q1' q2' q3' q4' q5' g0 g1 g2 g3 g4 g5 o0 o1 o2 o3 o4 o5 Hj ql
 go_wp2_with fail
 obtain⟨p0,p1,p2,_,_,_,pl⟩:=three KG.out
 cases T with
 | ok j=>
  have Gf:=MT.out j rfl
  have KC:=hid (fun wx ovx (hx:QZa wx r base file L (.slice (some ⟨g,0,none⟩) L.length cap) ovx j D) (X:ByteArray)=>Qmb wx r base file L (.slice (some ⟨g,0,none⟩) L.length cap) ovx j D ⟨1,⟨#[]⟩,X,[],tl,tc⟩ (.slice none 0 0) hx (Qia.none _ _) (by have:=jn.out;omega))
  go_region_with (first | (go_at_call 65;refine(by exact Gt.out _ (by exact H6.out.keeps ((Qaa.refl _ _).drew)):Calls _ _ _ _ _).mono ?_;rintro e w7 ⟨Gd,rfl,MX⟩;have MP:=hid MX;have GC:=(((Qaa.refl (fun _=>False) w6).drew).mono (S:=(· = r)) (fun _ _ e=>e.elim)).trans Gd (fun _ _ e=>e);have MW:=KG.out.keeps GC GG;obtain⟨v0,v1,v2,_,_,_,vl⟩:=three MW;have Ml:=hid (gC.out.trans GC (fun _ _ e=>e));clear MX Gd GC MW) | (go_at_call 64;refine(by exact KC.out _ _ MP.out _:Calls _ _ _ _ _).mono ?_;rintro e w8 ⟨rfl,ov8,gI,GO⟩))
  all_goals
   have JA:=hid (KE.out w8 ov8 (by rw[Gf]at gI;exact gI))
   have GW:=hid (((Ml.out.below HH.out.size Hx.out)).trans GO)
   clear gI GO
   go_wp2_with fail
   refine(by exact JA.out:Calls _ _ _ _ _).mono ?_
   rintro e w9 ⟨rfl,Gv,MF⟩
   have mK:=hid (GW.out.trans Gv)
   clear Gv
   cases BR with
   | ok q=>
    obtain⟨m,ds⟩:=q
    obtain⟨ov9,Mx,jR⟩:=MF
    have gh:=hid (Qob w9 r base file L _ ov9 m (D++ds) Mx [59] (by decide))
    have bd:=hid jR
    have bp:=hid Mx.size
    clear Mx jR
    go_wp2_with fail
    refine(by exact gh.out:Calls _ _ _ _ _).mono ?_
    rintro e w10 ⟨rfl,GJ,t1,t2⟩
    have Ki:=hid (And.intro t1 t2)
    have KD:=hid (mK.out.trans (GJ.below bp.out Hx.out))
    clear GJ t1 t2
    go_wp2_with fail
    refine bodyPost_ret (results_none rfl _ _ _) rfl ?_
    refine⟨rfl,KD.out,?_⟩
    cases hg:isK L m 4 [59]with
    | true=>
     rw[show Qmc L (QFh (.ok j) (.ok (m,ds)))=_ from Qpc hg]
     exact⟨ov9,Ki.out.1 hg,by have:=bd.out;omega⟩
    | false=>
     rw[show Qmc L (QFh (.ok j) (.ok (m,ds)))=_ from QXb hg]
     exact Ki.out.2 hg
   | error q=>
    obtain⟨k,c⟩:=q
    have Kf:=hid MF
    clear MF
    have Gw:=hid (Qoa w9 r file L k c Kf.out ⟨#[59]⟩)
    go_wp2_with fail
    refine(by exact Gw.out:Calls _ _ _ _ _).mono ?_
    rintro e w10 ⟨rfl,rfl⟩
    go_wp2_with fail
    refine bodyPost_ret (results_none rfl _ _ _) rfl ?_
    exact⟨rfl,mK.out,Kf.out⟩
 | error q=>
  obtain⟨k,c⟩:=q
  go_region_with (first | (go_at_call 65;refine(by exact Gt.out _ (by exact H6.out.keeps ((Qaa.refl _ _).drew)):Calls _ _ _ _ _).mono ?_;rintro e w7 ⟨Gd,rfl,MX⟩;have MP:=hid MX;have GC:=(((Qaa.refl (fun _=>False) w6).drew).mono (S:=(· = r)) (fun _ _ e=>e.elim)).trans Gd (fun _ _ e=>e);have MW:=KG.out.keeps GC GG;obtain⟨v0,v1,v2,_,_,_,vl⟩:=three MW;have Ml:=hid (gC.out.trans GC (fun _ _ e=>e));clear MX Gd GC MW) | (go_at_call 64;refine(by exact Q3a _ r file L k c MP.out _ _ _ _ _ _ _ _ _:Calls _ _ _ _ _).mono ?_;rintro e w8 ⟨rfl,gI,gn⟩))
  all_goals
   have KL:Hid (Calls Tryz.prog 66 #[.pointer (some ⟨r,0,none⟩),.int .i64 ((dp:Int)+1)] w8 (fun e w'=>e = .returned (.tuple #[])∧w8=w')):=hid (by
    have h9:=Qac w8 r file L k c gI (dp+1) (by omega)
    rw[show((dp+1:Nat):Int)=(dp:Int)+1 from by omega]at h9
    exact h9)
   have GW:=hid ((Ml.out.trans (gn.mono (S:=(· = r)) (fun _ _ e=>e.elim)) (fun _ _ e=>e)).below HH.out.size Hx.out)
   have GR:=hid gI
   clear gI gn
   go_wp2_with fail
   refine(by exact KL.out:Calls _ _ _ _ _).mono ?_
   rintro e w9 ⟨rfl,rfl⟩
   have Gw:=hid (Qoa w8 r file L k c GR.out ⟨#[59]⟩)
   go_wp2_with fail
   refine(by exact Gw.out:Calls _ _ _ _ _).mono ?_
   rintro e w10 ⟨rfl,rfl⟩
   go_wp2_with fail
   refine bodyPost_ret (results_none rfl _ _ _) rfl ?_
   exact⟨rfl,GW.out,GR.out⟩
end Go.Proofs.YtofhcgbihonckaaGreat
