/- bringupref04: member, a property (printed by gr4t.py). -/
import Derived.Test.YtofhcgbihonckaaGreatY30
import Derived.Test.YtofhcgbihonckaaGreatY34
import Derived.Test.YtofhcgbihonckaaGreatY38
import Derived.BigQuiet
import Derived.Deep.AppendSrc
import Derived.Deep.LoopGhost
import Derived.Deep.DeepCutAuto
import Derived.Deep.CutBlock
import Derived.Deep.CutRange
set_option linter.all false
set_option maxHeartbeats 8000000
namespace Go.Proofs.YtofhcgbihonckaaGreat
open Go.Lib (hid)
open Go.RowKit
def Q0e(R:Rs (Nat × List QRa))(X:ByteArray)(l c:Int):Rs (Nat × List Qra):=match R with
 | .error e=>.error e
 | .ok (j,ps)=>.ok (j,[⟨3,⟨#[]⟩,X,ps,l,c⟩])
theorem QKg{L:List Tok}{n dp i:Nat}(hb:isK L (i+1) 4 [123]=false):Q7a L (n+1) (.named dp) i=(if QQb (tkN L i).text=true then Q0e (Qgb L (Q6a L) [61] (i+1) []) (txN L i) (tkN L i).line (tkN L i).col else .error (i,1)):=by
 rw[Q7a,if_neg (by rw[hb];exact Bool.false_ne_true)]
 rfl
theorem Qoo{L:List Tok}{i:Nat}{s:List UInt8}(hs:s≠[])(h:isK L i 4 s=false):(tkN L i).kind≠4∨(tkN L i).text≠s:=by
 unfold isK at h
 have a9:s.isEmpty=false:=by simpa using hs
 rw[a9,Bool.false_or,Bool.and_eq_false_iff,decide_eq_false_iff_not,decide_eq_false_iff_not]at h
 exact h
set_option maxRecDepth 100000 in
theorem Q3f(r base:Nat)(file:Int)(L:List Tok)(lv:Value)(n:Nat)(w:World)(ov:Value)(i:Nat)(D:List Qra)(h:QZa w r base file L lv ov i D)(dp:Nat)(K9:dp≤50)(hk:(tkN L i).kind=1)(hb:isK L (i+1) 4 [123]=false)(ke:D.length≤2*i)(hc:(tkN L (i+1)).kind≠4) :
 Calls Tryz.prog 109 #[.pointer (some ⟨r,0,none⟩),.int .i64 (dp:Int)] w (QVb r base file L lv D (Q7a L (n+2) (.member dp) i) w):=by
 rw[Qee hk,QKg hb]
 obtain⟨c0,c1,c2,c3,_,_,_,f1,f2,f3,_,_,_,cl⟩:=h.cells
 obtain⟨n1,n2⟩:=h.num
 have HH:=hid h
 have gP:=hid (h.ok.next h.lt (by rw[hk];decide))
 obtain⟨g,cap,rfl,hg,d0,d1,d2,d3,d4,d5⟩:=h.toks.at h.lt
 have gl:g<w.heap.size:=World.block_lt_of_cell? w _ d0
 rw[hk]at d0
 obtain⟨tl,gm⟩:∃t,t=(tkN L i).line:=⟨_,rfl⟩
 obtain⟨tc,gQ⟩:∃t,t=(tkN L i).col:=⟨_,rfl⟩
 rw[←gm]at d4
 rw[←gQ]at d5
 have Kk:=hid gm
 have Kj:=hid gQ
 clear gm gQ
 have hN:=Qca.new w #[.int .i64 0,.int .i64 0,.int .i64 0] 27
 have Hk:Below w.heap.size w (w.alloc (.cells #[.int .i64 0,.int .i64 0,.int .i64 0] 27)):=(Below.refl _ _).alloc (Nat.le_refl _) _
 have c0':=(Hk.cell cl).trans c0
 have c1':=(Hk.cell cl).trans c1
 have d3':=(Hk.cell gl).trans d3
 have d4':=(Hk.cell gl).trans d4
 have d5':=(Hk.cell gl).trans d5
 obtain⟨m0,m1,m2,mf0,mf1,mf2,ml⟩:=three hN
 have hM:=(Qca.new w #[.int .i64 file,.int .i64 tl,.int .i64 tc] 27).drew
 have Hc:Qaa (fun _=>False) w (w.alloc (.cells #[.int .i64 file,.int .i64 tl,.int .i64 tc] 27)).drew:=((Qaa.refl _ w).alloc _).drew
 have h3:=h.keeps Hc
 obtain⟨x0,x1,x2,_,_,_,xl⟩:=three hM
 obtain⟨y0,y1,_,y3,_,_,_,z1,_,z3,_,_,_,yl⟩:=h3.cells
 have e0:=(Hc.cell (p:=⟨g,i*6,none⟩) gl (fun e=>e)).trans d0
 have gl3:=Nat.lt_of_lt_of_le gl Hc.size
 have H3:=hid h3
 have Hy:=hid Hc
 have HM:=hid hM
 have Gt:=hid (fun wx hx=>Qwh wx r base file L (.slice (some ⟨g,0,none⟩) L.length cap) ov i D hx 1 (by decide))
 have fb:=hid hc
 have HT:=hid (show Qha L 1 (QJa 2) i=if QQb (tkN L i).text=true then .ok (i+1)else .error (i,1)from by unfold Qha;rw[if_pos hk];rfl)
 obtain⟨T,hT⟩:∃T,T=Qha L 1 (QJa 2) i:=⟨_,rfl⟩
 rw[←hT]at Gt HT
 obtain⟨PR,je⟩:∃R,R=Qgb L (Q6a L) [61] (i+1) []:=⟨_,rfl⟩
 rw[←je]
 obtain⟨X,hX⟩:∃X,X=txN L i:=⟨_,rfl⟩
 rw[←hX]
 unfold Q5a at Gt
 rw[←hX]at Gt
 have J8:(dp:Int)≤50:=by omega
 have Hd:(if QQb (tkN L i).text=true then Q0e PR X (tkN L i).line (tkN L i).col else .error (i,1))=QFh T (Q0e PR X (tkN L i).line (tkN L i).col):=by
  rw[HT.out]
  split <;> rfl
 rw[Hd,←Kk.out,←Kj.out]
 have Gf:∀j,T = .ok j→j=i+1:=fun j e=>by
  have h9:=HT.out
  rw[e]at h9
  split at h9
  ·injection h9
  ·cases h9
 have MT:=hid Gf
 have jn:=hid ke
 have MV:=hid je
 have GG:w.heap.size≠r:=by omega
 have Hx:=hid (show ∀b,b<base→¬b=r from fun b hb e=>by have:=h.low;omega)
 clear h hk hb hc hN Hk hM Hc h3 hT HT Hd je hX Gf ke
 have oV:Hid (∀wx,QZa wx r base file L (.slice (some ⟨g,0,none⟩) L.length cap) ov i D→Calls Tryz.prog 65 #[.pointer (some ⟨r,0,none⟩),.int .i64 1,.int .i64 2] wx fun e w'=>∃Y:ByteArray,Qaa (· = r) wx w'∧e = .returned (.string Y)∧RT r base file L (.slice (some ⟨g,0,none⟩) L.length cap) ov D T X Y w'):=hid (fun wx hx=>by
  refine(Gt.out wx hx).mono ?_
  rintro e w' ⟨hk,hm⟩
  cases T with
  | ok j=>exact⟨X,hk,hm.1,.inl ⟨j,rfl,rfl,hm.2⟩⟩
  | error q=>exact⟨⟨#[]⟩,hk,hm.1,.inr ⟨q.1,q.2,rfl,hm.2⟩⟩)
 go_enter Tryz.func109,Tryz.ntmps109
 go_wp2_with fail
 go_region
 generalize (w.alloc (.cells #[.int .i64 file,.int .i64 tl,.int .i64 tc] 27)).drew=w3 at *
 clear c0 c1 c2 c3 d0 d1 d2 d3 d4 d5 c0' c1' d3' d4' d5' m0 m1 m2 mf0 mf1 mf2 ml gl cl f1 f2 f3
 go_wp2_with fail
 go_quiet (fail)
 go_wp2_with fail
 go_quiet (fail)
 go_wp2_with fail
 go_quiet (fail)
 go_wp2_with fail
 generalize km:World.drewN (World.drewN w3 _) _=w5
 have Hs:Qaa (fun _=>False) w3 w5:=by rw[←km];exact(Qda _ _).trans (Qda _ _) (fun _ _ e=>e)
 have H5:=hid (H3.out.keeps Hs)
 have Mn:=hid (HM.out.keeps Hs (fun e=>e))
 have GS:=hid (Hy.out.trans Hs (fun _ _ e=>e))
 obtain⟨g',cap',eg,hg',q0,q1,q2,q3,q4,q5⟩:=H5.out.toks.at gP.out
 cases eg
 obtain⟨kd,Mf⟩:∃x,x=(tkN L (i+1)).kind:=⟨_,rfl⟩
 obtain⟨tx,Kd⟩:∃x,x=(tkN L (i+1)).text:=⟨_,rfl⟩
 rw[←Mf]at q0 fb
 rw[←Kd]at q1
 clear Mf Kd
 have ql:g<w5.heap.size:=World.block_lt_of_cell? w5 _ q0
 obtain⟨b0,b1,_,b3,_,_,_,_,_,_,_,_,_,bl⟩:=H5.out.cells
 generalize (tkN L (i+1)).value=tv at *
 generalize (tkN L (i+1)).line=tl2 at *
 generalize (tkN L (i+1)).col=tc2 at *
 have Mv:=Qca.new w5 #[.int .i64 0,.string ⟨#[]⟩,.int .i64 0,.int .i64 0,.int .i64 0,.int .i64 0] 65
 have g9:Below w5.heap.size w5 (w5.alloc (.cells #[.int .i64 0,.string ⟨#[]⟩,.int .i64 0,.int .i64 0,.int .i64 0,.int .i64 0] 65)):=(Below.refl _ _).alloc (Nat.le_refl _) _
 have b0':=(g9.cell bl).trans b0
 have b1':=(g9.cell bl).trans b1
 have q0':=(g9.cell ql).trans q0
 have q1':=(g9.cell ql).trans q1
 have q2':=(g9.cell ql).trans q2
 have q3':=(g9.cell ql).trans q3
 have q4':=(g9.cell ql).trans q4
 have q5':=(g9.cell ql).trans q5
 obtain⟨g0,g1,g2,g3,g4,g5⟩:=QIb Mv
 obtain⟨o0,o1,o2,o3,o4,o5⟩:=Qfa Mv
 have Hj:=Mv.lt
 have Hw:Qaa (fun _=>False) w5 (w5.alloc (.cells #[.int .i64 kd,.string ⟨tx.toArray⟩,.int .i64 tv,.int .i64 file,.int .i64 tl2,.int .i64 tc2] 65)).drew:=((Qaa.refl _ w5).alloc _).drew
 have Mu:=(Qca.new w5 #[.int .i64 kd,.string ⟨tx.toArray⟩,.int .i64 tv,.int .i64 file,.int .i64 tl2,.int .i64 tc2] 65).drew
 obtain⟨u0,u1,_,_,_,_⟩:=Qfa Mu
 have ul:=Mu.lt
 have h6:=H5.out.keeps Hw
 have KG:=hid (Mn.out.keeps Hw (fun e=>e))
 have gC:=hid ((GS.out.trans Hw (fun _ _ e=>e)).mono (S:=(· = r)) (fun _ _ e=>e.elim))
 obtain⟨s0,s1,_,s3,_,_,_,r1,_,_,_,_,_,sl⟩:=h6.cells
 have H6:=hid h6
 have oF:=hid Mu
 have KR:IntKind.i64.wrap (((i:Nat):Int)+1)=((i:Nat):Int)+1:=IntWalk.i64_in _ (by omega)
 have mS:(0:Int)≤((i:Nat):Int)+1:=by omega
 have kW:((i:Nat):Int)+1<(L.length:Int):=by have:=gP.out;omega
 have M5:(((i:Nat):Int)+1).toNat=i+1:=by omega
 clear Mv g9 Hw Mu h6 Hs
 go_region
 generalize (w5.alloc (.cells #[.int .i64 kd,.string ⟨tx.toArray⟩,.int .i64 tv,.int .i64 file,.int .i64 tl2,.int .i64 tc2] 65)).drew=w6 at *
 clear KR mS kW M5 b0 b1 b3 bl b0' b1' q0 q1 q2 q3 q4 q5 q0' q1' q2' q3' q4' q5' g0 g1 g2 g3 g4 g5 o0 o1 o2 o3 o4 o5 Hj ql
 have kA:(kd == 4)=false:=by rw[beq_eq_false_iff_ne];exact fb.out
 go_wp2_with fail
 have kc:=HH.out.size
 go_upto_region 21 with fail
 refine wp_region_any (by kernel_rfl) ?_
 refine Qdd (ops':=QDe) (by kernel_rfl) ?_
 refine Q0f r base w.heap.size file L (.slice (some ⟨g,0,none⟩) L.length cap) ov i D T X tl tc w w6.drew _ ?_ HH.out (fun j e=>by have:=MT.out j e;omega) GG (H6.out.keeps ((Qaa.refl _ _).drew)) KG.out.drew (fun wx hx=>oV.out wx hx) ?_ ?_ gC.out.drew ?_
 ·rfl
 ·rfl
 ·rfl
 intro c w8 Z Y K2 gn c7 dU fx Mw pB
 obtain⟨y136,y137,y138,y139,y7,hc⟩:=K2.ex [136,137,138,139,7] (by kernel_rfl)
 subst hc
 simp only[List.setIfInBounds_toArray,List.set_cons_zero,List.set_cons_succ]at c7 ⊢
 have e7:y7 = .pointer (some ⟨Z,0,none⟩):=c7
 subst e7
 unfold Qbn at dU
 have JP:=hid dU
 have Mm:=hid gn
 clear c7 K2 dU gn
 rcases pB with⟨jw,e1,rfl,Mb⟩|⟨k,c,e1,aU⟩
 ·have JC:=hid (MT.out jw e1)
  subst e1
  have GR:=hid Mb
  have KS:=hid (QMb w8 r base file L (.slice (some ⟨g,0,none⟩) L.length cap) ov jw D Mb 4 [61] (by decide))
  obtain⟨_,b1,_,b3,_,_,_,f1,_,_,_,_,_,bl⟩:=Mb.cells
  have oS:=hid (Mb.num)
  obtain⟨n5,n6⟩:=Mb.num
  clear Mb
  cases hq:isK L jw 4 [61]with
  | false=>
   rw[hq]at KS
   have mq:=hid (show PR = .ok (jw,[])from by
    rw[MV.out,←JC.out,show Q6a L=L.length+1 from rfl,Qgb,if_neg (by rw[hq];exact Bool.false_ne_true)])
   have JD:=hid (show D.length≤2*jw from by have:=jn.out;have:=JC.out;omega)
   clear hq
   go_wp2_with fail
   refine(by exact KS.out:Calls _ _ _ _ _).mono ?_
   rintro e w9 ⟨rfl,GP⟩
   have nW:=hid (GR.out.keeps GP)
   have JQ:=hid (JP.out.keeps GP (fun e=>e))
   have MU:=hid (Mm.out.trans GP (fun _ _ e=>e.elim))
   obtain⟨s0,s1,s2,s3,s4,s5,s6⟩:=Qqa JQ.out
   have sl:=JQ.out.lt
   have KC:=hid (Qmb w9 r base file L (.slice (some ⟨g,0,none⟩) L.length cap) ov jw D ⟨3,⟨#[]⟩,Y,[],tl,tc⟩ (.slice none 0 0) nW.out (Qia.none _ _) (by have:=JD.out;omega))
   clear GP
   go_wp2_with fail
   refine(by exact KC.out:Calls _ _ _ _ _).mono ?_
   rintro e wa ⟨rfl,ova,Ka,Mz⟩
   have gh:=hid (Qob wa r base file L _ ova jw _ Ka [59] (by decide))
   have jm:=hid ((MU.out.below HH.out.size Hx.out).trans Mz)
   have di:=hid Ka.size
   clear Ka Mz
   go_wp2_with fail
   refine(by exact gh.out:Calls _ _ _ _ _).mono ?_
   rintro e wb ⟨rfl,kA,t1,t2⟩
   have Gw:=hid (And.intro t1 t2)
   have KL:=hid (jm.out.trans (kA.below di.out Hx.out))
   clear kA t1 t2
   go_wp2_with fail
   refine bodyPost_ret (results_none rfl _ _ _) rfl ?_
   refine⟨rfl,KL.out,?_⟩
   rw[mq.out]
   cases hg:isK L jw 4 [59]with
   | true=>
    rw[show Qmc L (QFh (.ok jw) (Q0e (.ok (jw,[])) Y tl tc))=_ from Qpc hg]
    exact⟨ova,Gw.out.1 hg,by simp;have:=JD.out;omega⟩
   | false=>
    rw[show Qmc L (QFh (.ok jw) (Q0e (.ok (jw,[])) Y tl tc))=_ from QXb hg]
    exact Gw.out.2 hg
  | true=>
   rw[hq]at KS
   have oI:=hid (GR.out.ok.next GR.out.lt (by rw[(Qcc (by decide) hq).1];decide))
   have jP:=hid (show(match Qnb L (jw+1)with
    | .ok (k,q)=>Qgb L L.length [44] k (([]:List QRa)++[q])
    | .error e=>.error e)=PR from by
    rw[MV.out,←JC.out,show Q6a L=L.length+1 from rfl,Qgb,if_pos hq]
    cases Qnb L (jw+1) <;> rfl)
   clear hq
   go_wp2_with fail
   refine(by exact KS.out:Calls _ _ _ _ _).mono ?_
   rintro e w9 ⟨rfl,GP⟩
   have dH:=GR.out.keeps GP
   have JQ:=hid (JP.out.keeps GP (fun e=>e))
   have MU:=hid (Mm.out.trans GP (fun _ _ e=>e.elim))
   obtain⟨_,b1,_,b3,_,_,_,f1,_,_,_,_,_,bl⟩:=dH.cells
   obtain⟨gW,gE⟩:=dH.step oI.out
   have jj:=hid gW
   have Mp:=hid (JQ.out.keeps gE Mw)
   have JE:=hid (MU.out.trans gE (fun _ _ e=>e))
   clear GP dH gW gE
   have de:=hid (Qwb.none w9 w.heap.size base)
   go_upto_region 24 with fail
   generalize w9.setCell ⟨r,1,none⟩ (.int .i64 ((jw:Int)+1))=w10 at *
   obtain⟨vs,kI,Hb,H9⟩:=Qwb.none w10 w.heap.size base
   clear b1 b3 f1 bl
   refine wp_region_any (by kernel_rfl) ?_
   refine Qdd (ops':=Qzd) (by kernel_rfl) ?_
   refine Qni r base Z file L (.slice (some ⟨g,0,none⟩) L.length cap) ov (.slice none 0 0) (.int .i64 3) (.string ⟨#[]⟩) (.string Y) (.int .i64 file) (.int .i64 tl) (.int .i64 tc) D i (jw+1) [] vs w w10.drew _ ?_ HH.out (by have:=JC.out;omega) (jj.out.keeps ((Qaa.refl _ _).drew)) Mp.out.drew Mw fx kI (Qba Hb ((Qaa.refl (fun _=>False) _).drew) (fun _ _ e=>e)) (fun k h _=>by simp at h) (by simp) ?_ ?_ JE.out.drew ?_
   ·rfl
   ·rfl
   ·rfl
   intro c w11 p1 v8 K2 ak jz jy JX
   obtain⟨y156,y157,y158,y159,y160,y161,y162,hc⟩:=K2.ex [156,157,158,159,160,161,162] (by kernel_rfl)
   subst hc
   simp only[List.setIfInBounds_toArray,List.set_cons_zero,List.set_cons_succ]
   have dz:=hid jz
   have cT:=hid ak
   have c9:=hid jy
   have bt:=hid (show(∃j,Hid (QZa w11 r base file L (.slice (some ⟨g,0,none⟩) L.length cap) ov j D)∧Hid (Qgb L L.length [44] j ([]++[p1])=PR)∧Hid (L.length+1≤j+L.length∧([]++[p1]).length≤j∧i≤j))∨(∃k c,Hid (PR = .error (k,c))∧Hid (Qyb w11 r file L k c))from by
    have h9:=jP.out
    rcases JX with⟨k,e,ha⟩|⟨k,c,e,hb⟩
    ·have ko:=Qge e
     rw[e]at h9
     exact .inl ⟨k,hid ha,hid h9,hid ⟨by omega,by simp;omega,by have:=JC.out;omega⟩⟩
    ·rw[e]at h9
     exact .inr ⟨k,c,hid h9.symm,hid hb⟩)
   clear K2 jz ak jy JX Hb H9 kI jj Mp JE JQ MU GR JP Mm de
   go_wp2_with fail
   go_loopg [] (L.length) (fun f wr=>∃(acc:List QRa) (cv:Value),Hid (Qca wr Z #[.int .i64 3,.string ⟨#[]⟩,.string Y,cv,.int .i64 file,.int .i64 tl,.int .i64 tc] 34)∧Hid (Qwb wr w.heap.size base cv acc)∧Hid (Qaa (· = r) w wr)∧((∃j,Hid (QZa wr r base file L (.slice (some ⟨g,0,none⟩) L.length cap) ov j D)∧Hid (Qgb L f [44] j acc=PR)∧Hid (L.length+1≤j+f∧acc.length≤j∧i≤j))∨(∃k c,Hid (PR = .error (k,c))∧Hid (Qyb wr r file L k c))))
   case atStart=>exact⟨[]++[p1],v8,dz,c9,cT,bt.out⟩
   case round=>
    obtain⟨acc,cv,HZ,HP,HK,⟨j,HA,HS,HN⟩|⟨k,c,HE,HB⟩⟩:=hrel
    ·obtain⟨nn,mR⟩:∃nn,nn+1=gk:=⟨gk-1,by have:=HN.out;have:=HA.out.lt;omega⟩
     have JH:=hid mR
     have hA:=HA.out
     have KF:=hid (QMb wr r base file L (.slice (some ⟨g,0,none⟩) L.length cap) ov j D hA 4 [44] (by decide))
     obtain⟨_,b1,_,b3,_,_,_,f1,_,_,_,_,_,bl⟩:=hA.cells
     obtain⟨n7,n8⟩:=hA.num
     have hS:=HS.out
     rw[←mR,Qgb]at hS
     cases hg:isK L j 4 [44]with
     | false=>
      rw[hg]at KF
      rw[hg,if_neg Bool.false_ne_true]at hS
      have mq:=hid hS.symm
      have JD:=hid (show D.length≤2*j from by have:=jn.out;have:=HN.out;omega)
      clear hS hg hA mR
      go_wp2_with fail
      refine(by exact KF.out:Calls _ _ _ _ _).mono ?_
      rintro e w12 ⟨rfl,GA⟩
      have cI:=hid (HA.out.keeps GA)
      have JO:=hid (HZ.out.keeps GA (fun e=>e))
      have JL:=hid (HP.out.keeps GA (QNa.nil _))
      have cU:=hid (HK.out.trans GA (fun _ _ e=>e.elim))
      clear GA
      obtain⟨va,vc,rfl⟩:=JL.out.slice
      obtain⟨s0,s1,s2,s3,s4,s5,s6⟩:=Qqa JO.out
      have sl:=JO.out.lt
      have KC:=hid (Qmb w12 r base file L (.slice (some ⟨g,0,none⟩) L.length cap) ov j D ⟨3,⟨#[]⟩,Y,acc,tl,tc⟩ (.slice va (List.length (acc)) vc) cI.out (JL.out.row kc) (by have:=JD.out;omega))
      go_wp2_with fail
      refine(by exact KC.out:Calls _ _ _ _ _).mono ?_
      rintro e wa ⟨rfl,ova,Ka,Mz⟩
      have gh:=hid (Qob wa r base file L _ ova j _ Ka [59] (by decide))
      have jm:=hid ((cU.out.below HH.out.size Hx.out).trans Mz)
      have di:=hid Ka.size
      clear Ka Mz
      go_wp2_with fail
      refine(by exact gh.out:Calls _ _ _ _ _).mono ?_
      rintro e wb ⟨rfl,kA,t1,t2⟩
      have Gw:=hid (And.intro t1 t2)
      have KL:=hid (jm.out.trans (kA.below di.out Hx.out))
      clear kA t1 t2
      go_wp2_with fail
      refine bodyPost_ret (results_none rfl _ _ _) rfl ?_
      refine⟨rfl,KL.out,?_⟩
      rw[mq.out]
      cases hg:isK L j 4 [59]with
      | true=>
       rw[show Qmc L (QFh (.ok jw) (Q0e (.ok (j,acc)) Y tl tc))=_ from Qpc hg]
       exact⟨ova,Gw.out.1 hg,by simp;have:=JD.out;omega⟩
      | false=>
       rw[show Qmc L (QFh (.ok jw) (Q0e (.ok (j,acc)) Y tl tc))=_ from QXb hg]
       exact Gw.out.2 hg
     | true=>
      rw[hg]at KF
      rw[hg,if_pos rfl]at hS
      have cZ:=hid (HA.out.ok.next HA.out.lt (by rw[(Qcc (by decide) hg).1];decide))
      have KU:=hid hS
      clear hS hg hA mR
      go_wp2_with fail
      refine(by exact KF.out:Calls _ _ _ _ _).mono ?_
      rintro e w12 ⟨rfl,GA⟩
      have Mq:=HA.out.keeps GA
      obtain⟨_,b1,_,b3,_,_,_,f1,_,_,_,_,_,bl⟩:=Mq.cells
      obtain⟨gW,gE⟩:=Mq.step cZ.out
      have cJ:=hid gW
      have dA:=hid ((HZ.out.keeps GA (fun e=>e)).keeps gE Mw)
      have db:=hid ((HP.out.keeps GA (QNa.nil _)).keeps gE (QNa.one Mq.holds (by decide) (by decide) (by decide)))
      have cV:=hid ((HK.out.trans GA (fun _ _ e=>e.elim)).trans gE (fun _ _ e=>e))
      clear GA Mq gW gE
      go_upto_region 27 with fail
      generalize w12.setCell ⟨r,1,none⟩ (.int .i64 ((j:Int)+1))=w13 at *
      obtain⟨vs,kI,Hb,H9⟩:=db.out
      clear b1 b3 f1 bl
      refine wp_region_any (by kernel_rfl) ?_
      refine Qdd (ops':=Q6b) (by kernel_rfl) ?_
      refine QNg r base Z file L (.slice (some ⟨g,0,none⟩) L.length cap) ov cv (.int .i64 3) (.string ⟨#[]⟩) (.string Y) (.int .i64 file) (.int .i64 tl) (.int .i64 tc) D i (j+1) acc vs w w13.drew _ ?_ HH.out (by have:=HN.out;omega) (cJ.out.keeps ((Qaa.refl _ _).drew)) dA.out.drew Mw fx kI (Qba Hb ((Qaa.refl (fun _=>False) _).drew) (fun _ _ e=>e)) (fun k h h2=>(H9 k h h2).keeps ((Qaa.refl (fun _=>False) _).drew) (QNa.nil _)) (by have:=HN.out;omega) ?_ ?_ cV.out.drew ?_
      ·rfl
      ·rfl
      ·rfl
      intro c w14 p2 v9 K2 am J4 JV JY
      obtain⟨y179,y180,y181,y182,y183,y184,y185,hc⟩:=K2.ex [179,180,181,182,183,184,185] (by kernel_rfl)
      subst hc
      simp only[List.setIfInBounds_toArray,List.set_cons_zero,List.set_cons_succ]
      have dr:=hid (show(∃j,Hid (QZa w14 r base file L (.slice (some ⟨g,0,none⟩) L.length cap) ov j D)∧Hid (Qgb L nn [44] j (acc++[p2])=PR)∧Hid (L.length+1≤j+nn∧(acc++[p2]).length≤j∧i≤j))∨(∃k c,Hid (PR = .error (k,c))∧Hid (Qyb w14 r file L k c))from by
       have h9:=KU.out
       have hN:=HN.out
       have tS:=JH.out
       rcases JY with⟨k,e,ha⟩|⟨k,c,e,hb⟩
       ·have ko:=Qge e
        rw[e]at h9
        exact .inl ⟨k,hid ha,hid h9,hid ⟨by omega,by simp;omega,by omega⟩⟩
       ·rw[e]at h9
        exact .inr ⟨k,c,hid h9.symm,hid hb⟩)
      have dB:=hid J4
      have cW:=hid am
      have dd:=hid JV
      clear K2 J4 am JV JY Hb H9 kI
      go_wp2_with fail
      go_roundg nn
      case measure=>have:=JH.out;omega
      case rel=>exact⟨acc++[p2],v9,dB,dd,cW,dr.out⟩
    ·have mq:=HE.out
     obtain⟨kX,lv',x',ov',hH⟩:=id HB.out
     have b3:=hH.cell 3
     have bl:=hH.lt
     have fz:(c == 0)=false:=by rw[beq_eq_false_iff_ne];exact kX
     have mq:=hid HE.out
     clear hH kX
     obtain⟨va,vc,rfl⟩:=HP.out.slice
     obtain⟨s0,s1,s2,s3,s4,s5,s6⟩:=Qqa HZ.out
     have sl:=HZ.out.lt
     go_wp2_with fail
     refine(by exact Q3a wr r file L k c HB.out _ _ _ _ _ _ _ _ _:Calls _ _ _ _ _).mono ?_
     rintro e wa ⟨rfl,Ka,ar⟩
     have jm:=hid ((HK.out.trans (ar.mono (S:=(· = r)) (fun _ _ e=>e.elim)) (fun _ _ e=>e)).below HH.out.size Hx.out)
     have cM:=hid Ka
     have Gw:=hid (Qoa wa r file L k c Ka ⟨#[59]⟩)
     clear Ka ar
     go_wp2_with fail
     refine(by exact Gw.out:Calls _ _ _ _ _).mono ?_
     rintro e wb ⟨rfl,rfl⟩
     go_wp2_with fail
     refine bodyPost_ret (results_none rfl _ _ _) rfl ?_
     rw[mq.out]
     exact⟨rfl,jm.out,cM.out⟩
 ·subst e1
  have GW:=hid aU
  obtain⟨kX,lv',x',ov',hH⟩:=id aU
  have b3:=hH.cell 3
  have bl:=hH.lt
  have fz:(c == 0)=false:=by rw[beq_eq_false_iff_ne];exact kX
  clear aU hH kX
  obtain⟨s0,s1,s2,s3,s4,s5,s6⟩:=Qqa JP.out
  have sl:=JP.out.lt
  go_wp2_with fail
  refine(by exact Q3a w8 r file L k c GW.out _ _ _ _ _ _ _ _ _:Calls _ _ _ _ _).mono ?_
  rintro e wa ⟨rfl,Ka,ar⟩
  have jm:=hid ((Mm.out.trans (ar.mono (S:=(· = r)) (fun _ _ e=>e.elim)) (fun _ _ e=>e)).below HH.out.size Hx.out)
  have cM:=hid Ka
  have Gw:=hid (Qoa wa r file L k c Ka ⟨#[59]⟩)
  clear Ka ar
  go_wp2_with fail
  refine(by exact Gw.out:Calls _ _ _ _ _).mono ?_
  rintro e wb ⟨rfl,rfl⟩
  go_wp2_with fail
  refine bodyPost_ret (results_none rfl _ _ _) rfl ?_
  exact⟨rfl,jm.out,cM.out⟩
end Go.Proofs.YtofhcgbihonckaaGreat
