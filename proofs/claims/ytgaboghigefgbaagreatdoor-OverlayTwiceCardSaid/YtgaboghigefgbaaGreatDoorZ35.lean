/- Contracts of bringupref03: Set. | Trees that a call has made, whose rows of properties lie apart from each other. | Contracts of bringupref03: SameNode. | Contracts of bringupref03: Of. | Contracts of bringupref03: Without. | Contracts of bringupref03: Same. -/
import Derived.Test.YtgaboghigefgbaaGreatDoorZ20
import Derived.Deep.RegionWith
import Derived.Deep.LoopGhost
set_option linter.all false
set_option maxHeartbeats 8000000
namespace Go.Proofs.YtgaboghigefgbaaGreatDoor
open Go.Lib (hid)
open Go.RowKit
theorem Qne:∀(T:List Qba) (pvs:List Value) (k:Nat) (hk:k<T.length) (ps:List Qla) (rv:Value),pvs.length=T.length→
 QAa (T.set k ⟨T[k].parent,T[k].name,ps⟩) (pvs.set k rv)=(QAa T pvs).set (k*3+2) rv
 | n::T,p::pvs,0,_,_,_,_=>rfl
 | n::T,p::pvs,k+1,hk,ps,rv,h=>by
  have:=Qne T pvs k (by simpa using hk) ps rv (by simpa using h)
  rw[show(k+1)*3+2=k*3+2+1+1+1 from by omega]
  simp only[List.set_cons_succ,QAa,List.getElem_cons_succ]
  rw[this]
theorem Qda.setProps{w:World}{base g n cap:Nat}{T:List Qba}{rv:Value}{ps:List Qla}(h:Qda w base (.slice (some ⟨g,0,none⟩) n cap) T)(k:Nat)(hk:k<T.length)(hp:Qma w base rv ps) :
 Qda (w.setCell ⟨g,k*3+2,none⟩ rv) base (.slice (some ⟨g,0,none⟩) n cap) (T.set k ⟨T[k].parent,T[k].name,ps⟩):=by
 obtain⟨pvs,h1,h2,h3,h4⟩:=h
 have hn:n=T.length:=by
  rcases h2.2 with⟨e,_⟩|⟨_,_,_,e,_⟩
  ·cases e
  ·cases e;rfl
 subst hn
 obtain⟨s1,s2⟩:=h2.stored (k*3+2) rv
 refine⟨pvs.set k rv,by simpa using h1,?_,?_,?_⟩
 ·rw[Qne T pvs k hk ps rv h1,List.length_set];exact s1
 ·intro j hj Gu
  by_cases e:j=k
  ·subst e
   simp only[List.getElem_set_self]
   exact hp.apart h2 s2 (by decide)
  ·rw[List.getElem_set_ne (fun x=>e x.symm),List.getElem_set_ne (fun x=>e x.symm)]
   exact(h3 j (by simpa using hj) (by simpa using Gu)).apart h2 s2 (by decide)
 ·intro m hm
  rcases List.mem_or_eq_of_mem_set hm with hm|rfl
  ·exact h4 m hm
  ·exact h4 T[k] (List.getElem_mem hk)
theorem QGa.drew{R:Nat→Prop}{w:World}{v:Value}{ps:List Qla}(h:QGa R w v ps):QGa R w.drew v ps:=h
theorem QBh{w w':World}{g o:Nat}{x:Option Value}(h:w.cell? ⟨g,o,none⟩=x)(hg:g<w.heap.size)(k:Below w.heap.size w w'):w'.cell? ⟨g,o,none⟩=x:=(k.cell (p:=⟨g,o,none⟩) hg).trans h
def Qxt(T':List Qba)(w:World)(C:Nat)(sv:Value)(y:Value)(wx:World):Prop:=
 y = .pointer (some ⟨C,0,none⟩)∧Holds wx C #[sv] 27∧Holds wx (w.heap.size+1) #[.slice none 0 0] 27∧Qda wx w.heap.size sv T'∧Below w.heap.size w wx
set_option maxRecDepth 100000 in
theorem QMr(R:Nat→Prop)(v:Value)(T:List Qba)(s name value:ByteArray)(w:World)(hT:Qpa R w v T)(KQ:name.size≤9223372036854775807)(cI:value.size≤9223372036854775807) :
 Calls Tryz.prog 29 #[.agg #[v],.string s,.string name,.string value] w (Qyd (QSd T s name value) w):=by
 obtain⟨a,cap,rfl,gM,gB⟩:=hT.shape
 have HT:=hid hT;clear hT
 have G0:=fun wx hx=>Q0i R (.slice a T.length cap) T s wx hx
 have He:Below w.heap.size w ((w.alloc (.cells #[.slice a T.length cap] 27)).alloc (.cells #[.slice none 0 0] 27)):=((Below.refl _ _).alloc (Nat.le_refl _) _).alloc (by simp) _
 have kJ:=(Holds.new w #[.slice a T.length cap] 27).alloc (.cells #[.slice none 0 0] 27)
 have GH:=Holds.newAt (w:=w.alloc (.cells #[.slice a T.length cap] 27)) (B:=w.heap.size+1) (by simp) #[.slice none 0 0] 27
 rcases Qsb T s with⟨Hm,Gk⟩|⟨gy,k,hk,Gs,kR⟩
 ·have hF:=hid (show QSd T s name value=([],(QBa T s).2)from by unfold QSd;rw[if_pos Hm])
  have eX:((QBa T s).2 != 0)=true:=by simpa using Hm
  rw[Gk]at G0
  have Kx:=hid G0
  clear G0 Hm Gk
  generalize (QBa T s).2=c at *
  go_enter Tryz.func29,Tryz.ntmps29
  go_wp2_with fail
  refine(Kx.out _ (by exact HT.out.new He)).mono ?_
  rintro e w1 ⟨rfl,Hb⟩
  have Hs:=GH.keeps (Qaa.of_fresh Hb (fun _=>False)) (fun e=>e)
  have Hc:=He.trans (Hb.mono (by simp;omega))
  have z0:=Hs.cell 0
  have zf:=Hs.free 0
  have zl:=Hs.lt
  go_wp2_with fail
  have q0:(w1.setCell ⟨w.heap.size+1,0,none⟩ (.slice none 0 0)).cell? ⟨w.heap.size+1,0,none⟩=some (.slice none 0 0):=(Hs.set 0 _).cell 0
  exact bodyPost_ret (v:=.tuple #[.agg #[.slice none 0 0],.int .i64 c]) (by simp[results,Tryz.results29,go_sem,q0]) rfl ⟨_,by rw[hF.out],by rw[hF.out];exact Qda.nil _ _,Hc.setCell (p:=⟨w.heap.size+1,0,none⟩) (by simp) _⟩
 ·rw[Gs]at G0
  have Kx:=hid G0
  have hE:=hid (show QSd T s name value=if Q6a name=false then([],1)else if Qza (QIb T k ⟨name,value⟩)=false then([],3)else(QIb T k ⟨name,value⟩,0)from by
   unfold QSd;rw[Gs,if_neg (by simp)];rfl)
  have Dm:=hid (show QIb T k ⟨name,value⟩=T.set k ⟨T[k].parent,T[k].name,QSc T[k].props ⟨name,value⟩⟩from by unfold QIb;rw[List.getElem?_eq_getElem hk];rfl)
  have Ge:=(Qeb (QPa gy)).2
  have fL:=hid (Qrc gy)
  have G8:=fun wx=>Qwe name wx KQ
  clear G0 Gs gy
  cases k9:Q6a name with
  | false=>
   have hF:=hid (show QSd T s name value=([],1)from by rw[hE.out,if_pos k9])
   rw[k9]at G8
   have Mh:=hid G8
   clear G8 k9 hE
   go_enter Tryz.func29,Tryz.ntmps29
   go_wp2_with fail
   refine(Kx.out _ (by exact HT.out.new He)).mono ?_
   rintro e w1 ⟨rfl,Hb⟩
   have Hs:=GH.keeps (Qaa.of_fresh Hb (fun _=>False)) (fun e=>e)
   have Hc:=He.trans (Hb.mono (by simp;omega))
   go_wp2_with fail
   refine(Mh.out _).mono ?_
   rintro e w2 ⟨rfl,rfl⟩
   have z0:=Hs.cell 0
   have zf:=Hs.free 0
   have zl:=Hs.lt
   go_wp2_with fail
   have q0:(w1.setCell ⟨w.heap.size+1,0,none⟩ (.slice none 0 0)).cell? ⟨w.heap.size+1,0,none⟩=some (.slice none 0 0):=(Hs.set 0 _).cell 0
   exact bodyPost_ret (v:=.tuple #[.agg #[.slice none 0 0],.int .i64 1]) (by simp[results,Tryz.results29,go_sem,q0]) rfl ⟨_,by rw[hF.out],by rw[hF.out];exact Qda.nil _ _,Hc.setCell (p:=⟨w.heap.size+1,0,none⟩) (by simp) _⟩
  | true=>
   rw[k9]at G8
   have Mh:=hid G8
   have Kz:=hid (show QSd T s name value=if Qza (QIb T k ⟨name,value⟩)=false then([],3)else(QIb T k ⟨name,value⟩,0)from by rw[hE.out,k9,if_neg (by simp)])
   have Kn:=hid (fun wx hx=>Qci R (.slice a T.length cap) T wx hx Ge fL.out)
   have gU:=fL.out T[k] (List.getElem_mem hk)
   clear G8 k9 hE
   go_enter Tryz.func29,Tryz.ntmps29
   go_wp2_with fail
   refine(Kx.out _ (by exact HT.out.new He)).mono ?_
   rintro e w1 ⟨rfl,Hb⟩
   have Hs:=GH.keeps (Qaa.of_fresh Hb (fun _=>False)) (fun e=>e)
   have H5:=kJ.keeps (Qaa.of_fresh Hb (fun _=>False)) (fun e=>e)
   have Hc:=He.trans (Hb.mono (by simp;omega))
   have bx:=H5.cell 0
   have bl:=H5.lt
   have GB:=Hc.size
   clear He kJ GH Hb
   go_wp2_with fail
   refine(Mh.out _).mono ?_
   rintro e w2 ⟨rfl,rfl⟩
   go_wp2_with fail
   refine(Kn.out _ (by exact HT.out.new Hc)).mono ?_
   rintro e w4 ⟨cv,rfl,dW,H9⟩
   have gY:=Hs.keeps (Qaa.of_fresh H9 (fun _=>False)) (fun e=>e)
   have bD:=H5.keeps (Qaa.of_fresh H9 (fun _=>False)) (fun e=>e)
   have gG:=Hc.trans (H9.mono GB)
   have iT:=gG.size
   have K1:=dW.base GB
   clear H9 Hc H5 Hs bx bl dW
   obtain⟨cg,cc,jI,hcgl⟩:∃cg cc,cv = .slice (some ⟨cg,0,none⟩) T.length cc∧cg<w4.heap.size:=by
    obtain⟨_,_,g2,_⟩:=K1
    obtain⟨x,y,e,_,hl⟩:=g2.form (by omega)
    exact⟨x,y,e,hl⟩
   subst jI
   have uF:=Holds.new w4 #[.slice (some ⟨cg,0,none⟩) T.length cc] 27
   have K4:=K1.new ((Below.refl _ _).alloc (Nat.le_refl _) (.cells #[.slice (some ⟨cg,0,none⟩) T.length cc] 27))
   have gK:=gY.alloc (.cells #[.slice (some ⟨cg,0,none⟩) T.length cc] 27)
   have xH:=bD.alloc (.cells #[.slice (some ⟨cg,0,none⟩) T.length cc] 27)
   have gZ:=gG.alloc iT (.cells #[.slice (some ⟨cg,0,none⟩) T.length cc] 27)
   have hC5n:w4.heap.size+1=(w4.alloc (.cells #[.slice (some ⟨cg,0,none⟩) T.length cc] 27)).heap.size:=by simp
   go_upto_region 7 with fail
   clear K1 gG gY bD
   obtain⟨g,o,pa,pc,rfl,hg,c0,c1,c2,hp,p1,p2,b0,b1,b2⟩:=(HT.out.new gZ).at k hk
   have we:=hid hp
   have Gp:=(K4.at k hk)
   obtain⟨pv,pa',pc',KR,d0,d1,d2,ku,mj⟩:=Gp
   clear hp c0 c1 d0 d1 ku mj
   subst KR
   obtain⟨_,_,Ho,_⟩:=id K4
   have pC:=Ho.frozenAt (k*3+2)
   have K7:=(Ho.lt cg rfl).2
   have xU:=(Ho.lt cg rfl).1
   have pT:w.heap.size+1≠cg:=fun e=>Qva Ho gK (by decide) (by rw[e];rfl)
   clear Ho
   generalize w4.alloc (.cells #[.slice (some ⟨cg,0,none⟩) T.length cc] 27)=w5 at *
   have x0:=xH.cell 0
   have xl:=xH.lt
   have y0:=uF.cell 0
   have yl:=uF.lt
   have MH:=gZ.size
   have KX:=hid K4
   clear K4
   have Kt:=hid (fun(wx:World) (hx:QGa (fun g=>g<w5.heap.size) wx (.slice pa (T[k]'hk).props.length pc) (T[k]'hk).props)=>QLr (fun g=>g<w5.heap.size) (.slice pa T[k].props.length pc) T[k].props ⟨name,value⟩ wx hx gU ⟨KQ,cI⟩)
   go_cut [12] (fun y wx=>Qxt (QIb T k ⟨name,value⟩) w w4.heap.size (.slice (some ⟨cg,0,none⟩) T.length cc) y wx)
   case first=>
    go_region_with (go_at_call 66;refine(Kt.out _ (by exact we.out.bound.drew)).mono ?_;rintro e w7 ⟨rv,rfl,JE,kK⟩;obtain⟨rva,rvc,zr⟩:=Qea JE.1;subst zr;have GU:Below w5.heap.size w5 w7:=(Below.refl w5.heap.size w5).drew.trans kK;have kx:=QBh x0 xl GU;have ky:=QBh y0 yl GU;have kd:=QBh d2 K7 GU;have kz:=(GU.frozen (p:=⟨cg,k*3+2,none⟩) K7).trans pC;have kl:=Nat.lt_of_lt_of_le K7 GU.size;have kyl:=Nat.lt_of_lt_of_le yl GU.size)
    all_goals
     go_wp2_with fail
     go_meet
     have J3:=KX.out.new GU
     have CO:=JE.base (show w.heap.size≤w5.heap.size from MH)
     have CH:=uF.keeps (Qaa.of_fresh GU (fun _=>False)) (fun e=>e)
     have ii:=gK.keeps (Qaa.of_fresh GU (fun _=>False)) (fun e=>e)
     exact⟨rfl,CH.other _ _ (by show w4.heap.size≠cg;omega),ii.other _ _ pT,by rw[Dm.out];exact J3.setProps k hk CO,(gZ.trans (GU.mono MH)).setCell (p:=⟨cg,k*3+2,none⟩) xU _⟩
   case rest=>
    obtain⟨rfl,lG,eD,rr,kK⟩:=hcut
    clear uF gK xH gZ x0 xl y0 yl pC K7 d2 MH pT
    have Mo:=fun wx hx=>Qdi (fun g=>w.heap.size≤g) (.slice (some ⟨cg,0,none⟩) T.length cc) (QIb T k ⟨name,value⟩) wx hx
    have pQ:=kK.size
    have y0:=lG.cell 0
    have yl:=lG.lt
    cases hL:Qza (QIb T k ⟨name,value⟩)with
    | false=>
     have hF:=hid (show QSd T s name value=([],3)from by rw[Kz.out,if_pos hL])
     rw[hL]at Mo
     have Ms:=hid Mo
     clear Mo hL
     go_wp2_with fail
     refine(Ms.out _ (by exact rr.in)).mono ?_
     rintro e w9 ⟨rfl,GU⟩
     have K5:=eD.keeps (Qaa.of_fresh GU (fun _=>False)) (fun e=>e)
     have Gr:=kK.trans (GU.mono pQ)
     have z0:=K5.cell 0
     have zf:=K5.free 0
     have zl:=K5.lt
     go_wp2_with fail
     have q0:(w9.setCell ⟨w.heap.size+1,0,none⟩ (.slice none 0 0)).cell? ⟨w.heap.size+1,0,none⟩=some (.slice none 0 0):=(K5.set 0 _).cell 0
     exact bodyPost_ret (v:=.tuple #[.agg #[.slice none 0 0],.int .i64 3]) (by simp[results,Tryz.results29,go_sem,q0]) rfl ⟨_,by rw[hF.out],by rw[hF.out];exact Qda.nil _ _,Gr.setCell (p:=⟨w.heap.size+1,0,none⟩) (by simp) _⟩
    | true=>
     have hF:=hid (show QSd T s name value=(QIb T k ⟨name,value⟩,0)from by rw[Kz.out,hL,if_neg (by simp)])
     rw[hL]at Mo
     have Ms:=hid Mo
     clear Mo hL
     go_wp2_with fail
     refine(Ms.out _ (by exact rr.in)).mono ?_
     rintro e w9 ⟨rfl,GU⟩
     have K5:=eD.keeps (Qaa.of_fresh GU (fun _=>False)) (fun e=>e)
     have AL:=lG.keeps (Qaa.of_fresh GU (fun _=>False)) (fun e=>e)
     have uM:=rr.new GU
     have Gr:=kK.trans (GU.mono pQ)
     clear y0 yl
     have y0:=AL.cell 0
     have yl:=AL.lt
     have z0:=K5.cell 0
     have zf:=K5.free 0
     have zl:=K5.lt
     have bA:=uM.set K5 (by decide) (by decide) 0 (.slice (some ⟨cg,0,none⟩) T.length cc)
     go_wp2_with fail
     have q0:(w9.setCell ⟨w.heap.size+1,0,none⟩ (.slice (some ⟨cg,0,none⟩) T.length cc)).cell? ⟨w.heap.size+1,0,none⟩=some (.slice (some ⟨cg,0,none⟩) T.length cc):=(K5.set 0 _).cell 0
     exact bodyPost_ret (v:=.tuple #[.agg #[.slice (some ⟨cg,0,none⟩) T.length cc],.int .i64 0]) (by simp[results,Tryz.results29,go_sem,q0]) rfl ⟨_,by rw[hF.out],by rw[hF.out];exact bA,Gr.setCell (p:=⟨w.heap.size+1,0,none⟩) (by simp) _⟩
def Sep(H:Nat)(pvs:List Value):Prop:=
 (∀i j (hi:i<pvs.length) (hj:j<pvs.length),i≠j→∀g,pvs[i].ownBlock=some g→pvs[j].ownBlock≠some g)∧∀pv∈pvs,∀g,pv.ownBlock=some g→g<H
def QOb(H:Nat)(w:World)(base:Nat)(v:Value)(T:List Qba):Prop:=
 ∃pvs:List Value,pvs.length=T.length∧w.ownsRow base 46 3 v T.length (QAa T pvs)∧(∀k (_:k<T.length) (_:k<pvs.length),Qma w base pvs[k] T[k].props)∧(∀n∈T,QIc n)∧Sep H pvs
def QUc(w:World)(base:Nat)(v:Value)(T:List Qba):Prop:=∃H,QOb H w base v T
theorem QOb.row{H:Nat}{w:World}{base:Nat}{v:Value}{T:List Qba}(h:QOb H w base v T):Qda w base v T:=by
 obtain⟨pvs,h1,h2,h3,h4,_⟩:=h;exact⟨pvs,h1,h2,h3,h4⟩
theorem QUc.row{w:World}{base:Nat}{v:Value}{T:List Qba}(h:QUc w base v T):Qda w base v T:=by obtain⟨_,h⟩:=h;exact h.row
theorem QOb.low{H:Nat}{w:World}{base:Nat}{v:Value}{T:List Qba}(h:QOb H w base v T):QOb w.heap.size w base v T:=by
 obtain⟨pvs,h1,h2,h3,h4,h5,_⟩:=h
 refine⟨pvs,h1,h2,h3,h4,h5,fun pv KR g hg=>?_⟩
 obtain⟨k,hk,rfl⟩:=List.getElem_of_mem KR
 exact((h3 k (by omega) hk).1.lt g hg).2
theorem QUc.low{w:World}{base:Nat}{v:Value}{T:List Qba}(h:QUc w base v T):QOb w.heap.size w base v T:=by obtain⟨_,h⟩:=h;exact h.low
theorem QOb.new{H:Nat}{w w':World}{base:Nat}{v:Value}{T:List Qba}(h:QOb H w base v T)(k:Below w.heap.size w w'):QOb H w' base v T:=by
 obtain⟨pvs,h1,h2,h3,h4,h5⟩:=h
 exact⟨pvs,h1,Qhb h2 k,fun j hj Gu=>(h3 j hj Gu).new k,h4,h5⟩
theorem QUc.new{w w':World}{base:Nat}{v:Value}{T:List Qba}(h:QUc w base v T)(k:Below w.heap.size w w'):QUc w' base v T:=by obtain⟨_,h⟩:=h;exact⟨_,h.new k⟩
theorem QOb.set{H:Nat}{w:World}{base b:Nat}{t:TypeId}{v:Value}{T:List Qba}{cs:Array Value}(h:QOb H w base v T)(hH:Holds w b cs t)(Hm:t≠46)(kN:t≠49)(o:Nat)(x:Value):QOb H (w.setCell ⟨b,o,none⟩ x) base v T:=by
 obtain⟨pvs,h1,h2,h3,h4,h5⟩:=h
 exact⟨pvs,h1,QNf h2 hH Hm o x,fun j hj Gu=>(h3 j hj Gu).set hH kN o x,h4,h5⟩
theorem QUc.set{w:World}{base b:Nat}{t:TypeId}{v:Value}{T:List Qba}{cs:Array Value}(h:QUc w base v T)(hH:Holds w b cs t)(Hm:t≠46)(kN:t≠49)(o:Nat)(x:Value):QUc (w.setCell ⟨b,o,none⟩ x) base v T:=by
 obtain⟨_,h⟩:=h;exact⟨_,h.set hH Hm kN o x⟩
theorem QUc.keeps{S:Nat→Prop}{w w':World}{base:Nat}{v:Value}{T:List Qba}(h:QUc w base v T)(k:Qaa S w w')(hs:∀g,S g→w.heap.size≤g∨∃cs t,Holds w g cs t∧t≠46∧t≠49):QUc w' base v T:=by
 obtain⟨H,pvs,h1,h2,h3,h4,h5⟩:=h
 have key:∀{e:TypeId} {size:Nat} {v:Value} {n:Nat} {xs:List Value},w.ownsRow base e size v n xs→e=46∨e=49→w'.ownsRow base e size v n xs:=by
  intro e size v n xs ho he
  refine Qca ho k (fun g hg Hr=>?_)
  rcases hs g Hr with h|⟨cs,t,hH,n1,n2⟩
  ·have:=(ho.lt g hg).2;omega
  ·refine Qva ho hH ?_ hg
   rcases he with rfl|rfl
   ·exact n1
   ·exact n2
 exact⟨H,pvs,h1,key h2 (.inl rfl),fun j hj Gu=>⟨key (h3 j hj Gu).1 (.inr rfl),(h3 j hj Gu).2⟩,h4,h5⟩
theorem QUc.nil(w:World)(base:Nat):QUc w base (.slice none 0 0) []:=⟨0,[],rfl,World.ownsRow_nil _ _ _ _,fun k h=>absurd h (Nat.not_lt_zero k),(fun _ h=>by cases h),⟨fun i j hi=>absurd hi (Nat.not_lt_zero i),fun _ h=>by cases h⟩⟩
theorem QOb.more{H:Nat}{w w':World}{base:Nat}{v v' pv:Value}{T:List Qba}{pvs:List Value}{n:Qba}(h1:pvs.length=T.length)(h2:w.ownsRow base 46 3 v T.length (QAa T pvs))
 (h3:∀k (_:k<T.length) (_:k<pvs.length),Qma w base pvs[k] T[k].props) (h4:∀n∈T,QIc n) (h5:Sep H pvs) (hbH:base≤H) (hp:Qma w H pv n.props) (hn:QIc n)
 (Hj:w'.ownsRow base 46 3 v' (T.length+1) (QAa T pvs++[.int .i64 n.parent,.string n.name,pv])) (hg:w.grownBy w' v.ownBlock):QUc w' base v' (T++[n]):=by
 have mn:∀g,pv.ownBlock=some g→H≤g:=fun g hg=>(hp.1.lt g hg).1
 have ku:∀k (_:k<(T++[n]).length) (_:k<(pvs++[pv]).length),Qma w' base (pvs++[pv])[k] (T++[n])[k].props:=by
  intro k hk gJ
  by_cases e:k<T.length
  ·have:Qma w' base pvs[k] T[k].props:=(h3 k e (by omega)).apart h2 hg (by decide)
   simpa[List.getElem_append_left,e,h1]using this
  ·have e2:k=T.length:=by simp at hk;omega
   subst e2
   have:Qma w' base pv n.props:=(hp.base hbH).apart h2 hg (by decide)
   simpa[List.getElem_append_right,h1]using this
 refine⟨w'.heap.size,pvs++[pv],by simp[h1],?_,ku,?_,?_,?_⟩
 ·rw[Qkc T pvs n pv h1,List.length_append];exact Hj
 ·intro m hm
  rcases List.mem_append.1 hm with hm|hm
  ·exact h4 m hm
  ·simp at hm;subst hm;exact hn
 ·intro i j hi hj Hm g sr pE
  have GW:i<pvs.length+1:=by simpa using hi
  have Gd:j<pvs.length+1:=by simpa using hj
  by_cases ei:i<pvs.length
  ·rw[List.getElem_append_left ei]at sr
   by_cases ej:j<pvs.length
   ·rw[List.getElem_append_left ej]at pE
    exact h5.1 i j ei ej Hm g sr pE
   ·obtain rfl:j=pvs.length:=by omega
    simp at pE
    have:=h5.2 _ (List.getElem_mem ei) g sr
    have:=mn g pE
    omega
  ·obtain rfl:i=pvs.length:=by omega
   have ej:j<pvs.length:=by omega
   rw[List.getElem_append_left ej]at pE
   simp at sr
   have:=h5.2 _ (List.getElem_mem ej) g pE
   have:=mn g sr
   omega
 ·intro q hq g yo
  obtain⟨k,hk,rfl⟩:=List.getElem_of_mem hq
  exact((ku k (by simp at hk ⊢;omega) hk).1.lt g yo).2
theorem Qse{w:World}{base:Nat}{e:TypeId}{size:Nat}{v:Value}{n:Nat}{xs:List Value}(h:w.ownsRow base e size v n xs){g:Nat}(hg:v.ownBlock=some g):base≤g∧∃cur,Holds w g cur e:=by
 rcases h.2 with⟨rfl,_⟩|⟨g',cap,cur,rfl,hb,hh,_⟩
 ·cases hg
 ·have:g'=g:=Option.some.inj hg
  subst this
  exact⟨hb,cur,hh⟩
theorem QUc.put{w:World}{base g n cap:Nat}{T:List Qba}(h:QUc w base (.slice (some ⟨g,0,none⟩) n cap) T)(k:Nat)(hk:k<T.length) :
 ∃pv,w.cell? ⟨g,k*3+2,none⟩=some pv∧Qma w base pv T[k].props∧pv.ownBlock≠some g∧g<w.heap.size∧(∀(w':World),Qaa (fun b=>pv.ownBlock=some b) w w'→w'.cell? ⟨g,k*3+2,none⟩=some pv∧w'.frozen? ⟨g,k*3+2,none⟩=false)∧
  ∀(w':World) (rv:Value) (ps:List Qla),Qma w' base rv ps→Qaa (fun b=>pv.ownBlock=some b) w w'→
   Qda (w'.setCell ⟨g,k*3+2,none⟩ rv) base (.slice (some ⟨g,0,none⟩) n cap) (T.set k ⟨T[k].parent,T[k].name,ps⟩):=by
 obtain⟨H,pvs,h1,h2,h3,h4,h5,h6⟩:=h
 have hn:n=T.length:=by
  rcases h2.2 with⟨e,_⟩|⟨_,_,_,e,_⟩
  ·cases e
  ·cases e;rfl
 subst hn
 obtain⟨a0,a1,a2⟩:=QXc T pvs k hk (by omega) h1
 have hp:=h3 k hk (by omega)
 have jj:g<w.heap.size:=(h2.lt g rfl).2
 have Hm:∀j (hj:j<pvs.length),pvs[j].ownBlock≠some g:=fun j hj e=>by
  obtain⟨_,cur,hH⟩:=Qse (h3 j (by omega) hj).1 e
  exact Qva h2 hH (by decide) rfl
 refine⟨pvs[k],(h2.cellAt _ (by omega)).trans a2,hp,Hm k (by omega),jj,?_,?_⟩
 ·intro w' kk
  obtain⟨cur,hH⟩:∃cur,Holds w g cur 46:=by obtain⟨_,cur,hH⟩:=Qse h2 rfl;exact⟨cur,hH⟩
  exact⟨(kk.cell (p:=⟨g,k*3+2,none⟩) jj (Hm k (by omega))).trans ((h2.cellAt _ (by omega)).trans a2),(hH.keeps kk (Hm k (by omega))).free _⟩
 ·intro w' rv ps hr kk
  have h2':=Qca h2 kk (fun b hb e=>Hm k (by omega) (e.trans hb.symm))
  have h3':∀j (_:j<T.length) (_:j<pvs.length),j≠k→Qma w' base pvs[j] T[j].props:=fun j hj Gu sC=>
   ⟨Qca (h3 j hj Gu).1 kk (fun b hb e=>h5 j k Gu (by omega) sC b hb e),(h3 j hj Gu).2⟩
  obtain⟨s1,s2⟩:=h2'.stored (k*3+2) rv
  refine⟨pvs.set k rv,by simpa using h1,?_,?_,?_⟩
  ·rw[Qne T pvs k hk ps rv h1,List.length_set];exact s1
  ·intro j hj Gu
   by_cases e:j=k
   ·subst e
    simp only[List.getElem_set_self]
    exact hr.apart h2' s2 (by decide)
   ·rw[List.getElem_set_ne (fun x=>e x.symm),List.getElem_set_ne (fun x=>e x.symm)]
    exact(h3' j (by simpa using hj) (by simpa using Gu) e).apart h2' s2 (by decide)
  ·intro m hm
   rcases List.mem_or_eq_of_mem_set hm with hm|rfl
   ·exact h4 m hm
   ·exact h4 T[k] (List.getElem_mem hk)
theorem Qqu{a b:ByteArray}(h:(a.toList == b.toList)=false):a≠b:=fun e=>by rw[e]at h;simp at h
theorem QZs{a b:ByteArray}(h:(a.toList == b.toList)=true):a=b:=(Qxa a b).1 h
def Qnu(ps qs:List Qla)(X Y:Nat)(c1 c2:Array Value)(W:World)(f:Nat)(x:Value)(w:World):Prop:=
 ∃i:Nat,x = .int .i64 i∧i≤ps.length∧ps.length≤i+f∧Hid (∀j (h1:j<ps.length) (h2:j<qs.length),j<i→ps[j]=qs[j])∧Holds w X c1 46∧Holds w Y c2 46∧Below W.heap.size W w
set_option maxRecDepth 100000 in
theorem QHj(R R':Nat→Prop)(p q:Int)(n m:ByteArray)(v u:Value)(ps qs:List Qla)(w:World)(h1:QGa R w v ps)(h2:QGa R' w u qs) :
 Calls Tryz.prog 41 #[.agg #[.int .i64 p,.string n,v],.agg #[.int .i64 q,.string m,u]] w fun e w'=>∃b,e = .returned (.bool b)∧(b=true↔p=q∧n=m∧ps=qs)∧Below w.heap.size w w':=by
 obtain⟨a,cap,rfl,gM,gB⟩:=h1.shape
 obtain⟨a',cap',rfl,xP,xQ⟩:=h2.shape
 have H1:=hid h1;have H2:=hid h2;clear h1 h2
 have hX:=(Holds.new w #[.int .i64 p,.string n,.slice a ps.length cap] 46).alloc (.cells #[.int .i64 q,.string m,.slice a' qs.length cap'] 46)
 have hY:=Holds.newAt (w:=w.alloc (.cells #[.int .i64 p,.string n,.slice a ps.length cap] 46)) (B:=w.heap.size+1) (by simp) #[.int .i64 q,.string m,.slice a' qs.length cap'] 46
 have He:Below w.heap.size w ((w.alloc (.cells #[.int .i64 p,.string n,.slice a ps.length cap] 46)).alloc (.cells #[.int .i64 q,.string m,.slice a' qs.length cap'] 46)):=((Below.refl _ _).alloc (Nat.le_refl _) _).alloc (by simp) _
 by_cases fb:p=q
 ·have zh:(p != q)=false:=by simpa using fb
  have uA:=hid fb
  clear fb
  cases Hv:(n.toList == m.toList)with
  | false=>
   have Hm:=hid (Qqu Hv)
   go_enter Tryz.func41,Tryz.ntmps41
   go_wp2_with fail
   go_ret
   exact⟨false,rfl,by simp[Hm.out],He⟩
  | true=>
   have eL:=hid (QZs Hv)
   by_cases hl:ps.length=qs.length
   ·have hl':((ps.length:Int) != (qs.length:Int))=false:=by rw[hl];simp
    have HL:=hid hl
    clear hl
    go_enter Tryz.func41,Tryz.ntmps41
    go_wp2_with fail
    go_loopg [30] ps.length (fun f x wr=>Qnu ps qs w.heap.size (w.heap.size+1) #[.int .i64 p,.string n,.slice a ps.length cap] #[.int .i64 q,.string m,.slice a' qs.length cap'] w f x wr)
    case atStart=>exact⟨0,rfl,by omega,by omega,hid (fun j _ _ h=>by omega),hX,hY,He⟩
    case round=>
     clear hX hY He
     obtain⟨i,rfl,G7,ab,Ha,hX,hY,hb⟩:=hrel
     by_cases Hh:i<ps.length
     ·have GR:i<qs.length:=by rw[←HL.out];exact Hh
      have k1:(i:Int)<ps.length:=by omega
      have k2:(i:Int)<qs.length:=by omega
      have x2:=hX.cell 2
      have y2:=hY.cell 2
      obtain⟨g,o,l9,hg,c0,c1,_⟩:=(H1.out.new hb).at i Hh
      obtain⟨g',o',J5,hg',d0,d1,_⟩:=(H2.out.new hb).at i GR
      subst l9
      subst J5
      have HB:=hid hb
      have HX:=hid hX
      have HY:=hid hY
      have iY:=Ha
      clear hb hX hY Ha
      have Km:(ps[i].name=qs[i].name∧ps[i].value=qs[i].value)∨¬(ps[i].name=qs[i].name∧ps[i].value=qs[i].value):=Classical.em _
      rcases Km with hc|hc
      ·have e1:(ps[i].name.toList == qs[i].name.toList)=true:=by rw[hc.1];simp
       have e2:(ps[i].value.toList == qs[i].value.toList)=true:=by rw[hc.2];simp
       have GP:ps[i]=qs[i]:=by
        cases hx:ps[i];cases hy:qs[i]
        rw[hx,hy]at hc
        simp only at hc
        rw[hc.1,hc.2]
       have qy:=hid GP
       clear GP hc
       generalize ps[i].name=a1 at *
       generalize ps[i].value=a2 at *
       generalize qs[i].name=b1 at *
       generalize qs[i].value=b2 at *
       go_wp2_with fail
       go_quiet (fail)
       go_wp2_with fail
       go_roundg (gk-1)
       case measure=>omega
       case rel=>
        refine⟨i+1,by go_num,by omega,by omega,hid (fun j j1 j2 h=>?_),HX.out,HY.out,⟨HB.out.os,HB.out.tape,HB.out.output,HB.out.size,HB.out.block⟩⟩
        by_cases e:j=i
        ·subst e;exact qy.out
        ·exact iY.out j j1 j2 (by omega)
      ·have kR:=hid (show ps≠qs from fun e=>hc (by simp only[e];exact⟨trivial,trivial⟩))
       cases e1:(ps[i].name.toList == qs[i].name.toList)with
       | false=>
        clear hc
        generalize ps[i].name=a1 at *
        generalize ps[i].value=a2 at *
        generalize qs[i].name=b1 at *
        generalize qs[i].value=b2 at *
        go_wp2_with fail
        go_quiet (fail)
        go_wp2_with fail
        go_ret
        exact⟨false,rfl,by simp[kR.out],⟨HB.out.os,HB.out.tape,HB.out.output,HB.out.size,HB.out.block⟩⟩
       | true=>
        have e2:(ps[i].value.toList == qs[i].value.toList)=false:=by
         cases h:(ps[i].value.toList == qs[i].value.toList)with
         | false=>rfl
         | true=>exact absurd ⟨QZs e1,QZs h⟩ hc
        clear hc
        generalize ps[i].name=a1 at *
        generalize ps[i].value=a2 at *
        generalize qs[i].name=b1 at *
        generalize qs[i].value=b2 at *
        go_wp2_with fail
        go_quiet (fail)
        go_wp2_with fail
        go_ret
        exact⟨false,rfl,by simp[kR.out],⟨HB.out.os,HB.out.tape,HB.out.output,HB.out.size,HB.out.block⟩⟩
     ·obtain rfl:i=ps.length:=by omega
      have GP:Hid (ps=qs):=hid (by
       apply List.ext_getElem HL.out
       intro j j1 j2
       exact Ha.out j j1 j2 j1)
      have Hc:=hid hb
      clear hb hX hY
      go_wp2_with fail
      go_ret
      exact⟨true,rfl,by simp[uA.out,eL.out,GP.out],Hc.out⟩
   ·have hl':((ps.length:Int) != (qs.length:Int))=true:=by simp;omega
    have kR:=hid (show ps≠qs from fun e=>hl (by rw[e]))
    clear hl
    go_enter Tryz.func41,Tryz.ntmps41
    go_wp2_with fail
    go_ret
    exact⟨false,rfl,by simp[kR.out],He⟩
 ·have zh:(p != q)=true:=by simpa using fb
  go_enter Tryz.func41,Tryz.ntmps41
  go_wp2_with fail
  go_ret
  exact⟨false,rfl,by simp[fb],He⟩
def ofT(ps:List Qla)(x:ByteArray):ByteArray × Bool:=match ps.find? (fun p=>eqS p.name x)with
 | some p=>(p.value,true)
 | none=>(ByteArray.empty,false)
theorem QQp{ps:List Qla}{x:ByteArray}{k:Nat}(hk:k<ps.length)(h:eqS ps[k].name x=true)(hb:∀j (hj:j<ps.length),j<k→eqS ps[j].name x=false):ofT ps x=(ps[k].value,true):=by
 have:ps.find? (fun p=>eqS p.name x)=some ps[k]:=by
  rw[List.find?_eq_some_iff_getElem]
  exact⟨h,k,hk,rfl,fun j hj=>by simp[hb j (by omega) hj]⟩
 unfold ofT;rw[this]
theorem Q1t{ps:List Qla}{x:ByteArray}(hb:∀j (hj:j<ps.length),j<ps.length→eqS ps[j].name x=false):ofT ps x=(ByteArray.empty,false):=by
 have:ps.find? (fun p=>eqS p.name x)=none:=by
  rw[List.find?_eq_none]
  intro p hp
  obtain⟨j,hj,rfl⟩:=List.getElem_of_mem hp
  simp[hb j hj hj]
 unfold ofT;rw[this]
set_option maxRecDepth 100000 in
theorem Qgt(R:Nat→Prop)(pr:Int)(nm:ByteArray)(v:Value)(ps:List Qla)(x:ByteArray)(w:World)(hP:QGa R w v ps) :
 Calls Tryz.prog 14 #[.agg #[.int .i64 pr,.string nm,v],.string x] w fun e w'=>e = .returned (.tuple #[.string (ofT ps x).1,.bool (ofT ps x).2])∧Below w.heap.size w w':=by
 obtain⟨a,cap,rfl,gM,gB⟩:=hP.shape
 have HP:=hid hP;clear hP
 go_enter Tryz.func14,Tryz.ntmps14
 go_wp2_with fail
 go_loopg [11] ps.length (fun f y wr=>∃k:Nat,y = .int .i64 k∧k≤ps.length∧ps.length≤k+f∧Hid (∀j (hj:j<ps.length),j<k→eqS ps[j].name x=false)∧Below w.heap.size w wr)
 case atStart=>exact⟨0,rfl,by omega,by omega,hid (fun j _ h=>by omega),(Below.refl _ _).alloc (Nat.le_refl _) _⟩
 case round=>
  obtain⟨k,rfl,gz,gJ,Ha,hb⟩:=hrel
  have H3:=hb.size
  by_cases Hh:k<ps.length
  ·obtain⟨g,o,l9,hg,q0,q1,Jz,kU⟩:=(HP.out.new hb).at k Hh
   subst l9
   have hcut:(k:Int)<(ps.length:Int):=by omega
   cases Hv:(ps[k].name.toList == x.toList)with
   | true=>
    have kE:=hid (QQp Hh (show eqS ps[k].name x=true from Hv) Ha.out)
    clear Ha
    generalize ps[k]=pd at *
    go_wp2_with fail
    go_ret2
    exact⟨by rw[kE.out];rfl,hb.alloc H3 _⟩
   | false=>
    have rG:=hid (show ∀j (hj:j<ps.length),j<k+1→eqS ps[j].name x=false from fun j hj h=>by
     by_cases e:j=k
     ·subst e;exact Hv
     ·exact Ha.out j hj (by omega))
    clear Ha
    generalize ps[k]=pd at *
    go_wp2_with fail
    go_roundg (gk-1)
    case measure=>omega
    case rel=>exact⟨k+1,by go_num,by omega,by omega,rG,hb.alloc H3 _⟩
  ·obtain rfl:k=ps.length:=by omega
   have kE:=hid (Q1t Ha.out)
   clear Ha
   go_wp2_with fail
   go_ret2
   exact⟨by rw[kE.out];rfl,hb⟩
def QUb(ps:List Qla)(name:ByteArray):List Qla:=ps.filter fun p=>!eqS p.name name
theorem Q1s{a b:Qba}(h:a.parent=b.parent∧a.name=b.name∧a.props=b.props):a=b:=by
 cases a;cases b
 simp only at h
 obtain⟨rfl,rfl,rfl⟩:=h
 rfl
def Qmu(T U:List Qba)(X Y:Nat)(c1 c2:Value)(W:World)(f:Nat)(x:Value)(w:World):Prop:=
 ∃i:Nat,x = .int .i64 i∧i≤T.length∧T.length≤i+f∧Hid (∀j (h1:j<T.length) (h2:j<U.length),j<i→T[j]=U[j])∧Holds w X #[c1] 27∧Holds w Y #[c2] 27∧Below W.heap.size W w
set_option maxRecDepth 100000 in
theorem Qdq(R R':Nat→Prop)(v u:Value)(T U:List Qba)(w:World)(h1:Qpa R w v T)(h2:Qpa R' w u U) :
 Calls Tryz.prog 12 #[.agg #[v],.agg #[u]] w fun e w'=>∃b,e = .returned (.bool b)∧(b=true↔T=U)∧Below w.heap.size w w':=by
 obtain⟨a,cap,rfl,gM,gB⟩:=h1.shape
 obtain⟨a',cap',rfl,xP,xQ⟩:=h2.shape
 have H1:=hid h1;have H2:=hid h2;clear h1 h2
 have hX:=(Holds.new w #[.slice a T.length cap] 27).alloc (.cells #[.slice a' U.length cap'] 27)
 have hY:=Holds.newAt (w:=w.alloc (.cells #[.slice a T.length cap] 27)) (B:=w.heap.size+1) (by simp) #[.slice a' U.length cap'] 27
 have He:Below w.heap.size w ((w.alloc (.cells #[.slice a T.length cap] 27)).alloc (.cells #[.slice a' U.length cap'] 27)):=((Below.refl _ _).alloc (Nat.le_refl _) _).alloc (by simp) _
 by_cases hl:T.length=U.length
 ·have hl':((T.length:Int) != (U.length:Int))=false:=by rw[hl];simp
  have HL:=hid hl
  clear hl
  go_enter Tryz.func12,Tryz.ntmps12
  go_wp2_with fail
  go_loopg [16] T.length (fun f x wr=>Qmu T U w.heap.size (w.heap.size+1) (.slice a T.length cap) (.slice a' U.length cap') w f x wr)
  case atStart=>exact⟨0,rfl,by omega,by omega,hid (fun j _ _ h=>by omega),hX,hY,He⟩
  case round=>
   clear hX hY He
   obtain⟨i,rfl,G7,ab,Ha,hX,hY,hb⟩:=hrel
   by_cases Hh:i<T.length
   ·have GR:i<U.length:=by rw[←HL.out];exact Hh
    have k1:(i:Int)<T.length:=by omega
    have k2:(i:Int)<U.length:=by omega
    have x0:=hX.cell 0
    have y0:=hY.cell 0
    obtain⟨g,o,pa,pc,l9,hg,c0,c1,c2,hP,-,-,-,-,-⟩:=(H1.out.new hb).at i Hh
    obtain⟨g',o',pa',pc',J5,hg',d0,d1,d2,hP',-,-,-,-,-⟩:=(H2.out.new hb).at i GR
    subst l9
    subst J5
    have HB:=hid hb
    have HX:=hid hX
    have HY:=hid hY
    have HC:=hid (QHj R R' T[i].parent U[i].parent T[i].name U[i].name (.slice pa T[i].props.length pc) (.slice pa' U[i].props.length pc') T[i].props U[i].props wr.drew hP.drew hP'.drew)
    have gw:Below wr.heap.size wr wr.drew:=(Below.refl _ _).drew
    have kE:=hid (show(T[i].parent=U[i].parent∧T[i].name=U[i].name∧T[i].props=U[i].props)↔T[i]=U[i]from⟨Q1s,fun e=>by rw[e];exact⟨rfl,rfl,rfl⟩⟩)
    have Kr:=hid (show T[i]=U[i]→∀j (h1:j<T.length) (h2:j<U.length),j<i+1→T[j]=U[j]from fun e j j1 j2 h=>by
     by_cases ej:j=i
     ·subst ej;exact e
     ·exact Ha.out j j1 j2 (by omega))
    have Hm:=hid (show ¬T[i]=U[i]→T≠U from fun h e=>h (by simp only[e]))
    clear hb hX hY Ha hP hP'
    generalize T[i].parent=n1 at *
    generalize T[i].name=n2 at *
    generalize T[i].props=n3 at *
    generalize U[i].parent=m1 at *
    generalize U[i].name=m2 at *
    generalize U[i].props=m3 at *
    go_wp2_with fail
    go_region_with (go_at_call 41;refine HC.out.mono ?_;rintro e w2 ⟨b,rfl,ng,Hc⟩)
    all_goals
     have Hi:=gw.trans Hc
     have GK:=HX.out.keeps (Qaa.of_fresh Hi (fun _=>False)) (fun e=>e)
     have CX:=HY.out.keeps (Qaa.of_fresh Hi (fun _=>False)) (fun e=>e)
     have Hu:=HB.out.trans (Hi.mono HB.out.size)
     rw[kE.out]at ng
     clear x0 y0 c0 c1 c2 d0 d1 d2
     cases b with
     | true=>
      have jn:=hid (Kr.out (ng.1 rfl))
      clear ng
      go_wp2_with fail
      go_roundg (gk-1)
      case measure=>omega
      case rel=>exact⟨i+1,by go_num,by omega,by omega,jn,GK,CX,Hu⟩
     | false=>
      have jn:=hid (Hm.out (fun e=>by have:=ng.2 e;cases this))
      clear ng
      go_wp2_with fail
      go_ret
      exact⟨false,rfl,by simp[jn.out],Hu⟩
   ·obtain rfl:i=T.length:=by omega
    have GP:Hid (T=U):=hid (by
     apply List.ext_getElem HL.out
     intro j j1 j2
     exact Ha.out j j1 j2 j1)
    have Hc:=hid hb
    clear hb hX hY
    go_wp2_with fail
    go_ret
    exact⟨true,rfl,by simp[GP.out],Hc.out⟩
 ·have hl':((T.length:Int) != (U.length:Int))=true:=by simp;omega
  have kR:=hid (show T≠U from fun e=>hl (by rw[e]))
  clear hl
  go_enter Tryz.func12,Tryz.ntmps12
  go_wp2_with fail
  go_ret
  exact⟨false,rfl,by simp[kR.out],He⟩
end Go.Proofs.YtgaboghigefgbaaGreatDoor
