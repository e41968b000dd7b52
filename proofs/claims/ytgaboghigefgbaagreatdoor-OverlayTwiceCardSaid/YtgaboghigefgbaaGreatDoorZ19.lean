/- Package source: Read. | Definitions in memory, read (moved out of SrcQ). -/
import Derived.Test.YtgaboghigefgbaaGreatDoorZ17
import Derived.Test.YtgaboghigefgbaaGreatDoorZ8
set_option linter.all false
set_option maxHeartbeats 8000000
namespace Go.Proofs.YtgaboghigefgbaaGreatDoor
open Go.Lib (hid)
open Go.RowKit
def Qql(s:ByteArray)(file:Int)(w:World)(e:Ending)(w':World):Prop:=
 ∃v,e = .returned (.tuple #[v,QMk (Qut s.data.toList file).2.1,.int .i64 (Qut s.data.toList file).2.2])∧QNb w' w.heap.size file v (Qut s.data.toList file).1∧Below w.heap.size w w'
theorem QWr(a b:Int)(s:ByteArray)(file l q:Int)(wx:World):(Instr.field 150 (.agg #[.int .i64 a,.string s,.int .i64 b,.int .i64 file,.int .i64 l,.int .i64 q]) 0).run Tryz.prog wx = .ok (.int .i64 a) wx:=by kernel_rfl
theorem QNb.lower{w:World}{base b2:Nat}{file:Int}{v:Value}{D:List Qxc}(h:QNb w base file v D)(hb:b2≤base):QNb w b2 file v D:=by
 obtain⟨vs,h1,h2,h3⟩:=h
 exact⟨vs,h1,Q8b h2 hb,fun j h h'=>(h3 j h h').lower hb⟩
theorem Qqq{w:World}{base B:Nat}{v:Value}{file:Int}{L:List Tok}(h:w.ownsRow base 150 6 v L.length (Qmc file L))(Hm:L≠[])(hB:w.heap.size≤B):Quh B w v file L:=by
 obtain⟨g,cap,rfl,_,hg,_,hc⟩:=Qpt h Hm
 exact⟨g,cap,rfl,by omega,fun i hi k u hu=>hc i _ (List.getElem?_eq_getElem hi) k u hu⟩
set_option maxRecDepth 100000 in
theorem Qom(s:ByteArray)(file:Int)(w:World)(hs:s.size≤maxLen)(h0:Qog w) :
 Calls Tryz.prog 85 #[.string s,.int .i64 file] w (Qql s file w):=by
 have He:Below w.heap.size w (w.alloc (.cells #[.int .i64 0,.int .i64 0,.int .i64 0] 79)):=(Below.refl _ _).alloc (Nat.le_refl _) _
 have GH:=Holds.new w #[.int .i64 0,.int .i64 0,.int .i64 0] 79
 have Gf:=Qzo s file _ hs (h0.keeps (Qaa.of_fresh He (fun _=>False)) (fun e=>e))
 have MJ:=Qho s.data.toList file
 unfold Qdj QMk at Gf
 unfold Qql
 have hT:∃T,Qut s.data.toList file=T:=⟨_,rfl⟩
 obtain⟨T,hT⟩:=hT
 rw[hT]
 unfold Qut at hT
 generalize Qwd s.data.toList file=RT at *
 obtain⟨L,⟨p1,p2,p3⟩,er⟩:=RT
 simp only at Gf MJ hT
 unfold QMk
 have hsz:(w.alloc (.cells #[.int .i64 0,.int .i64 0,.int .i64 0] 79)).heap.size=w.heap.size+1:=by simp
 clear h0
 go_enter Tryz.func85,Tryz.ntmps85
 go_wp2_with fail
 generalize w.alloc (.cells #[.int .i64 0,.int .i64 0,.int .i64 0] 79)=w0 at *
 refine(by exact Gf:Calls _ _ _ _ _).mono ?_
 rintro e w1 ⟨lv,rfl,Ho,Hb⟩
 have kb1:Qaa (fun _=>False) w0 w1:=Qaa.of_fresh Hb _
 have Gg:Qaa (fun _=>False) w w1:=(Qaa.of_fresh He (fun _=>False)).trans kb1 (fun _ _ e=>e)
 have Hs:=GH.keeps kb1 (fun e=>e)
 have Hw:=Hs.alloc (.cells #[.int .i64 p1,.int .i64 p2,.int .i64 p3] 79)
 have Kf:=Holds.new w1 #[.int .i64 p1,.int .i64 p2,.int .i64 p3] 79
 have gf:=Gg.alloc (.cells #[.int .i64 p1,.int .i64 p2,.int .i64 p3] 79)
 have Gj:=World.ownsRow.alloc Ho (.cells #[.int .i64 p1,.int .i64 p2,.int .i64 p3] 79)
 have fy:=Hs.lt
 clear Gf He GH Hb kb1 Gg Ho
 by_cases he:er=0
 ·subst he
  rw[if_neg (by simp)]at hT
  obtain⟨ts,t,xh,h8⟩:=MJ.2.2 rfl
  have mj:LOk L:=⟨MJ.2.1,MJ.1,ts,t,xh,h8⟩
  have Hm:L≠[]:=by rw[xh];simp
  have hpos:0<L.length:=List.length_pos_iff.2 Hm
  have zA:=Qqq (B:=(w1.alloc (.cells #[.int .i64 p1,.int .i64 p2,.int .i64 p3] 79)).heap.size) Gj Hm (Nat.le_refl _)
  obtain⟨gL,cL,rfl,_⟩:=id zA
  have gn:Q7a ((w1.alloc (.cells #[.int .i64 p1,.int .i64 p2,.int .i64 p3] 79)).alloc (.cells #[.slice (some ⟨gL,0,none⟩) L.length cL,.int .i64 0,.slice none 0 0,.pointer none] 148)) (w1.heap.size+1) (w1.alloc (.cells #[.int .i64 p1,.int .i64 p2,.int .i64 p3] 79)).heap.size file L (.slice (some ⟨gL,0,none⟩) L.length cL) (.slice none 0 0) 0 []:=
   ⟨Holds.newAt (by simp) _ _,zA.keeps ((Qaa.refl (fun _=>False) _).alloc _) (fun _ e=>e.elim),QNb.none _ _ _,by simp,by simp,hpos,mj,Nat.le_refl _⟩
  have Hz:=Hw.alloc (.cells #[.slice (some ⟨gL,0,none⟩) L.length cL,.int .i64 0,.slice none 0 0,.pointer none] 148)
  have gu:=gf.alloc (.cells #[.slice (some ⟨gL,0,none⟩) L.length cL,.int .i64 0,.slice none 0 0,.pointer none] 148)
  have gi:(w1.alloc (.cells #[.int .i64 p1,.int .i64 p2,.int .i64 p3] 79)).heap.size=w1.heap.size+1:=by simp
  have jv:w.heap.size<w1.heap.size:=fy
  have c9:L.length<0+Q0d L:=by unfold Q0d;omega
  generalize hN:Q0d L=N at *
  generalize MU:Qtq L N 0 []=TR at *
  have lr:=hid MU
  have Ke:=hid mj
  have hlen:=MJ.2.1
  rw[gi]at gn
  clear Kf Gj zA Hw gf hN MU MJ mj xh gi
  go_wp2_with fail
  generalize (w1.alloc (.cells #[.int .i64 p1,.int .i64 p2,.int .i64 p3] 79)).alloc (.cells #[.slice (some ⟨gL,0,none⟩) L.length cL,.int .i64 0,.slice none 0 0,.pointer none] 148)=w3 at *
  go_loopg [] N (fun f wr=>∃(j:Nat) (acc:List Qxc) (ov:Value),Hid (Qtq L f j acc=TR)∧L.length<j+f∧Q7a wr (w1.heap.size+1) (w1.heap.size+1) file L (.slice (some ⟨gL,0,none⟩) L.length cL) ov j acc∧Qaa (fun b=>w1.heap.size+1≤b) w3 wr)
  case atStart=>exact⟨0,[],.slice none 0 0,lr,c9,gn,Qaa.refl _ _⟩
  case round=>
   obtain⟨j,acc,ov,hR,sf,hA,hK⟩:=hrel
   have Gd:=hA.lt
   obtain⟨f,hf⟩:∃f,gk=f+1:=⟨gk-1,by omega⟩
   have hS:=hR.out
   rw[hf,Qtq]at hS
   have Gi:=Q8c wr _ _ file L _ ov j _ hA
   unfold QHb at Gi
   obtain⟨t,GC⟩:∃t,t=tkN L j:=⟨_,rfl⟩
   rw[←GC]at Gi hS
   have kV:=hid GC
   clear GC hR
   obtain⟨t0,t1,t2,t3,t4⟩:=t
   simp only at Gi hS
   have aE:=QWr t0 t2 ⟨t1.toArray⟩ file t3 t4
   go_wp2_with fail
   refine(by exact Gi:Calls _ _ _ _ _).mono ?_
   rintro e w4 ⟨rfl,Hu⟩
   have kb4:Qaa (fun _=>False) wr w4:=Qaa.of_fresh Hu _
   have gQ:=hA.keeps kb4
   have kW:=hK.trans kb4 (S:=(fun b=>w1.heap.size+1≤b)) (fun _ _ e=>e.elim)
   clear Gi Hu kb4 hA hK
   by_cases h8:t0=8
   ·subst h8
    rw[if_pos rfl]at hS
    subst hS
    simp only at hT
    subst hT
    have gY:=Hz.keeps kW (by omega)
    have gR:Qaa (fun _=>False) w w4:=gu.trans (kW.mono (S:=fun b=>w.heap.size<b) (fun b _ e=>by omega)) (fun b hb e=>by omega)
    obtain⟨n0,n1,n2,nf0,nf1,nf2,nl⟩:=three gY
    have c2:w4.cell? ⟨w1.heap.size+1,2,none⟩=some ov:=gQ.holds.cell 2
    have crl:=gQ.holds.lt
    have hd:=gQ.defs
    obtain⟨oa,oc,rfl⟩:=hd.slice
    have HD:=hid hd
    have MO:=hid gY
    have dB:=hid gR
    clear hd gY gR kW gQ
    go_wp2_with fail
    have z1:=Qib MO.out (.int .i64 0) (.int .i64 0) (.int .i64 0)
    have z2:=QLa (S:=fun _=>False) dB.out (B:=w.heap.size) (.inl (Nat.le_refl _)) (.int .i64 0) (.int .i64 0) (.int .i64 0)
    have z3:=(HD.out.keeps (QLa (S:=(· = w.heap.size)) (Qaa.refl _ w4) (.inr rfl) (.int .i64 0) (.int .i64 0) (.int .i64 0)) (Qyc.one MO.out (by decide) (by decide) (by decide))).lower (show w.heap.size≤w1.heap.size+1 by omega)
    unfold Qqh at z1 z2 z3
    obtain⟨q0,q1,q2,_⟩:=three z1
    exact bodyPost_ret (v:=.tuple #[.slice oa acc.length oc,.agg #[.int .i64 0,.int .i64 0,.int .i64 0],.int .i64 0]) (by simp[results,Tryz.results85,go_sem,q0,q1,q2]) rfl ⟨_,rfl,z3,z2.below (Nat.le_refl _) (fun _ _ e=>e)⟩
   ·rw[if_neg h8]at hS
    have h8b:(t0 != 8)=true:=by simpa using h8
    have aq:=Qmt w4 _ _ file L _ ov j _ gQ
    unfold Qzc at aq
    generalize Qcu L j=PR at *
    clear h8
    go_wp2_with fail
    refine(by exact aq:Calls _ _ _ _ _).mono ?_
    rintro e w5 ⟨H9,hm⟩
    have gR:=kW.trans (Qaa.of_below H9) (S:=(fun b=>w1.heap.size+1≤b)) (fun _ _ e=>e)
    clear aq gQ kW H9 aE
    cases PR with
    | ok q=>
     obtain⟨k,ds⟩:=q
     simp only at hm hS
     obtain⟨rfl,ov6,KE,sC⟩:=hm
     have HS:=hid hS
     clear hS
     go_wp2_with fail
     go_roundg (gk-1)
     case measure=>omega
     case rel=>
      refine⟨k,acc++ds,ov6,?_,by omega,KE,gR⟩
      rw[hf,Nat.add_sub_cancel]
      exact HS
    | error q=>
     obtain⟨k,c⟩:=q
     simp only at hm hS
     obtain⟨rfl,ov6,x,ff,hH,hF⟩:=hm
     subst hS
     simp only at hT
     subst hT
     have gK:=Hz.keeps gR (by omega)
     have Ki:Qaa (fun _=>False) w w5:=gu.trans (gR.mono (S:=fun b=>w.heap.size<b) (fun b _ e=>by omega)) (fun b hb e=>by omega)
     obtain⟨n0,n1,n2,nf0,nf1,nf2,nl⟩:=three gK
     have c3:w5.cell? ⟨w1.heap.size+1,3,none⟩=some (.pointer (some ⟨ff,0,none⟩)):=hH.cell 3
     have crl:=hH.lt
     have frl:=hF.lt
     have d0:w5.cell? ⟨ff,0,none⟩=some (.int .i64 file):=hF.cell 0
     have d1:w5.cell? ⟨ff,1,none⟩=some (.int .i64 (tkN L k).line):=hF.cell 1
     have d2:w5.cell? ⟨ff,2,none⟩=some (.int .i64 (tkN L k).col):=hF.cell 2
     have d3:w5.cell? ⟨ff,3,none⟩=some (.int .i64 c):=hF.cell 3
     obtain⟨ln,jl⟩:∃z,z=(tkN L k).line:=⟨_,rfl⟩
     obtain⟨cl,gN⟩:∃z,z=(tkN L k).col:=⟨_,rfl⟩
     rw[←jl]at d1
     rw[←gN]at d2
     have Aa:=hid jl
     have ma:=hid gN
     clear jl gN
     have JS:=hid gK
     have jP:=hid Ki
     clear gK Ki hH hF gR
     go_wp2_with fail
     go_region
     all_goals
      go_wp2_with fail
      have z1:=(Qib JS.out (.int .i64 file) (.int .i64 ln) (.int .i64 cl)).drew
      have z2:=(QLa (S:=fun _=>False) jP.out (B:=w.heap.size) (.inl (Nat.le_refl _)) (.int .i64 file) (.int .i64 ln) (.int .i64 cl)).drew
      unfold Qqh at z1 z2
      obtain⟨q0,q1,q2,_⟩:=three z1
      exact bodyPost_ret (v:=.tuple #[.slice none 0 0,.agg #[.int .i64 file,.int .i64 ln,.int .i64 cl],.int .i64 c]) (by simp[results,Tryz.results85,go_sem,q0,q1,q2]) rfl ⟨_,(by rw[Aa.out,ma.out]),QNb.none _ _ _,z2.below (Nat.le_refl _) (fun _ _ e=>e)⟩
 ·rw[if_pos he]at hT
  subst hT
  have Bp:(er != 0)=true:=by simpa using he
  obtain⟨n0,n1,n2,nf0,nf1,nf2,nl⟩:=three Hw
  obtain⟨m0,m1,m2,mf0,mf1,mf2,ml⟩:=three Kf
  obtain⟨va,vc,rfl⟩:=Qea Gj
  have KM:=hid Hw
  have jO:=hid gf
  clear he MJ Hw gf Kf Gj
  go_wp2_with fail
  generalize w1.alloc (.cells #[.int .i64 p1,.int .i64 p2,.int .i64 p3] 79)=w2 at *
  go_region
  all_goals
   go_wp2_with fail
   have z1:=(Qib KM.out (.int .i64 p1) (.int .i64 p2) (.int .i64 p3)).drew
   have z2:=(QLa (S:=fun _=>False) jO.out (B:=w.heap.size) (.inl (Nat.le_refl _)) (.int .i64 p1) (.int .i64 p2) (.int .i64 p3)).drew
   unfold Qqh at z1 z2
   obtain⟨q0,q1,q2,_⟩:=three z1
   exact bodyPost_ret (v:=.tuple #[.slice none 0 0,.agg #[.int .i64 p1,.int .i64 p2,.int .i64 p3],.int .i64 er]) (by simp[results,Tryz.results85,go_sem,q0,q1,q2]) rfl ⟨_,rfl,QNb.none _ _ _,z2.below (Nat.le_refl _) (fun _ _ e=>e)⟩
theorem QKj{w:World}{base:Nat}{e:TypeId}{size:Nat}{v:Value}{n:Nat}{xs:List Value}(h:w.ownsRow base e size v n xs)(hn:0<n) :
 ∃g cap,v = .slice (some ⟨g,0,none⟩) n cap∧g<w.heap.size∧base≤g∧∀j,j<n*size→w.cell? ⟨g,j,none⟩=xs[j]?:=by
 rcases h.2 with⟨_,h0⟩|⟨g,cap,cur,rfl,hb,hh,_⟩
 ·omega
 ·exact⟨g,cap,rfl,lt_of_block hh,hb,fun j hj=>h.cellAt j hj⟩
theorem QRg:∀(cs:List Q4g) (k:Nat) (h:k<cs.length),(QYd cs)[k*2]? = some (.int .i64 cs[k].value)∧(QYd cs)[k*2+1]? = some (.string cs[k].label)
 | c::cs,0,_=>⟨rfl,rfl⟩
 | c::cs,k+1,h=>by
  have:=QRg cs k (by simpa using h)
  rw[show(k+1)*2=k*2+2 from by omega]
  exact this
theorem QZg:∀(ps:List Qzf) (vs:List Value) (k:Nat) (h:k<ps.length) (h2:k<vs.length),vs.length=ps.length→
 (QYc ps vs)[k*3]? = some (.int .i64 ps[k].kind)∧(QYc ps vs)[k*3+1]? = some vs[k]∧(QYc ps vs)[k*3+2]? = some (.string ps[k].text)
 | p::ps,v::vs,0,_,_,_=>⟨rfl,rfl,rfl⟩
 | p::ps,v::vs,k+1,h,h2,hl=>by
  have:=QZg ps vs k (by simpa using h) (by simpa using h2) (by simpa using hl)
  rw[show(k+1)*3=k*3+3 from by omega]
  exact this
theorem QJh(file:Int):∀(D:List Qxc) (vs:List Value) (k:Nat) (h:k<D.length) (h2:k<vs.length),vs.length=D.length→
 (QPb file D vs)[k*7]? = some (.int .i64 D[k].kind)∧(QPb file D vs)[k*7+1]? = some (.string D[k].label)∧(QPb file D vs)[k*7+2]? = some (.string D[k].name)∧(QPb file D vs)[k*7+3]? = some vs[k]∧
 (QPb file D vs)[k*7+4]? = some (.int .i64 file)∧(QPb file D vs)[k*7+5]? = some (.int .i64 D[k].line)∧(QPb file D vs)[k*7+6]? = some (.int .i64 D[k].col)
 | d::D,v::vs,0,_,_,_=>⟨rfl,rfl,rfl,rfl,rfl,rfl,rfl⟩
 | d::D,v::vs,k+1,h,h2,hl=>by
  have:=QJh file D vs k (by simpa using h) (by simpa using h2) (by simpa using hl)
  rw[show(k+1)*7=k*7+7 from by omega]
  exact this
section
variable{w:World}{base:Nat}{file:Int}{v:Value}{cs:List Q4g}{ps:List Qzf}{D:List Qxc}
theorem Q7q(h:QRa w base v cs)(h0:0<cs.length):∃g cap,v = .slice (some ⟨g,0,none⟩) cs.length cap∧g<w.heap.size∧∀k (hk:k<cs.length),w.cell? ⟨g,k*2,none⟩=some (.int .i64 cs[k].value)∧w.cell? ⟨g,k*2+1,none⟩=some (.string cs[k].label):=by
 obtain⟨g,cap,rfl,hg,_,hc⟩:=QKj h h0
 refine⟨g,cap,rfl,hg,fun k hk=>?_⟩
 obtain⟨a0,a1⟩:=QRg cs k hk
 exact⟨(hc _ (by omega)).trans a0,(hc _ (by omega)).trans a1⟩
theorem QAr(h:QSa w base v ps)(h0:0<ps.length):∃g cap,v = .slice (some ⟨g,0,none⟩) ps.length cap∧g<w.heap.size∧∀k (hk:k<ps.length),∃cv,w.cell? ⟨g,k*3,none⟩=some (.int .i64 ps[k].kind)∧w.cell? ⟨g,k*3+1,none⟩=some cv∧w.cell? ⟨g,k*3+2,none⟩=some (.string ps[k].text)∧QRa w base cv ps[k].cells:=by
 obtain⟨vs,hl,hr,hs⟩:=h
 obtain⟨g,cap,rfl,hg,_,hc⟩:=QKj hr h0
 refine⟨g,cap,rfl,hg,fun k hk=>?_⟩
 obtain⟨a0,a1,a2⟩:=QZg ps vs k hk (by omega) hl
 exact⟨vs[k]'(by omega),(hc _ (by omega)).trans a0,(hc _ (by omega)).trans a1,(hc _ (by omega)).trans a2,hs k hk (by omega)⟩
theorem Qys(h:QNb w base file v D)(h0:0<D.length):∃g cap,v = .slice (some ⟨g,0,none⟩) D.length cap∧g<w.heap.size∧∀k (hk:k<D.length),∃pv,w.cell? ⟨g,k*7,none⟩=some (.int .i64 D[k].kind)∧w.cell? ⟨g,k*7+1,none⟩=some (.string D[k].label)∧w.cell? ⟨g,k*7+2,none⟩=some (.string D[k].name)∧w.cell? ⟨g,k*7+3,none⟩=some pv∧
 w.cell? ⟨g,k*7+4,none⟩=some (.int .i64 file)∧w.cell? ⟨g,k*7+5,none⟩=some (.int .i64 D[k].line)∧w.cell? ⟨g,k*7+6,none⟩=some (.int .i64 D[k].col)∧QSa w base pv D[k].parts:=by
 obtain⟨vs,hl,hr,hs⟩:=h
 obtain⟨g,cap,rfl,hg,_,hc⟩:=QKj hr h0
 refine⟨g,cap,rfl,hg,fun k hk=>?_⟩
 obtain⟨a0,a1,a2,a3,a4,a5,a6⟩:=QJh file D vs k hk (by omega) hl
 exact⟨vs[k]'(by omega),(hc _ (by omega)).trans a0,(hc _ (by omega)).trans a1,(hc _ (by omega)).trans a2,(hc _ (by omega)).trans a3,(hc _ (by omega)).trans a4,(hc _ (by omega)).trans a5,(hc _ (by omega)).trans a6,hs k hk (by omega)⟩
end
end Go.Proofs.YtgaboghigefgbaaGreatDoor
