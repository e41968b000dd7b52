/- Package source: Read. | Definitions in memory, read; the awake of bringuplaw04. -/
import Derived.Test.YtofhcgbihonckaaGreatZ15
import Derived.Test.YtofhcgbihonckaaGreatZ17
import Derived.Test.YtofhcgbihonckaaGreatZ9
set_option linter.all false
set_option maxHeartbeats 8000000
namespace Go.Proofs.YtofhcgbihonckaaGreat
open Go.Lib (hid)
open Go.RowKit
def Qhf(s:ByteArray)(file:Int)(w:World)(e:Ending)(w':World):Prop:=
 ∃v,e = .returned (.tuple #[v,QGb (Qoe s.data.toList file).2.1,.int .i64 (Qoe s.data.toList file).2.2])∧Q7a w' w.heap.size file v (Qoe s.data.toList file).1∧Below w.heap.size w w'
theorem QGo(a b:Int)(s:ByteArray)(file l q:Int)(wx:World):(Instr.field 65 (.agg #[.int .i64 a,.string s,.int .i64 b,.int .i64 file,.int .i64 l,.int .i64 q]) 0).run Tryz.prog wx = .ok (.int .i64 a) wx:=by kernel_rfl
theorem Q7a.lower{w:World}{base b2:Nat}{file:Int}{v:Value}{D:List Qwa}(h:Q7a w base file v D)(hb:b2≤base):Q7a w b2 file v D:=by
 obtain⟨vs,h1,h2,h3⟩:=h
 exact⟨vs,h1,QMc h2 hb,fun j h h'=>(h3 j h h').lower hb⟩
theorem Qij{w:World}{base B:Nat}{v:Value}{file:Int}{L:List Tok}(h:w.ownsRow base 65 6 v L.length (Qyb file L))(Hn:L≠[])(hB:w.heap.size≤B):Qjf B w v file L:=by
 obtain⟨g,cap,rfl,_,hg,_,hc⟩:=Qlq h Hn
 exact⟨g,cap,rfl,by omega,fun i hi k u hu=>hc i _ (List.getElem?_eq_getElem hi) k u hu⟩
set_option maxRecDepth 100000 in
theorem Qdk(s:ByteArray)(file:Int)(w:World)(hs:s.size≤maxLen)(h0:QFf w) :
 Calls Tryz.prog 9 #[.string s,.int .i64 file] w (Qhf s file w):=by
 have gR:Below w.heap.size w (w.alloc (.cells #[.int .i64 0,.int .i64 0,.int .i64 0] 27)):=(Below.refl _ _).alloc (Nat.le_refl _) _
 have Ki:=Qca.new w #[.int .i64 0,.int .i64 0,.int .i64 0] 27
 have gM:=QIl s file _ hs (h0.keeps (Qaa.of_fresh gR (fun _=>False)) (fun e=>e))
 have kU:=Qke s.data.toList file
 unfold Qbe QGb at gM
 unfold Qhf
 have hT:∃T,Qoe s.data.toList file=T:=⟨_,rfl⟩
 obtain⟨T,hT⟩:=hT
 rw[hT]
 unfold Qoe at hT
 generalize QUb s.data.toList file=RT at *
 obtain⟨L,⟨p1,p2,p3⟩,er⟩:=RT
 simp only at gM kU hT
 unfold QGb
 have gn:(w.alloc (.cells #[.int .i64 0,.int .i64 0,.int .i64 0] 27)).heap.size=w.heap.size+1:=by simp
 clear h0
 go_enter Tryz.func9,Tryz.ntmps9
 go_wp2_with fail
 generalize w.alloc (.cells #[.int .i64 0,.int .i64 0,.int .i64 0] 27)=w0 at *
 refine(by exact gM:Calls _ _ _ _ _).mono ?_
 rintro e w1 ⟨lv,rfl,Hc,Hf⟩
 have kb1:Qaa (fun _=>False) w0 w1:=Qaa.of_fresh Hf _
 have g9:Qaa (fun _=>False) w w1:=(Qaa.of_fresh gR (fun _=>False)).trans kb1 (fun _ _ e=>e)
 have Gl:=Ki.keeps kb1 (fun e=>e)
 have gw:=Gl.alloc (.cells #[.int .i64 p1,.int .i64 p2,.int .i64 p3] 27)
 have GR:=Qca.new w1 #[.int .i64 p1,.int .i64 p2,.int .i64 p3] 27
 have ga:=g9.alloc (.cells #[.int .i64 p1,.int .i64 p2,.int .i64 p3] 27)
 have Hv:=World.ownsRow.alloc Hc (.cells #[.int .i64 p1,.int .i64 p2,.int .i64 p3] 27)
 have iL:=Gl.lt
 clear gM gR Ki Hf kb1 g9 Hc
 by_cases he:er=0
 ·subst he
  rw[if_neg (by simp)]at hT
  obtain⟨ts,t,fC,h8⟩:=kU.2.2 rfl
  have kT:LOk L:=⟨kU.2.1,kU.1,ts,t,fC,h8⟩
  have Hn:L≠[]:=by rw[fC];simp
  have bQ:0<L.length:=List.length_pos_iff.2 Hn
  have iF:=Qij (B:=(w1.alloc (.cells #[.int .i64 p1,.int .i64 p2,.int .i64 p3] 27)).heap.size) Hv Hn (Nat.le_refl _)
  obtain⟨gL,cL,rfl,_⟩:=id iF
  have Hy:QUa ((w1.alloc (.cells #[.int .i64 p1,.int .i64 p2,.int .i64 p3] 27)).alloc (.cells #[.slice (some ⟨gL,0,none⟩) L.length cL,.int .i64 0,.slice none 0 0,.pointer none] 63)) (w1.heap.size+1) (w1.alloc (.cells #[.int .i64 p1,.int .i64 p2,.int .i64 p3] 27)).heap.size file L (.slice (some ⟨gL,0,none⟩) L.length cL) (.slice none 0 0) 0 []:=
   ⟨Qca.newAt (by simp) _ _,iF.keeps ((Qaa.refl (fun _=>False) _).alloc _) (fun _ e=>e.elim),Q7a.none _ _ _,by simp,by simp,bQ,kT,Nat.le_refl _⟩
  have Gd:=gw.alloc (.cells #[.slice (some ⟨gL,0,none⟩) L.length cL,.int .i64 0,.slice none 0 0,.pointer none] 63)
  have gc:=ga.alloc (.cells #[.slice (some ⟨gL,0,none⟩) L.length cL,.int .i64 0,.slice none 0 0,.pointer none] 63)
  have gV:(w1.alloc (.cells #[.int .i64 p1,.int .i64 p2,.int .i64 p3] 27)).heap.size=w1.heap.size+1:=by simp
  have KX:w.heap.size<w1.heap.size:=iL
  have KN:L.length<0+Qgb L:=by unfold Qgb;omega
  generalize hN:Qgb L=N at *
  generalize hTR:QDf L N 0 []=TR at *
  have rZ:=hid hTR
  have Ks:=hid kT
  have Ga:=kU.2.1
  rw[gV]at Hy
  clear GR Hv iF gw ga hN hTR kU kT fC gV
  go_wp2_with fail
  generalize (w1.alloc (.cells #[.int .i64 p1,.int .i64 p2,.int .i64 p3] 27)).alloc (.cells #[.slice (some ⟨gL,0,none⟩) L.length cL,.int .i64 0,.slice none 0 0,.pointer none] 63)=w3 at *
  go_loopg [] N (fun f wr=>∃(j:Nat) (acc:List Qwa) (ov:Value),Hid (QDf L f j acc=TR)∧L.length<j+f∧QUa wr (w1.heap.size+1) (w1.heap.size+1) file L (.slice (some ⟨gL,0,none⟩) L.length cL) ov j acc∧Qaa (fun b=>w1.heap.size+1≤b) w3 wr)
  case atStart=>exact⟨0,[],.slice none 0 0,rZ,KN,Hy,Qaa.refl _ _⟩
  case round=>
   obtain⟨j,acc,ov,hR,qv,hA,hK⟩:=hrel
   have mi:=hA.lt
   obtain⟨f,hf⟩:∃f,gk=f+1:=⟨gk-1,by omega⟩
   have hS:=hR.out
   rw[hf,QDf]at hS
   have gF:=QOc wr _ _ file L _ ov j _ hA
   unfold Qfb at gF
   obtain⟨t,G0⟩:∃t,t=tkN L j:=⟨_,rfl⟩
   rw[←G0]at gF hS
   have gA:=hid G0
   clear G0 hR
   obtain⟨t0,t1,t2,t3,t4⟩:=t
   simp only at gF hS
   have c9:=QGo t0 t2 ⟨t1.toArray⟩ file t3 t4
   go_wp2_with fail
   refine(by exact gF:Calls _ _ _ _ _).mono ?_
   rintro e w4 ⟨rfl,mQ⟩
   have kb4:Qaa (fun _=>False) wr w4:=Qaa.of_fresh mQ _
   have Gn:=hA.keeps kb4
   have gD:=hK.trans kb4 (S:=(fun b=>w1.heap.size+1≤b)) (fun _ _ e=>e.elim)
   clear gF mQ kb4 hA hK
   by_cases h8:t0=8
   ·subst h8
    rw[if_pos rfl]at hS
    subst hS
    simp only at hT
    subst hT
    have KU:=Gd.keeps gD (by omega)
    have GL:Qaa (fun _=>False) w w4:=gc.trans (gD.mono (S:=fun b=>w.heap.size<b) (fun b _ e=>by omega)) (fun b hb e=>by omega)
    obtain⟨n0,n1,n2,nf0,nf1,nf2,nl⟩:=three KU
    have c2:w4.cell? ⟨w1.heap.size+1,2,none⟩=some ov:=Gn.holds.cell 2
    have crl:=Gn.holds.lt
    have hd:=Gn.defs
    obtain⟨oa,oc,rfl⟩:=hd.slice
    have HD:=hid hd
    have jM:=hid KU
    have kb:=hid GL
    clear hd KU GL gD Gn
    go_wp2_with fail
    have z1:=QTa jM.out (.int .i64 0) (.int .i64 0) (.int .i64 0)
    have z2:=Qva (S:=fun _=>False) kb.out (B:=w.heap.size) (.inl (Nat.le_refl _)) (.int .i64 0) (.int .i64 0) (.int .i64 0)
    have z3:=(HD.out.keeps (Qva (S:=(· = w.heap.size)) (Qaa.refl _ w4) (.inr rfl) (.int .i64 0) (.int .i64 0) (.int .i64 0)) (QLa.one jM.out (by decide) (by decide) (by decide))).lower (show w.heap.size≤w1.heap.size+1 by omega)
    unfold Qzf at z1 z2 z3
    obtain⟨q0,q1,q2,_⟩:=three z1
    exact bodyPost_ret (v:=.tuple #[.slice oa acc.length oc,.agg #[.int .i64 0,.int .i64 0,.int .i64 0],.int .i64 0]) (by simp[results,Tryz.results9,go_sem,q0,q1,q2]) rfl ⟨_,rfl,z3,z2.below (Nat.le_refl _) (fun _ _ e=>e)⟩
   ·rw[if_neg h8]at hS
    have xp:(t0 != 8)=true:=by simpa using h8
    have pK:=Qjq w4 _ _ file L _ ov j _ Gn
    unfold Qac at pK
    generalize Qrj L j=PR at *
    clear h8
    go_wp2_with fail
    refine(by exact pK:Calls _ _ _ _ _).mono ?_
    rintro e w5 ⟨Kx,hm⟩
    have GL:=gD.trans (Qaa.of_below Kx) (S:=(fun b=>w1.heap.size+1≤b)) (fun _ _ e=>e)
    clear pK Gn gD Kx c9
    cases PR with
    | ok q=>
     obtain⟨k,ds⟩:=q
     simp only at hm hS
     obtain⟨rfl,ov6,ms,oM⟩:=hm
     have HS:=hid hS
     clear hS
     go_wp2_with fail
     go_roundg (gk-1)
     case measure=>omega
     case rel=>
      refine⟨k,acc++ds,ov6,?_,by omega,ms,GL⟩
      rw[hf,Nat.add_sub_cancel]
      exact HS
    | error q=>
     obtain⟨k,c⟩:=q
     simp only at hm hS
     obtain⟨rfl,ov6,x,ff,hH,hF⟩:=hm
     subst hS
     simp only at hT
     subst hT
     have KV:=Gd.keeps GL (by omega)
     have Ku:Qaa (fun _=>False) w w5:=gc.trans (GL.mono (S:=fun b=>w.heap.size<b) (fun b _ e=>by omega)) (fun b hb e=>by omega)
     obtain⟨n0,n1,n2,nf0,nf1,nf2,nl⟩:=three KV
     have c3:w5.cell? ⟨w1.heap.size+1,3,none⟩=some (.pointer (some ⟨ff,0,none⟩)):=hH.cell 3
     have crl:=hH.lt
     have frl:=hF.lt
     have d0:w5.cell? ⟨ff,0,none⟩=some (.int .i64 file):=hF.cell 0
     have d1:w5.cell? ⟨ff,1,none⟩=some (.int .i64 (tkN L k).line):=hF.cell 1
     have d2:w5.cell? ⟨ff,2,none⟩=some (.int .i64 (tkN L k).col):=hF.cell 2
     have d3:w5.cell? ⟨ff,3,none⟩=some (.int .i64 c):=hF.cell 3
     obtain⟨ln,Kl⟩:∃z,z=(tkN L k).line:=⟨_,rfl⟩
     obtain⟨cl,ke⟩:∃z,z=(tkN L k).col:=⟨_,rfl⟩
     rw[←Kl]at d1
     rw[←ke]at d2
     have lT:=hid Kl
     have cC:=hid ke
     clear Kl ke
     have mE:=hid KV
     have gH:=hid Ku
     clear KV Ku hH hF GL
     go_wp2_with fail
     go_region
     all_goals
      go_wp2_with fail
      have z1:=(QTa mE.out (.int .i64 file) (.int .i64 ln) (.int .i64 cl)).drew
      have z2:=(Qva (S:=fun _=>False) gH.out (B:=w.heap.size) (.inl (Nat.le_refl _)) (.int .i64 file) (.int .i64 ln) (.int .i64 cl)).drew
      unfold Qzf at z1 z2
      obtain⟨q0,q1,q2,_⟩:=three z1
      exact bodyPost_ret (v:=.tuple #[.slice none 0 0,.agg #[.int .i64 file,.int .i64 ln,.int .i64 cl],.int .i64 c]) (by simp[results,Tryz.results9,go_sem,q0,q1,q2]) rfl ⟨_,(by rw[lT.out,cC.out]),Q7a.none _ _ _,z2.below (Nat.le_refl _) (fun _ _ e=>e)⟩
 ·rw[if_pos he]at hT
  subst hT
  have li:(er != 0)=true:=by simpa using he
  obtain⟨n0,n1,n2,nf0,nf1,nf2,nl⟩:=three gw
  obtain⟨m0,m1,m2,mf0,mf1,mf2,ml⟩:=three GR
  obtain⟨va,vc,rfl⟩:=Qia Hv
  have mq:=hid gw
  have Gw:=hid ga
  clear he kU gw ga GR Hv
  go_wp2_with fail
  generalize w1.alloc (.cells #[.int .i64 p1,.int .i64 p2,.int .i64 p3] 27)=w2 at *
  go_region
  all_goals
   go_wp2_with fail
   have z1:=(QTa mq.out (.int .i64 p1) (.int .i64 p2) (.int .i64 p3)).drew
   have z2:=(Qva (S:=fun _=>False) Gw.out (B:=w.heap.size) (.inl (Nat.le_refl _)) (.int .i64 p1) (.int .i64 p2) (.int .i64 p3)).drew
   unfold Qzf at z1 z2
   obtain⟨q0,q1,q2,_⟩:=three z1
   exact bodyPost_ret (v:=.tuple #[.slice none 0 0,.agg #[.int .i64 p1,.int .i64 p2,.int .i64 p3],.int .i64 er]) (by simp[results,Tryz.results9,go_sem,q0,q1,q2]) rfl ⟨_,rfl,Q7a.none _ _ _,z2.below (Nat.le_refl _) (fun _ _ e=>e)⟩
theorem QVb{w:World}{base:Nat}{e:TypeId}{size:Nat}{v:Value}{n:Nat}{xs:List Value}(h:w.ownsRow base e size v n xs)(hn:0<n) :
 ∃g cap,v = .slice (some ⟨g,0,none⟩) n cap∧g<w.heap.size∧base≤g∧∀j,j<n*size→w.cell? ⟨g,j,none⟩=xs[j]?:=by
 rcases h.2 with⟨_,h0⟩|⟨g,cap,cur,rfl,hb,hh,_⟩
 ·omega
 ·exact⟨g,cap,rfl,lt_of_block hh,hb,fun j hj=>h.cellAt j hj⟩
theorem QIf:∀(cs:List QJb) (k:Nat) (h:k<cs.length),(QCb cs)[k*2]? = some (.int .i64 cs[k].value)∧(QCb cs)[k*2+1]? = some (.string cs[k].label)
 | c::cs,0,_=>⟨rfl,rfl⟩
 | c::cs,k+1,h=>by
  have:=QIf cs k (by simpa using h)
  rw[show(k+1)*2=k*2+2 from by omega]
  exact this
theorem Q6d:∀(ps:List QRa) (vs:List Value) (k:Nat) (h:k<ps.length) (h2:k<vs.length),vs.length=ps.length→
 (QDa ps vs)[k*3]? = some (.int .i64 ps[k].kind)∧(QDa ps vs)[k*3+1]? = some vs[k]∧(QDa ps vs)[k*3+2]? = some (.string ps[k].text)
 | p::ps,v::vs,0,_,_,_=>⟨rfl,rfl,rfl⟩
 | p::ps,v::vs,k+1,h,h2,hl=>by
  have:=Q6d ps vs k (by simpa using h) (by simpa using h2) (by simpa using hl)
  rw[show(k+1)*3=k*3+3 from by omega]
  exact this
section
variable{w:World}{base:Nat}{file:Int}{v:Value}{cs:List QJb}{ps:List QRa}{D:List Qwa}
theorem QDn(h:Qfa w base v cs)(h0:0<cs.length):∃g cap,v = .slice (some ⟨g,0,none⟩) cs.length cap∧g<w.heap.size∧∀k (hk:k<cs.length),w.cell? ⟨g,k*2,none⟩=some (.int .i64 cs[k].value)∧w.cell? ⟨g,k*2+1,none⟩=some (.string cs[k].label):=by
 obtain⟨g,cap,rfl,hg,_,hc⟩:=QVb h h0
 refine⟨g,cap,rfl,hg,fun k hk=>?_⟩
 obtain⟨a0,a1⟩:=QIf cs k hk
 exact⟨(hc _ (by omega)).trans a0,(hc _ (by omega)).trans a1⟩
theorem Q8n(h:Qha w base v ps)(h0:0<ps.length):∃g cap,v = .slice (some ⟨g,0,none⟩) ps.length cap∧g<w.heap.size∧∀k (hk:k<ps.length),∃cv,w.cell? ⟨g,k*3,none⟩=some (.int .i64 ps[k].kind)∧w.cell? ⟨g,k*3+1,none⟩=some cv∧w.cell? ⟨g,k*3+2,none⟩=some (.string ps[k].text)∧Qfa w base cv ps[k].cells:=by
 obtain⟨vs,hl,hr,hs⟩:=h
 obtain⟨g,cap,rfl,hg,_,hc⟩:=QVb hr h0
 refine⟨g,cap,rfl,hg,fun k hk=>?_⟩
 obtain⟨a0,a1,a2⟩:=Q6d ps vs k hk (by omega) hl
 exact⟨vs[k]'(by omega),(hc _ (by omega)).trans a0,(hc _ (by omega)).trans a1,(hc _ (by omega)).trans a2,hs k hk (by omega)⟩
end
end Go.Proofs.YtofhcgbihonckaaGreat
