/- Package source: Read. | Definitions in memory, read; the awake of bringuplaw04. -/
import Derived.Test.YtofhcgbihonckaaGreatY16
import Derived.Test.YtofhcgbihonckaaGreatY8
import Derived.Test.YtofhcgbihonckaaGreatY13
set_option linter.all false
set_option maxHeartbeats 8000000
namespace Go.Proofs.YtofhcgbihonckaaGreat
open Go.Lib (hid)
open Go.RowKit
def QOe(s:ByteArray)(file:Int)(w:World)(e:Ending)(w':World):Prop:=
 ∃v,e = .returned (.tuple #[v,QJb (QTb s.data.toList file).2.1,.int .i64 (QTb s.data.toList file).2.2])∧Q0a w' w.heap.size file v (QTb s.data.toList file).1∧Below w.heap.size w w'
theorem QFn(a b:Int)(s:ByteArray)(file l q:Int)(wx:World):(Instr.field 65 (.agg #[.int .i64 a,.string s,.int .i64 b,.int .i64 file,.int .i64 l,.int .i64 q]) 0).run Tryz.prog wx = .ok (.int .i64 a) wx:=by kernel_rfl
theorem Q0a.lower{w:World}{base b2:Nat}{file:Int}{v:Value}{D:List Qra}(h:Q0a w base file v D)(hb:b2≤base):Q0a w b2 file v D:=by
 obtain⟨vs,h1,h2,h3⟩:=h
 exact⟨vs,h1,Qpd h2 hb,fun j h h'=>(h3 j h h').lower hb⟩
theorem QAi{w:World}{base B:Nat}{v:Value}{file:Int}{L:List Tok}(h:w.ownsRow base 65 6 v L.length (Qpb file L))(Hq:L≠[])(hB:w.heap.size≤B):QQe B w v file L:=by
 obtain⟨g,cap,rfl,_,hg,_,hc⟩:=Qap h Hq
 exact⟨g,cap,rfl,by omega,fun i hi k u hu=>hc i _ (List.getElem?_eq_getElem hi) k u hu⟩
set_option maxRecDepth 100000 in
theorem Qqj(s:ByteArray)(file:Int)(w:World)(hs:s.size≤maxLen)(h0:Qhf w) :
 Calls Tryz.prog 9 #[.string s,.int .i64 file] w (QOe s file w):=by
 have gJ:Below w.heap.size w (w.alloc (.cells #[.int .i64 0,.int .i64 0,.int .i64 0] 27)):=(Below.refl _ _).alloc (Nat.le_refl _) _
 have kR:=Qca.new w #[.int .i64 0,.int .i64 0,.int .i64 0] 27
 have gz:=QLk s file _ hs (h0.keeps (Qaa.of_fresh gJ (fun _=>False)) (fun e=>e))
 have Kd:=QTd s.data.toList file
 unfold QKd QJb at gz
 unfold QOe
 have hT:∃T,QTb s.data.toList file=T:=⟨_,rfl⟩
 obtain⟨T,hT⟩:=hT
 rw[hT]
 unfold QTb at hT
 generalize Qub s.data.toList file=RT at *
 obtain⟨L,⟨p1,p2,p3⟩,er⟩:=RT
 simp only at gz Kd hT
 unfold QJb
 have Ge:(w.alloc (.cells #[.int .i64 0,.int .i64 0,.int .i64 0] 27)).heap.size=w.heap.size+1:=by simp
 clear h0
 go_enter Tryz.func9,Tryz.ntmps9
 go_wp2_with fail
 generalize w.alloc (.cells #[.int .i64 0,.int .i64 0,.int .i64 0] 27)=w0 at *
 refine(by exact gz:Calls _ _ _ _ _).mono ?_
 rintro e w1 ⟨lv,rfl,Hb,He⟩
 have kb1:Qaa (fun _=>False) w0 w1:=Qaa.of_fresh He _
 have gZ:Qaa (fun _=>False) w w1:=(Qaa.of_fresh gJ (fun _=>False)).trans kb1 (fun _ _ e=>e)
 have Gb:=kR.keeps kb1 (fun e=>e)
 have gc:=Gb.alloc (.cells #[.int .i64 p1,.int .i64 p2,.int .i64 p3] 27)
 have GU:=Qca.new w1 #[.int .i64 p1,.int .i64 p2,.int .i64 p3] 27
 have ga:=gZ.alloc (.cells #[.int .i64 p1,.int .i64 p2,.int .i64 p3] 27)
 have gj:=World.ownsRow.alloc Hb (.cells #[.int .i64 p1,.int .i64 p2,.int .i64 p3] 27)
 have eS:=Gb.lt
 clear gz gJ kR He kb1 gZ Hb
 by_cases he:er=0
 ·subst he
  rw[if_neg (by simp)]at hT
  obtain⟨ts,t,dP,h8⟩:=Kd.2.2 rfl
  have mg:LOk L:=⟨Kd.2.1,Kd.1,ts,t,dP,h8⟩
  have Hq:L≠[]:=by rw[dP];simp
  have aC:0<L.length:=List.length_pos_iff.2 Hq
  have eM:=QAi (B:=(w1.alloc (.cells #[.int .i64 p1,.int .i64 p2,.int .i64 p3] 27)).heap.size) gj Hq (Nat.le_refl _)
  obtain⟨gL,cL,rfl,_⟩:=id eM
  have gD:QTa ((w1.alloc (.cells #[.int .i64 p1,.int .i64 p2,.int .i64 p3] 27)).alloc (.cells #[.slice (some ⟨gL,0,none⟩) L.length cL,.int .i64 0,.slice none 0 0,.pointer none] 63)) (w1.heap.size+1) (w1.alloc (.cells #[.int .i64 p1,.int .i64 p2,.int .i64 p3] 27)).heap.size file L (.slice (some ⟨gL,0,none⟩) L.length cL) (.slice none 0 0) 0 []:=
   ⟨Qca.newAt (by simp) _ _,eM.keeps ((Qaa.refl (fun _=>False) _).alloc _) (fun _ e=>e.elim),Q0a.none _ _ _,by simp,by simp,aC,mg,Nat.le_refl _⟩
  have gT:=gc.alloc (.cells #[.slice (some ⟨gL,0,none⟩) L.length cL,.int .i64 0,.slice none 0 0,.pointer none] 63)
  have gd:=ga.alloc (.cells #[.slice (some ⟨gL,0,none⟩) L.length cL,.int .i64 0,.slice none 0 0,.pointer none] 63)
  have gU:(w1.alloc (.cells #[.int .i64 p1,.int .i64 p2,.int .i64 p3] 27)).heap.size=w1.heap.size+1:=by simp
  have KR:w.heap.size<w1.heap.size:=eS
  have mx:L.length<0+Q6a L:=by unfold Q6a;omega
  generalize hN:Q6a L=N at *
  generalize hTR:QJd L N 0 []=TR at *
  have oT:=hid hTR
  have Kh:=hid mg
  have Ga:=Kd.2.1
  rw[gU]at gD
  clear GU gj eM gc ga hN hTR Kd mg dP gU
  go_wp2_with fail
  generalize (w1.alloc (.cells #[.int .i64 p1,.int .i64 p2,.int .i64 p3] 27)).alloc (.cells #[.slice (some ⟨gL,0,none⟩) L.length cL,.int .i64 0,.slice none 0 0,.pointer none] 63)=w3 at *
  go_loopg [] N (fun f wr=>∃(j:Nat) (acc:List Qra) (ov:Value),Hid (QJd L f j acc=TR)∧L.length<j+f∧QTa wr (w1.heap.size+1) (w1.heap.size+1) file L (.slice (some ⟨gL,0,none⟩) L.length cL) ov j acc∧Qaa (fun b=>w1.heap.size+1≤b) w3 wr)
  case atStart=>exact⟨0,[],.slice none 0 0,oT,mx,gD,Qaa.refl _ _⟩
  case round=>
   obtain⟨j,acc,ov,hR,nE,hA,hK⟩:=hrel
   have me:=hA.lt
   obtain⟨f,hf⟩:∃f,gk=f+1:=⟨gk-1,by omega⟩
   have hS:=hR.out
   rw[hf,QJd]at hS
   have gu:=Qtc wr _ _ file L _ ov j _ hA
   unfold Qbb at gu
   obtain⟨t,GQ⟩:∃t,t=tkN L j:=⟨_,rfl⟩
   rw[←GQ]at gu hS
   have gh:=hid GQ
   clear GQ hR
   obtain⟨t0,t1,t2,t3,t4⟩:=t
   simp only at gu hS
   have bF:=QFn t0 t2 ⟨t1.toArray⟩ file t3 t4
   go_wp2_with fail
   refine(by exact gu:Calls _ _ _ _ _).mono ?_
   rintro e w4 ⟨rfl,Kb⟩
   have kb4:Qaa (fun _=>False) wr w4:=Qaa.of_fresh Kb _
   have Gh:=hA.keeps kb4
   have Gn:=hK.trans kb4 (S:=(fun b=>w1.heap.size+1≤b)) (fun _ _ e=>e.elim)
   clear gu Kb kb4 hA hK
   by_cases h8:t0=8
   ·subst h8
    rw[if_pos rfl]at hS
    subst hS
    simp only at hT
    subst hT
    have Ky:=gT.keeps Gn (by omega)
    have kt:Qaa (fun _=>False) w w4:=gd.trans (Gn.mono (S:=fun b=>w.heap.size<b) (fun b _ e=>by omega)) (fun b hb e=>by omega)
    obtain⟨n0,n1,n2,nf0,nf1,nf2,nl⟩:=three Ky
    have c2:w4.cell? ⟨w1.heap.size+1,2,none⟩=some ov:=Gh.holds.cell 2
    have crl:=Gh.holds.lt
    have hd:=Gh.defs
    obtain⟨oa,oc,rfl⟩:=hd.slice
    have HD:=hid hd
    have ja:=hid Ky
    have GS:=hid kt
    clear hd Ky kt Gn Gh
    go_wp2_with fail
    have z1:=QPa ja.out (.int .i64 0) (.int .i64 0) (.int .i64 0)
    have z2:=Qua (S:=fun _=>False) GS.out (B:=w.heap.size) (.inl (Nat.le_refl _)) (.int .i64 0) (.int .i64 0) (.int .i64 0)
    have z3:=(HD.out.keeps (Qua (S:=(· = w.heap.size)) (Qaa.refl _ w4) (.inr rfl) (.int .i64 0) (.int .i64 0) (.int .i64 0)) (QNa.one ja.out (by decide) (by decide) (by decide))).lower (show w.heap.size≤w1.heap.size+1 by omega)
    unfold Q5e at z1 z2 z3
    obtain⟨q0,q1,q2,_⟩:=three z1
    exact bodyPost_ret (v:=.tuple #[.slice oa acc.length oc,.agg #[.int .i64 0,.int .i64 0,.int .i64 0],.int .i64 0]) (by simp[results,Tryz.results9,go_sem,q0,q1,q2]) rfl ⟨_,rfl,z3,z2.below (Nat.le_refl _) (fun _ _ e=>e)⟩
   ·rw[if_neg h8]at hS
    have tI:(t0 != 8)=true:=by simpa using h8
    have nb:=Q7o w4 _ _ file L _ ov j _ Gh
    unfold QWb at nb
    generalize Qig L j=PR at *
    clear h8
    go_wp2_with fail
    refine(by exact nb:Calls _ _ _ _ _).mono ?_
    rintro e w5 ⟨mt,hm⟩
    have kt:=Gn.trans (Qaa.of_below mt) (S:=(fun b=>w1.heap.size+1≤b)) (fun _ _ e=>e)
    clear nb Gh Gn mt bF
    cases PR with
    | ok q=>
     obtain⟨k,ds⟩:=q
     simp only at hm hS
     obtain⟨rfl,ov6,KX,ls⟩:=hm
     have HS:=hid hS
     clear hS
     go_wp2_with fail
     go_roundg (gk-1)
     case measure=>omega
     case rel=>
      refine⟨k,acc++ds,ov6,?_,by omega,KX,kt⟩
      rw[hf,Nat.add_sub_cancel]
      exact HS
    | error q=>
     obtain⟨k,c⟩:=q
     simp only at hm hS
     obtain⟨rfl,ov6,x,ff,hH,hF⟩:=hm
     subst hS
     simp only at hT
     subst hT
     have Kz:=gT.keeps kt (by omega)
     have mO:Qaa (fun _=>False) w w5:=gd.trans (kt.mono (S:=fun b=>w.heap.size<b) (fun b _ e=>by omega)) (fun b hb e=>by omega)
     obtain⟨n0,n1,n2,nf0,nf1,nf2,nl⟩:=three Kz
     have c3:w5.cell? ⟨w1.heap.size+1,3,none⟩=some (.pointer (some ⟨ff,0,none⟩)):=hH.cell 3
     have crl:=hH.lt
     have frl:=hF.lt
     have d0:w5.cell? ⟨ff,0,none⟩=some (.int .i64 file):=hF.cell 0
     have d1:w5.cell? ⟨ff,1,none⟩=some (.int .i64 (tkN L k).line):=hF.cell 1
     have d2:w5.cell? ⟨ff,2,none⟩=some (.int .i64 (tkN L k).col):=hF.cell 2
     have d3:w5.cell? ⟨ff,3,none⟩=some (.int .i64 c):=hF.cell 3
     obtain⟨ln,kV⟩:∃z,z=(tkN L k).line:=⟨_,rfl⟩
     obtain⟨cl,kh⟩:∃z,z=(tkN L k).col:=⟨_,rfl⟩
     rw[←kV]at d1
     rw[←kh]at d2
     have oC:=hid kV
     have be:=hid kh
     clear kV kh
     have K5:=hid Kz
     have gC:=hid mO
     clear Kz mO hH hF kt
     go_wp2_with fail
     go_region
     all_goals
      go_wp2_with fail
      have z1:=(QPa K5.out (.int .i64 file) (.int .i64 ln) (.int .i64 cl)).drew
      have z2:=(Qua (S:=fun _=>False) gC.out (B:=w.heap.size) (.inl (Nat.le_refl _)) (.int .i64 file) (.int .i64 ln) (.int .i64 cl)).drew
      unfold Q5e at z1 z2
      obtain⟨q0,q1,q2,_⟩:=three z1
      exact bodyPost_ret (v:=.tuple #[.slice none 0 0,.agg #[.int .i64 file,.int .i64 ln,.int .i64 cl],.int .i64 c]) (by simp[results,Tryz.results9,go_sem,q0,q1,q2]) rfl ⟨_,(by rw[oC.out,be.out]),Q0a.none _ _ _,z2.below (Nat.le_refl _) (fun _ _ e=>e)⟩
 ·rw[if_pos he]at hT
  subst hT
  have pL:(er != 0)=true:=by simpa using he
  obtain⟨n0,n1,n2,nf0,nf1,nf2,nl⟩:=three gc
  obtain⟨m0,m1,m2,mf0,mf1,mf2,ml⟩:=three GU
  obtain⟨va,vc,rfl⟩:=Qma gj
  have KV:=hid gc
  have Gs:=hid ga
  clear he Kd gc ga GU gj
  go_wp2_with fail
  generalize w1.alloc (.cells #[.int .i64 p1,.int .i64 p2,.int .i64 p3] 27)=w2 at *
  go_region
  all_goals
   go_wp2_with fail
   have z1:=(QPa KV.out (.int .i64 p1) (.int .i64 p2) (.int .i64 p3)).drew
   have z2:=(Qua (S:=fun _=>False) Gs.out (B:=w.heap.size) (.inl (Nat.le_refl _)) (.int .i64 p1) (.int .i64 p2) (.int .i64 p3)).drew
   unfold Q5e at z1 z2
   obtain⟨q0,q1,q2,_⟩:=three z1
   exact bodyPost_ret (v:=.tuple #[.slice none 0 0,.agg #[.int .i64 p1,.int .i64 p2,.int .i64 p3],.int .i64 er]) (by simp[results,Tryz.results9,go_sem,q0,q1,q2]) rfl ⟨_,rfl,Q0a.none _ _ _,z2.below (Nat.le_refl _) (fun _ _ e=>e)⟩
theorem QWd{w:World}{base:Nat}{e:TypeId}{size:Nat}{v:Value}{n:Nat}{xs:List Value}(h:w.ownsRow base e size v n xs)(hn:0<n) :
 ∃g cap,v = .slice (some ⟨g,0,none⟩) n cap∧g<w.heap.size∧base≤g∧∀j,j<n*size→w.cell? ⟨g,j,none⟩=xs[j]?:=by
 rcases h.2 with⟨_,h0⟩|⟨g,cap,cur,rfl,hb,hh,_⟩
 ·omega
 ·exact⟨g,cap,rfl,lt_of_block hh,hb,fun j hj=>h.cellAt j hj⟩
theorem Qcf:∀(cs:List Qzb) (k:Nat) (h:k<cs.length),(Qtb cs)[k*2]? = some (.int .i64 cs[k].value)∧(Qtb cs)[k*2+1]? = some (.string cs[k].label)
 | c::cs,0,_=>⟨rfl,rfl⟩
 | c::cs,k+1,h=>by
  have:=Qcf cs k (by simpa using h)
  rw[show(k+1)*2=k*2+2 from by omega]
  exact this
theorem QFd:∀(ps:List QRa) (vs:List Value) (k:Nat) (h:k<ps.length) (h2:k<vs.length),vs.length=ps.length→
 (Qza ps vs)[k*3]? = some (.int .i64 ps[k].kind)∧(Qza ps vs)[k*3+1]? = some vs[k]∧(Qza ps vs)[k*3+2]? = some (.string ps[k].text)
 | p::ps,v::vs,0,_,_,_=>⟨rfl,rfl,rfl⟩
 | p::ps,v::vs,k+1,h,h2,hl=>by
  have:=QFd ps vs k (by simpa using h) (by simpa using h2) (by simpa using hl)
  rw[show(k+1)*3=k*3+3 from by omega]
  exact this
section
variable{w:World}{base:Nat}{file:Int}{v:Value}{cs:List Qzb}{ps:List QRa}{D:List Qra}
theorem QFm(h:Qea w base v cs)(h0:0<cs.length):∃g cap,v = .slice (some ⟨g,0,none⟩) cs.length cap∧g<w.heap.size∧∀k (hk:k<cs.length),w.cell? ⟨g,k*2,none⟩=some (.int .i64 cs[k].value)∧w.cell? ⟨g,k*2+1,none⟩=some (.string cs[k].label):=by
 obtain⟨g,cap,rfl,hg,_,hc⟩:=QWd h h0
 refine⟨g,cap,rfl,hg,fun k hk=>?_⟩
 obtain⟨a0,a1⟩:=Qcf cs k hk
 exact⟨(hc _ (by omega)).trans a0,(hc _ (by omega)).trans a1⟩
theorem Q9m(h:Qia w base v ps)(h0:0<ps.length):∃g cap,v = .slice (some ⟨g,0,none⟩) ps.length cap∧g<w.heap.size∧∀k (hk:k<ps.length),∃cv,w.cell? ⟨g,k*3,none⟩=some (.int .i64 ps[k].kind)∧w.cell? ⟨g,k*3+1,none⟩=some cv∧w.cell? ⟨g,k*3+2,none⟩=some (.string ps[k].text)∧Qea w base cv ps[k].cells:=by
 obtain⟨vs,hl,hr,hs⟩:=h
 obtain⟨g,cap,rfl,hg,_,hc⟩:=QWd hr h0
 refine⟨g,cap,rfl,hg,fun k hk=>?_⟩
 obtain⟨a0,a1,a2⟩:=QFd ps vs k hk (by omega) hl
 exact⟨vs[k]'(by omega),(hc _ (by omega)).trans a0,(hc _ (by omega)).trans a1,(hc _ (by omega)).trans a2,hs k hk (by omega)⟩
end
end Go.Proofs.YtofhcgbihonckaaGreat
