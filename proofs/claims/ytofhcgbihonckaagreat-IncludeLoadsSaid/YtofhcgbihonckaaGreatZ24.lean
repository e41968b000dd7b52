/- Contracts of include: load. | Contracts of include: the loading of all files that a main file needs. | Contracts of include: Load. | Rows of files of one's own. | Region 5 of bringuplaw05.IncludeOthers (printed by gino.py). | Region 5 of bringuplaw05.IncludeLoads (printed by gino.py). | Contracts of include: Files. | bringuplaw05.names: lists of the same names. | bringupref05: the loader in memory. | bringupref05: find, in, add. | bringupref05: read, where the file has been read. | bringupref05: read: how the loader turns. | bringupref05: a string just made, as an append takes it. -/
import Derived.Test.YtofhcgbihonckaaGreatZ23
import Derived.Deep.LoopGhost
import Derived.StillTailTactics
import Derived.Deep.DeepCutAuto
import Derived.Deep.CutBlock
import Derived.Deep.CutRange
import Derived.Test.YtofhcgbihonckaaGreatZ19
import Derived.Test.YtofhcgbihonckaaGreatZ22
import Derived.Test.YtofhcgbihonckaaGreatZ18
import Derived.Test.YtofhcgbihonckaaGreatZ1
import Derived.BigQuiet
import Derived.Test.YtofhcgbihonckaaGreatZ26
set_option linter.all false
set_option maxHeartbeats 8000000
namespace Go.Proofs.YtofhcgbihonckaaGreat
open Go.Lib (hid)
open Go.RowKit Go.ChangeMaps
def LdN(lb mb base:Nat)(fv ov rv:Value)(names:List ByteArray)(w0 w:World):Prop:=
 ∃rv',Qca w lb (ldC fv mb ov rv') 95∧w.ownsRow base 9 1 rv' names.length (QDb names)∧Qaa (fun i=>i=lb∨rv.ownBlock=some i) w0 w∧(∀g,rv'.ownBlock=some g→rv.ownBlock=some g∨w0.heap.size≤g)
def LdL(A:Nat→Prop)(lb mb base pb qb:Nat)(fv ov rv dv:Value)(F:List Qoa)(opn2:List Nat)(fuel before:Nat)(file:Int)(D:List Qwa)(R:Lr)(w:World)(i:Nat)(outv:Value)(wr:World):Prop:=
 ∃ord giv out,LdW A lb mb base pb qb fv ov rv dv F opn2 file D before w outv ord giv out wr∧Qza (ldT F fuel opn2) F opn2 before ((QUd file D).drop i) ord giv out=R
theorem Qji(file:Int)(D:List Qwa):(QUd file D).length=D.length:=by simp[QUd]
set_option maxRecDepth 100000 in
theorem QPh(fuel:Nat)(hrec:QFh fuel):QFh (fuel+1):=by
 intro A lb mb base fv ov rv F opn ord giv file before w h hA kh hF hT MI oJ lm KN sM Hf lay
 have rR:=hid hrec
 have HA:=hid hA
 have HGO:=hid MI
 have lM:=hid (show ∀s,Qmc F (opn++[file]) (ord++[s]) giv from fun s=>MI.open1 kh oJ lm s)
 have lA:=MI.short
 have tG:=(lM.out ⟨#[]⟩).short
 have tm:=MI.ord
 have tr:=hid (show ∀i,LdS lb mb ov rv i→base≤i from by
  rintro i (rfl|rfl|e|e)
  ·exact h.lbb
  ·exact h.mbb
  ·exact(Qpa h.opn e).2.1
  ·exact(Qpa h.ord e).2.1)
 have hol8:ord.length≤8:=by omega
 clear hrec hA MI tm
 simp only[List.length_append,List.length_cons,List.length_nil]at tG
 obtain⟨fa,fc,rfl,qu,JE,oF⟩:=id h.files
 obtain⟨fg,fo,rfl,bt,oG⟩:=oF (by omega)
 obtain⟨ra,rc,rfl⟩:=Qia h.ord
 obtain⟨n0,t0⟩:=oG file kh
 have gR:=(Below.refl w.heap.size w).alloc (Nat.le_refl _) (.cells #[.int .i64 0,.int .i64 0,.int .i64 0] 27)
 have kb0:Qaa (fun _=>False) w _:=Qaa.of_fresh gR _
 have dN:=h.holds.keeps kb0 (fun e=>e)
 have J8:=Qca.new w #[.int .i64 0,.int .i64 0,.int .i64 0] 27
 have c0:(w.alloc (.cells #[.int .i64 0,.int .i64 0,.int .i64 0] 27)).cell? ⟨lb,0,none⟩=some (.slice (some ⟨fg,fo,none⟩) F.length fc):=dN.cell 0
 have c3:(w.alloc (.cells #[.int .i64 0,.int .i64 0,.int .i64 0] 27)).cell? ⟨lb,3,none⟩=some (.slice ra ord.length rc):=dN.cell 3
 have f3:=dN.free 3
 have n1:=(gR.cell (p:=⟨fg,fo+file*2,none⟩) bt).trans n0
 have t1:=(gR.cell (p:=⟨fg,fo+file*2+1,none⟩) bt).trans t0
 have Ke:=Qba h.ord kb0 (fun _ _ e=>e)
 have ye:=h.holds.lt
 have hfr:(file:Int)<(F.length:Int):=by omega
 have H:=hid h
 have HT:=hid hT
 have cJ:=hid lay
 have Mz:=hid gR
 have lN:=hid dN
 have eL:=hid J8
 have pZ:=hid Ke
 have Ky:=h.size
 have MH:=hT F[file] (List.getElem_mem kh)
 have de:F.getD file ⟨⟨#[]⟩,⟨#[]⟩⟩=F[file]:=by rw[List.getD_eq_getElem?_getD,List.getElem?_eq_getElem kh];rfl
 have Mn:ldT F (fuel+1) opn ord giv file before=(if (Qoe F[file].text.data.toList file).2.2≠0 then .error ((Qoe F[file].text.data.toList file).2.1,(Qoe F[file].text.data.toList file).2.2)else
  match Qza (ldT F fuel (opn++[file])) F (opn++[file]) before (QUd file (Qoe F[file].text.data.toList file).1) (ord++[F[file].name]) giv []with
  | .error e=>.error e
  | .ok (o,g,out)=>.ok (o,g++[((file:Int),out)],out)):=by
  simp only[ldT]
  rw[de]
  rfl
 clear h hT lay gR kb0 dN J8 Ke oF oG n0 t0 de
 generalize F[file]=ff at *
 obtain⟨nm,tx⟩:=ff
 simp only at n1 t1 MH Mn
 have K1:=hid Mn
 clear Mn
 obtain⟨i0,mh,GE,GF,GA⟩:=info_parts QIk
 go_enter Tryz.func72,Tryz.ntmps72
 go_wp2_with fail
 obtain⟨pb,pp⟩:∃pb,pb=w.heap.size:=⟨_,rfl⟩
 rw[←pp]at eL Mz ⊢
 have iX:=hid pp
 have xR:base≤pb:=by omega
 have hlp:lb<pb:=by omega
 have hfp:fg<pb:=by omega
 have JZ:(w.alloc (.cells #[.int .i64 0,.int .i64 0,.int .i64 0] 27)).heap.size=pb+1:=by simp[pp]
 clear pp
 generalize w.alloc (.cells #[.int .i64 0,.int .i64 0,.int .i64 0] 27)=w0 at *
 have hlb0:lb<w0.heap.size:=by omega
 have oI:fg<w0.heap.size:=by omega
 have hbw0:base≤w0.heap.size:=by omega
 have rT:=hid JZ
 clear JZ
 have jW:=fun g hg=>(pZ.out.lt g hg).2
 have HRL:=hid jW
 clear jW
 have Hn:∀g,Value.ownBlock (.slice ra ord.length rc)=some g→g≠lb:=fun g hg e=>by subst e;exact Q6a pZ.out lN.out (by decide) hg
 have MB:=hid Hn
 clear Hn
 go_cut []from 20 to 36 (fun wx=>LdN lb mb base (.slice (some ⟨fg,fo,none⟩) F.length fc) ov (.slice ra ord.length rc) (ord++[nm]) w0 wx)
 case first=>
  go_region_law (refine step_append_lies _ (by rfl) _ _ _ (by rfl) base 9 i0 _ 1 16 Tryz.underlying39 mh GE GF GA rfl (by omega) _ ord.length (QDb ord) (by rfl) ((pZ.out.alloc _).drew) ⟨w0.heap.size,0,none⟩ 1 1 [.string nm] (by rfl) (by rfl) (World.news_of_block (cs:=#[.string nm]) (t:=9) (fr:=(0,0)) (heap_alloc_new w0 _)) (by simp[Value.oneCell']) (by omega) (by unfold maxLen;omega) (by omega) (by simp;omega) (w0.heap.size+1) (by simp) ?_;intro gg cap2 w1 gJ Jk nY ig;have ko:=((lN.out.alloc _).drew).keeps (Qaa.of_grown Jk (fun _ e=>e)) (fun e=>MB.out _ e rfl);have q1:=ko.free 3;have q2:w1.cell? ⟨lb,3,none⟩=some (.slice ra ord.length rc):=ko.cell 3;have q3:=ko.lt)
  all_goals
   have ML:=ko.set 3 (.slice (some ⟨gg,0,none⟩) (ord.length+1) cap2)
   have d8:=Q8m gJ ko (by decide) 3 (.slice (some ⟨gg,0,none⟩) (ord.length+1) cap2)
   have Ht:Qaa (fun i=>i=lb∨Value.ownBlock (.slice ra ord.length rc)=some i) w0 (w1.setCell ⟨lb,3,none⟩ (.slice (some ⟨gg,0,none⟩) (ord.length+1) cap2)):=
    (((((Qaa.refl (fun _=>False) w0).alloc (.cells #[.string nm] 9)).drew).mono (S:=fun i=>i=lb∨Value.ownBlock (.slice ra ord.length rc)=some i) (fun _ _ e=>e.elim)).trans (Qaa.of_grown Jk (fun _ e=>.inr e)) (fun _ _ e=>e)).setCell (p:=⟨lb,3,none⟩) (.inr (.inl rfl)) _
   have HF:=hid (show LdN lb mb base (.slice (some ⟨fg,fo,none⟩) F.length fc) ov (.slice ra ord.length rc) (ord++[nm]) w0 (w1.setCell ⟨lb,3,none⟩ (.slice (some ⟨gg,0,none⟩) (ord.length+1) cap2))from
    ⟨.slice (some ⟨gg,0,none⟩) (ord.length+1) cap2,ML,by rw[List.length_append,show QDb (ord++[nm])=QDb ord++[.string nm]from by simp[QDb]];exact d8,Ht,fun g hg=>by
     have e1:gg=g:=Option.some.inj hg
     rcases nY with e|e
     ·exact .inl (by rw[e,e1])
     ·exact .inr (by omega)⟩)
   clear ML d8 Ht gJ Jk nY ko q1 q2
   go_wp2_with fail
   go_meet
   case rel=>exact HF.out
 case rest=>
  obtain⟨rv1,ko,gi,Ht,vM⟩:=hcut
  have hfb:fg<base:=H.out.low fg rfl
  have vJ:¬(fg=lb∨Value.ownBlock (.slice ra ord.length rc)=some fg):=by
   rintro (e|e)
   ·have:=H.out.lbb;omega
   ·have:=(H.out.ord.lt fg e).1;omega
  have d0:wc.cell? ⟨lb,0,none⟩=some (.slice (some ⟨fg,fo,none⟩) F.length fc):=ko.cell 0
  have dl:=ko.lt
  have dt:=(Ht.cell (p:=⟨fg,fo+file*2+1,none⟩) oI vJ).trans t1
  have dfg:fg<wc.heap.size:=Nat.lt_of_lt_of_le oI Ht.size
  have Kd:Qaa (fun i=>base≤i) w wc:=((Qaa.of_fresh (show Below w.heap.size w w0 from by rw[←iX.out];exact Mz.out) _)).trans (Ht.mono (fun i _ e=>by
   rcases e with e|e
   ·have:=H.out.lbb;omega
   ·exact(H.out.ord.lt i e).1)) (fun _ _ e=>e)
  have KP:QFf wc:=cJ.out.keeps Kd (fun e=>by have e2:base≤0:=e;have:0=0:=rfl;omega)
  have gM:=Qdk tx file wc MH.1 KP
  unfold Qhf at gM
  have ki:=hid gM
  have ou:=Qdj tx.data.toList (file:Int)
  have pV:=hid ko
  have GH:=hid gi
  have Gj:=hid Ht
  have ug:=hid vM
  have je:=hid Kd
  have hsz1:=Ht.size
  clear gM ko gi Ht vM Kd KP vJ
  generalize Qoe tx.data.toList file=ST at ki K1 ou
  obtain⟨D,⟨p1,p2,p3⟩,er⟩:=ST
  go_wp2_with fail
  refine(by exact ki.out:Calls _ _ _ _ _).mono ?_
  rintro e w2 ⟨dv,rfl,J7,Ho⟩
  unfold QGb
  have GR:=eL.out
  by_cases he:er=0
  ·subst he
   have hR:ldT F (fuel+1) opn ord giv file before=(match Qza (ldT F fuel (opn++[file])) F (opn++[file]) before (QUd file D) (ord++[nm]) giv []with
    | .error e=>.error e
    | .ok (o,g,out)=>.ok (o,g++[((file:Int),out)],out)):=by rw[K1.out,if_neg (by simp)]
   have HR:=hid hR
   clear hR
   obtain⟨oa,oc,rfl⟩:=Qia H.out.opn
   have qS:=hid Ho.size
   have wI:=hid (Qca.new w2 #[.int .i64 p1,.int .i64 p2,.int .i64 p3] 27)
   have KL:D.length≤6001:=ou
   have gm:=Ho.alloc Ho.size (.cells #[.int .i64 p1,.int .i64 p2,.int .i64 p3] 27)
   have k23:Qaa (fun _=>False) wc (w2.alloc (.cells #[.int .i64 p1,.int .i64 p2,.int .i64 p3] 27)):=Qaa.of_fresh gm _
   have kN:=pV.out.keeps k23 (fun e=>e)
   have e2:(w2.alloc (.cells #[.int .i64 p1,.int .i64 p2,.int .i64 p3] 27)).cell? ⟨lb,2,none⟩=some (.slice oa opn.length oc):=kN.cell 2
   have el:=kN.lt
   have pj:=Qba (Qba H.out.opn (Qaa.of_fresh (show Below w.heap.size w w0 from by rw[←iX.out];exact Mz.out) (fun _=>False)) (fun _ _ e=>e)) Gj.out (by
    intro g hg e
    rcases e with e|e
    ·subst e;exact Q6a H.out.opn H.out.holds (by decide) hg
    ·rcases Qzh H.out.opn H.out.ord (by decide)with e4|e4
     ·rw[e4]at hg;cases hg
     ·exact e4 (hg.trans e.symm))
   have pm:=Qba pj k23 (fun _ _ e=>e)
   obtain⟨j0,jj,kV,kI,JI⟩:=info_parts QHk
   have iW:=hid pm
   have rs:=hid kN
   have jr:=hid (J7.keeps (Qaa.of_fresh ((Below.refl w2.heap.size w2).alloc (Nat.le_refl _) (.cells #[.int .i64 p1,.int .i64 p2,.int .i64 p3] 27)) (fun _=>False)) (QLa.nil _))
   have cA:=hid gm
   have hbw3:base≤(w2.alloc (.cells #[.int .i64 p1,.int .i64 p2,.int .i64 p3] 27)).heap.size:=by have:=gm.size;omega
   clear pj pm kN Ho gm k23 J7 GR
   go_upto_region 5 with fail
   generalize w2.alloc (.cells #[.int .i64 p1,.int .i64 p2,.int .i64 p3] 27)=w3 at *
   go_wp2_with (at_builtin;refine QHa _ rfl _ _ 22 22 rfl base 3 j0 (.int .i64 0) 1 8 Tryz.underlying22 jj kV kI JI rfl _ opn.length (Qjc opn) rfl (by exact World.ownsRow.alloc iW.out _) _ rfl 1 [.int .i64 (file:Int)] ?c1 ?c2 ?c3 ?c4 ?_)
   case c1=>exact Src.ofSlice _ Tryz.underlying22 _ 1 1 _ rfl (Q3a _ _ _ _ rfl _ rfl) (fun u hu=>by simp at hu;rcases hu with rfl;rfl)
   case c2=>unfold maxLen;omega
   case c3=>omega
   case c4=>simp;omega
   intro v4 w4 Gi bv nZ
   obtain⟨va4,vc4,rfl⟩:=Qia Gi
   have k4:Qaa (fun i=>Value.ownBlock (.slice oa opn.length oc)=some i) w3 w4:=((Qaa.refl _ w3).alloc _).trans (Qaa.of_grown bv (fun i e=>e)) (fun _ _ e=>e)
   have mj:Value.ownBlock (.slice oa opn.length oc)≠some lb:=Q6a iW.out rs.out (by decide)
   have mt:=rs.out.keeps k4 mj
   have s2:w4.cell? ⟨lb,2,none⟩=some (.slice oa opn.length oc):=mt.cell 2
   have s2f:=mt.free 2
   have s2l:=mt.lt
   have i9:=mt.set 2 (.slice va4 (opn.length+1) vc4)
   have Kp:=Q8m Gi mt (by decide) 2 (.slice va4 (opn.length+1) vc4)
   have wj:=hid i9
   have aI:=hid Kp
   have gQ:=hid (k4.mono (S:=fun i=>i=lb∨Value.ownBlock (.slice oa opn.length oc)=some i) (fun _ _ e=>.inr e) |>.setCell (p:=⟨lb,2,none⟩) (.inr (.inl rfl)) (.slice va4 (opn.length+1) vc4))
   have qR:=hid nZ
   clear Gi bv nZ k4 mt i9 Kp mj
   go_upto_region 6 with fail
   generalize w4.setCell ⟨lb,2,none⟩ (.slice va4 (opn.length+1) vc4)=w5 at *
   obtain⟨da,dc,g8⟩:=jr.out.slice
   obtain⟨R,ve⟩:∃R,R=Qza (ldT F fuel (opn++[file])) F (opn++[file]) before (QUd file D) (ord++[nm]) giv []:=⟨_,rfl⟩
   have cN:=hid ve
   have kw5:Qaa (fun i=>i=lb∨Value.ownBlock (.slice oa opn.length oc)=some i∨Value.ownBlock (.slice ra ord.length rc)=some i) w w5:=by
    refine((((Qaa.of_fresh (show Below w.heap.size w w0 from by rw[←iX.out];exact Mz.out) _).trans Gj.out ?_).trans (Qaa.of_fresh cA.out (fun _=>False)) (fun _ _ e=>e.elim)).trans gQ.out ?_)
    ·rintro i _ (e|e)
     ·exact .inl e
     ·exact .inr (.inr e)
    ·rintro i _ (e|e)
     ·exact .inl e
     ·exact .inr (.inl e)
   have k35:=(Qaa.of_fresh cA.out (fun i=>i=lb∨Value.ownBlock (.slice oa opn.length oc)=some i)).trans gQ.out (fun _ _ e=>e)
   have yw:=kw5.size
   have MM:=Gj.out.size
   have wW:=rT.out
   have iJ:=iX.out
   have yr:=qS.out
   have hlbw:=H.out.holds.lt
   obtain⟨ow,-⟩:(∀g,Value.ownBlock (.slice oa opn.length oc)=some g→g<w.heap.size)∧True:=⟨fun g hg=>(Qpa H.out.opn hg).1,trivial⟩
   have rw1:∀g,Value.ownBlock (.slice ra ord.length rc)=some g→g<w.heap.size:=fun g hg=>(Qpa H.out.ord hg).1
   have bX:LdL A lb mb base pb w2.heap.size (.slice (some ⟨fg,fo,none⟩) F.length fc) (.slice oa opn.length oc) (.slice ra ord.length rc) dv F (opn++[file]) fuel before file D R w 0 (.slice none 0 0) w5:=by
    have KW:(opn++[file]).length=opn.length+1:=by simp
    have jV:=Qba GH.out k35 (by
     rintro g hg (e|e)
     ·subst e
      exact Q6a GH.out pV.out (by decide) hg
     ·rcases ug.out g hg with e2|e2
      ·rcases Qzh H.out.opn H.out.ord (by decide)with e4|e4
       ·rw[e4]at e;cases e
       ·exact e4 (e.trans e2.symm)
      ·have:=ow g e;omega)
    have aS:=H.out.begin (opn2:=opn++[file]) (ord2:=ord++[nm]) kw5 wj.out (by rw[KW];simpa[Qjc]using aI.out) jV
    have xH:=((eL.out.keeps Gj.out (by
     rintro (e|e)
     ·omega
     ·have:=rw1 _ e;omega)).keeps k35 (by
     rintro (e|e)
     ·omega
     ·have:=ow _ e;omega))
    have xK:=wI.out.keeps gQ.out (by
     rintro (e|e)
     ·omega
     ·have:=ow _ e;omega)
    have i7:Q7a w5 wc.heap.size file dv D:=jr.out.keeps gQ.out (fun b hb e=>by
     rcases e with rfl|e
     ·exact⟨_,_,rs.out,by decide,by decide,by decide⟩
     ·obtain⟨_,_,cur,hc⟩:=Qpa iW.out e
      exact⟨_,_,hc,by decide,by decide,by decide⟩)
    refine⟨ord++[nm],giv,[],⟨⟨_,_,aS,?_,?_⟩,Qsa.nil _ _,?_,?_,i7.fds.lower (by omega),xH,⟨p1,p2,p3,xK⟩,lM.out nm,kw5.mono ?_,⟨by omega,by omega,by omega⟩,?_⟩,?_⟩
    ·intro g hg
     rcases qR.out with e|e
     ·exact .inl (e ▸ hg)
     ·rw[e]at hg;cases hg;exact .inr (by have h9:=cA.out.size;simp;omega)
    ·intro g hg
     rcases ug.out g hg with e|e
     ·exact .inl e
     ·exact .inr (by omega)
    ·intro g hg;cases hg
    ·simpa using sM
    ·intro i _ e
     rcases e with e|e|e
     ·exact .inl e
     ·exact .inr (.inr (.inl e))
     ·exact .inr (.inr (.inr e))
    ·intro g _ e;cases e
    ·rw[List.drop_zero];exact cN.out.symm
   subst g8
   have cR:=hid bX
   clear ve bX kw5 k35 ow rw1 iJ wW
   clear c0 c3 f3 n1 t1 d0 dt
   go_wp2_with fail
   go_loopg [12,67] (D.length) (fun f x12 x67 wr=>∃i:Nat,x67 = .int .i64 i∧i≤D.length∧D.length≤i+f∧LdL A lb mb base pb w2.heap.size (.slice (some ⟨fg,fo,none⟩) F.length fc) (.slice oa opn.length oc) (.slice ra ord.length rc) (.slice da D.length dc) F (opn++[file]) fuel before file D R w i x12 wr)
   case atStart=>exact⟨0,rfl,by omega,by omega,cR.out⟩
   case round=>
    obtain⟨i,rfl,G3,Kc,ord2,giv2,out,hW,nN⟩:=hrel
    obtain⟨va,vc,rfl⟩:=hW.row.slice
    have pO:=hW.keeps.size
    by_cases Hh:i<D.length
    ·obtain⟨g,cap,pv,e1,hg,db,d0,d1,d2,d3,d4,d5,d6,lu⟩:=hW.defs.at i (by rw[Qji];exact Hh)
     have ht:(QUd (file:Int) D)[i]'(by rw[Qji];exact Hh)=((file:Int),D[i]):=by simp[QUd]
     rw[ht]at d0 d1 d2 d4 d5 d6 lu
     rw[Qji]at e1
     rw[Q8k (file:Int) D i Hh]at nN
     generalize D[i]=d at *
     simp only at d0 d1 d2 d4 d5 d6 lu
     cases e1
     obtain⟨dk,dl,dn,dps,dln,dcl⟩:=d
     simp only at d0 d1 d2 d4 d5 d6 lu
     obtain⟨pa,pc,rfl⟩:=lu.slice
     have qz:(i:Int)<(D.length:Int):=by omega
     have Hl:=((Below.refl wr.heap.size wr).alloc (Nat.le_refl _) (.cells #[.int .i64 dk,.string dl,.string dn,.slice pa dps.length pc,.int .i64 (file:Int),.int .i64 dln,.int .i64 dcl] 34)).alloc (by simp) (.cells #[.int .i64 dk,.string dl,.string dn,.slice pa dps.length pc,.int .i64 (file:Int),.int .i64 dln,.int .i64 dcl] 34)
     have xM:=hid (hW.new1 Hl)
     have hE:=hid ((Qca.new wr #[.int .i64 dk,.string dl,.string dn,.slice pa dps.length pc,.int .i64 (file:Int),.int .i64 dln,.int .i64 dcl] 34).alloc (.cells #[.int .i64 dk,.string dl,.string dn,.slice pa dps.length pc,.int .i64 (file:Int),.int .i64 dln,.int .i64 dcl] 34))
     have hM:=hid (show Qsa ((wr.alloc (.cells #[.int .i64 dk,.string dl,.string dn,.slice pa dps.length pc,.int .i64 (file:Int),.int .i64 dln,.int .i64 dcl] 34)).alloc (.cells #[.int .i64 dk,.string dl,.string dn,.slice pa dps.length pc,.int .i64 (file:Int),.int .i64 dln,.int .i64 dcl] 34)) base (.slice (some ⟨wr.heap.size+1,0,none⟩) 1 1) [((file:Int),⟨dk,dl,dn,dps,dln,dcl⟩)]from
      ⟨[.slice pa dps.length pc],rfl,QYk (by simp) (by omega) rfl (by omega),fun k hk _=>by
       obtain rfl:k=0:=by simp at hk;omega
       exact lu.keep2 (Qaa.of_fresh Hl (fun _=>False)) (fun _ _ e=>e.elim)⟩)
     have JQ:=hid (show ∀g,Value.ownBlock (.slice (some ⟨wr.heap.size+1,0,none⟩) 1 1)=some g→Value.ownBlock (.slice va out.length vc)≠some g from fun g hg e=>by
      obtain⟨_,_,hr,_⟩:=hW.row
      have h1:=(Qpa hr e).1
      have h2:wr.heap.size+1=g:=Option.some.inj hg
      omega)
     have lU:=hid nN
     clear lu nN Hl hW ht
     go_upto_if 75 with fail
     generalize (wr.alloc (.cells #[.int .i64 dk,.string dl,.string dn,.slice pa dps.length pc,.int .i64 (file:Int),.int .i64 dln,.int .i64 dcl] 34)).alloc (.cells #[.int .i64 dk,.string dl,.string dn,.slice pa dps.length pc,.int .i64 (file:Int),.int .i64 dln,.int .i64 dcl] 34)=w7 at *
     refine Qnk (c':=QOl 75) (by kernel_rfl) ?_
     refine Qwp A fuel lb mb base pb w2.heap.size wr.heap.size before file (.slice (some ⟨fg,fo,none⟩) F.length fc) (.slice oa opn.length oc) (.slice ra ord.length rc) _ _ _ (.slice pa dps.length pc) F (opn++[file]) ord2 giv2 D out ⟨dk,dl,dn,dps,dln,dcl⟩ ((QUd (file:Int) D).drop (i+1)) w w7 rR hF HT (by simp;omega) Hf Ky cJ HA tr xM hE hM JQ ?_ ?_
     ·refine hid ?_
      intro x11 x15 x16 x17 x18 x75 x76 x77 x78 x79 x80 x81 x84 x85 x86 x87 x88 x89 x92 x93 x94 x95 x96 x97 x98 x99 x100 x101 x102 x103 x104 x105 x106 x107 x108 x109 x110 x111 x112 x113 x114 x115 x118 wx ord3 giv3 m bd K6 qI jT bp
      obtain⟨ma,mc,rfl⟩:=K6.slice
      have hlen3:=bd.len
      have GP:(6000:Int)-(before:Int)-(out.length:Int)=(Qmb before out:Int):=by unfold Qmb;omega
      have yt:Qmb before out≤6000:=by unfold Qmb;omega
      have hml2:(m.length:Int)≤6000:=by omega
      by_cases Ke:Qmb before out<m.length
      ·obtain⟨g2,cap2,pv2,e3,dV,_,_,_,_,_,q4,q5,q6,_⟩:=K6.at (Qmb before out) Ke
       have de:m.getD (Qmb before out) Q9d=m[Qmb before out]:=by rw[List.getD_eq_getElem?_getD,List.getElem?_eq_getElem Ke];rfl
       have c8:=hid ((lU.out.symm.trans bp).trans (if_pos Ke))
       rw[de]at c8
       have pH:((Qmb before out:Nat):Int)<(m.length:Int):=by omega
       have lw:=bd.pos
       have Hd:=bd.keeps
       have gS:=bd.low.1
       clear bd K6 de bp
       generalize m[Qmb before out]=x at *
       obtain⟨xf,xd⟩:=x
       simp only at q4 q5 q6
       cases e3
       generalize Qmb before out=rm at *
       obtain⟨b0,b1,b2,z0,z1,z2,zl⟩:=three lw
       have Hg:=(((lw.set 0 (.int .i64 xf)).set 1 (.int .i64 xd.line)).set 2 (.int .i64 xd.col)).drew
       obtain⟨r0,r1,r2,-⟩:=three (show Qca _ pb #[.int .i64 xf,.int .i64 xd.line,.int .i64 xd.col] 27 from Hg)
       have JV:=hid (((Hd.setCell (p:=⟨pb,0,none⟩) (.inl gS) (.int .i64 xf)).setCell (p:=⟨pb,1,none⟩) (.inl gS) (.int .i64 xd.line)).setCell (p:=⟨pb,2,none⟩) (.inl gS) (.int .i64 xd.col)).drew
       clear Hg lw Hd
       go_wp2_with fail
       go_region
       all_goals
        go_wp2_with fail
        exact bodyPost_ret (v:=.tuple #[.slice none 0 0,.agg #[.int .i64 xf,.int .i64 xd.line,.int .i64 xd.col],.int .i64 3]) (by simp[results,Tryz.results72,go_sem,r0,r1,r2]) rfl ⟨JV.out,by rw[HR.out,←cN.out,c8.out];rfl⟩
      ·obtain⟨vs,us,Hi,My,M5⟩:=bd.app Ky K6 (by omega)
       have Gm:=hid Hi
       have rU:=hid My
       have JJ:=hid M5
       obtain⟨y0,qM,kV,kI,JI⟩:=info_parts QGk
       have hro2:((Qmb before out:Nat):Int)<(m.length:Int)→False:=by omega
       have GB:base≤wx.heap.size:=by have:=bd.keeps.size;omega
       clear Hi My M5 bd K6
       generalize Qmb before out=rm at *
       go_upto_region 26 with fail
       go_wp2_with (at_builtin;refine QHa _ rfl _ _ 25 25 rfl base 34 y0 _ 7 88 Tryz.underlying25 qM kV kI JI rfl _ out.length (QEa out vs) rfl (by exact Gm.out) _ rfl m.length (QEa m us) (by exact rU.out) ?c5 ?c6 ?c7 ?_)
       case c5=>unfold maxLen;omega
       case c6=>omega
       case c7=>omega
       intro v9 w9 mn GN ob
       have wR:=hid (JJ.out v9 w9 mn GN ob)
       clear mn GN ob
       go_wp2_with fail
       go_roundg (gk-1)
       case measure=>omega
       case rel=>exact⟨i+1,by go_num,by omega,by omega,ord3,giv3,out++m,wR.out,by have h9:=bp.symm.trans lU.out;rw[if_neg Ke]at h9;exact h9⟩
     ·refine hid ?_
      intro c wx p er h6 h7 h8 hH hK bp
      obtain⟨r0,r1,r2,-⟩:=three hH
      obtain⟨p1',p2',p3'⟩:=p
      have c8:=lU.out.symm.trans bp
      exact bodyPost_ret (v:=.tuple #[.slice none 0 0,.agg #[.int .i64 p1',.int .i64 p2',.int .i64 p3'],.int .i64 er]) (by simp[results,Tryz.results72,go_sem,h6,h7,h8,r0,r1,r2]) rfl ⟨hK,by rw[HR.out,←cN.out,c8];rfl⟩
    ·obtain rfl:i=D.length:=by omega
     have nO:(.ok (ord2,giv2,out):Lr)=R:=by rw[←nN,Qnn];rfl
     have lU:=hid nO
     obtain⟨gg,oc2,rv2,jN,hoc1,hoc2,hoc3,Hg⟩:=hW.fin HA.out hF Ky
     have GJ:=hid Hg
     have l2:wr.cell? ⟨lb,2,none⟩=some (.slice (some ⟨gg,0,none⟩) (opn.length+1) oc2):=jN.cell 2
     have lf2:=jN.free 2
     have ll:=jN.lt
     have kM:=hid ((jN.set 2 (.slice (some ⟨gg,0,none⟩) opn.length oc2)).drew)
     have GC:=hid (((Qaa.refl (· = lb) wr).setCell (p:=⟨lb,2,none⟩) (.inr rfl) (.slice (some ⟨gg,0,none⟩) opn.length oc2)).drew)
     have lW:=hid hW.low.1
     have rH:=hid hW.new
     clear hW nN nO jN Hg
     go_wp2_with fail
     go_region
     all_goals
      generalize (wr.setCell ⟨lb,2,none⟩ (.slice (some ⟨gg,0,none⟩) opn.length oc2)).drew=w6 at *
      obtain⟨o,gX,fB,Hc,lw,kK,G5,G6⟩:=GJ.out w6 GC.out kM.out
      have m1:w6.cell? ⟨lb,1,none⟩=some (.map (some mb)):=kM.out.cell 1
      have ml:=kM.out.lt
      have rC:=hid fB
      have aH:=hid Hc
      have eQ:=hid lw
      have rz:=hid kK
      have i4:=hid G5
      have JL:=hid G6
      clear fB Hc lw kK G5 G6
      go_upto_region 30 with fail
      generalize setBlock w6 mb o=w8 at *
      have hlowp:=lW.out
      obtain⟨b0,b1,b2,z0,z1,z2,zl⟩:=three eQ.out
      have Hg:=(((eQ.out.set 0 (.int .i64 0)).set 1 (.int .i64 0)).set 2 (.int .i64 0))
      obtain⟨r0,r1,r2,-⟩:=three (show Qca _ pb #[.int .i64 0,.int .i64 0,.int .i64 0] 27 from Hg)
      have kq:Qaa (· = pb) w8 (((w8.setCell ⟨pb,0,none⟩ (.int .i64 0)).setCell ⟨pb,1,none⟩ (.int .i64 0)).setCell ⟨pb,2,none⟩ (.int .i64 0)):=(((Qaa.refl (· = pb) w8).setCell (p:=⟨pb,0,none⟩) (.inr rfl) _).setCell (p:=⟨pb,1,none⟩) (.inr rfl) _).setCell (p:=⟨pb,2,none⟩) (.inr rfl) _
      have hS:∀b,b=pb→base≤b∧∃cs,Qca w8 b cs 27:=by
       rintro b rfl
       exact⟨xR,_,eQ.out⟩
      have et:=hid (show QOo A lb mb base (.slice (some ⟨fg,fo,none⟩) F.length fc) (.slice oa opn.length oc) (.slice ra ord.length rc) F opn (ldT F (fuel+1) opn ord giv file before) w (.returned (.tuple #[.slice va out.length vc,.agg #[.int .i64 0,.int .i64 0,.int .i64 0],.int .i64 0])) (((w8.setCell ⟨pb,0,none⟩ (.int .i64 0)).setCell ⟨pb,1,none⟩ (.int .i64 0)).setCell ⟨pb,2,none⟩ (.int .i64 0))from by
       refine⟨rz.out.trans kq (fun i hi e=>by subst e;exact absurd hi (by omega)),?_⟩
       rw[HR.out,←cN.out,←lU.out]
       exact⟨_,_,_,rfl,aH.out.side kq (fun b e=>(hS b e).2),rC.out.side kq hS,rH.out,i4.out,JL.out⟩)
      clear kq hS Hg
      go_wp2_with fail
      exact bodyPost_ret (v:=.tuple #[.slice va out.length vc,.agg #[.int .i64 0,.int .i64 0,.int .i64 0],.int .i64 0]) (by simp[results,Tryz.results72,go_sem,r0,r1,r2]) rfl et.out
  ·have he':(er == 0)=false:=by simpa using he
   have hR:ldT F (fuel+1) opn ord giv file before = .error ((p1,p2,p3),er):=by rw[K1.out,if_pos (by simpa using he)]
   have HR:=hid hR
   clear hR he
   have uZ:=eL.out.keeps Gj.out (by
    rintro (e|e)
    ·omega
    ·exact Q6a pZ.out eL.out (by decide) e)
   have kC:=(uZ.keeps (Qaa.of_fresh Ho (fun _=>False)) (fun e=>e)).alloc (.cells #[.int .i64 p1,.int .i64 p2,.int .i64 p3] 27)
   have dQ:=Qca.new w2 #[.int .i64 p1,.int .i64 p2,.int .i64 p3] 27
   obtain⟨a0,a1,a2,-,-,-,ql⟩:=three dQ
   obtain⟨b0,b1,b2,g0,g1,g2,gl⟩:=three kC
   have Hg:=(((kC.set 0 (.int .i64 p1)).set 1 (.int .i64 p2)).set 2 (.int .i64 p3)).drew
   obtain⟨q0,q1,q2,-⟩:=three (show Qca _ pb #[.int .i64 p1,.int .i64 p2,.int .i64 p3] 27 from Hg)
   have kS0:Qaa (LdS lb mb ov (.slice ra ord.length rc)) w wc:=(Qaa.of_fresh (show Below w.heap.size w w0 from by rw[←iX.out];exact Mz.out) _).trans Gj.out (fun _ _ e=>by
    rcases e with e|e
    ·exact .inl e
    ·exact .inr (.inr (.inr e)))
   have tz:w.heap.size≤pb:=by have:=iX.out;omega
   have JV:=(((((kS0.trans (Qaa.of_fresh Ho (fun _=>False)) (fun _ _ e=>e.elim)).alloc (.cells #[.int .i64 p1,.int .i64 p2,.int .i64 p3] 27)).setCell (p:=⟨pb,0,none⟩) (.inl tz) (.int .i64 p1)).setCell (p:=⟨pb,1,none⟩) (.inl tz) (.int .i64 p2)).setCell (p:=⟨pb,2,none⟩) (.inl tz) (.int .i64 p3)).drew
   have t8:=hid JV
   clear Hg JV uZ kC dQ GR J7 Ho
   go_wp2_with fail
   go_region
   all_goals
    go_wp2_with fail
    exact bodyPost_ret (v:=.tuple #[.slice none 0 0,.agg #[.int .i64 p1,.int .i64 p2,.int .i64 p3],.int .i64 er]) (by simp[results,Tryz.results72,go_sem,q0,q1,q2]) rfl ⟨t8.out,by rw[HR.out];rfl⟩
theorem QFk:∀fuel,QFh fuel
 | 0=>fun A lb mb base fv ov rv F opn ord giv file before w _ _ _ _ _ hg _ _ KN=>by have:=hg.short;omega
 | fuel+1=>QPh fuel (QFk fuel)
end Go.Proofs.YtofhcgbihonckaaGreat
namespace Go.Proofs.YtofhcgbihonckaaGreat
open Go.Lib (hid)
open Go.RowKit Go.ChangeMaps
theorem Qem(F:List Qoa)(s:ByteArray):decide (0≤Qrb F s)=F.any (fun g=>decide (g.name=s)):=by
 unfold Qrb
 rw[Bool.eq_iff_iff,decide_eq_true_eq,List.any_eq_true]
 cases h:Q2b F s with
 | none=>
  unfold Q2b at h
  rw[List.findIdx?_eq_none_iff]at h
  constructor
  ·intro e;exact absurd e (by simp)
  ·rintro ⟨g,hg,e⟩;rw[h g hg]at e;cases e
 | some k=>
  constructor
  ·intro _
   unfold Q2b at h
   obtain⟨hk,h1,_⟩:=List.findIdx?_eq_some_iff_getElem.1 h
   exact⟨F[k],List.getElem_mem hk,h1⟩
  ·intro _;simp
def QQl(fv:Value)(R:Lr)(w:World)(e:Ending)(w':World):Prop:=
 Below w.heap.size w w'∧match R with
 | .error (p,er)=>∃x,e = .returned (.tuple #[.pointer x,.slice none 0 0,QGb p,.int .i64 er])
 | .ok (ord,_,out)=>∃lb mb v ov rv,e = .returned (.tuple #[.pointer (some ⟨lb,0,none⟩),v,QGb (0,0,0),.int .i64 0])∧Qsa w' w.heap.size v out∧Qca w' lb (ldC fv mb ov rv) 95∧w'.ownsRow w.heap.size 9 1 rv ord.length (QDb ord)
set_option maxRecDepth 100000 in
theorem QJi(fv:Value)(F:List Qoa)(main:ByteArray)(w:World)(hF:QZa w fv F)(gS:0<F.length→∀g,fv.ownBlock=some g→g<w.heap.size)(hl:F.length≤1000)(hT:∀f∈F,f.text.size≤maxLen∧f.name.size≤maxLen)(lay:QFf w)(iH:0<w.heap.size) :
 Calls Tryz.prog 40 #[fv,.string main] w (QQl fv (QSb F main) w):=by
 obtain⟨a,cap,rfl,h1,h2,h3⟩:=id hF
 have gR:=(Below.refl w.heap.size w).alloc (Nat.le_refl _) (.cells #[.int .i64 0,.int .i64 0,.int .i64 0] 27)
 have J8:=hid (Qca.new w #[.int .i64 0,.int .i64 0,.int .i64 0] 27)
 have HF0:=hid (hF.new gR)
 have Mz:=hid gR
 have H9:=hid gS
 have HT:=hid hT
 have cJ:=hid lay
 have iE:(w.alloc (.cells #[.int .i64 0,.int .i64 0,.int .i64 0] 27)).heap.size=w.heap.size+1:=by simp
 obtain⟨R,hR⟩:∃R,R=QSb F main:=⟨_,rfl⟩
 have HR:=hid hR
 rw[←hR]
 have xu:=hid hF
 clear hF gS hT lay h3 gR hR
 have ij:=fun wx=>run_makeMap (P:=Tryz.prog) 93 wx
 go_enter Tryz.func40,Tryz.ntmps40
 go_upto_region 1 with fail
 generalize w.alloc (.cells #[.int .i64 0,.int .i64 0,.int .i64 0] 27)=w1 at *
 by_cases h8:8<F.length
 ·have h8':(8:Int)<(F.length:Int):=by omega
  obtain⟨b0,b1,b2,z0,z1,z2,zl⟩:=three J8.out
  have Hg:=((J8.out.set 0 (.int .i64 0)).set 1 (.int .i64 0)).set 2 (.int .i64 0)
  obtain⟨r0,r1,r2,-⟩:=three (show Qca _ w.heap.size #[.int .i64 0,.int .i64 0,.int .i64 0] 27 from Hg)
  have GB:=hid (((Mz.out.setCell (p:=⟨w.heap.size,0,none⟩) (Nat.le_refl _) (.int .i64 0)).setCell (p:=⟨w.heap.size,1,none⟩) (Nat.le_refl _) (.int .i64 0)).setCell (p:=⟨w.heap.size,2,none⟩) (Nat.le_refl _) (.int .i64 0))
  have HE:Hid (R = .error ((0,0,0),3)):=hid (by rw[HR.out];unfold QSb;rw[if_pos h8])
  clear Hg
  go_wp2_with fail
  exact bodyPost_ret (v:=.tuple #[.pointer none,.slice none 0 0,.agg #[.int .i64 0,.int .i64 0,.int .i64 0],.int .i64 3]) (by simp[results,Tryz.results40,go_sem,r0,r1,r2]) rfl ⟨GB.out,by rw[HE.out];exact⟨none,rfl⟩⟩
 ·have oV:F.length≤8:=by omega
  have wh:=xu
  clear h8
  go_wp2_with fail
  go_loopg [21] (F.length) (fun f x wr=>∃i:Nat,x = .int .i64 i∧i≤F.length∧F.length≤i+f∧Hid (QBk (F.take i) (F.drop i)=QBk [] F)∧Below w.heap.size w wr∧Qca wr w.heap.size #[.int .i64 0,.int .i64 0,.int .i64 0] 27)
  case atStart=>exact⟨0,rfl,by omega,by omega,hid (by rw[List.take_zero,List.drop_zero]),Mz.out,J8.out⟩
  case round=>
   obtain⟨i,rfl,G3,Kc,hd,hB,hP⟩:=hrel
   have HB:=hid hB
   have HP:=hid hP
   clear hB hP
   have nJ:=wh.out.new HB.out
   by_cases Hh:i<F.length
   ·obtain⟨a',cap',e,_,_,h3⟩:=id nJ
    cases e
    obtain⟨fg,fo,rfl,bt,oG⟩:=h3 (by omega)
    obtain⟨n0,n1⟩:=oG i Hh
    have vo:F.drop i=F[i]::F.drop (i+1):=List.drop_eq_getElem_cons Hh
    have G0:F.take (i+1)=F.take i++[F[i]]:=List.take_succ_eq_append_getElem Hh
    generalize F[i]=f0 at *
    obtain⟨n,t⟩:=f0
    simp only at n0 n1
    have qz:(i:Int)<(F.length:Int):=by omega
    have Hf:=(Below.refl wr.heap.size wr).alloc (Nat.le_refl _) (.cells #[.string n,.string t] 46)
    have Ky:=Qca.new wr #[.string n,.string t] 46
    have JS:=QRe wr.heap.size n (.slice (some ⟨fg,fo,none⟩) i cap) (F.take i) _ ((nJ.new Hf).pre i G3) (Ky.cell 0) Ky.lt (by rw[List.length_take];omega)
    rw[Qem]at JS
    have jo:=hid (HB.out.trans (Hf.mono HB.out.size))
    have l8:=hid (HP.out.alloc (.cells #[.string n,.string t] 46))
    have tT:=hid vo
    have gA:=hid G0
    have pP:=HB.out.size
    clear oG h3 nJ Hf Ky vo G0
    cases hdd:(F.take i).any (fun g=>decide (g.name=n))with
    | true=>
     rw[hdd]at JS
     have q9:=hid JS
     have HE:Hid (R = .error ((0,0,0),5)):=hid (by
      rw[HR.out];unfold QSb
      rw[if_neg (by omega),if_pos]
      rw[←hd.out,tT.out]
      simp only[QBk,hdd,Bool.true_or])
     clear JS hdd
     go_wp2_with fail
     refine(by exact q9.out:Calls _ _ _ _ _).mono ?_
     rintro e w2 ⟨rfl,Ho⟩
     have Mj:=hid (l8.out.keeps (Qaa.of_fresh Ho (fun _=>False)) (fun e=>e))
     have GI:=hid (jo.out.trans (Ho.mono jo.out.size))
     clear Ho
     go_upto_region 7 with fail
     obtain⟨b0,b1,b2,z0,z1,z2,zl⟩:=three Mj.out
     have Hg:=((Mj.out.set 0 (.int .i64 0)).set 1 (.int .i64 0)).set 2 (.int .i64 0)
     obtain⟨r0,r1,r2,-⟩:=three (show Qca _ w.heap.size #[.int .i64 0,.int .i64 0,.int .i64 0] 27 from Hg)
     have GB:=hid (((GI.out.setCell (p:=⟨w.heap.size,0,none⟩) (Nat.le_refl _) (.int .i64 0)).setCell (p:=⟨w.heap.size,1,none⟩) (Nat.le_refl _) (.int .i64 0)).setCell (p:=⟨w.heap.size,2,none⟩) (Nat.le_refl _) (.int .i64 0))
     clear Hg
     go_wp2_with fail
     exact bodyPost_ret (v:=.tuple #[.pointer none,.slice none 0 0,.agg #[.int .i64 0,.int .i64 0,.int .i64 0],.int .i64 5]) (by simp[results,Tryz.results40,go_sem,r0,r1,r2]) rfl ⟨GB.out,by rw[HE.out];exact⟨none,rfl⟩⟩
    | false=>
     rw[hdd]at JS
     have q9:=hid JS
     have jr:Hid (QBk (F.take (i+1)) (F.drop (i+1))=QBk [] F):=hid (by
      rw[←hd.out,tT.out,gA.out]
      simp only[QBk,hdd,Bool.false_or])
     clear JS hdd
     go_wp2_with fail
     refine(by exact q9.out:Calls _ _ _ _ _).mono ?_
     rintro e w2 ⟨rfl,Ho⟩
     have Mj:=hid (l8.out.keeps (Qaa.of_fresh Ho (fun _=>False)) (fun e=>e))
     have GI:=hid (jo.out.trans (Ho.mono jo.out.size))
     clear Ho
     go_wp2_with fail
     go_roundg (gk-1)
     case measure=>omega
     case rel=>exact⟨i+1,by go_num,by omega,by omega,jr,GI.out,Mj.out⟩
   ·obtain rfl:i=F.length:=by omega
    have oA:QBk [] F=false:=by rw[←hd.out,List.drop_length];rfl
    clear hd
    have Hf:=((Below.refl wr.heap.size wr).alloc (Nat.le_refl _) (.map #[] 0)).alloc (by simp) (.cells #[.slice a F.length cap,.map (some wr.heap.size),.slice none 0 0,.slice none 0 0] 95)
    have tY:=hid (nJ.new Hf)
    have jo:=hid (HB.out.trans (Hf.mono HB.out.size))
    have l8:=hid (HP.out.keeps (Qaa.of_fresh Hf (fun _=>False)) (fun e=>e))
    have Gt:=hid (Qca.newAt (w:=wr.alloc (.map #[] 0)) (B:=wr.heap.size+1) (by simp) #[.slice a F.length cap,.map (some wr.heap.size),.slice none 0 0,.slice none 0 0] 95)
    have wl:=hid ((Qhd.new wr).keeps ((Qaa.refl (fun _=>False) _).alloc (.cells #[.slice a F.length cap,.map (some wr.heap.size),.slice none 0 0,.slice none 0 0] 95)) (fun e=>e))
    have pP:=HB.out.size
    have gB:((wr.alloc (.map #[] 0)).alloc (.cells #[.slice a F.length cap,.map (some wr.heap.size),.slice none 0 0,.slice none 0 0] 95)).heap.size=wr.heap.size+2:=by simp
    have Ms:=hid gB
    clear Hf nJ gB
    go_upto_region 10 with fail
    generalize (wr.alloc (.map #[] 0)).alloc (.cells #[.slice a F.length cap,.map (some wr.heap.size),.slice none 0 0,.slice none 0 0] 95)=w2 at *
    have qF:w.heap.size<wr.heap.size+1:=by omega
    have fB:0<F.length→QOf (fun _=>False) w2 (wr.heap.size+1) wr.heap.size w.heap.size (.slice a F.length cap) (.slice none 0 0) (.slice none 0 0) F [] [] []:=
     fun Mw=>⟨Gt.out,tY.out,H9.out Mw,World.ownsRow_nil _ _ _ _,World.ownsRow_nil _ _ _ _,⟨[],wl.out,rfl,fun i h=>by cases h⟩,by omega,pP,by have:=Ms.out;omega⟩
    have c9:=QUe (wr.heap.size+1) wr.heap.size (.slice a F.length cap) (.slice none 0 0) (.slice none 0 0) F main w2 Gt.out tY.out hl
    have K1:=hid fB
    clear fB
    cases hf:Q2b F main with
    | none=>
     rw[show Qrb F main = -1 from by unfold Qrb;rw[hf]]at c9
     have rj:=hid c9
     have HE:Hid (R = .error ((0,0,0),4)):=hid (by
      rw[HR.out];unfold QSb
      rw[if_neg (by omega),if_neg (by rw[oA];simp),hf])
     clear c9 hf
     go_wp2_with fail
     refine(by exact rj.out:Calls _ _ _ _ _).mono ?_
     rintro e w3 ⟨rfl,Ho⟩
     have Mj:=hid (l8.out.keeps (Qaa.of_fresh Ho (fun _=>False)) (fun e=>e))
     have GI:=hid (jo.out.trans (Ho.mono jo.out.size))
     clear Ho
     go_upto_region 12 with fail
     obtain⟨b0,b1,b2,z0,z1,z2,zl⟩:=three Mj.out
     have Hg:=((Mj.out.set 0 (.int .i64 0)).set 1 (.int .i64 0)).set 2 (.int .i64 0)
     obtain⟨r0,r1,r2,-⟩:=three (show Qca _ w.heap.size #[.int .i64 0,.int .i64 0,.int .i64 0] 27 from Hg)
     have GB:=hid (((GI.out.setCell (p:=⟨w.heap.size,0,none⟩) (Nat.le_refl _) (.int .i64 0)).setCell (p:=⟨w.heap.size,1,none⟩) (Nat.le_refl _) (.int .i64 0)).setCell (p:=⟨w.heap.size,2,none⟩) (Nat.le_refl _) (.int .i64 0))
     clear Hg
     go_wp2_with fail
     exact bodyPost_ret (v:=.tuple #[.pointer none,.slice none 0 0,.agg #[.int .i64 0,.int .i64 0,.int .i64 0],.int .i64 4]) (by simp[results,Tryz.results40,go_sem,r0,r1,r2]) rfl ⟨GB.out,by rw[HE.out];exact⟨none,rfl⟩⟩
    | some k=>
     rw[show Qrb F main=(k:Int)from by unfold Qrb;rw[hf]]at c9
     have rj:=hid c9
     have HE:Hid (R=ldT F (F.length+1) [] [] [] k 0):=hid (by
      rw[HR.out];unfold QSb
      rw[if_neg (by omega),if_neg (by rw[oA];simp),hf])
     have aj:=QFb hf
     clear c9 hf
     go_wp2_with fail
     refine(by exact rj.out:Calls _ _ _ _ _).mono ?_
     rintro e w3 ⟨rfl,Ho⟩
     have Mj:=hid (l8.out.keeps (Qaa.of_fresh Ho (fun _=>False)) (fun e=>e))
     have GI:=hid (jo.out.trans (Ho.mono jo.out.size))
     have aB:=hid ((K1.out (by omega)).new Ho)
     have Mn:=QFk (F.length+1) (fun _=>False) _ _ _ _ _ _ F [] [] [] k 0 w3 aB.out (fun g e=>e.elim) aj oV HT.out (QSe F) (by simp) rfl (by simp) (by omega) iH (cJ.out.keeps (Qaa.of_fresh GI.out (fun _=>False)) (fun e=>e))
     rw[←HE.out]at Mn
     have lV:=hid Mn
     clear Ho Mn
     go_wp2_with fail
     refine(by exact lV.out:Calls _ _ _ _ _).mono ?_
     rintro e w4 ⟨Hr,Gh⟩
     have jO:=aB.out.pos Hr Mj.out
     have J6:Below w.heap.size w w4:=GI.out.trans (Hr.below GI.out.size (fun i hi e=>by
      rcases e with e|e|e|e
      ·omega
      ·omega
      ·cases e
      ·cases e))
     cases He:R with
     | error x=>
      obtain⟨⟨p1,p2,p3⟩,er⟩:=x
      rw[He]at Gh
      simp only at Gh
      subst Gh
      unfold QGb
      have vb:=jO
      have kC:=vb.alloc (.cells #[.int .i64 p1,.int .i64 p2,.int .i64 p3] 27)
      have dQ:=Qca.new w4 #[.int .i64 p1,.int .i64 p2,.int .i64 p3] 27
      obtain⟨a0,a1,a2,-,-,-,ql⟩:=three dQ
      obtain⟨b0,b1,b2,g0,g1,g2,gl⟩:=three kC
      have Hg:=(((kC.set 0 (.int .i64 p1)).set 1 (.int .i64 p2)).set 2 (.int .i64 p3)).drew
      obtain⟨q0,q1,q2,-⟩:=three (show Qca _ w.heap.size #[.int .i64 p1,.int .i64 p2,.int .i64 p3] 27 from Hg)
      have GB:=hid ((((J6.alloc J6.size (.cells #[.int .i64 p1,.int .i64 p2,.int .i64 p3] 27)).setCell (p:=⟨w.heap.size,0,none⟩) (Nat.le_refl _) (.int .i64 p1)).setCell (p:=⟨w.heap.size,1,none⟩) (Nat.le_refl _) (.int .i64 p2)).setCell (p:=⟨w.heap.size,2,none⟩) (Nat.le_refl _) (.int .i64 p3)).drew
      have KD:=hid He
      clear Hg vb jO kC dQ Hr J6 He
      go_wp2_with fail
      go_region
      all_goals
       go_wp2_with fail
       exact bodyPost_ret (v:=.tuple #[.pointer (some ⟨wr.heap.size+1,0,none⟩),.slice none 0 0,.agg #[.int .i64 p1,.int .i64 p2,.int .i64 p3],.int .i64 er]) (by simp[results,Tryz.results40,go_sem,q0,q1,q2]) rfl ⟨GB.out,by first|exact⟨_,rfl⟩ | (rw[KD.out];exact⟨_,rfl⟩)⟩
     | ok x=>
      obtain⟨ord9,giv9,out9⟩:=x
      rw[He]at Gh
      obtain⟨v,ov9,rv9,rfl,Hc,uU,_,_,_⟩:=Gh
      obtain⟨v1,v2,rfl⟩:=Hc.slice
      unfold QGb
      have kC:=jO.alloc (.cells #[.int .i64 0,.int .i64 0,.int .i64 0] 27)
      have dQ:=Qca.new w4 #[.int .i64 0,.int .i64 0,.int .i64 0] 27
      obtain⟨a0,a1,a2,-,-,-,ql⟩:=three dQ
      obtain⟨b0,b1,b2,g0,g1,g2,gl⟩:=three kC
      have Hg:=(((kC.set 0 (.int .i64 0)).set 1 (.int .i64 0)).set 2 (.int .i64 0)).drew
      obtain⟨q0,q1,q2,-⟩:=three (show Qca _ w.heap.size #[.int .i64 0,.int .i64 0,.int .i64 0] 27 from Hg)
      have GB:=hid ((((J6.alloc J6.size (.cells #[.int .i64 0,.int .i64 0,.int .i64 0] 27)).setCell (p:=⟨w.heap.size,0,none⟩) (Nat.le_refl _) (.int .i64 0)).setCell (p:=⟨w.heap.size,1,none⟩) (Nat.le_refl _) (.int .i64 0)).setCell (p:=⟨w.heap.size,2,none⟩) (Nat.le_refl _) (.int .i64 0)).drew
      have kq:=(((((Qaa.refl (· = w.heap.size) w4).alloc (.cells #[.int .i64 0,.int .i64 0,.int .i64 0] 27)).setCell (p:=⟨w.heap.size,0,none⟩) (.inr rfl) (.int .i64 0)).setCell (p:=⟨w.heap.size,1,none⟩) (.inr rfl) (.int .i64 0)).setCell (p:=⟨w.heap.size,2,none⟩) (.inr rfl) (.int .i64 0)).drew
      have hS:∀b,b=w.heap.size→w.heap.size≤b∧∃cs,Qca w4 b cs 27:=by
       rintro b rfl
       exact⟨Nat.le_refl _,_,jO⟩
      have Gu:=hid (Hc.side kq (fun b e=>(hS b e).2))
      have cG:=hid (uU.side kq hS)
      have KD:=hid He
      clear Hg jO kC dQ Hr J6 He Hc uU kq hS
      go_wp2_with fail
      go_region
      all_goals
       go_wp2_with fail
       exact bodyPost_ret (v:=.tuple #[.pointer (some ⟨wr.heap.size+1,0,none⟩),.slice v1 out9.length v2,.agg #[.int .i64 0,.int .i64 0,.int .i64 0],.int .i64 0]) (by simp[results,Tryz.results40,go_sem,q0,q1,q2]) rfl ⟨GB.out,by rw[KD.out];exact⟨_,_,_,_,_,rfl,Gu.out,cG.out.holds,cG.out.ord⟩⟩
end Go.Proofs.YtofhcgbihonckaaGreat
namespace Go.Proofs.YtofhcgbihonckaaGreat
open Go.Lib (hid)
open Go.RowKit
def Qae(F:List Qoa)(main:ByteArray)(w:World)(e:Ending)(w':World):Prop:=
 ∃v,e = .returned (.tuple #[v,QGb (QIc F main).2.1,.int .i64 (QIc F main).2.2])∧Qsa w' w.heap.size v (QIc F main).1∧Below w.heap.size w w'
set_option maxRecDepth 100000 in
theorem QEk(fv:Value)(F:List Qoa)(main:ByteArray)(w:World)(hF:QZa w fv F)(gS:0<F.length→∀g,fv.ownBlock=some g→g<w.heap.size)(hl:F.length≤1000)(hT:∀f∈F,f.text.size≤maxLen∧f.name.size≤maxLen)(lay:QFf w)(iH:0<w.heap.size) :
 Calls Tryz.prog 19 #[fv,.string main] w (Qae F main w):=by
 have gR:=(Below.refl w.heap.size w).alloc (Nat.le_refl _) (.cells #[.int .i64 0,.int .i64 0,.int .i64 0] 27)
 have eL:=hid (Qca.new w #[.int .i64 0,.int .i64 0,.int .i64 0] 27)
 have gn:(w.alloc (.cells #[.int .i64 0,.int .i64 0,.int .i64 0] 27)).heap.size=w.heap.size+1:=by simp
 have Mn:=QJi fv F main _ (hF.new gR) (fun h0 g hg=>by have:=gS h0 g hg;omega) hl hT (lay.keeps (Qaa.of_fresh gR (fun _=>False)) (fun e=>e)) (by omega)
 have K1:=hid (show Calls Tryz.prog 40 #[fv,.string main] (w.alloc (.cells #[.int .i64 0,.int .i64 0,.int .i64 0] 27)) (fun e w'=>∃x v,e = .returned (.tuple #[.pointer x,v,QGb (QIc F main).2.1,.int .i64 (QIc F main).2.2])∧Qsa w' (w.heap.size+1) v (QIc F main).1∧(QIc F main).1.length≤6000∧(∀x∈(QIc F main).1,OkD x.2)∧Below (w.heap.size+1) (w.alloc (.cells #[.int .i64 0,.int .i64 0,.int .i64 0] 27)) w')from Mn.mono (by
  rintro e w' ⟨hb,Gh⟩
  rw[gn]at hb
  unfold QIc
  cases hR:QSb F main with
  | error x=>
   rw[hR]at Gh
   obtain⟨x,rfl⟩:=Gh
   exact⟨_,_,rfl,Qsa.nil _ _,by simp,by simp,hb⟩
  | ok x=>
   rw[hR]at Gh
   obtain⟨lb,mb,v,ov,rv,rfl,Hc,_,_⟩:=Gh
   rw[gn]at Hc
   obtain⟨q1,q2⟩:=QLk hR
   exact⟨_,_,rfl,Hc,q1,q2,hb⟩))
 have Mz:=hid gR
 unfold Qae
 generalize QIc F main=R at *
 obtain⟨D,⟨p1,p2,p3⟩,er⟩:=R
 unfold QGb at K1 ⊢
 clear hF gS hT lay Mn gR
 go_enter Tryz.func19,Tryz.ntmps19
 go_upto_region 1 with fail
 generalize w.alloc (.cells #[.int .i64 0,.int .i64 0,.int .i64 0] 27)=w0 at *
 go_wp2_with fail
 refine(by exact K1.out:Calls _ _ _ _ _).mono ?_
 rintro e w1 ⟨x,v,rfl,Hc,yb,kT,Hf⟩
 have k1:Qaa (fun _=>False) w0 w1:=Qaa.of_fresh (gn ▸ Hf) _
 have mf:=eL.out.keeps k1 (fun e=>e)
 have GR:=mf.alloc (.cells #[.int .i64 p1,.int .i64 p2,.int .i64 p3] 27)
 have aY:=Qca.new w1 #[.int .i64 p1,.int .i64 p2,.int .i64 p3] 27
 have Hv:=Hc.new ((Below.refl w1.heap.size w1).alloc (Nat.le_refl _) (.cells #[.int .i64 p1,.int .i64 p2,.int .i64 p3] 27))
 have Ho:Below w.heap.size w (w1.alloc (.cells #[.int .i64 p1,.int .i64 p2,.int .i64 p3] 27)):=(Mz.out.trans (Hf.mono (by omega))).alloc (by have:=Hf.size;omega) _
 obtain⟨v1,v2,rfl⟩:=Hc.slice
 have Mj:=hid GR
 have JK:=hid aY
 have Jz:=hid Hv
 have GI:=hid Ho
 have Ks:=hid kT
 have hws1:=Hf.size
 have hsz2:(w1.alloc (.cells #[.int .i64 p1,.int .i64 p2,.int .i64 p3] 27)).heap.size=w1.heap.size+1:=by simp
 clear Hc Hf k1 mf GR aY Hv Ho kT
 go_upto_region 2 with fail
 generalize w1.alloc (.cells #[.int .i64 p1,.int .i64 p2,.int .i64 p3] 27)=w2 at *
 have vX:=hid (fun(wx:World) (hx:Qsa wx (w.heap.size+1) (.slice v1 D.length v2) D)=>Qil (w.heap.size+1) (.slice v1 D.length v2) D wx hx yb Ks.out)
 obtain⟨b0,b1,b2,g0,g1,g2,gl⟩:=three Mj.out
 obtain⟨q0,q1,q2,i0,i1,i2,il⟩:=three JK.out
 go_region_with (go_at_call 41;refine(vX.out _ (by exact Jz.out.new (Below.refl w2.heap.size w2).drew)).mono ?_;rintro e w7 ⟨rv,rfl,Hi,G7⟩;obtain⟨rva,rvc,tC⟩:=Hi.slice;subst tC;have GB:Below w2.heap.size w2 w7:=(Below.refl w2.heap.size w2).drew.trans G7;have kP:=Mj.out.keeps (Qaa.of_fresh GB (fun _=>False)) (fun e=>e);have kQ:=JK.out.keeps (Qaa.of_fresh GB (fun _=>False)) (fun e=>e);obtain⟨c0,c1,c2,h0,h1,h2,cl⟩:=three kP;obtain⟨d0,d1,d2,j0,j1,j2,dl⟩:=three kQ)
 all_goals
  have Hg:=((kP.set 0 (.int .i64 p1)).set 1 (.int .i64 p2)).set 2 (.int .i64 p3)
  obtain⟨r0,r1,r2,-⟩:=three (show Qca _ w.heap.size #[.int .i64 p1,.int .i64 p2,.int .i64 p3] 27 from Hg)
  have kq:Qaa (· = w.heap.size) w7 (((w7.setCell ⟨w.heap.size,0,none⟩ (.int .i64 p1)).setCell ⟨w.heap.size,1,none⟩ (.int .i64 p2)).setCell ⟨w.heap.size,2,none⟩ (.int .i64 p3)):=(((Qaa.refl (· = w.heap.size) w7).setCell (p:=⟨w.heap.size,0,none⟩) (.inr rfl) _).setCell (p:=⟨w.heap.size,1,none⟩) (.inr rfl) _).setCell (p:=⟨w.heap.size,2,none⟩) (.inr rfl) _
  have ni:=hid ((Hi.lower (b2:=w.heap.size) (by show w.heap.size≤w2.heap.size;omega)).side kq (fun b e=>by subst e;exact⟨_,kP⟩))
  have mA:=hid ((((GI.out.trans (GB.mono (by omega))).setCell (p:=⟨w.heap.size,0,none⟩) (Nat.le_refl _) (.int .i64 p1)).setCell (p:=⟨w.heap.size,1,none⟩) (Nat.le_refl _) (.int .i64 p2)).setCell (p:=⟨w.heap.size,2,none⟩) (Nat.le_refl _) (.int .i64 p3))
  clear Hg kq Hi G7 GB kP kQ
  go_wp2_with fail
  exact bodyPost_ret (v:=.tuple #[.slice rva D.length rvc,.agg #[.int .i64 p1,.int .i64 p2,.int .i64 p3],.int .i64 er]) (by simp[results,Tryz.results19,go_sem,r0,r1,r2]) rfl ⟨_,rfl,ni.out,mA.out⟩
def QCa(F:List Qoa):List Value:=F.flatMap fun f=>[.string f.name,.string f.text]
theorem QVe:(Tryz.prog.info? 46).map (fun i=>(i.zero,i.size,i.bytes))=some (some (.agg #[.string ⟨#[]⟩,.string ⟨#[]⟩]),2,32):=by kernel_rfl
theorem Qvc:∀(F:List Qoa) (i:Nat) (h:i<F.length),(QCa F)[i*2]? = some (.string F[i].name)∧(QCa F)[i*2+1]? = some (.string F[i].text)
 | f::F,0,_=>⟨rfl,rfl⟩
 | f::F,i+1,h=>by
  have:=Qvc F i (by simpa using h)
  rw[show(i+1)*2=i*2+2 from by omega]
  exact this
theorem Qqd{w:World}{base:Nat}{v:Value}{F:List Qoa}(h:w.ownsRow base 46 2 v F.length (QCa F)):QZa w v F:=by
 rcases id h.2 with⟨rfl,h0⟩|⟨g,cap,cur,rfl,hb,hh,hcap,hm,hs,ht⟩
 ·exact⟨none,0,by rw[h0],by omega,by omega,fun h1=>by omega⟩
 ·refine⟨_,cap,rfl,hcap,by unfold maxLen at hm;omega,fun h0=>⟨g,0,rfl,(h.lt g rfl).2,fun i hi=>?_⟩⟩
  obtain⟨a,b⟩:=Qvc F i hi
  rw[Nat.zero_add]
  exact⟨by rw[h.cellAt _ (by omega)];exact a,by rw[h.cellAt _ (by omega)];exact b⟩
theorem Qjd(F:List Qoa)(f:Qoa):QCa (F++[f])=QCa F++[.string f.name,.string f.text]:=by simp[QCa]
theorem QNh(F:List Qoa):∀u∈QCa F,u.oneCell'=true:=by
 intro u hu
 unfold QCa at hu
 obtain⟨c,_,hc⟩:=List.mem_flatMap.1 hu
 simp only[List.mem_cons,List.not_mem_nil,or_false]at hc
 rcases hc with rfl|rfl <;> rfl
theorem QZk{w:World}{base n:Nat}{v:Value}{F:List Qoa}(h:w.ownsRow base 46 2 v n (QCa F)):Src Tryz.prog 2 42 v n (QCa F) w:=QOg Tryz.underlying42 h (QNh F)
theorem QFn{w:World}{b:Nat}{cs:Array Value}{t:TypeId}(h:Qca w b cs t):∀(j:Nat) (u:Value),cs.toList[j]? = some u→w.cell? ((⟨b,0,none⟩:Addr).add j)=some u:=by
 intro j u hj
 have Kj:(⟨b,0,none⟩:Addr).add j=⟨b,j,none⟩:=by unfold Addr.add;split <;> simp_all
 rw[Kj,h.cell j]
 simpa using hj
section
variable{vF:Value}{nm tx:ByteArray}{p1 p2 p3 er:Int}{B:Nat}{F:List Qoa}{D:List FdT}{b0:Nat}{r2:Value}{b4:Nat}{r5 v:Value}{g:Nat}{w w':World}{l:Array Bool}{j:Nat}
end
noncomputable def QXc:Array Oper:=(Qfc (Tryz.f6.body.getD .skip) 14).getD #[]
theorem QWr:QJf .any QXc=true:=by kernel_rfl
theorem Qtg:QGf QXc=true:=by kernel_rfl
theorem Qyp:QXc.size=11:=by kernel_rfl
def QAd(fg fl fc:Nat)(nm:ByteArray)(b0:Nat)(r2:Value)(b4:Nat)(r5:Value)(j:Nat):Value→World→Prop:=match j with
 | 0=>fun u _=>u = .slice (some ⟨b0,0,none⟩) 0 0
 | 1=>fun u _=>u = .slice (some ⟨fg,0,none⟩) fl fc
 | 2=>fun u _=>u=r2
 | 3=>fun u _=>u = .slice (some ⟨fg,0,none⟩) fl fc
 | 4=>fun u _=>u = .pointer (some ⟨fg,0,none⟩)
 | 5=>fun u _=>u = .pointer (some ⟨fg,0,none⟩)
 | 6=>fun u _=>u = .string nm
 | 7=>fun u _=>u = .agg #[.string nm,.string ⟨#[]⟩]
 | 8=>fun u _=>u = .slice (some ⟨b4,0,none⟩) 1 1
 | 9=>fun u _=>u=r5
 | 10=>fun u _=>u=r5
 | _=>fun _ _=>True
structure QUg(B:Nat)(F:List Qoa)(nm:ByteArray)(b0:Nat)(r2:Value)(b4:Nat)(r5:Value)(l:Array Bool)(w:World):Prop where
 e0:l.getD 0 false=true→l.getD 2 false=false→w.ownsRow B 46 2 (.slice (some ⟨b0,0,none⟩) 0 0) 0 []
 e04:l.getD 0 false=true→l.getD 8 false=true→l.getD 2 false=false→b0≠b4
 e2:l.getD 2 false=true→l.getD 9 false=false→w.ownsRow B 46 2 r2 F.length (QCa F)
 e4:l.getD 8 false=true→l.getD 9 false=false→Qca w b4 #[.string nm,.string ⟨#[]⟩] 46
 e5:l.getD 9 false=true→w.ownsRow B 46 2 r5 (F.length+1) (QCa (F++[⟨nm,⟨#[]⟩⟩]))
section
variable{fg fl fc:Nat}{nm:ByteArray}{B:Nat}{F:List Qoa}{b0:Nat}{r2:Value}{b4:Nat}{r5:Value}{w w':World}{l:Array Bool}{j:Nat}
theorem QAd.world{u:Value}(h:QAd fg fl fc nm b0 r2 b4 r5 j u w):QAd fg fl fc nm b0 r2 b4 r5 j u w':=by
 unfold QAd at *
 split at h
 all_goals exact h
theorem QAd.gh_b0{x:Nat}{u:Value}(h:QAd fg fl fc nm b0 r2 b4 r5 j u w)(n0:j≠0):QAd fg fl fc nm (x) r2 b4 r5 j u w:=by
 unfold QAd at *
 split at h
 all_goals first
  | exact h
  | exact absurd rfl n0
theorem QAd.gh_r2{x:Value}{u:Value}(h:QAd fg fl fc nm b0 r2 b4 r5 j u w)(n0:j≠2):QAd fg fl fc nm b0 (x) b4 r5 j u w:=by
 unfold QAd at *
 split at h
 all_goals first
  | exact h
  | exact absurd rfl n0
theorem QAd.gh_b4{x:Nat}{u:Value}(h:QAd fg fl fc nm b0 r2 b4 r5 j u w)(n0:j≠8):QAd fg fl fc nm b0 r2 (x) r5 j u w:=by
 unfold QAd at *
 split at h
 all_goals first
  | exact h
  | exact absurd rfl n0
theorem QAd.gh_r5{x:Value}{u:Value}(h:QAd fg fl fc nm b0 r2 b4 r5 j u w)(n0:j≠9)(n1:j≠10):QAd fg fl fc nm b0 r2 b4 (x) j u w:=by
 unfold QAd at *
 split at h
 all_goals first
  | exact h
  | exact absurd rfl n0
  | exact absurd rfl n1
theorem QUg.put(h:QUg B F nm b0 r2 b4 r5 l w)(n0:j≠0)(n2:j≠2)(n8:j≠8)(n9:j≠9):QUg B F nm b0 r2 b4 r5 (l.setIfInBounds j true) w:=by
 constructor
 ·rw[Qea n0,Qea n2];exact h.e0
 ·rw[Qea n0,Qea n8,Qea n2];exact h.e04
 ·rw[Qea n2,Qea n9];exact h.e2
 ·rw[Qea n8,Qea n9];exact h.e4
 ·rw[Qea n9];exact h.e5
theorem QUg.new(h:QUg B F nm b0 r2 b4 r5 l w)(k:Below w.heap.size w w'):QUg B F nm b0 r2 b4 r5 l w':=by
 have kf:Qaa (fun _=>False) w w':=Qaa.of_fresh k _
 exact⟨fun a b=>Qba (h.e0 a b) kf (fun _ _ e=>e),h.e04,fun a b=>Qba (h.e2 a b) kf (fun _ _ e=>e),fun a b=>(h.e4 a b).keeps kf (fun e=>e),fun a=>Qba (h.e5 a) kf (fun _ _ e=>e)⟩
theorem QUg.at0(h:QUg B F nm b0 r2 b4 r5 l w)(k:Below w.heap.size w (w.alloc (.cells #[] 46)))(hl:l.size=11)(hB:B≤w.heap.size)(u9:l.getD 9 false=false):QUg B F nm (w.heap.size) r2 b4 r5 (l.setIfInBounds 0 true) (w.alloc (.cells #[] 46)):=by
 have h2:=h.new k
 constructor
 ·intro _ _;exact Qne rfl hB
 ·intro _ a c e
  rw[Qea (by decide)]at a c
  have:=(h.e4 a u9).lt
  omega
 ·rw[Qea (show 0≠2 by decide),Qea (show 0≠9 by decide)];exact h2.e2
 ·rw[Qea (show 0≠8 by decide),Qea (show 0≠9 by decide)];exact h2.e4
 ·rw[Qea (show 0≠9 by decide)];exact h2.e5
theorem QUg.at2{x:Value}(h:QUg B F nm b0 r2 b4 r5 l w)(k:Qaa (fun i=>i=b0) w w')(hx:w'.ownsRow B 46 2 x F.length (QCa F))(hr:w.ownsRow B 46 2 (.slice (some ⟨b0,0,none⟩) 0 0) 0 [])(y0:l.getD 0 false=true)(u9:l.getD 9 false=false)(hl:l.size=11)(KW:l.getD 2 false=false):QUg B F nm b0 (x) b4 r5 (l.setIfInBounds 2 true) w':=by
 constructor
 ·intro _ a;rw[Qlb (by omega)]at a;cases a
 ·intro _ _ a;rw[Qlb (by omega)]at a;cases a
 ·intro _ _;exact hx
 ·rw[Qea (show 2≠8 by decide),Qea (show 2≠9 by decide)];exact fun a b=>(h.e4 a b).keeps k (fun e=>h.e04 y0 a KW e.symm)
 ·rw[Qea (show 2≠9 by decide)];intro a;rw[u9]at a;cases a
theorem QUg.at4(h:QUg B F nm b0 r2 b4 r5 l w)(k:Below w.heap.size w (w.alloc (.cells #[.string nm,.string ⟨#[]⟩] 46)))(hl:l.size=11)(u9:l.getD 9 false=false):QUg B F nm b0 r2 (w.heap.size) r5 (l.setIfInBounds 8 true) (w.alloc (.cells #[.string nm,.string ⟨#[]⟩] 46)):=by
 have h2:=h.new k
 constructor
 ·rw[Qea (show 8≠0 by decide),Qea (show 8≠2 by decide)];exact h2.e0
 ·rw[Qea (show 8≠0 by decide),Qea (show 8≠2 by decide)];intro a _ c e
  have:=((h.e0 a c).lt b0 rfl).2
  omega
 ·rw[Qea (show 8≠2 by decide),Qea (show 8≠9 by decide)];exact h2.e2
 ·intro _ _;exact Qca.new w _ _
 ·rw[Qea (show 8≠9 by decide)];exact h2.e5
theorem QUg.at5{x:Value}(h:QUg B F nm b0 r2 b4 r5 l w)(hx:w'.ownsRow B 46 2 x (F.length+1) (QCa (F++[⟨nm,⟨#[]⟩⟩])))(y2:l.getD 2 false=true)(hl:l.size=11):QUg B F nm b0 r2 b4 (x) (l.setIfInBounds 9 true) w':=by
 constructor
 ·rw[Qea (show 9≠0 by decide),Qea (show 9≠2 by decide)];intro _ a;rw[y2]at a;cases a
 ·rw[Qea (show 9≠0 by decide),Qea (show 9≠8 by decide),Qea (show 9≠2 by decide)];intro _ _ a;rw[y2]at a;cases a
 ·intro _ a;rw[Qlb (by omega)]at a;cases a
 ·intro _ a;rw[Qlb (by omega)]at a;cases a
 ·intro _;exact hx
end
theorem Qug{n j:Nat}:(Array.replicate n false).getD j false=false:=by
 rw[Array.getD_eq_getD_getElem?]
 by_cases h:j<n
 ·rw[Array.getElem?_replicate,if_pos h];rfl
 ·rw[Array.getElem?_replicate,if_neg h];rfl
set_option maxRecDepth 100000 in
theorem QOi{Q:Exit→Act→World→Prop}(fg fl fc:Nat)(nm:ByteArray)(F:List Qoa)(W w:World)(A:Act)(kh:(0:Int)<(fl:Int))(gn:A.tmps.size=149)(hF:F.length≤1000)
 (Hc:W.ownsRow 0 46 2 (.slice (some ⟨fg,0,none⟩) fl fc) F.length (QCa F)) (bt:fg<W.heap.size) (Ko:W.cell? ⟨fg,0,none⟩=some (.string nm))
 (a10:A.tmps.getD 10 undef = .slice (some ⟨fg,0,none⟩) fl fc) (hS0:Below W.heap.size W w)
 (hQ:∀c w' r5,Q1d QXc A c→Below W.heap.size W w'→c.tmps.getD 13 undef=r5→w'.ownsRow W.heap.size 46 2 r5 (F.length+1) (QCa (F++[⟨nm,⟨#[]⟩⟩]))→Q .normal c w') :
 wpAny Tryz.prog .any QXc Q QXc.size (Array.replicate QXc.size false) A w:=by
 refine Qzd (fun l c wx=>∃b0 r2 b4 r5,QPf QXc A (QAd fg fl fc nm b0 r2 b4 r5) (fun wx=>Below W.heap.size W wx) l c wx∧QUg W.heap.size F nm b0 r2 b4 r5 l wx) QWr ?gj ?KS _ _ _ _ (by simp) (by simp)
  ⟨0,.slice none 0 0,0,.slice none 0 0,QPf.start hS0,⟨fun h=>by rw[Qug]at h;(cases h),fun h=>by rw[Qug]at h;(cases h),fun h=>by rw[Qug]at h;(cases h),fun h=>by rw[Qug]at h;(cases h),fun h=>by rw[Qug]at h;(cases h)⟩⟩
 case gj=>
  rintro l c wx ⟨b0,r2,b4,r5,hI,hE⟩ hl
  have hh:∀k,k<11→l.getD k false=true:=fun k hk=>hl k (by rw[Qyp];exact hk)
  exact hQ c wx r5 hI.1 hI.2.1 (hI.fact 10 13 rfl (hh 10 (by decide))) (hE.e5 (hh 9 (by decide)))
 intro l c wx cT i' op ho hl Ha K' hK'
 obtain⟨b0,r2,b4,r5,hI,hE⟩:=cT
 have ak:l.size=11:=by rw[hI.2.2.1.1,Qyp]
 have hi':i'<11:=by rw[←Qyp];exact(Array.getElem?_eq_some_iff.1 ho).1
 have gG:=ho
 simp only[QXc,Qfc,Tryz.f6,Option.getD_some,reduceIte,Nat.reduceEqDiff]at ho
 have hS:=hI.2.1
 have hfl2:0<fl:=by omega
 have s10:=(hI.slot 10 (by kernel_rfl)).trans a10
 simp only[Array.getD_eq_getD_getElem?]at s10
 have dh:i'=0∨i'=1∨i'=2∨i'=3∨i'=4∨i'=5∨i'=6∨i'=7∨i'=8∨i'=9∨i'=10:=by omega
 clear hi'
 rcases dh with rfl|rfl|rfl|rfl|rfl|rfl|rfl|rfl|rfl|rfl|rfl
 all_goals cases ho
 ·go_simp
  have Ho:Below wx.heap.size wx (wx.alloc (.cells #[] 46)):=(Below.refl _ _).alloc (Nat.le_refl _) _
  have Ka:=hS.trans (Ho.mono hS.size)
  have hJ:=hI.other (F':=QAd fg fl fc nm (wx.heap.size) r2 b4 r5) (fun j hj u hF=>QAd.gh_b0 hF (QHc hj hl))
  exact hK' _ _ ⟨wx.heap.size,r2,b4,r5,hJ.step Qtg 0 66 rfl (by rw[gn];decide) _ _ gG Ha Ka (fun _ _ h=>QAd.world h) rfl,QUg.at0 hE Ho ak hS.size (hI.2.2.1.2.no_far 11 hl (by kernel_rfl:QXd QXc 11 9 0=true))⟩
 ·go_simp
  exact hK' _ _ ⟨b0,r2,b4,r5,hI.step Qtg 1 67 rfl (by rw[gn];decide) _ _ gG Ha hS (fun _ _ h=>QAd.world h) rfl,hE.put (by decide) (by decide) (by decide) (by decide)⟩
 ·have e0:c.tmps.getD 66 undef = .slice (some ⟨b0,0,none⟩) 0 0:=hI.fact 0 66 rfl (QQa Ha 0 (by kernel_rfl))
  simp only[Array.getD_eq_getD_getElem?]at e0
  have e1:c.tmps.getD 67 undef = .slice (some ⟨fg,0,none⟩) fl fc:=hI.fact 1 67 rfl (QQa Ha 1 (by kernel_rfl))
  simp only[Array.getD_eq_getD_getElem?]at e1
  obtain⟨i0,mh,GE,GF,GA⟩:=info_parts QVe
  have hr:=hE.e0 (QQa Ha 0 (by kernel_rfl)) hl
  have My:=(QZk (Qba Hc (Qaa.of_fresh hS (fun _=>False)) (fun _ _ e=>e)))
  refine QQb _ rfl _ _ 42 42 rfl W.heap.size 46 i0 _ 2 32 Tryz.underlying42 mh GE GF GA rfl (.slice (some ⟨b0,0,none⟩) 0 0) 0 [] (by simpa[Act.eval]using e0) hr (.slice (some ⟨fg,0,none⟩) fl fc) (by simpa[Act.eval]using e1) F.length (QCa F) My (by unfold maxLen;omega) (by omega) hS.size ?_
  intro v' w2 Hi Hb Gg
  rw[Nat.zero_add,List.nil_append]at Hi
  have Hp:Qaa (fun i=>i=b0) wx w2:=Qaa.of_grown Hb (fun i e=>(Option.some.inj (show some b0=some i from e)).symm)
  have Ka:=hS.trans (Hp.below hS.size (fun i hi e=>by have e2:i=b0:=e;have:=(hr.lt b0 rfl).1;omega))
  have hJ:=hI.other (F':=QAd fg fl fc nm b0 (v') b4 r5) (fun j hj u hF=>QAd.gh_r2 hF (QHc hj hl))
  have u9:=(hI.2.2.1.2.no_far 11 hl (by kernel_rfl:QXd QXc 11 9 2=true))
  exact hK' _ _ ⟨b0,v',b4,r5,hJ.step Qtg 2 68 rfl (by rw[gn];decide) _ _ gG Ha Ka (fun _ _ h=>QAd.world h) rfl,hE.at2 Hp Hi hr (QQa Ha 0 (by kernel_rfl)) u9 ak hl⟩
 ·go_simp
  exact hK' _ _ ⟨b0,r2,b4,r5,hI.step Qtg 3 69 rfl (by rw[gn];decide) _ _ gG Ha hS (fun _ _ h=>QAd.world h) rfl,hE.put (by decide) (by decide) (by decide) (by decide)⟩
 ·have e3:c.tmps.getD 69 undef = .slice (some ⟨fg,0,none⟩) fl fc:=hI.fact 3 69 rfl (QQa Ha 3 (by kernel_rfl))
  simp only[Array.getD_eq_getD_getElem?]at e3
  go_simp
  exact hK' _ _ ⟨b0,r2,b4,r5,hI.step Qtg 4 70 rfl (by rw[gn];decide) _ _ gG Ha hS (fun _ _ h=>QAd.world h) rfl,hE.put (by decide) (by decide) (by decide) (by decide)⟩
 ·have e4:c.tmps.getD 70 undef = .pointer (some ⟨fg,0,none⟩):=hI.fact 4 70 rfl (QQa Ha 4 (by kernel_rfl))
  simp only[Array.getD_eq_getD_getElem?]at e4
  go_simp
  exact hK' _ _ ⟨b0,r2,b4,r5,hI.step Qtg 5 71 rfl (by rw[gn];decide) _ _ gG Ha hS (fun _ _ h=>QAd.world h) rfl,hE.put (by decide) (by decide) (by decide) (by decide)⟩
 ·have e5:c.tmps.getD 71 undef = .pointer (some ⟨fg,0,none⟩):=hI.fact 5 71 rfl (QQa Ha 5 (by kernel_rfl))
  simp only[Array.getD_eq_getD_getElem?]at e5
  have o0:=(hS.cell (p:=⟨fg,0,none⟩) bt).trans Ko
  have ol:=Nat.lt_of_lt_of_le bt hS.size
  go_simp
  exact hK' _ _ ⟨b0,r2,b4,r5,hI.step Qtg 6 72 rfl (by rw[gn];decide) _ _ gG Ha hS (fun _ _ h=>QAd.world h) rfl,hE.put (by decide) (by decide) (by decide) (by decide)⟩
 ·have e6:c.tmps.getD 72 undef = .string nm:=hI.fact 6 72 rfl (QQa Ha 6 (by kernel_rfl))
  simp only[Array.getD_eq_getD_getElem?]at e6
  go_simp
  exact hK' _ _ ⟨b0,r2,b4,r5,hI.step Qtg 7 73 rfl (by rw[gn];decide) _ _ gG Ha hS (fun _ _ h=>QAd.world h) rfl,hE.put (by decide) (by decide) (by decide) (by decide)⟩
 ·have e7:c.tmps.getD 73 undef = .agg #[.string nm,.string ⟨#[]⟩]:=hI.fact 7 73 rfl (QQa Ha 7 (by kernel_rfl))
  simp only[Array.getD_eq_getD_getElem?]at e7
  go_simp
  have Ho:Below wx.heap.size wx (wx.alloc (.cells #[.string nm,.string ⟨#[]⟩] 46)):=(Below.refl _ _).alloc (Nat.le_refl _) _
  have Ka:=hS.trans (Ho.mono hS.size)
  have hJ:=hI.other (F':=QAd fg fl fc nm b0 r2 (wx.heap.size) r5) (fun j hj u hF=>QAd.gh_b4 hF (QHc hj hl))
  have u9:=(hI.2.2.1.2.no_far 11 hl (by kernel_rfl:QXd QXc 11 9 8=true))
  exact hK' _ _ ⟨b0,r2,wx.heap.size,r5,hJ.step Qtg 8 74 rfl (by rw[gn];decide) _ _ gG Ha Ka (fun _ _ h=>QAd.world h) rfl,QUg.at4 hE Ho ak u9⟩
 ·have e2:c.tmps.getD 68 undef=r2:=hI.fact 2 68 rfl (QQa Ha 2 (by kernel_rfl))
  simp only[Array.getD_eq_getD_getElem?]at e2
  have e8:c.tmps.getD 74 undef = .slice (some ⟨b4,0,none⟩) 1 1:=hI.fact 8 74 rfl (QQa Ha 8 (by kernel_rfl))
  simp only[Array.getD_eq_getD_getElem?]at e8
  obtain⟨i0,mh,GE,GF,GA⟩:=info_parts QVe
  have hr:=hE.e2 (QQa Ha 2 (by kernel_rfl)) hl
  have hh:=hE.e4 (QQa Ha 8 (by kernel_rfl)) hl
  have My:Src Tryz.prog 2 42 (.slice (some ⟨b4,0,none⟩) 1 1) 1 [.string nm,.string ⟨#[]⟩] wx:=Src.ofSlice _ Tryz.underlying42 _ 1 1 _ rfl (QFn hh) (fun u hu=>by simp at hu;rcases hu with rfl|rfl <;> rfl)
  refine QQb _ rfl _ _ 42 42 rfl W.heap.size 46 i0 _ 2 32 Tryz.underlying42 mh GE GF GA rfl r2 F.length (QCa F) (by simpa[Act.eval]using e2) hr (.slice (some ⟨b4,0,none⟩) 1 1) (by simpa[Act.eval]using e8) 1 [.string nm,.string ⟨#[]⟩] My (by unfold maxLen;omega) (by omega) hS.size ?_
  intro v' w2 Hi Hb Gg
  have Hp:Qaa (fun i=>r2.ownBlock=some i) wx w2:=Qaa.of_grown Hb (fun i e=>e)
  have Ka:=hS.trans (Hp.below hS.size (fun i hi e=>by have:=(hr.lt i e).1;omega))
  have u10x:=(hI.2.2.1.2.no_far 11 hl (by kernel_rfl:QXd QXc 11 10 9=true))
  have u10:=(hI.2.2.1.2.no_far 11 hl (by kernel_rfl:QXd QXc 11 10 9=true))
  have hJ:=hI.other (F':=QAd fg fl fc nm b0 r2 b4 (v')) (fun j hj u hF=>QAd.gh_r5 hF (QHc hj hl) (QHc hj u10))
  exact hK' _ _ ⟨b0,r2,b4,v',hJ.step Qtg 9 75 rfl (by rw[gn];decide) _ _ gG Ha Ka (fun _ _ h=>QAd.world h) rfl,hE.at5 (by rw[Qjd];exact Hi) (QQa Ha 2 (by kernel_rfl)) ak⟩
 ·have e9:c.tmps.getD 75 undef=r5:=hI.fact 9 75 rfl (QQa Ha 9 (by kernel_rfl))
  simp only[Array.getD_eq_getD_getElem?]at e9
  go_simp
  exact hK' _ _ ⟨b0,r2,b4,r5,hI.step Qtg 10 13 rfl (by rw[gn];decide) _ _ gG Ha hS (fun _ _ h=>QAd.world h) rfl,hE.put (by decide) (by decide) (by decide) (by decide)⟩
theorem QSn{F:List Qoa}{m:ByteArray}{p:Qag}{er:Int}(h:QSb F m = .error (p,er)):er≠0:=by
 unfold QSb at h
 split at h
 ·cases h;decide
 ·split at h
  ·cases h;decide
  ·split at h
   ·cases h;decide
   ·exact QMj F _ _ _ _ _ _ _ _ h
def Q0d(F:List Qoa)(main:ByteArray)(w:World)(e:Ending)(w':World):Prop:=
 ∃v,e = .returned (.tuple #[v,.int .i64 (QQd F main).2])∧w'.ownsRow w.heap.size 9 1 v (QQd F main).1.length (QDb (QQd F main).1)∧Below w.heap.size w w'
set_option maxRecDepth 100000 in
theorem Qjm(fv:Value)(F:List Qoa)(main:ByteArray)(w:World)(hF:QZa w fv F)(gS:0<F.length→∀g,fv.ownBlock=some g→g<w.heap.size)(hl:F.length≤1000)(hT:∀f∈F,f.text.size≤maxLen∧f.name.size≤maxLen)(lay:QFf w)(iH:0<w.heap.size) :
 Calls Tryz.prog 23 #[fv,.string main] w (Q0d F main w):=by
 have Mn:=QJi fv F main w hF gS hl hT lay iH
 have Hn:∀p er,QSb F main = .error (p,er)→er≠0:=fun p er h=>QSn h
 unfold Q0d QQd
 obtain⟨fa,fc,rfl,_⟩:=hF
 generalize QSb F main=R at *
 have K1:=hid Mn
 unfold QQl at K1
 have MB:=hid Hn
 clear Mn gS hT lay Hn
 cases R with
 | error x=>
  obtain⟨⟨p1,p2,p3⟩,er⟩:=x
  have li:(er != 0)=true:=by rw[bne_iff_ne];exact MB.out _ _ rfl
  unfold QGb at K1
  go_enter Tryz.func23,Tryz.ntmps23
  go_wp2_with fail
  refine(by exact K1.out:Calls _ _ _ _ _).mono ?_
  rintro e w1 ⟨Hf,x,rfl⟩
  have jo:=hid (Hf.alloc Hf.size (.cells #[.int .i64 p1,.int .i64 p2,.int .i64 p3] 27))
  clear Hf
  go_wp2_with fail
  go_ret2
  exact⟨_,rfl,World.ownsRow_nil _ _ _ _,jo.out⟩
 | ok x=>
  obtain⟨ord,giv,out⟩:=x
  unfold QGb at K1
  go_enter Tryz.func23,Tryz.ntmps23
  go_wp2_with fail
  refine(by exact K1.out:Calls _ _ _ _ _).mono ?_
  rintro e w1 ⟨Hf,lb,mb,v,ov,rv,rfl,Hc,hH,ip⟩
  have jo:=hid (Hf.alloc Hf.size (.cells #[.int .i64 0,.int .i64 0,.int .i64 0] 27))
  obtain⟨v1,v2,rfl⟩:=Hc.slice
  have Gv:=hH.alloc (.cells #[.int .i64 0,.int .i64 0,.int .i64 0] 27)
  have c3:(w1.alloc (.cells #[.int .i64 0,.int .i64 0,.int .i64 0] 27)).cell? ⟨lb,3,none⟩=some rv:=Gv.cell 3
  have cl:=Gv.lt
  have HO:=hid (World.ownsRow.alloc ip (.cells #[.int .i64 0,.int .i64 0,.int .i64 0] 27))
  clear Hf Hc hH Gv ip
  go_wp2_with fail
  go_ret2
  exact⟨_,rfl,HO.out,jo.out⟩
theorem below_drewN{B:Nat}{w w':World}(h:Below B w w')(n:Nat):Below B w (w'.drewN n):=⟨h.os,h.tape,h.output,h.size,h.block⟩
theorem QKj(a1 a2:Option Addr)(c1 c2:Nat)(l:List ByteArray)(w:World)(hl:l.length≤1000)(hr:∀(i:Nat) (hi:i<l.length),∃g g',a1=some ⟨g,0,none⟩∧a2=some ⟨g',0,none⟩∧g<w.heap.size∧g'<w.heap.size∧w.cell? ⟨g,i,none⟩=some (.string l[i])∧w.cell? ⟨g',i,none⟩=some (.string l[i])) :
 Calls Tryz.prog 25 #[.slice a1 l.length c1,.slice a2 l.length c2] w fun e w'=>e = .returned (.bool true)∧Below w.heap.size w w':=by
 have HR:=hid hr
 clear hr
 go_enter Tryz.func25,Tryz.ntmps25
 go_wp2_with fail
 go_loopg [13] (l.length) (fun f x wr=>∃k:Nat,x = .int .i64 k∧k≤l.length∧l.length≤k+f∧Below w.heap.size w wr)
 case atStart=>exact⟨0,rfl,by omega,by omega,Below.refl _ _⟩
 case round=>
  obtain⟨k,rfl,hk,hf,hb⟩:=hrel
  have GM:=hb.size
  by_cases Hh:k<l.length
  ·obtain⟨g,g',rfl,rfl,hg,hg',c0,c0'⟩:=HR.out k Hh
   have d0:=(hb.cell (p:=⟨g,k,none⟩) hg).trans c0
   have d0':=(hb.cell (p:=⟨g',k,none⟩) hg').trans c0'
   have cx:g<wr.heap.size:=by omega
   have hgr':g'<wr.heap.size:=by omega
   have lp:(k:Int)<(l.length:Int):=by omega
   have HB:=hid hb
   generalize l[k]=nm at *
   have Ko:(nm.toList == nm.toList)=true:=by simp
   clear c0 c0' hb
   go_wp2_with fail
   go_quiet (fail)
   go_wp2_with fail
   go_roundg (gk-1)
   case measure=>omega
   case rel=>exact⟨k+1,by go_num,by omega,by omega,below_drewN HB.out _⟩
  ·have lp:¬(k:Int)<(l.length:Int):=by omega
   go_wp2_with fail
   go_ret
   exact⟨rfl,hb⟩
theorem Qkl(b1 b2:Nat)(l:List ByteArray)(v1 v2:Value)(w:World)(h1:w.ownsRow b1 9 1 v1 l.length (QDb l))(h2:w.ownsRow b2 9 1 v2 l.length (QDb l))(hl:l.length≤1000) :
 Calls Tryz.prog 25 #[v1,v2] w fun e w'=>e = .returned (.bool true)∧Below w.heap.size w w':=by
 obtain⟨a1,c1,rfl⟩:=Qia h1
 obtain⟨a2,c2,rfl⟩:=Qia h2
 refine QKj a1 a2 c1 c2 l w hl (fun i hi=>?_)
 obtain⟨g,cap,e1,hg,_,hc⟩:=QVb h1 (by omega)
 obtain⟨g',cap',e2,hg',_,hc'⟩:=QVb h2 (by omega)
 cases e1
 cases e2
 have h9:=hc i (by omega)
 have h9':=hc' i (by omega)
 refine⟨g,g',rfl,rfl,hg,hg',?_,?_⟩
 ·rw[h9];unfold QDb;simp[hi]
 ·rw[h9'];unfold QDb;simp[hi]
def r5C(fv ov nv:Value)(fr te:List Int)(dn:List Bool)(p:Qag)(e:Int):List Value:=
 fv::ov::nv::(fr.map (fun n=>Value.int .i64 n)++(te.map (fun n=>Value.int .i64 n)++(dn.map Value.bool++[.int .i64 p.1,.int .i64 p.2.1,.int .i64 p.2.2,.int .i64 e])))
section
variable{fv ov nv:Value}{fr te:List Int}{dn:List Bool}{p:Qag}{e:Int}
theorem QQm(hf:fr.length=8){k:Nat}(hk:k<8):(r5C fv ov nv fr te dn p e)[3+k]? = some (.int .i64 (fr[k]'(by omega))):=by
 unfold r5C
 rw[show 3+k=k+1+1+1 from by omega]
 simp only[List.getElem?_cons_succ]
 rw[List.getElem?_append_left (by simp;omega),List.getElem?_map,List.getElem?_eq_getElem (by omega)]
 rfl
theorem Q7q(hf:fr.length=8)(ht:te.length=8){k:Nat}(hk:k<8):(r5C fv ov nv fr te dn p e)[11+k]? = some (.int .i64 (te[k]'(by omega))):=by
 unfold r5C
 rw[show 11+k=(8+k)+1+1+1 from by omega]
 simp only[List.getElem?_cons_succ]
 rw[List.getElem?_append_right (by simp;omega),List.getElem?_append_left (by simp;omega),List.getElem?_map]
 simp only[List.length_map,hf,Nat.add_sub_cancel_left]
 rw[List.getElem?_eq_getElem (by omega)]
 rfl
theorem Q3j(hf:fr.length=8)(ht:te.length=8)(hd:dn.length=8){k:Nat}(hk:k<8):(r5C fv ov nv fr te dn p e)[19+k]? = some (.bool (dn[k]'(by omega))):=by
 unfold r5C
 rw[show 19+k=(16+k)+1+1+1 from by omega]
 simp only[List.getElem?_cons_succ]
 rw[List.getElem?_append_right (by simp;omega),List.getElem?_append_right (by simp;omega),List.getElem?_append_left (by simp;omega),List.getElem?_map]
 simp only[List.length_map,hf,ht]
 rw[show 16+k-8-8=k from by omega,List.getElem?_eq_getElem (by omega)]
 rfl
theorem QJe(hf:fr.length=8)(ht:te.length=8)(hd:dn.length=8)(k:Nat):(r5C fv ov nv fr te dn p e)[27+k]? = ([.int .i64 p.1,.int .i64 p.2.1,.int .i64 p.2.2,.int .i64 e]:List Value)[k]?:=by
 unfold r5C
 rw[show 27+k=(24+k)+1+1+1 from by omega]
 simp only[List.getElem?_cons_succ]
 rw[List.getElem?_append_right (by simp;omega),List.getElem?_append_right (by simp;omega),List.getElem?_append_right (by simp;omega)]
 simp only[List.length_map,hf,ht,hd]
 rw[show 24+k-8-8-8=k from by omega]
theorem Q5q(hf:fr.length=8)(ht:te.length=8)(hd:dn.length=8):(r5C fv ov nv fr te dn p e).length=31:=by
 unfold r5C;simp[hf,ht,hd]
theorem Q7j(hf:fr.length=8){k:Nat}(hk:k<8)(a:Int):(r5C fv ov nv fr te dn p e).set (3+k) (.int .i64 a)=r5C fv ov nv (fr.set k a) te dn p e:=by
 unfold r5C
 rw[show 3+k=k+1+1+1 from by omega]
 simp only[List.set_cons_succ]
 rw[List.set_append_left _ _ (by simp;omega),List.map_set]
theorem QSm(hf:fr.length=8)(ht:te.length=8){k:Nat}(hk:k<8)(a:Int):(r5C fv ov nv fr te dn p e).set (11+k) (.int .i64 a)=r5C fv ov nv fr (te.set k a) dn p e:=by
 unfold r5C
 rw[show 11+k=(8+k)+1+1+1 from by omega]
 simp only[List.set_cons_succ]
 rw[List.set_append_right _ _ (by simp;omega),List.set_append_left _ _ (by simp;omega),List.map_set]
 simp only[List.length_map,hf,Nat.add_sub_cancel_left]
theorem Q6j(hf:fr.length=8)(ht:te.length=8)(hd:dn.length=8){k:Nat}(hk:k<8)(a:Bool):(r5C fv ov nv fr te dn p e).set (19+k) (.bool a)=r5C fv ov nv fr te (dn.set k a) p e:=by
 unfold r5C
 rw[show 19+k=(16+k)+1+1+1 from by omega]
 simp only[List.set_cons_succ]
 rw[List.set_append_right _ _ (by simp;omega),List.set_append_right _ _ (by simp;omega),List.set_append_left _ _ (by simp;omega),List.map_set]
 simp only[List.length_map,hf,ht]
 rw[show 16+k-8-8=k from by omega]
theorem QKd(hf:fr.length=8)(ht:te.length=8)(hd:dn.length=8)(q:Qag)(c:Int):((((r5C fv ov nv fr te dn p e).set 27 (.int .i64 q.1)).set 28 (.int .i64 q.2.1)).set 29 (.int .i64 q.2.2)).set 30 (.int .i64 c)=r5C fv ov nv fr te dn q c:=by
 match fr,hf with
 | [_,_,_,_,_,_,_,_],_=>
  match te,ht with
  | [_,_,_,_,_,_,_,_],_=>
   match dn,hd with
   | [_,_,_,_,_,_,_,_],_=>rfl
end
structure Q4c(w:World)(lb base:Nat)(fv:Value)(F:List Qoa)(ord:List ByteArray)(giv:QBb)(out:List FdT)(ov nv:Value)(fr te:List Int)(dn:List Bool):Prop where
 holds:Qca w lb (r5C fv ov nv fr te dn (0,0,0) 0).toArray 91
 fl:fr.length=8
 tl:te.length=8
 dl:dn.length=8
 files:QZa w fv F
 flow:∀g,fv.ownBlock=some g→g<base
 names:w.ownsRow base 9 1 nv ord.length (QDb ord)
 rows:Qsa w base ov out
 giv:∀k (h1:k<fr.length) (h2:k<te.length) (h3:k<dn.length),(Qkd giv k=none∧dn[k]=false)∨∃(l:List FdT) (a b:Nat),Qkd giv k=some l∧dn[k]=true∧fr[k]=(a:Int)∧te[k]=(b:Int)∧a≤b∧b≤out.length∧l=(out.drop a).take (b-a)
 len:out.length≤6000
 lbb:base≤lb
 size:base≤w.heap.size
def Qun(fv ov nv:Value):Prop:=fv.oneCell'=true∧ov.oneCell'=true∧nv.oneCell'=true
theorem Q4c.one{w:World}{lb base:Nat}{fv ov nv:Value}{F:List Qoa}{ord:List ByteArray}{giv:QBb}{out:List FdT}{fr te:List Int}{dn:List Bool}(h:Q4c w lb base fv F ord giv out ov nv fr te dn):Qun fv ov nv:=by
 obtain⟨_,_,rfl,_⟩:=h.files
 obtain⟨_,_,rfl⟩:=h.rows.slice
 obtain⟨_,_,rfl⟩:=Qia h.names
 exact⟨rfl,rfl,rfl⟩
def Qtj(w:World)(lb:Nat)(p:Qag)(er:Int):Prop:=er≠0∧∃fv ov nv fr te dn,List.length fr=8∧List.length te=8∧List.length dn=8∧Qca w lb (r5C fv ov nv fr te dn p er).toArray 91∧Qun fv ov nv
def R5S(lb:Nat)(ov nv:Value)(i:Nat):Prop:=i=lb∨ov.ownBlock=some i∨nv.ownBlock=some i
section
variable{w w':World}{lb base:Nat}{fv ov nv:Value}{F:List Qoa}{ord:List ByteArray}{giv:QBb}{out:List FdT}{fr te:List Int}{dn:List Bool}{p:Qag}{er:Int}
theorem Q4c.typed(h:Q4c w lb base fv F ord giv out ov nv fr te dn){i:Nat}(hi:R5S lb ov nv i){cs:Array Value}{t:TypeId}(hc:Qca w i cs t):t=91∨t=34∨t=9:=by
 rcases hi with rfl|e|e
 ·have:=h.holds.symm.trans hc
  injection this with this;injection this with _ this;exact .inl this.symm
 ·obtain⟨_,_,hr,_⟩:=h.rows
  obtain⟨_,_,cur,hb⟩:=Qpa hr e
  have:=hb.symm.trans hc
  injection this with this;injection this with _ this;exact .inr (.inl this.symm)
 ·obtain⟨_,_,cur,hb⟩:=Qpa h.names e
  have:=hb.symm.trans hc
  injection this with this;injection this with _ this;exact .inr (.inr this.symm)
theorem Q4c.low(h:Q4c w lb base fv F ord giv out ov nv fr te dn){i:Nat}(hi:R5S lb ov nv i):base≤i:=by
 rcases hi with rfl|e|e
 ·exact h.lbb
 ·obtain⟨_,_,hr,_⟩:=h.rows
  exact(Qpa hr e).2.1
 ·exact(Qpa h.names e).2.1
theorem Q4c.new(h:Q4c w lb base fv F ord giv out ov nv fr te dn)(k:Below w.heap.size w w'):Q4c w' lb base fv F ord giv out ov nv fr te dn:=by
 have kf:Qaa (fun _=>False) w w':=Qaa.of_fresh k _
 exact⟨h.holds.keeps kf (fun e=>e),h.fl,h.tl,h.dl,h.files.new k,h.flow,Qba h.names kf (fun _ _ e=>e),h.rows.new k,h.giv,h.len,h.lbb,Nat.le_trans h.size k.size⟩
theorem Q4c.fds(h:Q4c w lb base fv F ord giv out ov nv fr te dn)(k:Qaa (R5S lb ov nv) w w'){b2:Nat}{v:Value}{l:List FdT}(r:Qsa w b2 v l)(hs:∀g,v.ownBlock=some g→ov.ownBlock≠some g):Qsa w' b2 v l:=by
 refine r.keeps k (fun g hg hS=>?_) (fun b _ hS cur=>⟨fun hc=>?_,fun hc=>?_⟩)
 ·obtain⟨_,_,hr,_⟩:=id r
  obtain⟨_,_,cur,hb⟩:=Qpa hr hg
  rcases hS with rfl|e|e
  ·have:=h.holds.symm.trans hb
   injection this with this;injection this with _ this;exact absurd this (by decide)
  ·exact hs g hg e
  ·obtain⟨_,_,cur2,Ho⟩:=Qpa h.names e
   have:=Ho.symm.trans hb
   injection this with this;injection this with _ this;exact absurd this (by decide)
 ·rcases h.typed hS hc with e|e|e <;> exact absurd e (by decide)
 ·rcases h.typed hS hc with e|e|e <;> exact absurd e (by decide)
theorem Q4c.files_keep(h:Q4c w lb base fv F ord giv out ov nv fr te dn)(k:Qaa (R5S lb ov nv) w w'):QZa w' fv F:=by
 obtain⟨a,cap,rfl,h1,h2,h3⟩:=h.files
 refine⟨a,cap,rfl,h1,h2,fun h0=>?_⟩
 obtain⟨g,o,rfl,hg,hc⟩:=h3 h0
 have db:g<base:=h.flow g rfl
 have hn:¬R5S lb ov nv g:=fun hS=>by have:=h.low hS;omega
 exact⟨g,o,rfl,Nat.lt_of_lt_of_le hg k.size,fun i hi=>⟨(k.cell (p:=⟨g,o+i*2,none⟩) hg hn).trans (hc i hi).1,(k.cell (p:=⟨g,o+i*2+1,none⟩) hg hn).trans (hc i hi).2⟩⟩
end
theorem Q7h(v:Value)(F:List Qoa)(s:ByteArray)(w:World)(hF:QZa w v F)(hl:F.length≤1000) :
 Calls Tryz.prog 76 #[v,.string s] w fun e w'=>e = .returned (.int .i64 (Qrb F s))∧Below w.heap.size w w':=by
 obtain⟨a,cap,rfl,K5,kO,Gg⟩:=hF
 have jX:=hid Gg
 clear Gg
 go_enter Tryz.func76,Tryz.ntmps76
 go_wp2_with fail
 go_loopg [9] (F.length) (fun f x wr=>∃k:Nat,x = .int .i64 k∧k≤F.length∧F.length≤k+f∧Hid (∀i (h:i<F.length),i<k→decide (F[i].name=s)=false)∧Below w.heap.size w wr)
 case atStart=>exact⟨0,rfl,by omega,by omega,fun i h h2=>absurd h2 (by omega),Below.refl _ _⟩
 case round=>
  obtain⟨k,rfl,hk,hf,hN,hb⟩:=hrel
  have GM:=hb.size
  by_cases Hh:k<F.length
  ·obtain⟨g,o,e1,hg,Hx⟩:=jX.out (by omega)
   subst e1
   obtain⟨n0,t0⟩:=Hx k Hh
   have c0:=(hb.cell (p:=⟨g,o+k*2,none⟩) hg).trans n0
   have c1:=(hb.cell (p:=⟨g,o+k*2+1,none⟩) hg).trans t0
   have cx:g<wr.heap.size:=by omega
   have lp:(k:Int)<(F.length:Int):=by omega
   have jE:=hb.alloc GM (.cells #[.string F[k].name,.string F[k].text] 46)
   have HB:=hid jE
   cases hy:decide (F[k].name=s)with
   | true=>
    have Ko:(F[k].name.toList == s.toList)=true:=by rw[Qwg];exact hy
    have Hg:=hid (show Qrb F s=k from by
     unfold Qrb Q2b
     rw[show F.findIdx? (fun f=>decide (f.name=s))=some k from by
      rw[List.findIdx?_eq_some_iff_getElem]
      exact⟨Hh,hy,fun j hj=>by rw[hN.out j (by omega) hj];exact Bool.false_ne_true⟩])
    clear Hx n0 t0 hb hy jE
    generalize F[k].name=nm at *
    generalize F[k].text=tx at *
    go_wp2_with fail
    go_ret
    exact⟨by rw[Hg.out];rfl,HB.out⟩
   | false=>
    have Ko:(F[k].name.toList == s.toList)=false:=by rw[Qwg];exact hy
    have HY:=hid hy
    have gU:=hid (show ∀i (h:i<F.length),i<k+1→decide (F[i].name=s)=false from fun i h h2=>by
     by_cases e:i=k
     ·subst e;exact hy
     ·exact hN.out i h (by omega))
    clear Hx n0 t0 hb hy jE
    generalize F[k].name=nm at *
    generalize F[k].text=tx at *
    go_wp2_with fail
    go_roundg (gk-1)
    case measure=>omega
    case rel=>exact⟨k+1,by go_num,by omega,by omega,gU,HB.out⟩
  ·have Hg:=hid (show Qrb F s = -1 from by
    unfold Qrb Q2b
    rw[show F.findIdx? (fun f=>decide (f.name=s))=none from by
     rw[List.findIdx?_eq_none_iff]
     intro x hx
     obtain⟨i,hi,rfl⟩:=List.getElem_of_mem hx
     exact hN.out i hi (by omega)])
   have HB:=hid hb
   clear hb
   go_wp2_with fail
   go_ret
   exact⟨by rw[Hg.out];rfl,HB.out⟩
theorem QAr(v:Value)(l:List Nat)(k:Nat)(w:World)(hv:QSl w v l)(hl:l.length≤1000) :
 Calls Tryz.prog 114 #[v,.int .i64 (k:Int)] w fun e w'=>e = .returned (.bool (l.contains k))∧w=w':=by
 obtain⟨a,cap,rfl,K5,Gg⟩:=hv
 have jX:=hid Gg
 clear Gg
 go_enter Tryz.func114,Tryz.ntmps114
 go_wp2_with fail
 go_loopg [9] (l.length) (fun f x wr=>∃j:Nat,x = .int .i64 j∧j≤l.length∧l.length≤j+f∧Hid (∀i (h:i<l.length),i<j→l[i]≠k)∧w=wr)
 case atStart=>exact⟨0,rfl,by omega,by omega,fun i h h2=>absurd h2 (by omega),rfl⟩
 case round=>
  obtain⟨j,rfl,qB,Gr,hN,rfl⟩:=hrel
  by_cases Hh:j<l.length
  ·obtain⟨g,o,e1,Hx⟩:=jX.out (by omega)
   subst e1
   have c0:=Hx j Hh
   have ia:(j:Int)<(l.length:Int):=by omega
   by_cases he:l[j]=k
   ·have d1:((l[j]:Int) == (k:Int))=true:=by rw[beq_iff_eq,he]
    have Hg:=hid (show true=l.contains k from by
     symm
     rw[List.contains_iff_mem]
     exact he ▸ List.getElem_mem Hh)
    clear he Hx
    generalize l[j]=lj at *
    go_wp2_with fail
    go_ret
    exact⟨Qla Hg.out,rfl⟩
   ·have d1:((l[j]:Int) == (k:Int))=false:=by rw[beq_eq_false_iff_ne];omega
    have HE:=hid he
    clear he Hx
    go_wp2_with fail
    go_roundg (gk-1)
    case measure=>omega
    case rel=>
     refine⟨j+1,by go_num,by omega,by omega,?_,rfl⟩
     intro i hi GV
     by_cases e:i=j
     ·subst e;exact HE.out
     ·exact hN.out i hi (by omega)
  ·have Hg:=hid (show false=l.contains k from by
    symm
    rw[Bool.eq_false_iff]
    intro h
    obtain⟨i,hi,e⟩:=List.getElem_of_mem (List.contains_iff_mem.1 h)
    exact hN.out i hi (by omega) e)
   go_wp2_with fail
   go_ret
   exact⟨Qla Hg.out,rfl⟩
theorem Q7n{out:List FdT}{x:List FdT}{a b:Nat}(qn:a≤b)(hb:b≤out.length):((out++x).drop a).take (b-a)=(out.drop a).take (b-a):=by
 rw[List.drop_append_of_le_length (by omega),List.take_append_of_le_length (by rw[List.length_drop];omega)]
theorem Qbq{w w1 w8:World}{lb base g cap:Nat}{fv ov nv pv:Value}{F:List Qoa}{ord:List ByteArray}{giv:QBb}{out:List FdT}{fr te:List Int}{dn:List Bool}{x:FdT}{vs:List Value}{o:Obj}(h:Q4c w lb base fv F ord giv out ov nv fr te dn)(hp:Qha w base pv x.2.parts)(k1:Qaa (fun _=>False) w w1)(hl:out.length<6000)
 (ky:vs.length=out.length) (Hc:w.ownsRow base 34 7 ov out.length (QEa out vs)) (gf:∀k (h:k<out.length) (h2:k<vs.length),Qha w base vs[k] out[k].2.parts)
 (Hi:w8.ownsRow base 34 7 (.slice (some ⟨g,0,none⟩) (out.length+1) cap) (out.length+1) (QEa out vs++[.int .i64 x.2.kind,.string x.2.label,.string x.2.name,pv,.int .i64 x.1,.int .i64 x.2.line,.int .i64 x.2.col])) (hg:(w1.alloc o).grownBy w8 ov.ownBlock) (Gg:ov.ownBlock=some g∨w.heap.size≤g) :
 lb<w8.heap.size∧w8.frozen? ⟨lb,1,none⟩=false∧w8.cell? ⟨lb,1,none⟩=some ov∧Q4c (w8.setCell ⟨lb,1,none⟩ (.slice (some ⟨g,0,none⟩) (out.length+1) cap)) lb base fv F ord giv (out++[x]) (.slice (some ⟨g,0,none⟩) (out.length+1) cap) nv fr te dn∧Qaa (fun b=>b=lb∨ov.ownBlock=some b) w (w8.setCell ⟨lb,1,none⟩ (.slice (some ⟨g,0,none⟩) (out.length+1) cap))∧Q5c w ov (.slice (some ⟨g,0,none⟩) (out.length+1) cap):=by
 have k2:Qaa (fun b=>ov.ownBlock=some b) w w8:=((k1.alloc o).mono (fun _ _ e=>e.elim)).grown hg (fun i e=>.inr e)
 have Hn:∀{b:Nat} {cs:Array Value} {t:TypeId},Qca w b cs t→t≠34→ov.ownBlock≠some b:=fun hh hn=>Qua Hc hh hn
 have h8:=h.holds.keeps k2 (Hn h.holds (by decide))
 have k3:=(Qaa.refl (· = lb) w8).setCell (p:=⟨lb,1,none⟩) (.inr rfl) (.slice (some ⟨g,0,none⟩) (out.length+1) cap)
 have k4:Qaa (fun b=>b=lb∨ov.ownBlock=some b) w (w8.setCell ⟨lb,1,none⟩ (.slice (some ⟨g,0,none⟩) (out.length+1) cap)):=(k2.mono (fun _ _ e=>.inr e)).setCell (.inr (.inl rfl)) _
 have kS:Qaa (R5S lb ov nv) w (w8.setCell ⟨lb,1,none⟩ (.slice (some ⟨g,0,none⟩) (out.length+1) cap)):=k4.mono (fun _ _ e=>e.elim .inl (fun e=>.inr (.inl e)))
 have GO:∀{u:Value} {ps:List QRa},Qha w base u ps→Qha (w8.setCell ⟨lb,1,none⟩ (.slice (some ⟨g,0,none⟩) (out.length+1) cap)) base u ps:=fun hq=>hq.keep2 kS (fun b _ hS cur=>⟨fun hc=>by rcases h.typed hS hc with e|e|e <;> exact absurd e (by decide),fun hc=>by rcases h.typed hS hc with e|e|e <;> exact absurd e (by decide)⟩)
 have iB:(r5C fv ov nv fr te dn (0,0,0) 0).toArray.setIfInBounds 1 (.slice (some ⟨g,0,none⟩) (out.length+1) cap)=(r5C fv (.slice (some ⟨g,0,none⟩) (out.length+1) cap) nv fr te dn (0,0,0) 0).toArray:=by
  rw[List.setIfInBounds_toArray];rfl
 have h9:=h8.set 1 (.slice (some ⟨g,0,none⟩) (out.length+1) cap)
 rw[iB]at h9
 refine⟨h8.lt,h8.free 1,h8.cell 1,⟨h9,h.fl,h.tl,h.dl,h.files_keep kS,h.flow,Qba h.names k4 (fun g' hg' e=>?_),⟨vs++[pv],by simp[ky],?_,fun k hk Hp=>?_⟩,fun k a1 a2 a3=>?_,by simp;omega,h.lbb,Nat.le_trans h.size k4.size⟩,k4,?_⟩
 ·rcases e with e|e
  ·subst e;exact Qua h.names h.holds (by decide) hg'
  ·obtain⟨_,_,cur,hb⟩:=Qpa h.names hg'
   exact Hn hb (by decide) e
 ·rw[QBe out [x] vs [pv] ky,List.length_append]
  exact Qba Hi k3 (fun g' hg' e=>by cases e;exact Qua Hi h8 (by decide) hg')
 ·by_cases e:k<out.length
  ·rw[List.getElem_append_left (by omega),List.getElem_append_left e]
   exact GO (gf k e (by omega))
  ·have mi:k=out.length:=by simp at hk;omega
   subst mi
   rw[List.getElem_append_right (by omega),List.getElem_append_right (by omega)]
   simp only[ky,Nat.sub_self,List.getElem_cons_zero]
   exact GO hp
 ·rcases h.giv k a1 a2 a3 with q|⟨l,a,b,q1,q2,q3,q4,q5,q6,q7⟩
  ·exact .inl q
  ·exact .inr ⟨l,a,b,q1,q2,q3,q4,q5,by simp;omega,by rw[Q7n q5 q6];exact q7⟩
 ·intro g' hg'
  cases hg'
  exact Gg
set_option maxRecDepth 100000 in
theorem Q0o(w:World)(lb base:Nat)(fv ov nv pv:Value)(F:List Qoa)(ord:List ByteArray)(giv:QBb)(out:List FdT)(fr te:List Int)(dn:List Bool)(x:FdT)(h:Q4c w lb base fv F ord giv out ov nv fr te dn)(hp:Qha w base pv x.2.parts) :
 Calls Tryz.prog 113 #[.pointer (some ⟨lb,0,none⟩),QXb x.1 x.2 pv] w fun e w'=>e = .returned (.tuple #[])∧(6000≤out.length→Qca w' lb (r5C fv ov nv fr te dn (Qef x) 3).toArray 91∧Qaa (· = lb) w w')∧(out.length<6000→∃ov',Q4c w' lb base fv F ord giv (out++[x]) ov' nv fr te dn∧Qaa (fun b=>b=lb∨ov.ownBlock=some b) w w'∧Q5c w ov ov'):=by
 obtain⟨pa,pc,rfl⟩:=hp.slice
 obtain⟨oa,oc,rfl⟩:=h.rows.slice
 obtain⟨vs,ky,Hc,gf⟩:=id h.rows
 have GM:=h.size
 have hH:=h.holds
 have kh:=h.fl
 have H7:=h.tl
 have KL:=h.dl
 have hLN:=h.len
 have gU:=hid (fun(w1 w8:World) (g cap:Nat) (o:Obj) k1 hl Hi hg Gg=>Qbq (w1:=w1) (w8:=w8) (g:=g) (cap:=cap) (o:=o) h hp k1 hl ky Hc gf Hi hg Gg)
 have Hv:=World.ownsRow.alloc Hc (.cells (Qbc x.1 x.2 (.slice pa x.2.parts.length pc)) 34)
 have hN:=Qca.new w (Qbc x.1 x.2 (.slice pa x.2.parts.length pc)) 34
 have Gv:=hH.alloc (.cells (Qbc x.1 x.2 (.slice pa x.2.parts.length pc)) 34)
 have k1:=(Qaa.refl (fun _=>False) w).alloc (.cells (Qbc x.1 x.2 (.slice pa x.2.parts.length pc)) 34)
 have rO:=hid (show Qef x=(x.1,x.2.line,x.2.col)from rfl)
 unfold QXb
 unfold Qbc at Hv hN Gv k1
 clear gf Hc h hp hH
 generalize QEa out vs=xs at *
 generalize Qef x=px at *
 obtain⟨file,dk,dl,dn',dp,dli,dc⟩:=x
 simp only at *
 obtain⟨i0,hi,GE,GF,GA⟩:=info_parts QGj
 have c1:(w.alloc (.cells #[.int .i64 dk,.string dl,.string dn',.slice pa dp.length pc,.int .i64 file,.int .i64 dli,.int .i64 dc] 34)).cell? ⟨lb,1,none⟩=some (.slice oa out.length oc):=Gv.cell 1
 have cl:=Gv.lt
 obtain⟨m0,m1,m2,m3,m4,m5,m6⟩:=Qna hN
 have Hl:=hN.lt
 have sN:=Nat.le_trans GM k1.size
 by_cases bi:6000≤out.length
 ·have vi:(6000:Int)≤(out.length:Int):=by omega
  have t27:=QJe (fv:=fv) (ov:=.slice oa out.length oc) (nv:=nv) (p:=(0,0,0)) (e:=0) kh H7 KL
  have c27:(w.alloc (.cells #[.int .i64 dk,.string dl,.string dn',.slice pa dp.length pc,.int .i64 file,.int .i64 dli,.int .i64 dc] 34)).cell? ⟨lb,27,none⟩=some (.int .i64 0):=(Gv.cell 27).trans ((List.getElem?_toArray ..).trans (t27 0))
  have c28:(w.alloc (.cells #[.int .i64 dk,.string dl,.string dn',.slice pa dp.length pc,.int .i64 file,.int .i64 dli,.int .i64 dc] 34)).cell? ⟨lb,28,none⟩=some (.int .i64 0):=(Gv.cell 28).trans ((List.getElem?_toArray ..).trans (t27 1))
  have c29:(w.alloc (.cells #[.int .i64 dk,.string dl,.string dn',.slice pa dp.length pc,.int .i64 file,.int .i64 dli,.int .i64 dc] 34)).cell? ⟨lb,29,none⟩=some (.int .i64 0):=(Gv.cell 29).trans ((List.getElem?_toArray ..).trans (t27 2))
  have c30:(w.alloc (.cells #[.int .i64 dk,.string dl,.string dn',.slice pa dp.length pc,.int .i64 file,.int .i64 dli,.int .i64 dc] 34)).cell? ⟨lb,30,none⟩=some (.int .i64 0):=(Gv.cell 30).trans ((List.getElem?_toArray ..).trans (t27 3))
  have f27:=Gv.free 27
  have f28:=Gv.free 28
  have f29:=Gv.free 29
  have f30:=Gv.free 30
  have gj:=((((Gv.set 27 (.int .i64 file)).set 28 (.int .i64 dli)).set 29 (.int .i64 dc)).set 30 (.int .i64 3))
  simp only[List.setIfInBounds_toArray]at gj
  rw[QKd kh H7 KL (file,dli,dc) 3]at gj
  have kend:=(((((k1.mono (S:=(· = lb)) (fun _ _ e=>e.elim)).setCell (p:=⟨lb,27,none⟩) (.inr rfl) (.int .i64 file)).setCell (p:=⟨lb,28,none⟩) (.inr rfl) (.int .i64 dli)).setCell (p:=⟨lb,29,none⟩) (.inr rfl) (.int .i64 dc)).setCell (p:=⟨lb,30,none⟩) (.inr rfl) (.int .i64 3))
  have kL:=hid gj
  have ry:=hid kend
  clear gj kend hN Gv k1 Hv t27
  go_enter Tryz.func113,Tryz.ntmps113
  go_wp2_with fail
  refine bodyPost_ret (results_none rfl _ _ _) rfl ?_
  exact⟨rfl,fun _=>⟨by rw[rO.out];exact kL.out,ry.out⟩,fun h=>absurd h (by omega)⟩
 ·have vi:¬(6000:Int)≤(out.length:Int):=by omega
  go_enter Tryz.func113,Tryz.ntmps113
  go_wp2_with fail
  generalize w.alloc (.cells #[.int .i64 dk,.string dl,.string dn',.slice pa dp.length pc,.int .i64 file,.int .i64 dli,.int .i64 dc] 34)=wb at *
  have Gm:=hid (World.ownsRow.alloc (show wb.drew.ownsRow base 34 7 (.slice oa out.length oc) out.length xs from Hv) (.cells #[.int .i64 dk,.string dl,.string dn',.slice pa dp.length pc,.int .i64 file,.int .i64 dli,.int .i64 dc] 34))
  clear Hv Gv hN
  go_region_law (refine step_append_lies _ (by rfl) _ _ _ (by rfl) base 34 i0 _ 7 88 Tryz.underlying25 hi GE GF GA rfl (by omega) _ out.length xs (by rfl) Gm.out ⟨wb.heap.size,0,none⟩ 1 1 [.int .i64 dk,.string dl,.string dn',.slice pa dp.length pc,.int .i64 file,.int .i64 dli,.int .i64 dc] (by rfl) (by rfl) (World.news_of_block (cs:=#[.int .i64 dk,.string dl,.string dn',.slice pa dp.length pc,.int .i64 file,.int .i64 dli,.int .i64 dc]) (t:=34) (fr:=(0,0)) (heap_alloc_new wb.drew _)) (by simp[Value.oneCell']) (by omega) (by unfold maxLen;omega) (by omega) (by simp;omega) (wb.heap.size+1) (by simp) ?_;intro gg cap2 w8 GZ Hb Gg dj;obtain⟨y0,y1,y2,y3,y4,y5⟩:=gU.out wb.drew w8 gg cap2 _ k1.drew (by omega) GZ Hb (by rcases Gg with e|e;exact .inl e;exact .inr (by have:=k1.size;omega)))
  all_goals
   go_wp2_with fail
   go_end0
   exact⟨rfl,fun h=>absurd h (by omega),fun _=>⟨_,y3,y4,y5⟩⟩
def Qpq(lb base:Nat)(fv ov nv:Value)(F:List Qoa)(out:List FdT)(fr te:List Int)(dn:List Bool)(R:Lr)(w:World)(e:Ending)(w':World):Prop:=
 e = .returned (.tuple #[])∧Qaa (R5S lb ov nv) w w'∧match R with
  | .error (p,er)=>Qtj w' lb p er
  | .ok (ord',giv',m)=>∃ov',Q4c w' lb base fv F ord' giv' (out++m) ov' nv fr te dn∧Q5c w ov ov'
def QGh(ord:List ByteArray)(giv:QBb)(out l:List FdT):Lr:=if 6000-out.length<l.length then .error (Qef (l.getD (6000-out.length) Q9d),3)else .ok (ord,giv,l)
section
variable{w w1 w2:World}{lb base:Nat}{fv ov ov1 nv:Value}
theorem QId(k1:Qaa (R5S lb ov nv) w w1)(t1:Q5c w ov ov1)(k2:Qaa (fun b=>b=lb∨ov1.ownBlock=some b) w1 w2):Qaa (R5S lb ov nv) w w2:=
 k1.trans k2 (fun i hi e=>by
  rcases e with e|e
  ·exact .inl e
  ·rcases t1 i e with e|e
   ·exact .inr (.inl e)
   ·omega)
end
theorem Qon(l:List FdT)(m:Nat)(h:m<l.length):l.take m++[l[m]]=l.take (m+1):=by
 rw[List.take_add_one,List.getElem?_eq_getElem h];rfl
set_option maxRecDepth 100000 in
theorem Q4i(w:World)(lb base:Nat)(fv ov nv:Value)(F:List Qoa)(ord:List ByteArray)(giv:QBb)(out:List FdT)(fr te:List Int)(dn:List Bool)(k:Nat)(opv:Value)(l:List FdT)(h:Q4c w lb base fv F ord giv out ov nv fr te dn)(hk:k<8)(hg:Qkd giv k=some l) :
 Calls Tryz.prog 77 #[.pointer (some ⟨lb,0,none⟩),.int .i64 (k:Int),opv] w (Qpq lb base fv ov nv F out fr te dn (QGh ord giv out l) w):=by
 have kh:=h.fl
 have H7:=h.tl
 have KL:=h.dl
 obtain⟨a,b,hd,vw,G0,qn,hbo,hl⟩:∃a b:Nat,dn[k]'(by omega)=true∧fr[k]'(by omega)=(a:Int)∧te[k]'(by omega)=(b:Int)∧a≤b∧b≤out.length∧l=(out.drop a).take (b-a):=by
  rcases h.giv k (by omega) (by omega) (by omega)with⟨q,_⟩|⟨l',a,b,q1,q2,q3,q4,q5,q6,q7⟩
  ·rw[hg]at q;cases q
  ·rw[hg]at q1;cases q1
   exact⟨a,b,q2,q3,q4,q5,q6,q7⟩
 have hLL:l.length=b-a:=by rw[hl,List.length_take,List.length_drop];omega
 have yi:=h.len
 have we:=hid (show ∀(m:Nat) (hm:m<l.length) (x:List FdT) (h2:a+m<(out++x).length),(out++x)[a+m]=l[m]from fun m hm x h2=>by
  subst hl
  rw[List.getElem_append_left (by omega),List.getElem_take,List.getElem_drop])
 have G8:∀{wx:World} {p:Qag} {er:Int} {o n:Value},Qca wx lb (r5C fv o n fr te dn p er).toArray 91→wx.cell? ⟨lb,3+k,none⟩=some (.int .i64 (a:Int))∧wx.cell? ⟨lb,11+k,none⟩=some (.int .i64 (b:Int))∧wx.cell? ⟨lb,19+k,none⟩=some (.bool true)∧wx.cell? ⟨lb,30,none⟩=some (.int .i64 er)∧wx.cell? ⟨lb,1,none⟩=some o∧lb<wx.heap.size:=fun hx=>by
  refine⟨(hx.cell (3+k)).trans ?_,(hx.cell (11+k)).trans ?_,(hx.cell (19+k)).trans ?_,(hx.cell 30).trans ?_,hx.cell 1,hx.lt⟩
  ·rw[List.getElem?_toArray,QQm kh hk,vw]
  ·rw[List.getElem?_toArray,Q7q kh H7 hk,G0]
  ·rw[List.getElem?_toArray,Q3j kh H7 KL hk,hd]
  ·rw[List.getElem?_toArray];exact QJe kh H7 KL 3
 have HC:=hid (fun(wx:World) (p:Qag) (er:Int) (o n:Value) hx=>@G8 wx p er o n hx)
 obtain⟨c3,c11,c19,c30,_,cl⟩:=HC.out _ _ _ _ _ h.holds
 have HH:=hid h
 have oQ:(k:Int)<8:=by omega
 have haI:(a:Int)≤6000:=by omega
 have vi:(b:Int)≤6000:=by omega
 clear G8 h hd vw G0 hg hl
 go_enter Tryz.func77,Tryz.ntmps77
 go_wp2_with fail
 go_loopg [6] (l.length) (fun f x wr=>∃m:Nat,x = .int .i64 ((a+m:Nat):Int)∧m≤l.length∧l.length≤m+f∧Hid (Qaa (R5S lb ov nv) w wr)∧((∃ov',Hid (Q4c wr lb base fv F ord giv (out++l.take m) ov' nv fr te dn)∧Hid (Q5c w ov ov'))∨(Hid (6000-out.length<l.length)∧∃o n,Hid (Qun fv o n)∧Hid (Qca wr lb (r5C fv o n fr te dn (Qef (l.getD (6000-out.length) Q9d)) 3).toArray 91))))
 case atStart=>exact⟨0,rfl,Nat.zero_le _,by omega,hid (Qaa.refl _ _),.inl ⟨ov,hid (by rw[List.take_zero,List.append_nil];exact HH.out),hid (Q5c.refl _ _)⟩⟩
 case round=>
  obtain⟨m,rfl,qH,dr,HK,⟨ov',HA,HT⟩|⟨pn,o,n,HO,HB⟩⟩:=hrel
  ·obtain⟨c3,c11,c19,c30,c1,cl⟩:=HC.out _ _ _ _ _ HA.out.holds
   by_cases Hh:m<l.length
   ·have hI:((a+m:Nat):Int)<(b:Int):=by omega
    have Ga:a+m<(out++l.take m).length:=by rw[List.length_append];omega
    obtain⟨g,cap,pv,e1,fY,db,d0,d1,d2,d3,d4,d5,d6,hp⟩:=HA.out.rows.at (a+m) Ga
    rw[we.out m Hh _ Ga]at d0 d1 d2 d4 d5 d6 hp
    obtain⟨x,hx⟩:∃x,x=l[m]:=⟨_,rfl⟩
    rw[←hx]at d0 d1 d2 d4 d5 d6 hp
    have bi:((a+m:Nat):Int)<(((out++l.take m).length:Nat):Int):=by omega
    obtain⟨pa,pc,rfl⟩:=hp.slice
    have Kf:=hid (Q0o wr lb base fv ov' nv (.slice pa x.2.parts.length pc) F ord giv (out++l.take m) fr te dn x HA.out hp)
    unfold QXb at Kf
    have HX:=hid hx
    have uV:(out++l.take m).length=out.length+m:=by rw[List.length_append,List.length_take];omega
    have wt:=hid uV
    have ws:=hid HA.out.len
    subst e1
    have hOL:((out++l.take m).length:Int)≤6000:=by have:=HA.out.len;omega
    clear hx hp uV
    generalize hOO:(out++l.take m).length=OL at *
    go_wp2_with fail
    refine(by exact Kf.out:Calls _ _ _ _ _).mono ?_
    rintro e w5 ⟨rfl,Hj,mS⟩
    by_cases h6:6000≤OL
    ·obtain⟨q1,q2⟩:=Hj h6
     have HQ:=hid (show 6000-out.length<l.length∧Qca w5 lb (r5C fv (.slice (some ⟨g,0,none⟩) OL cap) nv fr te dn (Qef (l.getD (6000-out.length) Q9d)) 3).toArray 91 from by
      have h1:=wt.out
      have h2:=ws.out
      have e6:6000-out.length=m:=by omega
      refine⟨by omega,?_⟩
      rw[e6,List.getD_eq_getElem?_getD,List.getElem?_eq_getElem Hh,Option.getD_some,←HX.out]
      exact q1)
     have MN:=hid HA.out.one
     have Gw:=hid (QId HK.out HT.out (q2.mono (fun _ _ e=>.inl e)))
     clear q1 q2 Hj mS
     go_wp2_with fail
     go_roundg (gk-1)
     case measure=>omega
     case rel=>exact⟨m+1,by go_num,by omega,by omega,Gw,.inr ⟨hid HQ.out.1,_,_,MN,hid HQ.out.2⟩⟩
    ·obtain⟨ov6,q1,q2,q3⟩:=mS (by omega)
     have k9:=hid (show Q4c w5 lb base fv F ord giv (out++l.take (m+1)) ov6 nv fr te dn from by
      rw[←Qon l m Hh,←List.append_assoc,←HX.out]
      exact q1)
     have Gw:=hid (QId HK.out HT.out q2)
     have rW:=hid (HT.out.trans q3 HK.out.size)
     clear q1 q2 q3 Hj mS
     go_wp2_with fail
     go_roundg (gk-1)
     case measure=>omega
     case rel=>exact⟨m+1,by go_num,by omega,by omega,Gw,.inl ⟨ov6,k9,rW⟩⟩
   ·have jT:m=l.length:=by omega
    have hI:¬((a+m:Nat):Int)<(b:Int):=by omega
    have HF:=hid (show QGh ord giv out l = .ok (ord,giv,l)∧out++l.take m=out++l from by
     have h2:=HA.out.len
     rw[jT,List.take_length]at h2 ⊢
     rw[List.length_append]at h2
     exact⟨by unfold QGh;rw[if_neg (by omega)],rfl⟩)
    clear jT
    go_wp2_with fail
    refine bodyPost_ret (results_none rfl _ _ _) rfl ?_
    refine⟨rfl,HK.out,?_⟩
    rw[HF.out.1]
    have h9:=HA.out
    rw[HF.out.2]at h9
    exact⟨ov',h9,HT.out⟩
  ·obtain⟨c3,c11,c19,c30,c1,cl⟩:=HC.out _ _ _ _ _ HB.out
   have HF:=hid (show QGh ord giv out l = .error (Qef (l.getD (6000-out.length) Q9d),3)from by unfold QGh;rw[if_pos pn.out])
   by_cases Hh:m<l.length
   ·have hI:((a+m:Nat):Int)<(b:Int):=by omega
    go_wp2_with fail
    refine bodyPost_ret (results_none rfl _ _ _) rfl ?_
    refine⟨rfl,HK.out,?_⟩
    rw[HF.out]
    exact⟨by decide,_,_,_,_,_,_,kh,H7,KL,HB.out,HO.out⟩
   ·have hI:¬((a+m:Nat):Int)<(b:Int):=by omega
    go_wp2_with fail
    refine bodyPost_ret (results_none rfl _ _ _) rfl ?_
    refine⟨rfl,HK.out,?_⟩
    rw[HF.out]
    exact⟨by decide,_,_,_,_,_,_,kh,H7,KL,HB.out,HO.out⟩
section
variable{w w':World}{lb base:Nat}{fv ov nv:Value}{F:List Qoa}{ord:List ByteArray}{giv:QBb}{out:List FdT}{fr te:List Int}{dn:List Bool}
theorem Q4c.row(h:Q4c w lb base fv F ord giv out ov nv fr te dn)(k:Qaa (R5S lb ov nv) w w'){b size n:Nat}{v:Value}{xs:List Value}{e:TypeId}(r:w.ownsRow b e size v n xs)(h1:e≠91)(h2:e≠34)(h3:e≠9):w'.ownsRow b e size v n xs:=
 Qba r k (fun g hg hS=>by
  obtain⟨_,_,cur,hb⟩:=Qpa r hg
  rcases h.typed hS hb with e|e|e
  ·exact h1 e
  ·exact h2 e
  ·exact h3 e)
theorem Q4c.mark(h:Q4c w lb base fv F ord giv out ov nv fr te dn){file:Nat}(hf:file<8)(hg:Qkd giv file=none):Q4c (w.setCell ⟨lb,3+file,none⟩ (.int .i64 (out.length:Int))) lb base fv F ord giv out ov nv (fr.set file (out.length:Int)) te dn∧Qaa (R5S lb ov nv) w (w.setCell ⟨lb,3+file,none⟩ (.int .i64 (out.length:Int))):=by
 have k:=(Qaa.refl (· = lb) w).setCell (p:=⟨lb,3+file,none⟩) (.inr rfl) (.int .i64 (out.length:Int))
 have kS:Qaa (R5S lb ov nv) w (w.setCell ⟨lb,3+file,none⟩ (.int .i64 (out.length:Int))):=k.mono (fun _ _ e=>.inl e)
 have h9:=h.holds.set (3+file) (.int .i64 (out.length:Int))
 rw[List.setIfInBounds_toArray,Q7j h.fl hf]at h9
 have kh:(fr.set file (out.length:Int)).length=8:=by rw[List.length_set];exact h.fl
 refine⟨⟨h9,kh,h.tl,h.dl,h.files_keep kS,h.flow,Qba h.names k (fun g hg e=>by cases e;exact Qua h.names h.holds (by decide) hg),?_,fun j a1 a2 a3=>?_,h.len,h.lbb,Nat.le_trans h.size k.size⟩,kS⟩
 ·refine h.rows.keeps k (fun g hg e=>?_) (fun b _ e cur=>?_)
  ·cases e
   obtain⟨_,_,hr,_⟩:=h.rows
   exact Qua hr h.holds (by decide) hg
  ·cases e
   refine⟨fun hc=>?_,fun hc=>?_⟩
   ·have:=h.holds.symm.trans hc
    injection this with this;injection this with _ this;exact absurd this (by decide)
   ·have:=h.holds.symm.trans hc
    injection this with this;injection this with _ this;exact absurd this (by decide)
 ·rcases h.giv j (by have:=h.fl;omega) a2 a3 with q|⟨l,a,b,q1,q2,q3,q4,q5,q6,q7⟩
  ·exact .inl q
  ·have Hn:file≠j:=fun e=>by rw[←e,hg]at q1;cases q1
   exact .inr ⟨l,a,b,q1,q2,by rw[List.getElem_set_ne Hn];exact q3,q4,q5,q6,q7⟩
theorem Qfk(l:List ByteArray)(s:ByteArray):QDb (l++[s])=QDb l++[.string s]:=by unfold QDb;simp
theorem Qro{w8:World}{nv8:Value}{s:ByteArray}(h:Q4c w lb base fv F ord giv out ov nv fr te dn)(k2:Qaa (fun b=>nv.ownBlock=some b) w w8)
 (Hi:w8.ownsRow base 9 1 nv8 (ord.length+1) (QDb ord++[.string s])) (Gg:∀g,nv8.ownBlock=some g→nv.ownBlock=some g∨w.heap.size≤g) :
 lb<w8.heap.size∧w8.frozen? ⟨lb,2,none⟩=false∧w8.cell? ⟨lb,2,none⟩=some nv∧Q4c (w8.setCell ⟨lb,2,none⟩ nv8) lb base fv F (ord++[s]) giv out ov nv8 fr te dn∧Qaa (R5S lb ov nv) w (w8.setCell ⟨lb,2,none⟩ nv8)∧Q5c w nv nv8:=by
 have Hn:∀{b:Nat} {cs:Array Value} {t:TypeId},Qca w b cs t→t≠9→nv.ownBlock≠some b:=fun hh hn=>Qua h.names hh hn
 have h8:=h.holds.keeps k2 (Hn h.holds (by decide))
 have k4:Qaa (fun b=>b=lb∨nv.ownBlock=some b) w (w8.setCell ⟨lb,2,none⟩ nv8):=(k2.mono (fun _ _ e=>.inr e)).setCell (.inr (.inl rfl)) _
 have k3:=(Qaa.refl (· = lb) w8).setCell (p:=⟨lb,2,none⟩) (.inr rfl) nv8
 have kS:Qaa (R5S lb ov nv) w (w8.setCell ⟨lb,2,none⟩ nv8):=k4.mono (fun _ _ e=>e.elim .inl (fun e=>.inr (.inr e)))
 have iB:(r5C fv ov nv fr te dn (0,0,0) 0).toArray.setIfInBounds 2 nv8=(r5C fv ov nv8 fr te dn (0,0,0) 0).toArray:=by
  rw[List.setIfInBounds_toArray];rfl
 have h9:=h8.set 2 nv8
 rw[iB]at h9
 refine⟨h8.lt,h8.free 2,h8.cell 2,⟨h9,h.fl,h.tl,h.dl,h.files_keep kS,h.flow,?_,?_,h.giv,h.len,h.lbb,Nat.le_trans h.size k4.size⟩,kS,fun g hg=>Gg g hg⟩
 ·rw[Qfk,List.length_append]
  exact Qba Hi k3 (fun g' hg' e=>by cases e;exact Qua Hi h8 (by decide) hg')
 ·refine h.rows.keeps k4 (fun g hg e=>?_) (fun b _ e cur=>⟨fun hc=>?_,fun hc=>?_⟩)
  ·obtain⟨_,_,hr,_⟩:=h.rows
   obtain⟨_,_,cur,hb⟩:=Qpa hr hg
   rcases e with e|e
   ·subst e;exact Qua hr h.holds (by decide) hg
   ·exact Hn hb (by decide) e
  ·rcases h.typed (e.elim .inl (fun e=>.inr (.inr e))) hc with q|q|q <;> exact absurd q (by decide)
  ·rcases h.typed (e.elim .inl (fun e=>.inr (.inr e))) hc with q|q|q <;> exact absurd q (by decide)
theorem QGi(giv:QBb)(file k:Nat)(l:List FdT)(h:Qkd giv file=none):Qkd (giv++[((file:Int),l)]) k=if k=file then some l else Qkd giv k:=by
 unfold Qkd at *
 rw[List.find?_append]
 by_cases e:k=file
 ·subst e
  rw[Option.map_eq_none_iff]at h
  rw[h,if_pos rfl]
  simp
 ·rw[if_neg e]
  cases hf:giv.find? (fun p=>decide (p.1=(k:Int)))with
  | some p=>rfl
  | none=>
   have:¬((file:Int)=(k:Int)):=by omega
   simp[this]
theorem Q4c.close(h:Q4c w lb base fv F ord giv out ov nv fr te dn){file a:Nat}(hf:file<8)(hg:Qkd giv file=none)(ha:a≤out.length)(hfa:fr[file]? = some (a:Int)) :
 Q4c ((w.setCell ⟨lb,11+file,none⟩ (.int .i64 (out.length:Int))).setCell ⟨lb,19+file,none⟩ (.bool true)) lb base fv F ord (giv++[((file:Int),out.drop a)]) out ov nv fr (te.set file (out.length:Int)) (dn.set file true)∧Qaa (R5S lb ov nv) w ((w.setCell ⟨lb,11+file,none⟩ (.int .i64 (out.length:Int))).setCell ⟨lb,19+file,none⟩ (.bool true)):=by
 have k:=((Qaa.refl (· = lb) w).setCell (p:=⟨lb,11+file,none⟩) (.inr rfl) (.int .i64 (out.length:Int))).setCell (p:=⟨lb,19+file,none⟩) (.inr rfl) (.bool true)
 have kS:Qaa (R5S lb ov nv) w ((w.setCell ⟨lb,11+file,none⟩ (.int .i64 (out.length:Int))).setCell ⟨lb,19+file,none⟩ (.bool true)):=k.mono (fun _ _ e=>.inl e)
 have h9:=(h.holds.set (11+file) (.int .i64 (out.length:Int))).set (19+file) (.bool true)
 have H7:(te.set file (out.length:Int)).length=8:=by rw[List.length_set];exact h.tl
 have KL:(dn.set file true).length=8:=by rw[List.length_set];exact h.dl
 simp only[List.setIfInBounds_toArray]at h9
 rw[QSm h.fl h.tl hf,Q6j h.fl H7 h.dl hf]at h9
 refine⟨⟨h9,h.fl,H7,KL,h.files_keep kS,h.flow,Qba h.names k (fun g hg e=>by cases e;exact Qua h.names h.holds (by decide) hg),?_,fun j a1 a2 a3=>?_,h.len,h.lbb,Nat.le_trans h.size k.size⟩,kS⟩
 ·refine h.rows.keeps k (fun g hg e=>?_) (fun b _ e cur=>?_)
  ·cases e
   obtain⟨_,_,hr,_⟩:=h.rows
   exact Qua hr h.holds (by decide) hg
  ·cases e
   refine⟨fun hc=>?_,fun hc=>?_⟩
   ·have:=h.holds.symm.trans hc
    injection this with this;injection this with _ this;exact absurd this (by decide)
   ·have:=h.holds.symm.trans hc
    injection this with this;injection this with _ this;exact absurd this (by decide)
 ·rw[QGi giv file j _ hg]
  by_cases e:j=file
  ·subst e
   rw[if_pos rfl]
   refine .inr ⟨_,a,out.length,rfl,by rw[List.getElem_set_self],?_,by rw[List.getElem_set_self],ha,Nat.le_refl _,?_⟩
   ·rw[List.getElem?_eq_getElem a1]at hfa
    exact Option.some.inj hfa
   ·rw[List.take_of_length_le (by rw[List.length_drop];omega)]
  ·rw[if_neg e]
   rcases h.giv j a1 (by have:=h.tl;have:=h.fl;omega) (by have:=h.dl;have:=h.fl;omega)with⟨q1,q2⟩|⟨l,a,b,q1,q2,q3,q4,q5,q6,q7⟩
   ·exact .inl ⟨q1,by rw[List.getElem_set_ne (Ne.symm e)];exact q2⟩
   ·exact .inr ⟨l,a,b,q1,by rw[List.getElem_set_ne (Ne.symm e)];exact q2,q3,by rw[List.getElem_set_ne (Ne.symm e)];exact q4,q5,q6,q7⟩
end
def Qff(F:List Qoa)(opn:List Nat)(ord:List ByteArray)(giv:QBb):Prop:=∀s∈ord,∃j,∃h:j<F.length,s=F[j].name∧(j∈opn∨Qkd giv j≠none)
theorem Qff.open1{F:List Qoa}{opn:List Nat}{ord:List ByteArray}{giv:QBb}(h:Qff F opn ord giv){file:Nat}(hf:file<F.length):Qff F (opn++[file]) (ord++[F[file].name]) giv:=by
 intro s hs
 rcases List.mem_append.1 hs with hs|hs
 ·obtain⟨j,h1,h2,h3⟩:=h s hs
  exact⟨j,h1,h2,h3.elim (fun e=>.inl (List.mem_append_left _ e)) .inr⟩
 ·simp only[List.mem_singleton]at hs
  exact⟨file,hf,hs,.inl (by simp)⟩
theorem Qff.close1{F:List Qoa}{opn:List Nat}{ord:List ByteArray}{giv:QBb}{file:Nat}{l:List FdT}(h:Qff F (opn++[file]) ord giv)(hg:Qkd giv file=none):Qff F opn ord (giv++[((file:Int),l)]):=by
 intro s hs
 obtain⟨j,h1,h2,h3⟩:=h s hs
 refine⟨j,h1,h2,?_⟩
 rw[QGi giv file j l hg]
 rcases h3 with e|e
 ·rcases List.mem_append.1 e with e|e
  ·exact .inl e
  ·simp only[List.mem_singleton]at e
   exact .inr (by rw[if_pos e];simp)
 ·right
  split
  ·simp
  ·exact e
theorem Qff.fresh{F:List Qoa}{opn:List Nat}{ord:List ByteArray}{giv:QBb}(h:Qff F opn ord giv)(hd:∀i j (hi:i<F.length) (hj:j<F.length),F[i].name=F[j].name→i=j){file:Nat}(hf:file<F.length)(hn:file ∉ opn)(hg:Qkd giv file=none):∀s∈ord,s≠F[file].name:=by
 rintro s hs rfl
 obtain⟨j,h1,h2,h3⟩:=h _ hs
 obtain rfl:=hd _ _ hf h1 h2
 rcases h3 with e|e
 ·exact hn e
 ·exact e hg
theorem Qmc.opn_none{F:List Qoa}{opn:List Nat}{ord:List ByteArray}{giv:QBb}(h:Qmc F opn ord giv){k:Nat}(hk:k∈opn):Qkd giv k=none:=by
 obtain⟨ks,e,hd,_⟩:=h.keys
 cases hg:Qkd giv k with
 | none=>rfl
 | some l=>
  obtain⟨i,hi,e2⟩:=QHi hg
  have hm:(k:Int)∈giv.map (·.1):=List.mem_map.2 ⟨giv[i],List.getElem_mem hi,by rw[e2]⟩
  rw[e]at hm
  obtain⟨k',hk',e3⟩:=List.mem_map.1 hm
  obtain rfl:k'=k:=by omega
  exact absurd rfl ((List.nodup_append.1 hd).2.2 k' hk' k' hk)
theorem QFo{w:World}{b:Nat}{nm:ByteArray}(h:Qca w b #[.string nm] 9):Src Tryz.prog 1 39 (.slice (some ⟨b,0,none⟩) 1 1) 1 [.string nm] w:=by
 refine Src.ofSlice _ Tryz.underlying39 _ 1 1 _ rfl ?_ (fun u hu=>by simp at hu;subst hu;rfl)
 intro j u hj
 have Kj:(⟨b,0,none⟩:Addr).add j=⟨b,j,none⟩:=by unfold Addr.add;split <;> simp_all
 rw[Kj,h.cell j]
 simpa using hj
end Go.Proofs.YtofhcgbihonckaaGreat
