/- Lemmas on the way to the law; no conditions. -/
import Derived.Test.YtgaboghigefgbaaGreatDoorZ41
import Derived.Test.YtgaboghigefgbaaGreatDoorZ28
import Derived.Test.YtgaboghigefgbaaGreatDoorZ45
set_option linter.all false
set_option maxRecDepth 100000
set_option maxHeartbeats 8000000
namespace Go.Proofs.YtgaboghigefgbaaGreatDoor
open Go.Proofs.Tryz
open Go.Lib (hid)
open Go.RowKit
theorem QMj{T:List Qba}(hc:Qia T=0){k:Nat}(hk:k<T.length):(Qab T k).size≤4000:=by
 have hp:=QOa hc;have hl:=Qlb hp.1;have hf:=QJh hp.2.1 k k (Nat.le_refl _) hk;have e:(Qab T k).size=(Qab T k).data.toList.length:=by simp
 rw[e,QVb];unfold Qld;split
 ·simp
 rw[←QPi];omega
theorem Qgh:(prog.info? 9).map (fun i=>(i.zero,i.size,i.bytes))=some (some (.string ⟨#[]⟩),1,16):=by kernel_rfl
theorem Q5m:∀s∈QFk,s.size≤20:=by decide
theorem Q6m:∀s∈QLc,s.size≤20:=by decide
theorem GoS.start{B b:Nat}{w:World}{tv:Value}(nm:ByteArray)(h:QFb B w b){i:Nat}(hi:i≤60) :
 GoS B b w ((((w.alloc (.cells #[tv] 27)).alloc (.cells #[.string ⟨#[]⟩,.slice none 0 0] 31)).alloc (.cells #[.string nm,.slice none 0 0] 31)).alloc (.cells #[.string ⟨#[47]⟩] 9)) tv nm (.slice (some ⟨w.heap.size+1+1+1,0,none⟩) 1 1) (.slice none 0 0) [⟨#[47]⟩] [] i:=by
 have hx:=Holds.new w #[tv] 27;have hr:=Holds.newAt (w:=w.alloc (.cells #[tv] 27)) (B:=w.heap.size+1) (by simp) #[.string ⟨#[]⟩,.slice none 0 0] 31;have ho:=Holds.newAt (w:=(w.alloc (.cells #[tv] 27)).alloc (.cells #[.string ⟨#[]⟩,.slice none 0 0] 31)) (B:=w.heap.size+1+1) (by simp) #[.string nm,.slice none 0 0] 31;have hp:=QWd (w:=((w.alloc (.cells #[tv] 27)).alloc (.cells #[.string ⟨#[]⟩,.slice none 0 0] 31)).alloc (.cells #[.string nm,.slice none 0 0] 31)) (B:=w.heap.size+1+1+1) (base:=w.heap.size) (e:=9) (size:=1) (n:=1) (cs:=#[.string ⟨#[47]⟩]) (by simp) (by omega) rfl (by omega);have k:Qaa (fun _=>False) w ((((w.alloc (.cells #[tv] 27)).alloc (.cells #[.string ⟨#[]⟩,.slice none 0 0] 31)).alloc (.cells #[.string nm,.slice none 0 0] 31)).alloc (.cells #[.string ⟨#[47]⟩] 9)):=((((Qaa.refl _ w).alloc _).alloc _).alloc _).alloc _;exact⟨((hx.alloc _).alloc _).alloc _,(hr.alloc _).alloc _,ho.alloc _,hp,World.ownsRow_nil _ _ _ _,fun _=>rfl,h.keeps k (fun _ e=>e.elim),k.mono (fun _ _ e=>e.elim),h.lt,by simp,by simp;omega,(fun s hs=>by rw[List.mem_singleton]at hs;subst hs;show 1+_≤_;omega),(fun x hx=>by cases hx),by simp;omega⟩
def Qzs(B b:Nat)(nm:ByteArray)(w:World)(e:Ending)(w':World):Prop:=
 ∃(ev:Value) (es:List Qga),e=.returned (.agg #[.string nm,ev])∧w'.ownsRow w.heap.size 39 4 ev es.length (Qha es)∧Qyb es∧es.length≤100∧QFb B w' b∧Qaa (· = b) w w'
theorem QQg(B b base:Nat)(tv:Value)(T:List Qba)(nm:ByteArray)(w:World)(h:QFb B w b)(hT:Qda w base tv T)(hc:Qia T=0)(hl:T.length≤40) :
 Calls prog 9 #[.pointer (some ⟨b,0,none⟩),.agg #[tv],.string nm] w (Qzs B b nm w):=by
 have xv:=GoS.start (tv:=tv) nm h (i:=T.length+6) (by omega);obtain⟨ta,tcap,rfl,bY,Kk⟩:=hT.in.shape;have fv:=hid (fun wx (k:Qaa (· = b) w wx)=>hT.tape h k);have HC:=hid hc;have yQ:=hid xv;clear hT hc h xv;go_enter func9,ntmps9;go_wp2_with fail;go_loopg [22,8] (T.length) (fun f x y wr=>∃(k:Nat) (ps:List ByteArray),x=.int .i64 k∧k≤T.length∧T.length≤k+f∧Hid (GoS B b w wr (.slice ta T.length tcap) nm y (.slice none 0 0) ps [] (T.length-k+6)))
 case atStart=>exact⟨0,_,rfl,by omega,by omega,yQ⟩
 case round=>
  obtain⟨k,ps,rfl,hk,hf,HG⟩:=hrel;obtain⟨pv,rfl⟩:∃y:Value,y=u8:=⟨_,rfl⟩;obtain⟨pa,pc,rfl⟩:=Qea HG.o.hp;have x0:=HG.o.hx.cell 0;have xl:=HG.o.hx.lt;by_cases Hh:k<T.length
  ·have Mg:(k:Int)<(T.length:Int):=by omega
   have HP:=hid (Q5k (fun g=>base≤g) (.slice ta T.length tcap) T (k:Int) wr (fv.o wr HG.o.hK).in);rw[Qut HC.o Hh]at HP;have Gt:=QMj HC.o Hh;generalize Qab T k=s at *
   have Mp:=HG.o.hlen;go_wp2_with fail;refine Calls.mono (by exact HP.o) ?_;rintro e w2 ⟨rfl,Hc⟩;have fJ:=HG.o.fresh Hc;obtain⟨i0,hi,Hz,Ho,H4⟩:=info_parts Qgh;rw[show T.length-k+6=(T.length-(k+1)+6)+1 from by omega]at fJ;have nV:=fJ.alloc (.cells #[.string s] 9);have iS:=hid nV;clear Hc fJ nV x0 xl;go_wp2_with(at_builtin;refine wpList_append_own _ rfl (.tmp 25) (.tmp 29) 70 rfl w.heap.size 9 i0 (.string ⟨#[]⟩) 1 16 underlying70 hi Hz Ho H4 rfl (by decide) (.slice pa ps.length pc) ps.length (QBc ps) rfl (by exact iS.o.hp) ⟨w2.heap.size,0,none⟩ 1 1 [.string s] rfl rfl ?c1 ?c2 ?c3 ?c4 ?c5 ?_)
   case c1=>exact Q8a _ _ _ _ rfl _ rfl
   case c2=>intro u hu;simp at hu;subst hu;rfl
   case c3=>unfold maxLen;omega
   case c4=>omega
   case c5=>exact iS.o.size
   intro v' w6 Hj Hd _;have fK:=iS.o.path Hj Hd (by omega);have iT:=hid fK;clear Hj Hd fK;obtain⟨va,vc,hv⟩:=Qea iT.o.hp;subst hv;go_wp2_with fail;go_roundg (gk-1)
   case measure=>omega
   case rel=>exact⟨k+1,_,by go_num,by omega,by omega,iT⟩
  have Mg:¬(k:Int)<(T.length:Int):=by omega
  have fJ:=HG.o;rw[show T.length-k+6=6 from by omega]at fJ;have dM:=hid fJ;clear fJ HG x0 xl;go_wp2_with fail;refine(QUg B b 6 _ dM.o.hT (by omega) (by omega)).mono ?_;rintro e w2 ⟨r,rfl,r0,r1,g8,H3⟩;obtain⟨r,rfl⟩:=Int.eq_ofNat_of_zero_le r0;have nV:=dM.o.turn g8 H3;have iS:=hid nV;clear nV g8 H3 dM;obtain⟨go,rfl⟩:∃x:Nat,x=gk:=⟨_,rfl⟩;obtain⟨wo,rfl⟩:∃x:World,x=wr:=⟨_,rfl⟩;go_wp2_with fail;go_loopg [8,10] r (fun f x y wr=>∃(i:Nat) (ps:List ByteArray) (ev:Value) (es:List Qga),y=.int .i64 i∧i≤f∧Hid (GoS B b w wr (.slice ta T.length tcap) nm x ev ps es (i+1)))
  case atStart=>exact⟨r,ps,.slice none 0 0,[],rfl,Nat.le_refl _,hid (iS.o.mono (by omega))⟩
  case round=>
   clear iS;obtain⟨i,ps,ev,es,rfl,hf,HG⟩:=hrel;obtain⟨pv,rfl⟩:∃y:Value,y=u8:=⟨_,rfl⟩;obtain⟨ea,ec,rfl⟩:=Qea HG.o.he;obtain⟨pg,pc,rfl,hpg1,vp⟩:=HG.o.hp.form HG.o.hpos;have hpos:=HG.o.hpos;have Mp:=HG.o.hlen;have hel:=HG.o.hel;by_cases mf:0<i
   ·have lz:(0:Int)<(i:Int):=by omega
    obtain⟨j,rfl⟩:∃j,i=j+1:=⟨i-1,by omega⟩;go_wp2_with fail;refine(QUg B b (ps.length:Int) _ HG.o.hT (by omega) (by omega)).mono ?_;rintro e w4 ⟨q,rfl,q0,q1,Mn,KA⟩;obtain⟨q,rfl⟩:=Int.eq_ofNat_of_zero_le q0;have hq:q<ps.length:=by omega
    have fK:=HG.o.turn Mn KA;have xV:w4.cell? ⟨pg,q,none⟩=some (.string ps[q]):=by
     rw[fK.hp.cellAt q (by omega)];simp[QBc,hq]
    have gG:=World.block_lt_of_cell? w4 _ xV;have hpsz:=fK.hsz ps[q] (List.getElem_mem hq);have iT:=hid fK;clear Mn KA fK HG vp;generalize ps[q]=p at *
    go_wp2_with fail;refine(Q6f B b 1 3 _ iT.o.hT (by omega) (by omega) (by omega)).mono ?_;rintro e w5 ⟨kd,rfl,kd0,kd1,mA,gW⟩;have qH:=iT.o.turn mA gW;have xt:=Holds.new w5 #[.int .i64 kd,.string p,.string ⟨#[]⟩,.string ⟨#[]⟩] 39;have i7:(Value.slice ea es.length ec).ownBlock≠some w5.heap.size:=fun e=>by have:=(qH.he.lt _ e).2;omega
    have i9:w.heap.size≤w5.heap.size:=qH.size;have fg:=hid (qH.alloc (.cells #[.int .i64 kd,.string p,.string ⟨#[]⟩,.string ⟨#[]⟩] 39));have Kw:=hid xt;clear mA gW qH xt xV gG iT;have cI:¬w5.heap.size=b:=by have:=fg.o.hb;omega
    go_upto_block 4 with fail;generalize w5.alloc (.cells #[.int .i64 kd,.string p,.string ⟨#[]⟩,.string ⟨#[]⟩] 39)=W5 at *
    generalize w5.heap.size=E at *
    go_cut [8] (fun y wx=>∃(ps':List ByteArray) (pt nn vv:ByteArray),Hid (Holds wx E #[.int .i64 kd,.string pt,.string nn,.string vv] 39)∧(pt.size≤100000∧nn.size≤1000∧vv.size≤1000)∧Hid (GoS B b w wx (.slice ta T.length tcap) nm y (.slice ea es.length ec) ps' es (j+1)))
    case first=>
     have GH:kd=1∨kd=2∨kd=3:=by omega
     clear kd0 kd1;rcases GH with rfl|rfl|rfl
     ·have JV:=True.intro;obtain⟨s1,fX,Gn,_⟩:=QCl p ⟨#[47]⟩ (by show _+1≤_;omega);have hs1':s1.size=p.size+1:=Gn;unfold Q7q at fX;have e0:=Kw.o.cell 0;have e1:=Kw.o.cell 1;have e2:=Kw.o.cell 2;have e3:=Kw.o.cell 3;have f1:=Kw.o.free 1;have f2:=Kw.o.free 2;have f3:=Kw.o.free 3;have fl:=Kw.o.lt;go_wp2_with fail;refine(Q9l B b _ fg.o.hT).mono ?_;rintro e w6 ⟨n1,rfl,Mq,M7,Kl⟩;have pG:=Q5m n1 Mq;obtain⟨s2,lq,Gx,_⟩:=QCl s1 n1 (by omega);unfold Q7q at lq;clear e0 e1 e2 e3 f1 f2 f3 fl;have iU:=hid (fg.o.turn M7 Kl);have kN:=hid (Kw.o.keeps Kl cI);clear M7 Kl;have e0:=kN.o.cell 0;have e1:=kN.o.cell 1;have e2:=kN.o.cell 2;have e3:=kN.o.cell 3;have f1:=kN.o.free 1;have f2:=kN.o.free 2;have f3:=kN.o.free 3;have fl:=kN.o.lt;have cr:=hid (iU.o.other (o:=1) kN.o i9 (by decide) (by decide) (by decide) (.inr i7) (.string s2));have KR:=hid (kN.o.set 1 (.string s2));have JT:Hid (Holds (w6.setCell ⟨E,1,none⟩ (.string s2)) E #[.int .i64 1,.string s2,.string ⟨#[]⟩,.string ⟨#[]⟩] 39):=KR;clear KR;have g1:=JT.o.cell 1;have h1:=JT.o.free 1;have GO:=JT.o.lt;cases hroot:(p.toList == [47])with
      | false=>
       have KR:=JT;obtain⟨i0,hi,Hz,Ho,H4⟩:=info_parts Qgh;have cu:=hid (cr.o.alloc (.cells #[.string s2] 9));have l7:=hid (KR.o.alloc (.cells #[.string s2] 9));go_wp2_with(at_builtin;refine wpList_append_own _ rfl (.tmp 68) (.tmp 71) 70 rfl w.heap.size 9 i0 (.string ⟨#[]⟩) 1 16 underlying70 hi Hz Ho H4 rfl (by decide) (.slice (some ⟨pg,0,none⟩) ps.length pc) ps.length (QBc ps) rfl (by exact cu.o.hp) ⟨_,0,none⟩ 1 1 [.string s2] rfl rfl ?c1 ?c2 ?c3 ?c4 ?c5 ?_)
       case c1=>exact Q8a _ _ _ _ (by simp) _ rfl
       case c2=>intro u hu;simp at hu;subst hu;rfl
       case c3=>unfold maxLen;omega
       case c4=>omega
       case c5=>exact cu.o.size
       intro v' w9 Hj Hd _;have J9:=cu.o.path Hj Hd (by omega);have nU:=l7.o.grown Hd (QLa cu.o.hp l7.o (by decide));have fj:=hid J9;have l6:=hid nU;clear Hj Hd J9 nU;obtain⟨va,vc,hv⟩:=Qea fj.o.hp;subst hv;go_wp2_with fail;go_meet;exact⟨_,_,_,_,l6,⟨by omega,by decide,by decide⟩,fj⟩
      | true=>
       go_wp2_with fail;refine(Q9l B b _ cr.o.hT).mono ?_;rintro e w8 ⟨n2,rfl,mg,qQ,M5⟩;have hn22:=Q5m n2 mg;obtain⟨s3,Af,lL,_⟩:=QCl ⟨#[47]⟩ n2 (by show 1+_≤_;omega);have hs3':s3.size=1+n2.size:=lL;unfold Q7q at Af;have KR:=JT;clear e0 e1 e2 e3 f1 f2 f3 fl g1 h1 GO;have fh:=hid (cr.o.turn qQ M5);have mO:=hid (KR.o.keeps M5 cI);clear qQ M5;have e0:=mO.o.cell 0;have e1:=mO.o.cell 1;have e2:=mO.o.cell 2;have e3:=mO.o.cell 3;have f1:=mO.o.free 1;have f2:=mO.o.free 2;have f3:=mO.o.free 3;have fl:=mO.o.lt;have rX:=hid (fh.o.other (o:=1) mO.o i9 (by decide) (by decide) (by decide) (.inr i7) (.string s3));have jX:=hid (mO.o.set 1 (.string s3));have l5:Hid (Holds (w8.setCell ⟨E,1,none⟩ (.string s3)) E #[.int .i64 1,.string s3,.string ⟨#[]⟩,.string ⟨#[]⟩] 39):=jX;clear jX;have jX:=l5;have g1:=jX.o.cell 1;have GO:=jX.o.lt;obtain⟨i0,hi,Hz,Ho,H4⟩:=info_parts Qgh;have cu:=hid (rX.o.alloc (.cells #[.string s3] 9));have l7:=hid (jX.o.alloc (.cells #[.string s3] 9));go_wp2_with(at_builtin;refine wpList_append_own _ rfl (.tmp 68) (.tmp 71) 70 rfl w.heap.size 9 i0 (.string ⟨#[]⟩) 1 16 underlying70 hi Hz Ho H4 rfl (by decide) (.slice (some ⟨pg,0,none⟩) ps.length pc) ps.length (QBc ps) rfl (by exact cu.o.hp) ⟨_,0,none⟩ 1 1 [.string s3] rfl rfl ?c1 ?c2 ?c3 ?c4 ?c5 ?_)
       case c1=>exact Q8a _ _ _ _ (by simp) _ rfl
       case c2=>intro u hu;simp at hu;subst hu;rfl
       case c3=>unfold maxLen;omega
       case c4=>omega
       case c5=>exact cu.o.size
       intro v' w9 Hj Hd _;have J9:=cu.o.path Hj Hd (by omega);have nU:=l7.o.grown Hd (QLa cu.o.hp l7.o (by decide));have fj:=hid J9;have l6:=hid nU;clear Hj Hd J9 nU;obtain⟨va,vc,hv⟩:=Qea fj.o.hp;subst hv;go_wp2_with fail;go_meet;exact⟨_,_,_,_,l6,⟨by omega,by decide,by decide⟩,fj⟩
     ·have JV:=True.intro;have e0:=Kw.o.cell 0;have e1:=Kw.o.cell 1;have e2:=Kw.o.cell 2;have e3:=Kw.o.cell 3;have f1:=Kw.o.free 1;have f2:=Kw.o.free 2;have f3:=Kw.o.free 3;have fl:=Kw.o.lt;go_wp2_with fail;refine(Q6d B b _ fg.o.hT).mono ?_;rintro e w6 ⟨n1,rfl,Mq,M7,Kl⟩;have pG:=Q6m n1 Mq;clear e0 e1 e2 e3 f1 f2 f3 fl;have iU:=hid (fg.o.turn M7 Kl);have kN:=hid (Kw.o.keeps Kl cI);clear M7 Kl;go_wp2_with fail;refine(QQi B b _ iU.o.hT).mono ?_;rintro e w7 ⟨n2,rfl,mg,bM,mE⟩;have cr:=hid (iU.o.turn bM mE);have KR:=hid (kN.o.keeps mE cI);clear bM mE;have e0:=KR.o.cell 0;have e1:=KR.o.cell 1;have e2:=KR.o.cell 2;have e3:=KR.o.cell 3;have f1:=KR.o.free 1;have f2:=KR.o.free 2;have f3:=KR.o.free 3;have fl:=KR.o.lt;have fh:=hid (cr.o.other (o:=2) KR.o i9 (by decide) (by decide) (by decide) (.inr i7) (.string n1));have mO:=hid (KR.o.set 2 (.string n1));have fj:=hid (fh.o.other (o:=3) mO.o i9 (by decide) (by decide) (by decide) (.inr i7) (.string n2));have l6:=hid (mO.o.set 3 (.string n2));have g2:=mO.o.cell 3;have g3:=mO.o.free 3;have gl:=mO.o.lt;go_wp2_with fail;go_meet;exact⟨_,_,_,_,l6,⟨by omega,by omega,by omega⟩,hid fj.o.less⟩
     have JV:=True.intro;have e0:=Kw.o.cell 0;have e1:=Kw.o.cell 1;have e2:=Kw.o.cell 2;have e3:=Kw.o.cell 3;have f1:=Kw.o.free 1;have f2:=Kw.o.free 2;have f3:=Kw.o.free 3;have fl:=Kw.o.lt;go_wp2_with fail;refine(Q6d B b _ fg.o.hT).mono ?_;rintro e w6 ⟨n1,rfl,Mq,M7,Kl⟩;have pG:=Q6m n1 Mq;clear e0 e1 e2 e3 f1 f2 f3 fl;have iU:=hid (fg.o.turn M7 Kl);have kN:=hid (Kw.o.keeps Kl cI);clear M7 Kl;have e0:=kN.o.cell 0;have e1:=kN.o.cell 1;have e2:=kN.o.cell 2;have e3:=kN.o.cell 3;have f1:=kN.o.free 1;have f2:=kN.o.free 2;have f3:=kN.o.free 3;have fl:=kN.o.lt;have fh:=hid (iU.o.other (o:=2) kN.o i9 (by decide) (by decide) (by decide) (.inr i7) (.string n1));have mO:=hid (kN.o.set 2 (.string n1));go_wp2_with fail;go_meet;exact⟨_,_,_,_,mO,⟨by omega,by omega,by decide⟩,hid fh.o.less⟩
    case rest=>
     obtain⟨ps',pt,nn,vv,HE,⟨Ho,H4,hz3⟩,HG⟩:=hcut;obtain⟨w6,rfl⟩:∃x:World,x=wc:=⟨_,rfl⟩;go_wp2_with fail;refine(QUg B b 25 _ HG.o.hT (by omega) (by omega)).mono ?_;rintro e w7 ⟨z,rfl,z0,z1,bM,mE⟩;have cr:=hid (HG.o.turn bM mE);have KR:=hid (HE.o.keeps mE cI);clear bM mE HG HE;have f1:=KR.o.free 1;have c1:=KR.o.cell 1;have fl:=KR.o.lt
     go_upto_if 83 with fail
     go_cut [84] (fun _ wx=>∃pt':ByteArray,Hid (Holds wx E #[.int .i64 kd,.string pt',.string nn,.string vv] 39)∧pt'.size≤100000∧Hid (GoS B b w wx (.slice ta T.length tcap) nm u8 (.slice ea es.length ec) ps' es (j+1)))
     case first=>
      by_cases hz:z=24
      ·subst hz;have fh:=hid (cr.o.other (o:=1) KR.o i9 (by decide) (by decide) (by decide) (.inr i7) (.string ⟨#[47,109,105,115,115,105,110,103]⟩));have mO:=hid (KR.o.set 1 (.string ⟨#[47,109,105,115,115,105,110,103]⟩));go_wp2_with fail;go_meet;exact⟨_,mO,by decide,fh⟩
      have vS:(z==24)=false:=by simpa using hz
      go_wp2_with fail;go_meet;exact⟨_,KR,Ho,cr⟩
     case rest=>
      clear f1 c1 fl cr KR;obtain⟨pt',HE,hz4,HG⟩:=hcut;obtain⟨w8,rfl⟩:∃x:World,x=wc:=⟨_,rfl⟩;obtain⟨gm,rfl⟩:∃x:Nat,x=gk:=⟨_,rfl⟩;obtain⟨wm,rfl⟩:∃x:World,x=wr:=⟨_,rfl⟩;have o1:=HG.o.ho.cell 1;have ol:=HG.o.ho.lt;go_wp2_with fail;clear o1 ol;go_loopg [88,13] (es.length) (fun f x y wr=>∃(q:Nat) (kn:Bool),x=.int .i64 q∧y=.bool kn∧q≤es.length∧es.length≤q+f∧Hid (GoS B b w wr (.slice ta T.length tcap) nm u8 (.slice ea es.length ec) ps' es (j+1))∧Hid (Holds wr E #[.int .i64 kd,.string pt',.string nn,.string vv] 39))
      case atStart=>exact⟨0,false,rfl,rfl,by omega,by omega,HG,HE⟩
      case round=>
       clear HG HE;obtain⟨q,kn,rfl,rfl,pT,KI,HG,HE⟩:=hrel;by_cases Hh:q<es.length
       ·have Mg:(q:Int)<(es.length:Int):=by omega
        obtain⟨g,o,e1,hg,Hw⟩:=Q7a (Q8c HG.o.he) (by omega);subst e1;obtain⟨d0,d1,d2,d3⟩:=Hw q Hh;have dM:=hid (HG.o.alloc (.cells #[.int .i64 es[q].kind,.string es[q].path,.string es[q].name,.string es[q].value] 39));have qr:=hid (HE.o.alloc (.cells #[.int .i64 es[q].kind,.string es[q].path,.string es[q].name,.string es[q].value] 39));have b1:=HE.o.cell 1;have b2:=HE.o.cell 2;have bl:=HE.o.lt;clear Hw;generalize es[q]=x at *
        cases kn with
        | true=>
         go_wp2_with fail;go_roundg (gk-1)
         case measure=>omega
         case rel=>exact⟨q+1,_,by go_num,rfl,by omega,by omega,dM,qr⟩
        | false=>
         cases h1:(x.path.toList==pt'.toList)with
         | false=>
          go_wp2_with fail;go_roundg (gk-1)
          case measure=>omega
          case rel=>exact⟨q+1,_,by go_num,rfl,by omega,by omega,dM,qr⟩
         | true=>
          cases h2:(x.name.toList==nn.toList)with
          | false=>
           go_wp2_with fail;go_roundg (gk-1)
           case measure=>omega
           case rel=>exact⟨q+1,_,by go_num,rfl,by omega,by omega,dM,qr⟩
          | true=>
           go_wp2_with fail;go_roundg (gk-1)
           case measure=>omega
           case rel=>exact⟨q+1,_,by go_num,rfl,by omega,by omega,dM,qr⟩
       have Mg:¬(q:Int)<(es.length:Int):=by omega
       cases kn with
       | true=>
        go_wp2_with fail;go_roundg (gm-1)
        case measure=>omega
        case rel=>exact⟨j,ps',.slice ea es.length ec,es,by go_num,by omega,HG⟩
       | false=>
        have o1:=HG.o.ho.cell 1;have ol:=HG.o.ho.lt;have b0:=HE.o.cell 0;have b1:=HE.o.cell 1;have b2:=HE.o.cell 2;have b3:=HE.o.cell 3;have bl:=HE.o.lt;have wD:=hid (Qyt w.heap.size (.slice ea es.length ec) es ⟨kd,pt',nn,vv⟩ wr HG.o.he HG.o.hnil HG.o.size (by omega));go_wp2_with fail;refine Calls.mono (by exact wD.o) ?_;rintro e w9 ⟨v',k2,kW,rfl,Hi,Gq⟩;obtain⟨va,vc,rfl⟩:=Qea Hi;have jP:(es.take k2++(⟨kd,pt',nn,vv⟩:Qga)::es.drop k2).length=es.length+1:=by simp;omega
        have yC:Qyb (es.take k2++(⟨kd,pt',nn,vv⟩:Qga)::es.drop k2):=by
         intro y hy;rcases List.mem_append.1 hy with hy|hy
         ·exact HG.o.hes y (List.mem_of_mem_take hy)
         rcases List.mem_cons.1 hy with rfl|hy
         ·exact⟨by show pt'.size≤_;omega,by show nn.size≤_;omega,by show vv.size≤_;omega⟩
         exact HG.o.hes y (List.mem_of_mem_drop hy)
        have J9:=HG.o.fresh Gq;have xw:=J9.put (v':=.slice va (es.length+1) vc) (es':=es.take k2++(⟨kd,pt',nn,vv⟩:Qga)::es.drop k2) (by rw[jP];exact Hi) (by simp) yC (by rw[jP];omega);have y1:=J9.ho.cell 1;have y2:=J9.ho.free 1;have yl:=J9.ho.lt;have yR:=hid xw;have ws:=hid jP;clear J9 xw Hi Gq yC jP wD o1 ol b0 b1 b2 b3 bl;go_wp2_with fail;go_roundg (gm-1)
        case measure=>omega
        case rel=>exact⟨j,ps',_,_,by go_num,by omega,yR⟩
   have lz:¬(0:Int)<(i:Int):=by omega
   obtain⟨q1,q2,q3⟩:=HG.o.o;have o0:=HG.o.ho.cell 0;have o1:=HG.o.ho.cell 1;have ol:=HG.o.ho.lt;have r0:=HG.o.hr.free 0;have r1:=HG.o.hr.free 1;have rl:=HG.o.hr.lt;have s0:=HG.o.hr.cell 0;have s1:=HG.o.hr.cell 1;have Mh:=(HG.o.hr.set 0 (.string nm)).set 1 (.slice ea es.length ec);have z0:=Mh.cell 0;have z1:=Mh.cell 1;have yO:=hid (show Qzs B b nm w (.returned (.agg #[.string nm,.slice ea es.length ec])) _ from⟨.slice ea es.length ec,es,rfl,q1,HG.o.hes,by have:=HG.o.hel;omega,q2,q3⟩);clear q1 q2 q3 Mh;go_wp2_with fail;exact bodyPost_ret (v:=.agg #[.string nm,.slice ea es.length ec]) (by simp[results,Tryz.results9,go_sem,z0,z1]) rfl yO.o
theorem Qop(rb base:Nat)(ov ev pv:Value)(nm text:ByteArray)(d4 d5 d6:Int)(op:List ByteArray)(p:ByteArray)(t0 t1 s:ByteArray)(w:World)
 (hR:Holds w rb #[ov,ev] 120) (hV:∀wx,Below w.heap.size w wx→Calls prog 123 #[pv] wx fun e w'=>e=.returned (.tuple #[.string text,.bool true])∧Below wx.heap.size wx w')
 (Kf:∃a n c,pv=.slice a n c) (Ht:Lib.hasPrefix nm.data.toList [38]=false) (Mi:text.size≤256) (hb:base≤w.heap.size) (K1:w.ownsRow base 9 1 ov (op.length+1) (QBc (op++[p]))) (hp:p.size≤1000000) (ht0:(⟨(Lib.trimSuffix p.data.toList [47]).toArray⟩:ByteArray)=t0) (fX:Q7q t0 ⟨#[47]⟩ t1) (lq:Q7q t1 nm s) (KG:op.length≤1000) :
 Calls prog 86 #[.pointer (some ⟨rb,0,none⟩),.agg #[.int .i64 1,.string ⟨#[]⟩,.string nm,pv,.int .i64 d4,.int .i64 d5,.int .i64 d6]] w fun e w'=>∃ov',e=.returned (.tuple #[.agg #[.int .i64 1,.string s,.string ⟨#[]⟩,.string ⟨#[]⟩],.bool true,.int .i64 0])∧Holds w' rb #[ov',ev] 120∧w'.ownsRow base 9 1 ov' (op.length+1+1) (QBc (op++[p,s]))∧Qaa (fun i=>i=rb∨ov.ownBlock=some i) w w':=by
 obtain⟨og,oc,rfl,aV,Hf⟩:=K1.form (by omega);have dR:=hid K1;have aW:=Qkh K1;unfold Q7q at fX lq;have qy:=hid (fun wx=>Tryz.strings_TrimSuffix p ⟨#[47]⟩ wx (by omega));rw[show(⟨#[47]⟩:ByteArray).data.toList=[47]from rfl,ht0]at qy;clear K1 ht0;obtain⟨va,vn,vc,rfl⟩:=Kf;have jM:=(Holds.new w #[.int .i64 1,.string ⟨#[]⟩,.string nm,.slice va vn vc,.int .i64 d4,.int .i64 d5,.int .i64 d6] 123).alloc (.cells #[.int .i64 0,.string ⟨#[]⟩,.string ⟨#[]⟩,.string ⟨#[]⟩] 39);have Hz:=Holds.newAt (w:=w.alloc (.cells #[.int .i64 1,.string ⟨#[]⟩,.string nm,.slice va vn vc,.int .i64 d4,.int .i64 d5,.int .i64 d6] 123)) (B:=w.heap.size+1) (by simp) #[.int .i64 0,.string ⟨#[]⟩,.string ⟨#[]⟩,.string ⟨#[]⟩] 39;have He:Below w.heap.size w ((w.alloc (.cells #[.int .i64 1,.string ⟨#[]⟩,.string nm,.slice va vn vc,.int .i64 d4,.int .i64 d5,.int .i64 d6] 123)).alloc (.cells #[.int .i64 0,.string ⟨#[]⟩,.string ⟨#[]⟩,.string ⟨#[]⟩] 39)):=(Bq).alloc (by simp) _;have jz:=hid jM;have Kr:=hid Hz;have gK:=hid He;have HV:=hid (hV _ He);have jA:=hid (fun wx=>Tryz.strings_HasPrefix nm ⟨#[38]⟩ wx);rw[show(⟨#[38]⟩:ByteArray).data.toList=[38]from rfl,Ht]at jA;have rA:¬(256:Int)<(text.size:Int):=by omega
 clear jM Hz He hV Ht;go_enter func86,ntmps86;go_wp2_with fail;refine Calls.mono (by exact HV.o) ?_;rintro e w1 ⟨rfl,Hb⟩;have Gy:=jz.o.fr Hb;have Ho:=Kr.o.fr Hb;have Hq:=hid (gK.o.trans (Hb.mono gK.o.size));have gi:=hR.fr Hq.o;have a0:=Gy.cell 0;have a1:=Gy.cell 1;have a2:=Gy.cell 2;have a3:=Gy.cell 3;have al:=Gy.lt;have z0:=Ho.cell 0;have z1:=Ho.cell 1;have z2:=Ho.cell 2;have z3:=Ho.cell 3;have zf0:=Ho.free 0;have zf1:=Ho.free 1;have zf2:=Ho.free 2;have zf3:=Ho.free 3;have zl:=Ho.lt;have r0:=gi.cell 0;have r1:=gi.cell 1;have rf0:=gi.free 0;have rf1:=gi.free 1;have rl:=gi.lt;have Kx:=hid gi;have cm:=hid Gy;have GT:=hid Ho;have hrb:¬rb=w.heap.size+1:=by have:=hR.lt;omega
 have ry:=hR.lt;clear Gy Ho Hb gi jz Kr HV hR;go_wp2_with fail;refine Calls.mono (by exact jA.o _) ?_;rintro e w2 ⟨rfl,rfl⟩;have ML:=Qbb dR.o Hq.o;have gB:w2.cell? ⟨og,op.length,none⟩=some (.string p):=by
  rw[ML.cellAt _ (by omega)];simp[QBc]
 have iv:=World.block_lt_of_cell? w2 _ gB;have yj:¬((op.length:Int)+1=0):=by omega
 have qY:(op.length:Int)<(op.length:Int)+1:=by omega
 have qZ:IntKind.i64.wrap (op.length:Int)=(op.length:Int):=IntWalk.i64_in _ (by omega);clear ML;go_wp2_with fail;go_upto_region 14 with fail;refine wp_region_any (by kernel_rfl) ?_;refine QUa (ops':=Qyi) (by kernel_rfl) ?_;refine Qem rb w.heap.size og op.length (op.length+1) oc ev (.slice va vn vc) nm p t0 t1 s d4 d5 d6 w2 _ _ rfl (hid rfl) KG (hid fX) (hid lq) qy rfl rfl ⟨Kx.o,cm.o,gB⟩ ((Below.refl _ _).drew) ?_;intro c w3 gI h9 Hg;obtain⟨y9,y75,y76,y77,y78,y79,y80,y81,y82,y83,y84,y85,y86,y87,y88,y89,y90,y91,rfl⟩:=gI.ex [9,75,76,77,78,79,80,81,82,83,84,85,86,87,88,89,90,91] (by kernel_rfl);simp only[List.setIfInBounds_toArray,List.set_cons_zero,List.set_cons_succ]at h9 ⊢;have h9':y9=.string s:=h9;subst h9';have nv:=hid (Kx.o.fr Hg);have KT:=hid (GT.o.fr Hg);have bB:=hid (Qbb (Qbb dR.o Hq.o) Hg);have kC:=hid (Hq.o.trans (Hg.mono Hq.o.size));have r0:=nv.o.cell 0;have rf0:=nv.o.free 0;have rl:=nv.o.lt;obtain⟨i0,hi,Hz,Ho,H4⟩:=info_parts Qgh;clear gI h9 Hg a0 a1 a2 a3 al z0 z1 z2 z3 zf0 zf1 zf2 zf3 zl r1 rf1 gB iv;go_wp2_with(at_builtin;refine wpList_append_own _ rfl (.tmp 96) (.tmp 98) 70 rfl base 9 i0 (.string ⟨#[]⟩) 1 16 underlying70 hi Hz Ho H4 rfl (by decide) (.slice (some ⟨og,0,none⟩) (op.length+1) oc) (op.length+1) (QBc (op++[p])) rfl (by exact World.ownsRow.alloc bB.o _) ⟨w3.heap.size,0,none⟩ 1 1 [.string s] rfl rfl ?c1 ?c2 ?c3 ?c4 ?c5 ?_)
 case c1=>exact Q8a _ _ _ _ rfl _ rfl
 case c2=>intro u hu;simp at hu;subst hu;rfl
 case c3=>unfold maxLen;omega
 case c4=>omega
 case c5=>have:=kC.o.size;simp;omega
 intro v' w6 Hj Hd _;have kT:=(nv.o.alloc (.cells #[.string s] 9)).grown Hd (QLa (World.ownsRow.alloc bB.o (.cells #[.string s] 9)) (nv.o.alloc (.cells #[.string s] 9)) (by decide));have JE:=(KT.o.alloc (.cells #[.string s] 9)).grown Hd (QLa (World.ownsRow.alloc bB.o (.cells #[.string s] 9)) (KT.o.alloc (.cells #[.string s] 9)) (by decide));have Kl:Qaa (fun i=>i=rb∨(Value.slice (some ⟨og,0,none⟩) (op.length+1) oc).ownBlock=some i) w w6:=((Qaa.of_fresh kC.o (fun i=>i=rb∨(Value.slice (some ⟨og,0,none⟩) (op.length+1) oc).ownBlock=some i)).alloc _).grown Hd (fun i e=>.inr (.inr e));have Mk:=hid Hj;have ji:=hid kT;have J3:=hid JE;have je:=hid Kl;clear Hj Hd kT JE Kl r0 rf0 rl;obtain⟨va2,vc2,hv⟩:=Qea Mk.o;subst hv;have r0:=ji.o.cell 0;have rf0:=ji.o.free 0;have rl:=ji.o.lt;have z0:=J3.o.cell 0;have z1:=J3.o.cell 1;have z2:=J3.o.cell 2;have z3:=J3.o.cell 3;have zf0:=J3.o.free 0;have zf1:=J3.o.free 1;have zf2:=J3.o.free 2;have zf3:=J3.o.free 3;have zl:=J3.o.lt;go_wp2_with fail;obtain⟨q1,q2,q3,q4⟩:=Q5h (w:=w) (.int .i64 1) (.string s) (.string ⟨#[]⟩) (.string ⟨#[]⟩) (ji.o.set 0 (.slice va2 (op.length+1+1) vc2)) (J3.o.other ⟨rb,0,none⟩ (.slice va2 (op.length+1+1) vc2) (fun e=>hrb e.symm)) hrb (by omega) (je.o.setCell (p:=⟨rb,0,none⟩) (.inr (.inl rfl)) _);have f0:=q2.cell 0;have f1:=q2.cell 1;have f2:=q2.cell 2;have f3:=q2.cell 3;have Hn:(op++[p,s]).map Value.string=QBc (op++[p])++[.string s]:=by simp[QBc]
 exact bodyPost_ret (v:=.tuple #[.agg #[.int .i64 1,.string s,.string ⟨#[]⟩,.string ⟨#[]⟩],.bool true,.int .i64 0]) (by simp[results,Tryz.results86,go_sem,f0,f1,f2,f3]) rfl ⟨_,rfl,q1,by unfold QBc at Hn ⊢;rw[Hn];exact Qca (Qca Mk.o ((Qaa.refl (· = rb) w6).setCell (p:=⟨rb,0,none⟩) (.inr rfl) _) (fun g hg e=>QLa Mk.o ji.o (by decide) (by rw[hg,e]))) q4 (fun g hg e=>QLa Mk.o J3.o (by decide) (by rw[hg,e])),q3⟩
theorem Qsb.swapW{ops:Array Oper}{A c:Act}{F F':Nat→Value→World→Prop}{S:World→Prop}{l:Array Bool}{w:World}(h:Qsb ops A F S l c w)(hf:∀j u,l.getD j false=true→F j u w→F' j u w):Qsb ops A F' S l c w:=
 ⟨⟨h.1.1,h.1.2.1,h.1.2.2.1,fun j hj hl=>hf j _ hl (h.1.2.2.2 j hj hl)⟩,h.2⟩
noncomputable def Qpe:Array Oper:=(QPa (Tryz.f6.body.getD .skip) 5).getD #[]
theorem owR:Q0b .any Qpe=true:=by kernel_rfl
theorem QKs:QRb Qpe=true:=by kernel_rfl
theorem QOu:Qpe.size=10:=by kernel_rfl
def OwG(tb:Nat)(tv ev1 ev2:Value)(x y:Nat)(j:Nat):Value→Prop:=match j with
 | 0=>fun u=>u=.pointer (some ⟨tb,0,none⟩)
 | 1=>fun u=>u=.agg #[tv]
 | 2=>fun u=>u=.agg #[.string ⟨#[99,97,112,101]⟩,ev1]
 | 3=>fun u=>u=.pointer (some ⟨tb,0,none⟩)
 | 4=>fun u=>u=.agg #[tv]
 | 5=>fun u=>u=.agg #[.string ⟨#[104,97,116]⟩,ev2]
 | 6=>fun u=>u=.pointer (some ⟨x,0,none⟩)
 | 7=>fun u=>u=.pointer (some ⟨y,0,none⟩)
 | _=>fun _=>True
def OwF(tb:Nat)(tv ev1 ev2:Value)(x y:Nat)(j:Nat)(u:Value)(_:World):Prop:=OwG tb tv ev1 ev2 x y j u
theorem OwG.turn{tb x y x' y':Nat}{tv ev1 ev2 ev1' ev2' u:Value}{j:Nat}(h:OwG tb tv ev1 ev2 x y j u)(h2:j=2→ev1=ev1')(h5:j=5→ev2=ev2')(h6:j=6→x=x')(h7:j=7→y=y'):OwG tb tv ev1' ev2' x' y' j u:=by
 rcases j with _|_|_|_|_|_|_|_|j
 ·exact h
 ·exact h
 ·rw[←h2 rfl];exact h
 ·exact h
 ·exact h
 ·rw[←h5 rfl];exact h
 ·rw[←h6 rfl];exact h
 ·rw[←h7 rfl];exact h
 trivial
def QLf(tb:Nat)(ev:Value)(es:List Qga)(w:World):Prop:=w.ownsRow (tb+1) 39 4 ev es.length (Qha es)∧Qyb es∧es.length≤100
structure OwE(B tb:Nat)(W:World)(ev1 ev2:Value)(es1 es2:List Qga)(x y:Nat)(b2 b5 b6 b7 b8 b9:Bool)(wx:World):Prop where
 k:Qaa (· = tb) W wx
 tp:QFb B wx tb
 r1:b2=true→QLf tb ev1 es1 wx
 r2:b5=true→QLf tb ev2 es2 wx
 x1:b6=true→W.heap.size≤x∧Holds wx x (if b8 then #[.string ⟨#[99,97,112,101]⟩,ev1]else #[.string ⟨#[]⟩,.slice none 0 0]) 31
 y1:b7=true→W.heap.size≤y∧Holds wx y (if b9 then #[.string ⟨#[104,97,116]⟩,ev2]else #[.string ⟨#[]⟩,.slice none 0 0]) 31
 ne:b6=true→b7=true→x≠y
def OwI(A:Act)(B tb:Nat)(tv:Value)(W:World)(l:Array Bool)(c:Act)(wx:World):Prop:=
 ∃ev1 ev2 es1 es2 x y,Qsb Qpe A (OwF tb tv ev1 ev2 x y) (fun _=>True) l c wx∧OwE B tb W ev1 ev2 es1 es2 x y (l.getD 2 false) (l.getD 5 false) (l.getD 6 false) (l.getD 7 false) (l.getD 8 false) (l.getD 9 false) wx
theorem QLf.keeps{S:Nat→Prop}{tb:Nat}{ev:Value}{es:List Qga}{w w':World}(h:QLf tb ev es w)(k:Qaa S w w')(hs:∀g,tb<g→g<w.heap.size→(∃c f,w.heap[g]? = some (.cells c 39 f))→¬S g):QLf tb ev es w':=
 ⟨Qca h.1 k (fun g hg=>by
  obtain⟨l1,l2⟩:=h.1.lt g hg;refine hs g (by omega) l2 ?_;rcases h.1.2 with⟨rfl,_⟩|⟨g',cap,cur,rfl,_,hh,_⟩
  ·cases hg
  cases hg;exact⟨_,_,hh⟩),h.2⟩
theorem QLf.set{tb b j:Nat}{ev u:Value}{es:List Qga}{cs:Array Value}{w:World}(h:QLf tb ev es w)(hH:Holds w b cs 31):QLf tb ev es (w.setCell ⟨b,j,none⟩ u):=
 h.keeps ((Qaa.refl (· = b) w).setCell (.inr rfl) u) (fun g _ _ ⟨c,f,hh⟩ e=>by
  subst e;have h2:=hH.o.symm.trans hh;cases h2)
theorem Qlo{Q:Exit→Act→World→Prop}(B tb zb base:Nat)(tv:Value)(T:List Qba)(W:World)(A:Act)(hsz:A.tmps.size=161)(hTp:QFb B W tb)(cU:Qda W base tv T)(hc:Qia T=0)(hl40:T.length≤40)(hZ:Holds W zb #[tv] 27)(Hl:zb≠tb)(htv:∃a n c,tv=.slice a n c)
 (a3:A.tmps.getD 7 undef=.pointer (some ⟨tb,0,none⟩)) (a4:A.tmps.getD 8 undef=.pointer (some ⟨zb,0,none⟩))
 (hQ:∀c w' ev1 ev2 es1 es2 x y,Qpb Qpe A c→c.tmps.getD 9 undef=.pointer (some ⟨x,0,none⟩)→c.tmps.getD 10 undef=.pointer (some ⟨y,0,none⟩)→OwE B tb W ev1 ev2 es1 es2 x y true true true true true true w'→Q .normal c w') :
 wpAny prog .any Qpe Q Qpe.size (Array.replicate Qpe.size false) A W:=by
 refine QNa (OwI A B tb tv W) owR ?hend ?Hk _ _ _ _ (by simp) (by simp) ⟨undef,undef,[],[],0,0,Qsb.start trivial,?hini⟩
 case hini=>
  simp only[QXg];exact⟨Qaa.refl _ _,hTp,fun h=>(by cases h),fun h=>(by cases h),fun h=>(by cases h),fun h=>(by cases h),fun h=>(by cases h)⟩
 case hend=>
  rintro l c wx ⟨ev1,ev2,es1,es2,x,y,hI,hE⟩ hl;have hh:∀k,k<10→l.getD k false=true:=fun k hk=>hl k (by rw[QOu];exact hk);rw[hh 2 (by decide),hh 5 (by decide),hh 6 (by decide),hh 7 (by decide),hh 8 (by decide),hh 9 (by decide)]at hE;exact hQ c wx ev1 ev2 es1 es2 x y hI.1.1 (hI.fact 6 9 rfl (hh 6 (by decide))) (hI.fact 7 10 rfl (hh 7 (by decide))) hE
 intro l c wx KV i' op ho hl Ha K' hK';obtain⟨ev1,ev2,es1,es2,x,y,hI,hE⟩:=KV;have ke:l.size=10:=by rw[hI.1.2.2.1.1,QOu]
 have hi':i'<10:=by rw[←QOu];exact(Array.getElem?_eq_some_iff.1 ho).1
 have Hf:=ho;simp only[Qpe,QPa,Tryz.f6,Option.getD_some,reduceIte,Nat.reduceEqDiff]at ho;have s3:=(hI.slot 7 (by kernel_rfl)).trans a3;have s4:=(hI.slot 8 (by kernel_rfl)).trans a4;have fs:=And.intro True.intro True.intro;simp only[Array.getD_eq_getD_getElem?]at s3 s4;have GB:i'=0∨i'=1∨i'=2∨i'=3∨i'=4∨i'=5∨i'=6∨i'=7∨i'=8∨i'=9:=by omega
 clear hi';obtain⟨ta,tn,tcp,rfl⟩:=htv;have st (i:Nat) (hi:i<10) (j:Nat) (hj:i≠j):(l.setIfInBounds i true).getD j false=l.getD j false:=Qsa hj;have sh (i:Nat) (hi:i<10):(l.setIfInBounds i true).getD i false=true:=Qjb (by rw[ke];exact hi);rcases GB with rfl|rfl|rfl|rfl|rfl|rfl|rfl|rfl|rfl|rfl
 all_goals cases ho
 ·go_simp;refine hK' _ _ ⟨ev1,ev2,es1,es2,x,y,hI.st QKs 0 42 hsz Hf Ha rfl,?_⟩;rw[st 0 (by decide) 2 (by decide),st 0 (by decide) 5 (by decide),st 0 (by decide) 6 (by decide),st 0 (by decide) 7 (by decide),st 0 (by decide) 8 (by decide),st 0 (by decide) 9 (by decide)];exact hE
 ·have hz:=hZ.keeps hE.k Hl;have z0:=hz.cell 0;have zl:=hz.lt;go_simp;refine hK' _ _ ⟨ev1,ev2,es1,es2,x,y,hI.st QKs 1 43 hsz Hf Ha rfl,?_⟩;rw[st 1 (by decide) 2 (by decide),st 1 (by decide) 5 (by decide),st 1 (by decide) 6 (by decide),st 1 (by decide) 7 (by decide),st 1 (by decide) 8 (by decide),st 1 (by decide) 9 (by decide)];exact hE
 ·have e0:=gE (hI.yf 0 42 10 Hf Ha:c.tmps.getD 42 undef=.pointer (some ⟨tb,0,none⟩));have e1:=gE (hI.yf 1 43 10 Hf Ha:c.tmps.getD 43 undef=.agg #[.slice ta tn tcp]);have n8:l.getD 8 false=false:=hI.1.2.2.1.2.no_far 10 hl (by kernel_rfl:Qzc Qpe 10 8 2=true);have n5:l.getD 5 false=false:=hI.1.2.2.1.2.no_far 10 hl (by kernel_rfl:Qzc Qpe 10 5 2=true);have n9:l.getD 9 false=false:=hI.1.2.2.1.2.no_far 10 hl (by kernel_rfl:Qzc Qpe 10 9 2=true);have dH:=hE.tp;have aK:=QQg B tb base (.slice ta tn tcp) T ⟨#[99,97,112,101]⟩ wx dH (cU.tape hTp hE.k) hc hl40;go_simp;refine Calls.mono (by exact aK) ?_;rintro e w2 ⟨ev,es,rfl,Hn,vD,jO,iH,kW⟩;have iG:=dH.lt;have GH:=hE.k.trans kW (fun i _ h=>h);have mv (v:Value) (es0:List Qga) (h:QLf tb v es0 wx):QLf tb v es0 w2:=h.keeps kW (fun g hg _ _ e=>by omega);have mh (b:Nat) (cs:Array Value) (t:TypeId) (hb:W.heap.size≤b) (h:Holds wx b cs t):Holds w2 b cs t:=h.keeps kW (fun e=>by have:=hTp.lt;omega);have Jq:QLf tb ev es w2:=⟨Qvd Hn (by omega),vD,jO⟩;refine hK' _ _ ⟨ev,ev2,es,es2,x,y,(hI.swapW (F':=OwF tb (.slice ta tn tcp) ev ev2 x y) (fun j u hj h=>OwG.turn h (fun e=>absurd (e ▸ hj) (by rw[hl];decide)) (fun e=>rfl) (fun _=>rfl) (fun _=>rfl))).step QKs 2 44 rfl (by rw[hsz];decide) _ _ Hf Ha trivial (fun _ _ h=>h) rfl,?_⟩;rw[sh 2 (by decide),st 2 (by decide) 5 (by decide),st 2 (by decide) 6 (by decide),st 2 (by decide) 7 (by decide),st 2 (by decide) 8 (by decide),st 2 (by decide) 9 (by decide)];rw[n8,n5,n9];rw[n8,n5,n9]at hE;exact⟨GH,iH,fun _=>Jq,fun h=>(by cases h),fun h=>⟨(hE.x1 h).1,mh _ _ _ (hE.x1 h).1 (hE.x1 h).2⟩,fun h=>⟨(hE.y1 h).1,mh _ _ _ (hE.y1 h).1 (hE.y1 h).2⟩,hE.ne⟩
 ·go_simp;refine hK' _ _ ⟨ev1,ev2,es1,es2,x,y,hI.st QKs 3 45 hsz Hf Ha rfl,?_⟩;rw[st 3 (by decide) 2 (by decide),st 3 (by decide) 5 (by decide),st 3 (by decide) 6 (by decide),st 3 (by decide) 7 (by decide),st 3 (by decide) 8 (by decide),st 3 (by decide) 9 (by decide)];exact hE
 ·have hz:=hZ.keeps hE.k Hl;have z0:=hz.cell 0;have zl:=hz.lt;go_simp;refine hK' _ _ ⟨ev1,ev2,es1,es2,x,y,hI.st QKs 4 46 hsz Hf Ha rfl,?_⟩;rw[st 4 (by decide) 2 (by decide),st 4 (by decide) 5 (by decide),st 4 (by decide) 6 (by decide),st 4 (by decide) 7 (by decide),st 4 (by decide) 8 (by decide),st 4 (by decide) 9 (by decide)];exact hE
 ·have e3:=gE (hI.yf 3 45 10 Hf Ha:c.tmps.getD 45 undef=.pointer (some ⟨tb,0,none⟩));have e4:=gE (hI.yf 4 46 10 Hf Ha:c.tmps.getD 46 undef=.agg #[.slice ta tn tcp]);have n8:l.getD 8 false=false:=hI.1.2.2.1.2.no_far 10 hl (by kernel_rfl:Qzc Qpe 10 8 5=true);have n9:l.getD 9 false=false:=hI.1.2.2.1.2.no_far 10 hl (by kernel_rfl:Qzc Qpe 10 9 5=true);have dH:=hE.tp;have aK:=QQg B tb base (.slice ta tn tcp) T ⟨#[104,97,116]⟩ wx dH (cU.tape hTp hE.k) hc hl40;go_simp;refine Calls.mono (by exact aK) ?_;rintro e w2 ⟨ev,es,rfl,Hn,vD,jO,iH,kW⟩;have iG:=dH.lt;have GH:=hE.k.trans kW (fun i _ h=>h);have mv (v:Value) (es0:List Qga) (h:QLf tb v es0 wx):QLf tb v es0 w2:=h.keeps kW (fun g hg _ _ e=>by omega);have mh (b:Nat) (cs:Array Value) (t:TypeId) (hb:W.heap.size≤b) (h:Holds wx b cs t):Holds w2 b cs t:=h.keeps kW (fun e=>by have:=hTp.lt;omega);have Jq:QLf tb ev es w2:=⟨Qvd Hn (by omega),vD,jO⟩;refine hK' _ _ ⟨ev1,ev,es1,es,x,y,(hI.swapW (F':=OwF tb (.slice ta tn tcp) ev1 ev x y) (fun j u hj h=>OwG.turn h (fun e=>rfl) (fun e=>absurd (e ▸ hj) (by rw[hl];decide)) (fun _=>rfl) (fun _=>rfl))).step QKs 5 47 rfl (by rw[hsz];decide) _ _ Hf Ha trivial (fun _ _ h=>h) rfl,?_⟩;rw[st 5 (by decide) 2 (by decide),sh 5 (by decide),st 5 (by decide) 6 (by decide),st 5 (by decide) 7 (by decide),st 5 (by decide) 8 (by decide),st 5 (by decide) 9 (by decide)];rw[n8,n9];rw[n8,n9]at hE;exact⟨GH,iH,fun h=>mv _ _ (hE.r1 h),fun _=>Jq,fun h=>⟨(hE.x1 h).1,mh _ _ _ (hE.x1 h).1 (hE.x1 h).2⟩,fun h=>⟨(hE.y1 h).1,mh _ _ _ (hE.y1 h).1 (hE.y1 h).2⟩,hE.ne⟩
 ·have n8:l.getD 8 false=false:=hI.1.2.2.1.2.no_far 10 hl (by kernel_rfl:Qzc Qpe 10 8 6=true);go_simp;refine hK' _ _ ⟨ev1,ev2,es1,es2,wx.heap.size,y,(hI.swapW (F':=OwF tb (.slice ta tn tcp) ev1 ev2 wx.heap.size y) (fun j u hj h=>OwG.turn h (fun _=>rfl) (fun _=>rfl) (fun e=>absurd (e ▸ hj) (by rw[hl];decide)) (fun e=>rfl))).step QKs 6 9 rfl (by rw[hsz];decide) _ _ Hf Ha trivial (fun _ _ h=>h) rfl,?_⟩;rw[st 6 (by decide) 2 (by decide),st 6 (by decide) 5 (by decide),sh 6 (by decide),st 6 (by decide) 7 (by decide),st 6 (by decide) 8 (by decide),st 6 (by decide) 9 (by decide)];rw[n8];rw[n8]at hE;exact⟨hE.k.alloc _,hE.tp.new (Bq),fun h=>⟨World.ownsRow.alloc (hE.r1 h).1 _,(hE.r1 h).2⟩,fun h=>⟨World.ownsRow.alloc (hE.r2 h).1 _,(hE.r2 h).2⟩,fun _=>⟨hE.k.size,Holds.new wx _ _⟩,fun h=>⟨(hE.y1 h).1,(hE.y1 h).2.alloc _⟩,fun _ h=>Nat.ne_of_gt (hE.y1 h).2.lt⟩
 ·have n8:l.getD 9 false=false:=hI.1.2.2.1.2.no_far 10 hl (by kernel_rfl:Qzc Qpe 10 9 7=true);go_simp;refine hK' _ _ ⟨ev1,ev2,es1,es2,x,wx.heap.size,(hI.swapW (F':=OwF tb (.slice ta tn tcp) ev1 ev2 x wx.heap.size) (fun j u hj h=>OwG.turn h (fun _=>rfl) (fun _=>rfl) (fun e=>rfl) (fun e=>absurd (e ▸ hj) (by rw[hl];decide)))).step QKs 7 10 rfl (by rw[hsz];decide) _ _ Hf Ha trivial (fun _ _ h=>h) rfl,?_⟩;rw[st 7 (by decide) 2 (by decide),st 7 (by decide) 5 (by decide),st 7 (by decide) 6 (by decide),sh 7 (by decide),st 7 (by decide) 8 (by decide),st 7 (by decide) 9 (by decide)];rw[n8];rw[n8]at hE;exact⟨hE.k.alloc _,hE.tp.new (Bq),fun h=>⟨World.ownsRow.alloc (hE.r1 h).1 _,(hE.r1 h).2⟩,fun h=>⟨World.ownsRow.alloc (hE.r2 h).1 _,(hE.r2 h).2⟩,fun h=>⟨(hE.x1 h).1,(hE.x1 h).2.alloc _⟩,fun _=>⟨hE.k.size,Holds.new wx _ _⟩,fun h _=>Nat.ne_of_lt (hE.x1 h).2.lt⟩
 ·have e2:=gE (hI.yf 2 44 10 Hf Ha:c.tmps.getD 44 undef=.agg #[.string ⟨#[99,97,112,101]⟩,ev1]);have e6:=gE (hI.yf 6 9 10 Hf Ha:c.tmps.getD 9 undef=.pointer (some ⟨x,0,none⟩));have t2:l.getD 2 false=true:=(hI.1.2.2.1.2.yes_far 10 Hf Ha (by decide) (by kernel_rfl));have t5:l.getD 5 false=true:=(hI.1.2.2.1.2.yes_far 10 Hf Ha (by decide) (by kernel_rfl));have t6:l.getD 6 false=true:=(hI.1.2.2.1.2.yes_far 10 Hf Ha (by decide) (by kernel_rfl));have t7:l.getD 7 false=true:=(hI.1.2.2.1.2.yes_far 10 Hf Ha (by decide) (by kernel_rfl));have n9:l.getD 9 false=false:=hI.1.2.2.1.2.no_far 10 hl (by kernel_rfl:Qzc Qpe 10 9 8=true);rw[t2,t5,t6,t7,hl,n9]at hE;obtain⟨va,vc,JL⟩:=Qea (hE.r1 rfl).1;subst JL;obtain⟨jV,hx⟩:=hE.x1 rfl;replace hx:Holds wx x #[.string ⟨#[]⟩,.slice none 0 0] 31:=hx;have x0:=hx.cell 0;have x1:=hx.cell 1;have xf0:=hx.free 0;have xf1:=hx.free 1;have xl:=hx.lt;have r1:=hE.r1 rfl;have r2:=hE.r2 rfl;have hx2:=(hx.set 0 (.string ⟨#[99,97,112,101]⟩)).set 1 (.slice va es1.length vc);obtain⟨vQ,hy⟩:=hE.y1 rfl;have Gf:=hE.ne rfl rfl;have eY:=(hy.other ⟨x,0,none⟩ (.string ⟨#[99,97,112,101]⟩) (Ne.symm Gf)).other ⟨x,1,none⟩ (.slice va es1.length vc) (Ne.symm Gf);have r1':=(r1.set (j:=0) (u:=.string ⟨#[99,97,112,101]⟩) hx).set (j:=1) (u:=.slice va es1.length vc) (hx.set 0 (.string ⟨#[99,97,112,101]⟩));have r2':=(r2.set (j:=0) (u:=.string ⟨#[99,97,112,101]⟩) hx).set (j:=1) (u:=.slice va es1.length vc) (hx.set 0 (.string ⟨#[99,97,112,101]⟩));go_simp;refine hK' _ _ ⟨_,_,es1,es2,x,y,hI.stepN 8 rfl _ Hf Ha trivial (fun _ _ h=>h) trivial,?_⟩
  rw[st 8 (by decide) 2 (by decide),st 8 (by decide) 5 (by decide),st 8 (by decide) 6 (by decide),st 8 (by decide) 7 (by decide),sh 8 (by decide),st 8 (by decide) 9 (by decide)];rw[t2,t5,t6,t7,n9];exact⟨(hE.k.setCell (.inl jV) _).setCell (.inl jV) _,hE.tp.keeps (((Qaa.refl (fun i=>i=x) wx).setCell (p:=⟨x,0,none⟩) (.inr rfl) _).setCell (p:=⟨x,1,none⟩) (.inr rfl) _) (fun i e=>by have:=hTp.lt;have:=hTp.1;subst e;omega),fun _=>r1',fun _=>r2',fun _=>⟨jV,hx2⟩,fun _=>⟨vQ,eY⟩,fun _ _=>Gf⟩
 have e5:=gE (hI.yf 5 47 10 Hf Ha:c.tmps.getD 47 undef=.agg #[.string ⟨#[104,97,116]⟩,ev2]);have e7:=gE (hI.yf 7 10 10 Hf Ha:c.tmps.getD 10 undef=.pointer (some ⟨y,0,none⟩));have t2:l.getD 2 false=true:=(hI.1.2.2.1.2.yes_far 10 Hf Ha (by decide) (by kernel_rfl));have t5:l.getD 5 false=true:=(hI.1.2.2.1.2.yes_far 10 Hf Ha (by decide) (by kernel_rfl));have t6:l.getD 6 false=true:=(hI.1.2.2.1.2.yes_far 10 Hf Ha (by decide) (by kernel_rfl));have t7:l.getD 7 false=true:=(hI.1.2.2.1.2.yes_far 10 Hf Ha (by decide) (by kernel_rfl));have t8:l.getD 8 false=true:=(hI.1.2.2.1.2.yes_far 10 Hf Ha (by decide) (by kernel_rfl));rw[t2,t5,t6,t7,t8,hl]at hE;obtain⟨va,vc,JL⟩:=Qea (hE.r2 rfl).1;subst JL;obtain⟨jV,hx⟩:=hE.y1 rfl;replace hx:Holds wx y #[.string ⟨#[]⟩,.slice none 0 0] 31:=hx;have x0:=hx.cell 0;have x1:=hx.cell 1;have xf0:=hx.free 0;have xf1:=hx.free 1;have xl:=hx.lt;have r1:=hE.r1 rfl;have r2:=hE.r2 rfl;have hx2:=(hx.set 0 (.string ⟨#[104,97,116]⟩)).set 1 (.slice va es2.length vc);obtain⟨vQ,hy⟩:=hE.x1 rfl;have Gf:=hE.ne rfl rfl;have eY:=(hy.other ⟨y,0,none⟩ (.string ⟨#[104,97,116]⟩) Gf).other ⟨y,1,none⟩ (.slice va es2.length vc) Gf;have r1':=(r1.set (j:=0) (u:=.string ⟨#[104,97,116]⟩) hx).set (j:=1) (u:=.slice va es2.length vc) (hx.set 0 (.string ⟨#[104,97,116]⟩));have r2':=(r2.set (j:=0) (u:=.string ⟨#[104,97,116]⟩) hx).set (j:=1) (u:=.slice va es2.length vc) (hx.set 0 (.string ⟨#[104,97,116]⟩));go_simp;refine hK' _ _ ⟨_,_,es1,es2,x,y,hI.stepN 9 rfl _ Hf Ha trivial (fun _ _ h=>h) trivial,?_⟩
 rw[st 9 (by decide) 2 (by decide),st 9 (by decide) 5 (by decide),st 9 (by decide) 6 (by decide),st 9 (by decide) 7 (by decide),st 9 (by decide) 8 (by decide),sh 9 (by decide)];rw[t2,t5,t6,t7,t8];exact⟨(hE.k.setCell (.inl jV) _).setCell (.inl jV) _,hE.tp.keeps (((Qaa.refl (fun i=>i=y) wx).setCell (p:=⟨y,0,none⟩) (.inr rfl) _).setCell (p:=⟨y,1,none⟩) (.inr rfl) _) (fun i e=>by have:=hTp.lt;have:=hTp.1;subst e;omega),fun _=>r1',fun _=>r2',fun _=>⟨vQ,eY⟩,fun _=>⟨jV,hx2⟩,fun _ _=>Gf⟩
end Go.Proofs.YtgaboghigefgbaaGreatDoor
