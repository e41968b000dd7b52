/- Lemmas on the way to the law; no conditions. -/
import Derived.Test.YtgaboghigefgbaaGreatDoorZ18
import Derived.Deep.RegionWith
set_option linter.all false
set_option maxRecDepth 100000
set_option maxHeartbeats 8000000
namespace Go.Proofs.YtgaboghigefgbaaGreatDoor
open Go.Proofs.Tryz
open Go.Lib (hid)
open Go.RowKit
theorem Q7d:∀(T:List Qba) (pvs:List Value) (k:Nat) (hk:k<T.length) (ps:List Qqa) (rv:Value),pvs.length=T.length→
 Qpa (T.set k ⟨T[k].parent,T[k].name,ps⟩) (pvs.set k rv)=(Qpa T pvs).set (k*3+2) rv
 | n::T,p::pvs,0,_,_,_,_=>rfl
 | n::T,p::pvs,k+1,hk,ps,rv,h=>by
  have:=Q7d T pvs k (by simpa using hk) ps rv (by simpa using h);rw[show(k+1)*3+2=k*3+2+1+1+1 from by omega];simp only[List.set_cons_succ,Qpa,List.getElem_cons_succ];rw[this]
theorem Qda.setProps{w:World}{base g n cap:Nat}{T:List Qba}{rv:Value}{ps:List Qqa}(h:Qda w base (.slice (some ⟨g,0,none⟩) n cap) T)(k:Nat)(hk:k<T.length)(hp:Qna w base rv ps) :
 Qda (w.setCell ⟨g,k*3+2,none⟩ rv) base (.slice (some ⟨g,0,none⟩) n cap) (T.set k ⟨T[k].parent,T[k].name,ps⟩):=by
 obtain⟨pvs,h1,h2,h3,h4⟩:=h;have hn:n=T.length:=by
  rcases h2.2 with⟨e,_⟩|⟨_,_,_,e,_⟩
  ·cases e
  cases e;rfl
 subst hn;obtain⟨s1,s2⟩:=h2.stored (k*3+2) rv;refine⟨pvs.set k rv,by simpa using h1,?_,?_,?_⟩
 ·rw[Q7d T pvs k hk ps rv h1,List.length_set];exact s1
 ·intro j hj Ge;by_cases e:j=k
  ·subst e;simp only[List.getElem_set_self];exact hp.apart h2 s2 (by decide)
  rw[List.getElem_set_ne (fun x=>e x.symm),List.getElem_set_ne (fun x=>e x.symm)];exact(h3 j (by simpa using hj) (by simpa using Ge)).apart h2 s2 (by decide)
 intro m hm;rcases List.mem_or_eq_of_mem_set hm with hm|rfl
 ·exact h4 m hm
 exact h4 T[k] (List.getElem_mem hk)
theorem QAa.drew{R:Nat→Prop}{w:World}{v:Value}{ps:List Qqa}(h:QAa R w v ps):QAa R w.drew v ps:=h
theorem QRd{w w':World}{g o:Nat}{x:Option Value}(h:w.cell? ⟨g,o,none⟩=x)(hg:g<w.heap.size)(k:Below w.heap.size w w'):w'.cell? ⟨g,o,none⟩=x:=(k.cell (p:=⟨g,o,none⟩) hg).trans h
def QRt(T':List Qba)(w:World)(C:Nat)(sv:Value)(y:Value)(wx:World):Prop:=
 y=.pointer (some ⟨C,0,none⟩)∧Holds wx C #[sv] 27∧Holds wx (w.heap.size+1) #[.slice none 0 0] 27∧Qda wx w.heap.size sv T'∧Below w.heap.size w wx
theorem Qhn(R:Nat→Prop)(v:Value)(T:List Qba)(s name value:ByteArray)(w:World)(hT:Qoa R w v T)(ko:name.size≤9223372036854775807)(JL:value.size≤9223372036854775807) :
 Calls prog 29 #[.agg #[v],.string s,.string name,.string value] w (Qgc (Qid T s name value) w):=by
 obtain⟨a,cap,rfl,gy,gh⟩:=hT.shape;have HT:=hid hT;clear hT;have Gr:=fun wx hx=>Qxg R (.slice a T.length cap) T s wx hx;have He:Below w.heap.size w ((w.alloc (.cells #[.slice a T.length cap] 27)).alloc (.cells #[.slice none 0 0] 27)):=(Bq).alloc (by simp) _;have Gb:=(Holds.new w #[.slice a T.length cap] 27).alloc (.cells #[.slice none 0 0] 27);have gX:=Holds.newAt (w:=w.alloc (.cells #[.slice a T.length cap] 27)) (B:=w.heap.size+1) (by simp) #[.slice none 0 0] 27;rcases Qkb T s with⟨Hl,gR⟩|⟨gd,k,hk,G0,Gt⟩
 ·have hF:=hid (show Qid T s name value=([],(Qua T s).2)from by unfold Qid;rw[if_pos Hl]);have aT:((Qua T s).2 != 0)=true:=by simpa using Hl
  rw[gR]at Gr;have kK:=hid Gr;clear Gr Hl gR;generalize(Qua T s).2=c at *
  go_enter func29,ntmps29;go_wp2_with fail;refine(kK.o _ (by exact HT.o.new He)).mono ?_;rintro e w1 ⟨rfl,Hb⟩;have Hm:=gX.fr Hb;have Hc:=He.trans (Hb.mono (by simp;omega));have z0:=Hm.cell 0;have zf:=Hm.free 0;have zl:=Hm.lt;go_wp2_with fail;have q0:(w1.setCell ⟨w.heap.size+1,0,none⟩ (.slice none 0 0)).cell? ⟨w.heap.size+1,0,none⟩=some (.slice none 0 0):=(Hm.set 0 _).cell 0;exact bodyPost_ret (v:=.tuple #[.agg #[.slice none 0 0],.int .i64 c]) (by simp[results,Tryz.results29,go_sem,q0]) rfl ⟨_,by rw[hF.o],by rw[hF.o];exact Qda.nil _ _,Hc.setCell (p:=⟨w.heap.size+1,0,none⟩) (by simp) _⟩
 rw[G0]at Gr;have kK:=hid Gr;have hE:=hid (show Qid T s name value=if Q6a name=false then([],1)else if Qza (QJb T k ⟨name,value⟩)=false then([],3)else(QJb T k ⟨name,value⟩,0)from by
  unfold Qid;rw[G0,if_neg (by simp)];rfl)
 have AH:=hid (show QJb T k ⟨name,value⟩=T.set k ⟨T[k].parent,T[k].name,QOc T[k].props ⟨name,value⟩⟩from by unfold QJb;rw[List.getElem?_eq_getElem hk];rfl);have gS:=(Qlb (QQa gd)).2;have j4:=hid (Q4b gd);have kh:=fun wx=>Q0c name wx ko;clear Gr G0 gd;cases Kc:Q6a name with
 | false=>
  have hF:=hid (show Qid T s name value=([],1)from by rw[hE.o,if_pos Kc]);rw[Kc]at kh;have mr:=hid kh;clear kh Kc hE;go_enter func29,ntmps29;go_wp2_with fail;refine(kK.o _ (by exact HT.o.new He)).mono ?_;rintro e w1 ⟨rfl,Hb⟩;have Hm:=gX.fr Hb;have Hc:=He.trans (Hb.mono (by simp;omega));go_wp2_with fail;refine(mr.o _).mono ?_;rintro e w2 ⟨rfl,rfl⟩;have z0:=Hm.cell 0;have zf:=Hm.free 0;have zl:=Hm.lt;go_wp2_with fail;have q0:(w1.setCell ⟨w.heap.size+1,0,none⟩ (.slice none 0 0)).cell? ⟨w.heap.size+1,0,none⟩=some (.slice none 0 0):=(Hm.set 0 _).cell 0;exact bodyPost_ret (v:=.tuple #[.agg #[.slice none 0 0],.int .i64 1]) (by simp[results,Tryz.results29,go_sem,q0]) rfl ⟨_,by rw[hF.o],by rw[hF.o];exact Qda.nil _ _,Hc.setCell (p:=⟨w.heap.size+1,0,none⟩) (by simp) _⟩
 | true=>
  rw[Kc]at kh;have mr:=hid kh;have Ks:=hid (show Qid T s name value=if Qza (QJb T k ⟨name,value⟩)=false then([],3)else(QJb T k ⟨name,value⟩,0)from by rw[hE.o,Kc,if_neg (by simp)]);have kU:=hid (fun wx hx=>QGf R (.slice a T.length cap) T wx hx gS j4.o);have gz:=j4.o T[k] (List.getElem_mem hk);clear kh Kc hE;go_enter func29,ntmps29;go_wp2_with fail;refine(kK.o _ (by exact HT.o.new He)).mono ?_;rintro e w1 ⟨rfl,Hb⟩;have Hm:=gX.fr Hb;have Hr:=Gb.fr Hb;have Hc:=He.trans (Hb.mono (by simp;omega));have bx:=Hr.cell 0;have bl:=Hr.lt;have Gx:=Hc.size;clear He Gb gX Hb;go_wp2_with fail;refine(mr.o _).mono ?_;rintro e w2 ⟨rfl,rfl⟩;go_wp2_with fail;refine(kU.o _ (by exact HT.o.new Hc)).mono ?_;rintro e w4 ⟨cv,rfl,JD,H5⟩;have GY:=Hm.fr H5;have jI:=Hr.fr H5;have gn:=Hc.trans (H5.mono Gx);have bX:=gn.size;have k7:=JD.base Gx;clear H5 Hc Hr Hm bx bl JD;obtain⟨cg,cc,Mf,uk⟩:∃cg cc,cv=.slice (some ⟨cg,0,none⟩) T.length cc∧cg<w4.heap.size:=by
   obtain⟨_,_,g2,_⟩:=k7;obtain⟨x,y,e,_,hl⟩:=g2.form (by omega);exact⟨x,y,e,hl⟩
  subst Mf;have dX:=Holds.new w4 #[.slice (some ⟨cg,0,none⟩) T.length cc] 27;have kT:=k7.new ((Below.refl _ _).alloc (Nat.le_refl _) (.cells #[.slice (some ⟨cg,0,none⟩) T.length cc] 27));have gN:=GY.alloc (.cells #[.slice (some ⟨cg,0,none⟩) T.length cc] 27);have bN:=jI.alloc (.cells #[.slice (some ⟨cg,0,none⟩) T.length cc] 27);have Gd:=gn.alloc bX (.cells #[.slice (some ⟨cg,0,none⟩) T.length cc] 27);have tA:w4.heap.size+1=(w4.alloc (.cells #[.slice (some ⟨cg,0,none⟩) T.length cc] 27)).heap.size:=by simp
  go_upto_region 7 with fail;clear k7 gn GY jI;obtain⟨g,o,pa,pc,rfl,hg,c0,c1,c2,hp,p1,p2,b0,b1,b2⟩:=(HT.o.new Gd).at k hk;have M0:=hid hp;have gj:=(kT.at k hk);obtain⟨pv,pa',pc',Kf,d0,d1,d2,Gm,kr⟩:=gj;clear hp c0 c1 d0 d1 Gm kr;subst Kf;obtain⟨_,_,Hn,_⟩:=id kT;have lw:=Hn.frozenAt (k*3+2);have kF:=(Hn.lt cg rfl).2;have ic:=(Hn.lt cg rfl).1;have lQ:w.heap.size+1≠cg:=fun e=>Qla Hn gN (by decide) (by rw[e];rfl);clear Hn;generalize w4.alloc (.cells #[.slice (some ⟨cg,0,none⟩) T.length cc] 27)=w5 at *
  have x0:=bN.cell 0;have xl:=bN.lt;have y0:=dX.cell 0;have yl:=dX.lt;have mn:=Gd.size;have ji:=hid kT;clear kT;have G8:=hid (fun(wx:World) (hx:QAa (fun g=>g<w5.heap.size) wx (.slice pa (T[k]'hk).props.length pc) (T[k]'hk).props)=>Qgs (fun g=>g<w5.heap.size) (.slice pa T[k].props.length pc) T[k].props ⟨name,value⟩ wx hx gz ⟨ko,JL⟩);go_cut [12] (fun y wx=>QRt (QJb T k ⟨name,value⟩) w w4.heap.size (.slice (some ⟨cg,0,none⟩) T.length cc) y wx)
  case first=>
   go_region_with (go_at_call 66;refine(G8.o _ (by exact M0.o.bound.drew)).mono ?_;rintro e w7 ⟨rv,rfl,JJ,KB⟩;obtain⟨rva,rvc,bW⟩:=Qea JJ.1;subst bW;have Gq:Below w5.heap.size w5 w7:=(Below.refl w5.heap.size w5).drew.trans KB;have kx:=QRd x0 xl Gq;have ky:=QRd y0 yl Gq;have kd:=QRd d2 kF Gq;have kz:=(Gq.frozen (p:=⟨cg,k*3+2,none⟩) kF).trans lw;have kl:=Nat.lt_of_lt_of_le kF Gq.size;have kyl:=Nat.lt_of_lt_of_le yl Gq.size)
   all_goals
    go_wp2_with fail;go_meet;have M6:=ji.o.new Gq;have qN:=JJ.base (show w.heap.size≤w5.heap.size from mn);have qD:=dX.fr Gq;have qX:=gN.fr Gq;exact⟨rfl,qD.other _ _ (by show w4.heap.size≠cg;omega),qX.other _ _ lQ,by rw[AH.o];exact M6.setProps k hk qN,(Gd.trans (Gq.mono mn)).setCell (p:=⟨cg,k*3+2,none⟩) ic _⟩
  case rest=>
   obtain⟨rfl,J5,au,eu,KB⟩:=hcut;clear dX gN bN Gd x0 xl y0 yl lw kF d2 mn lQ;have mW:=fun wx hx=>Q7h (fun g=>w.heap.size≤g) (.slice (some ⟨cg,0,none⟩) T.length cc) (QJb T k ⟨name,value⟩) wx hx;have lM:=KB.size;have y0:=J5.cell 0;have yl:=J5.lt;cases hL:Qza (QJb T k ⟨name,value⟩)with
   | false=>
    have hF:=hid (show Qid T s name value=([],3)from by rw[Ks.o,if_pos hL]);rw[hL]at mW;have Ma:=hid mW;clear mW hL;go_wp2_with fail;refine(Ma.o _ (by exact eu.in)).mono ?_;rintro e w9 ⟨rfl,Gq⟩;have Me:=au.fr Gq;have GZ:=KB.trans (Gq.mono lM);have z0:=Me.cell 0;have zf:=Me.free 0;have zl:=Me.lt;go_wp2_with fail;have q0:(w9.setCell ⟨w.heap.size+1,0,none⟩ (.slice none 0 0)).cell? ⟨w.heap.size+1,0,none⟩=some (.slice none 0 0):=(Me.set 0 _).cell 0;exact bodyPost_ret (v:=.tuple #[.agg #[.slice none 0 0],.int .i64 3]) (by simp[results,Tryz.results29,go_sem,q0]) rfl ⟨_,by rw[hF.o],by rw[hF.o];exact Qda.nil _ _,GZ.setCell (p:=⟨w.heap.size+1,0,none⟩) (by simp) _⟩
   | true=>
    have hF:=hid (show Qid T s name value=(QJb T k ⟨name,value⟩,0)from by rw[Ks.o,hL,if_neg (by simp)]);rw[hL]at mW;have Ma:=hid mW;clear mW hL;go_wp2_with fail;refine(Ma.o _ (by exact eu.in)).mono ?_;rintro e w9 ⟨rfl,Gq⟩;have Me:=au.fr Gq;have xj:=J5.fr Gq;have qO:=eu.new Gq;have GZ:=KB.trans (Gq.mono lM);clear y0 yl;have y0:=xj.cell 0;have yl:=xj.lt;have z0:=Me.cell 0;have zf:=Me.free 0;have zl:=Me.lt;have MF:=qO.set Me (by decide) (by decide) 0 (.slice (some ⟨cg,0,none⟩) T.length cc);go_wp2_with fail;have q0:(w9.setCell ⟨w.heap.size+1,0,none⟩ (.slice (some ⟨cg,0,none⟩) T.length cc)).cell? ⟨w.heap.size+1,0,none⟩=some (.slice (some ⟨cg,0,none⟩) T.length cc):=(Me.set 0 _).cell 0;exact bodyPost_ret (v:=.tuple #[.agg #[.slice (some ⟨cg,0,none⟩) T.length cc],.int .i64 0]) (by simp[results,Tryz.results29,go_sem,q0]) rfl ⟨_,by rw[hF.o],by rw[hF.o];exact MF,GZ.setCell (p:=⟨w.heap.size+1,0,none⟩) (by simp) _⟩
theorem QCu{a b:ByteArray}(h:(a.toList==b.toList)=false):a≠b:=fun e=>by rw[e]at h;simp at h
theorem QVh{a b:ByteArray}(h:(a.toList==b.toList)=true):a=b:=(QCa a b).1 h
def Qyu(ps qs:List Qqa)(X Y:Nat)(c1 c2:Array Value)(W:World)(f:Nat)(x:Value)(w:World):Prop:=
 ∃i:Nat,x=.int .i64 i∧i≤ps.length∧ps.length≤i+f∧Hid (∀j (h1:j<ps.length) (h2:j<qs.length),j<i→ps[j]=qs[j])∧Holds w X c1 46∧Holds w Y c2 46∧Below W.heap.size W w
theorem QPj(R R':Nat→Prop)(p q:Int)(n m:ByteArray)(v u:Value)(ps qs:List Qqa)(w:World)(h1:QAa R w v ps)(h2:QAa R' w u qs) :
 Calls prog 41 #[.agg #[.int .i64 p,.string n,v],.agg #[.int .i64 q,.string m,u]] w fun e w'=>∃b,e=.returned (.bool b)∧(b=true↔p=q∧n=m∧ps=qs)∧Below w.heap.size w w':=by
 obtain⟨a,cap,rfl,gy,gh⟩:=h1.shape;obtain⟨a',cap',rfl,cZ,c8⟩:=h2.shape;have H1:=hid h1;have H2:=hid h2;clear h1 h2;have hX:=(Holds.new w #[.int .i64 p,.string n,.slice a ps.length cap] 46).alloc (.cells #[.int .i64 q,.string m,.slice a' qs.length cap'] 46);have hY:=Holds.newAt (w:=w.alloc (.cells #[.int .i64 p,.string n,.slice a ps.length cap] 46)) (B:=w.heap.size+1) (by simp) #[.int .i64 q,.string m,.slice a' qs.length cap'] 46;have He:Below w.heap.size w ((w.alloc (.cells #[.int .i64 p,.string n,.slice a ps.length cap] 46)).alloc (.cells #[.int .i64 q,.string m,.slice a' qs.length cap'] 46)):=(Bq).alloc (by simp) _;by_cases hpq:p=q
 ·have vq:(p != q)=false:=by simpa using hpq
  have zr:=hid hpq;clear hpq;cases Ht:(n.toList==m.toList)with
  | false=>
   have Hl:=hid (QCu Ht);go_enter func41,ntmps41;go_wp2_with fail;go_ret;exact⟨false,rfl,by simp[Hl.o],He⟩
  | true=>
   have dh:=hid (QVh Ht);by_cases hl:ps.length=qs.length
   ·have hl':((ps.length:Int) != (qs.length:Int))=false:=by rw[hl];simp
    have HL:=hid hl;clear hl;go_enter func41,ntmps41;go_wp2_with fail;go_loopg [30] ps.length (fun f x wr=>Qyu ps qs w.heap.size (w.heap.size+1) #[.int .i64 p,.string n,.slice a ps.length cap] #[.int .i64 q,.string m,.slice a' qs.length cap'] w f x wr)
    case atStart=>exact⟨0,rfl,by omega,by omega,hid (fun j _ _ h=>by omega),hX,hY,He⟩
    case round=>
     clear hX hY He;obtain⟨i,rfl,Kb,Jm,Ha,hX,hY,hb⟩:=hrel;by_cases Hh:i<ps.length
     ·have GI:i<qs.length:=by rw[←HL.o];exact Hh
      have k1:(i:Int)<ps.length:=by omega
      have k2:(i:Int)<qs.length:=by omega
      have x2:=hX.cell 2;have y2:=hY.cell 2;obtain⟨g,o,Jh,hg,c0,c1,_⟩:=(H1.o.new hb).at i Hh;obtain⟨g',o',mG,hg',d0,d1,_⟩:=(H2.o.new hb).at i GI;subst Jh;subst mG;have HB:=hid hb;have HX:=hid hX;have HY:=hid hY;have fc:=Ha;clear hb hX hY Ha;have me:(ps[i].name=qs[i].name∧ps[i].value=qs[i].value)∨¬(ps[i].name=qs[i].name∧ps[i].value=qs[i].value):=Classical.em _;rcases me with hc|hc
      ·have e1:(ps[i].name.toList==qs[i].name.toList)=true:=by rw[hc.1];simp
       have e2:(ps[i].value.toList==qs[i].value.toList)=true:=by rw[hc.2];simp
       have GC:ps[i]=qs[i]:=by
        cases hx:ps[i];cases hy:qs[i];rw[hx,hy]at hc;simp only at hc;rw[hc.1,hc.2]
       have nr:=hid GC;clear GC hc;generalize ps[i].name=a1 at *
       generalize ps[i].value=a2 at *
       generalize qs[i].name=b1 at *
       generalize qs[i].value=b2 at *
       go_wp2_with fail;go_quiet(fail);go_wp2_with fail;go_roundg (gk-1)
       case measure=>omega
       case rel=>
        refine⟨i+1,by go_num,by omega,by omega,hid (fun j j1 j2 h=>?_),HX.o,HY.o,⟨HB.o.os,HB.o.tape,HB.o.output,HB.o.size,HB.o.block⟩⟩;by_cases e:j=i
        ·subst e;exact nr.o
        exact fc.o j j1 j2 (by omega)
      have Gt:=hid (show ps≠qs from fun e=>hc (by simp only[e];exact⟨trivial,trivial⟩));cases e1:(ps[i].name.toList==qs[i].name.toList)with
      | false=>
       clear hc;generalize ps[i].name=a1 at *
       generalize ps[i].value=a2 at *
       generalize qs[i].name=b1 at *
       generalize qs[i].value=b2 at *
       go_wp2_with fail;go_quiet(fail);go_wp2_with fail;go_ret;exact⟨false,rfl,by simp[Gt.o],⟨HB.o.os,HB.o.tape,HB.o.output,HB.o.size,HB.o.block⟩⟩
      | true=>
       have e2:(ps[i].value.toList==qs[i].value.toList)=false:=by
        cases h:(ps[i].value.toList==qs[i].value.toList)with
        | false=>rfl
        | true=>exact absurd ⟨QVh e1,QVh h⟩ hc
       clear hc;generalize ps[i].name=a1 at *
       generalize ps[i].value=a2 at *
       generalize qs[i].name=b1 at *
       generalize qs[i].value=b2 at *
       go_wp2_with fail;go_quiet(fail);go_wp2_with fail;go_ret;exact⟨false,rfl,by simp[Gt.o],⟨HB.o.os,HB.o.tape,HB.o.output,HB.o.size,HB.o.block⟩⟩
     obtain rfl:i=ps.length:=by omega
     have GC:Hid (ps=qs):=hid (by
      apply List.ext_getElem HL.o;intro j j1 j2;exact Ha.o j j1 j2 j1)
     have Hc:=hid hb;clear hb hX hY;go_wp2_with fail;go_ret;exact⟨true,rfl,by simp[zr.o,dh.o,GC.o],Hc.o⟩
   have hl':((ps.length:Int) != (qs.length:Int))=true:=by simp;omega
   have Gt:=hid (show ps≠qs from fun e=>hl (by rw[e]));clear hl;go_enter func41,ntmps41;go_wp2_with fail;go_ret;exact⟨false,rfl,by simp[Gt.o],He⟩
 have vq:(p != q)=true:=by simpa using hpq
 go_enter func41,ntmps41;go_wp2_with fail;go_ret;exact⟨false,rfl,by simp[hpq],He⟩
def Sep(H:Nat)(pvs:List Value):Prop:=
 (∀i j (hi:i<pvs.length) (hj:j<pvs.length),i≠j→∀g,pvs[i].ownBlock=some g→pvs[j].ownBlock≠some g)∧∀pv∈pvs,∀g,pv.ownBlock=some g→g<H
def QIb(H:Nat)(w:World)(base:Nat)(v:Value)(T:List Qba):Prop:=
 ∃pvs:List Value,pvs.length=T.length∧w.ownsRow base 46 3 v T.length (Qpa T pvs)∧(∀k (_:k<T.length) (_:k<pvs.length),Qna w base pvs[k] T[k].props)∧(∀n∈T,Qcc n)∧Sep H pvs
def Qoc(w:World)(base:Nat)(v:Value)(T:List Qba):Prop:=∃H,QIb H w base v T
theorem QIb.row{H:Nat}{w:World}{base:Nat}{v:Value}{T:List Qba}(h:QIb H w base v T):Qda w base v T:=by
 obtain⟨pvs,h1,h2,h3,h4,_⟩:=h;exact⟨pvs,h1,h2,h3,h4⟩
theorem Qoc.row{w:World}{base:Nat}{v:Value}{T:List Qba}(h:Qoc w base v T):Qda w base v T:=by obtain⟨_,h⟩:=h;exact h.row
theorem QIb.low{H:Nat}{w:World}{base:Nat}{v:Value}{T:List Qba}(h:QIb H w base v T):QIb w.heap.size w base v T:=by
 obtain⟨pvs,h1,h2,h3,h4,h5,_⟩:=h;refine⟨pvs,h1,h2,h3,h4,h5,fun pv Kf g hg=>?_⟩;obtain⟨k,hk,rfl⟩:=List.getElem_of_mem Kf;exact((h3 k (by omega) hk).1.lt g hg).2
theorem Qoc.low{w:World}{base:Nat}{v:Value}{T:List Qba}(h:Qoc w base v T):QIb w.heap.size w base v T:=by obtain⟨_,h⟩:=h;exact h.low
theorem QIb.new{H:Nat}{w w':World}{base:Nat}{v:Value}{T:List Qba}(h:QIb H w base v T)(k:Below w.heap.size w w'):QIb H w' base v T:=by
 obtain⟨pvs,h1,h2,h3,h4,h5⟩:=h;exact⟨pvs,h1,Qbb h2 k,fun j hj Ge=>(h3 j hj Ge).new k,h4,h5⟩
theorem Qoc.new{w w':World}{base:Nat}{v:Value}{T:List Qba}(h:Qoc w base v T)(k:Below w.heap.size w w'):Qoc w' base v T:=by obtain⟨_,h⟩:=h;exact⟨_,h.new k⟩
theorem QIb.set{H:Nat}{w:World}{base b:Nat}{t:TypeId}{v:Value}{T:List Qba}{cs:Array Value}(h:QIb H w base v T)(hH:Holds w b cs t)(Hl:t≠46)(kM:t≠49)(o:Nat)(x:Value):QIb H (w.setCell ⟨b,o,none⟩ x) base v T:=by
 obtain⟨pvs,h1,h2,h3,h4,h5⟩:=h;exact⟨pvs,h1,Qvc h2 hH Hl o x,fun j hj Ge=>(h3 j hj Ge).set hH kM o x,h4,h5⟩
theorem Qoc.set{w:World}{base b:Nat}{t:TypeId}{v:Value}{T:List Qba}{cs:Array Value}(h:Qoc w base v T)(hH:Holds w b cs t)(Hl:t≠46)(kM:t≠49)(o:Nat)(x:Value):Qoc (w.setCell ⟨b,o,none⟩ x) base v T:=by
 obtain⟨_,h⟩:=h;exact⟨_,h.set hH Hl kM o x⟩
theorem Qoc.keeps{S:Nat→Prop}{w w':World}{base:Nat}{v:Value}{T:List Qba}(h:Qoc w base v T)(k:Qaa S w w')(hs:∀g,S g→w.heap.size≤g∨∃cs t,Holds w g cs t∧t≠46∧t≠49):Qoc w' base v T:=by
 obtain⟨H,pvs,h1,h2,h3,h4,h5⟩:=h;have key:∀{e:TypeId} {size:Nat} {v:Value} {n:Nat} {xs:List Value},w.ownsRow base e size v n xs→e=46∨e=49→w'.ownsRow base e size v n xs:=by
  intro e size v n xs ho he;refine Qca ho k (fun g hg gE=>?_);rcases hs g gE with h|⟨cs,t,hH,n1,n2⟩
  ·have:=(ho.lt g hg).2;omega
  refine Qla ho hH ?_ hg;rcases he with rfl|rfl
  ·exact n1
  exact n2
 exact⟨H,pvs,h1,key h2 (.inl rfl),fun j hj Ge=>⟨key (h3 j hj Ge).1 (.inr rfl),(h3 j hj Ge).2⟩,h4,h5⟩
theorem Qoc.nil(w:World)(base:Nat):Qoc w base (.slice none 0 0) []:=⟨0,[],rfl,World.ownsRow_nil _ _ _ _,fun k h=>absurd h (Nat.not_lt_zero k),(fun _ h=>by cases h),⟨fun i j hi=>absurd hi (Nat.not_lt_zero i),fun _ h=>by cases h⟩⟩
theorem QIb.more{H:Nat}{w w':World}{base:Nat}{v v' pv:Value}{T:List Qba}{pvs:List Value}{n:Qba}(h1:pvs.length=T.length)(h2:w.ownsRow base 46 3 v T.length (Qpa T pvs))
 (h3:∀k (_:k<T.length) (_:k<pvs.length),Qna w base pvs[k] T[k].props) (h4:∀n∈T,Qcc n) (h5:Sep H pvs) (hbH:base≤H) (hp:Qna w H pv n.props) (hn:Qcc n)
 (Hi:w'.ownsRow base 46 3 v' (T.length+1) (Qpa T pvs++[.int .i64 n.parent,.string n.name,pv])) (hg:w.grownBy w' v.ownBlock):Qoc w' base v' (T++[n]):=by
 have K4:∀g,pv.ownBlock=some g→H≤g:=fun g hg=>(hp.1.lt g hg).1;have Gm:∀k (_:k<(T++[n]).length) (_:k<(pvs++[pv]).length),Qna w' base (pvs++[pv])[k] (T++[n])[k].props:=by
  intro k hk kW;by_cases e:k<T.length
  ·have:Qna w' base pvs[k] T[k].props:=(h3 k e (by omega)).apart h2 hg (by decide);simpa[List.getElem_append_left,e,h1]using this
  have e2:k=T.length:=by simp at hk;omega
  subst e2;have:Qna w' base pv n.props:=(hp.base hbH).apart h2 hg (by decide);simpa[List.getElem_append_right,h1]using this
 refine⟨w'.heap.size,pvs++[pv],by simp[h1],?_,Gm,?_,?_,?_⟩
 ·rw[Qdc T pvs n pv h1,List.length_append];exact Hi
 ·intro m hm;rcases List.mem_append.1 hm with hm|hm
  ·exact h4 m hm
  simp at hm;subst hm;exact hn
 ·intro i j hi hj Hl g oY lx;have G6:i<pvs.length+1:=by simpa using hi
  have g9:j<pvs.length+1:=by simpa using hj
  by_cases ei:i<pvs.length
  ·rw[List.getElem_append_left ei]at oY;by_cases ej:j<pvs.length
   ·rw[List.getElem_append_left ej]at lx;exact h5.1 i j ei ej Hl g oY lx
   obtain rfl:j=pvs.length:=by omega
   simp at lx;have:=h5.2 _ (List.getElem_mem ei) g oY;have:=K4 g lx;omega
  obtain rfl:i=pvs.length:=by omega
  have ej:j<pvs.length:=by omega
  rw[List.getElem_append_left ej]at lx;simp at oY;have:=h5.2 _ (List.getElem_mem ej) g lx;have:=K4 g oY;omega
 intro q hq g uC;obtain⟨k,hk,rfl⟩:=List.getElem_of_mem hq;exact((Gm k (by simp at hk ⊢;omega) hk).1.lt g uC).2
theorem Qic{w:World}{base:Nat}{e:TypeId}{size:Nat}{v:Value}{n:Nat}{xs:List Value}(h:w.ownsRow base e size v n xs){g:Nat}(hg:v.ownBlock=some g):base≤g∧∃cur,Holds w g cur e:=by
 rcases h.2 with⟨rfl,_⟩|⟨g',cap,cur,rfl,hb,hh,_⟩
 ·cases hg
 have:g'=g:=Option.some.inj hg;subst this;exact⟨hb,cur,hh⟩
theorem Qoc.put{w:World}{base g n cap:Nat}{T:List Qba}(h:Qoc w base (.slice (some ⟨g,0,none⟩) n cap) T)(k:Nat)(hk:k<T.length) :
 ∃pv,w.cell? ⟨g,k*3+2,none⟩=some pv∧Qna w base pv T[k].props∧pv.ownBlock≠some g∧g<w.heap.size∧(∀(w':World),Qaa (fun b=>pv.ownBlock=some b) w w'→w'.cell? ⟨g,k*3+2,none⟩=some pv∧w'.frozen? ⟨g,k*3+2,none⟩=false)∧
  ∀(w':World) (rv:Value) (ps:List Qqa),Qna w' base rv ps→Qaa (fun b=>pv.ownBlock=some b) w w'→
   Qda (w'.setCell ⟨g,k*3+2,none⟩ rv) base (.slice (some ⟨g,0,none⟩) n cap) (T.set k ⟨T[k].parent,T[k].name,ps⟩):=by
 obtain⟨H,pvs,h1,h2,h3,h4,h5,h6⟩:=h;have hn:n=T.length:=by
  rcases h2.2 with⟨e,_⟩|⟨_,_,_,e,_⟩
  ·cases e
  cases e;rfl
 subst hn;obtain⟨a0,a1,a2⟩:=Qmc T pvs k hk (by omega) h1;have hp:=h3 k hk (by omega);have GG:g<w.heap.size:=(h2.lt g rfl).2;have Hl:∀j (hj:j<pvs.length),pvs[j].ownBlock≠some g:=fun j hj e=>by
  obtain⟨_,cur,hH⟩:=Qic (h3 j (by omega) hj).1 e;exact Qla h2 hH (by decide) rfl
 refine⟨pvs[k],(h2.cellAt _ (by omega)).trans a2,hp,Hl k (by omega),GG,?_,?_⟩
 ·intro w' kk;obtain⟨cur,hH⟩:∃cur,Holds w g cur 46:=by obtain⟨_,cur,hH⟩:=Qic h2 rfl;exact⟨cur,hH⟩
  exact⟨(kk.cell (p:=⟨g,k*3+2,none⟩) GG (Hl k (by omega))).trans ((h2.cellAt _ (by omega)).trans a2),(hH.keeps kk (Hl k (by omega))).free _⟩
 intro w' rv ps hr kk;have h2':=Qca h2 kk (fun b hb e=>Hl k (by omega) (e.trans hb.symm));have h3':∀j (_:j<T.length) (_:j<pvs.length),j≠k→Qna w' base pvs[j] T[j].props:=fun j hj Ge ip=>
  ⟨Qca (h3 j hj Ge).1 kk (fun b hb e=>h5 j k Ge (by omega) ip b hb e),(h3 j hj Ge).2⟩
 obtain⟨s1,s2⟩:=h2'.stored (k*3+2) rv;refine⟨pvs.set k rv,by simpa using h1,?_,?_,?_⟩
 ·rw[Q7d T pvs k hk ps rv h1,List.length_set];exact s1
 ·intro j hj Ge;by_cases e:j=k
  ·subst e;simp only[List.getElem_set_self];exact hr.apart h2' s2 (by decide)
  rw[List.getElem_set_ne (fun x=>e x.symm),List.getElem_set_ne (fun x=>e x.symm)];exact(h3' j (by simpa using hj) (by simpa using Ge) e).apart h2' s2 (by decide)
 intro m hm;rcases List.mem_or_eq_of_mem_set hm with hm|rfl
 ·exact h4 m hm
 exact h4 T[k] (List.getElem_mem hk)
def ofT(ps:List Qqa)(x:ByteArray):ByteArray × Bool:=match ps.find? (fun p=>eqS p.name x)with
 | some p=>(p.value,true)
 | none=>(ByteArray.empty,false)
theorem Q9p{ps:List Qqa}{x:ByteArray}{k:Nat}(hk:k<ps.length)(h:eqS ps[k].name x=true)(hb:∀j (hj:j<ps.length),j<k→eqS ps[j].name x=false):ofT ps x=(ps[k].value,true):=by
 have:ps.find? (fun p=>eqS p.name x)=some ps[k]:=by
  rw[List.find?_eq_some_iff_getElem];exact⟨h,k,hk,rfl,fun j hj=>by simp[hb j (by omega) hj]⟩
 unfold ofT;rw[this]
theorem Qau{ps:List Qqa}{x:ByteArray}(hb:∀j (hj:j<ps.length),j<ps.length→eqS ps[j].name x=false):ofT ps x=(ByteArray.empty,false):=by
 have:ps.find? (fun p=>eqS p.name x)=none:=by
  rw[List.find?_eq_none];intro p hp;obtain⟨j,hj,rfl⟩:=List.getElem_of_mem hp;simp[hb j hj hj]
 unfold ofT;rw[this]
theorem QBq(R:Nat→Prop)(pr:Int)(nm:ByteArray)(v:Value)(ps:List Qqa)(x:ByteArray)(w:World)(hP:QAa R w v ps) :
 Calls prog 14 #[.agg #[.int .i64 pr,.string nm,v],.string x] w fun e w'=>e=.returned (.tuple #[.string (ofT ps x).1,.bool (ofT ps x).2])∧Below w.heap.size w w':=by
 obtain⟨a,cap,rfl,gy,gh⟩:=hP.shape;have HP:=hid hP;clear hP;go_enter func14,ntmps14;go_wp2_with fail;go_loopg [11] ps.length (fun f y wr=>∃k:Nat,y=.int .i64 k∧k≤ps.length∧ps.length≤k+f∧Hid (∀j (hj:j<ps.length),j<k→eqS ps[j].name x=false)∧Below w.heap.size w wr)
 case atStart=>exact⟨0,rfl,by omega,by omega,hid (fun j _ h=>by omega),Bq⟩
 case round=>
  obtain⟨k,rfl,Ga,kW,Ha,hb⟩:=hrel;have Hy:=hb.size;by_cases Hh:k<ps.length
  ·obtain⟨g,o,Jh,hg,q0,q1,M9,AM⟩:=(HP.o.new hb).at k Hh;subst Jh;have hcut:(k:Int)<(ps.length:Int):=by omega
   cases Ht:(ps[k].name.toList==x.toList)with
   | true=>
    have kJ:=hid (Q9p Hh (show eqS ps[k].name x=true from Ht) Ha.o);clear Ha;generalize ps[k]=pd at *
    go_wp2_with fail;go_ret2;exact⟨by rw[kJ.o];rfl,hb.alloc Hy _⟩
   | false=>
    have oI:=hid (show ∀j (hj:j<ps.length),j<k+1→eqS ps[j].name x=false from fun j hj h=>by
     by_cases e:j=k
     ·subst e;exact Ht
     exact Ha.o j hj (by omega))
    clear Ha;generalize ps[k]=pd at *
    go_wp2_with fail;go_roundg (gk-1)
    case measure=>omega
    case rel=>exact⟨k+1,by go_num,by omega,by omega,oI,hb.alloc Hy _⟩
  obtain rfl:k=ps.length:=by omega
  have kJ:=hid (Qau Ha.o);clear Ha;go_wp2_with fail;go_ret2;exact⟨by rw[kJ.o];rfl,hb⟩
def QDa(ps:List Qqa)(name:ByteArray):List Qqa:=ps.filter fun p=>!eqS p.name name
theorem QLm{ps:List Qqa}{name:ByteArray}{k:Nat}(hk:k<ps.length)(h:eqS ps[k].name name=false):QDa (ps.take (k+1)) name=QDa (ps.take k) name++[ps[k]]:=by
 unfold QDa;rw[List.take_succ_eq_append_getElem hk,List.filter_append];simp[h]
theorem QLo{ps:List Qqa}{name:ByteArray}{k:Nat}(hk:k<ps.length)(h:eqS ps[k].name name=true):QDa (ps.take (k+1)) name=QDa (ps.take k) name:=by
 unfold QDa;rw[List.take_succ_eq_append_getElem hk,List.filter_append];simp[h]
theorem QKm(ps:List Qqa)(name:ByteArray)(k:Nat):(QDa (ps.take k) name).length≤k:=by
 unfold QDa;exact Nat.le_trans (List.length_filter_le _ _) (by simp;omega)
theorem QCi(a:List Qqa)(p:Qqa):Qfa (a++[p])=Qfa a++[.string p.name,.string p.value]:=by
 induction a with
 | nil=>rfl
 | cons x a ih=>show _::_::Qfa (a++[p])=_;rw[ih];rfl
theorem Q6k(R:Nat→Prop)(v:Value)(ps:List Qqa)(name:ByteArray)(w:World)(hP:QAa R w v ps)(hl:ps.length≤1000) :
 Calls prog 139 #[v,.string name] w fun e w'=>∃u,e=.returned u∧Qna w' w.heap.size u (QDa ps name)∧Below w.heap.size w w':=by
 obtain⟨a,cap,rfl,gy,gh⟩:=hP.shape;have HP:=hid hP;clear hP;go_enter func139,ntmps139;go_wp2_with fail;go_loopg [5,10] ps.length (fun f x y wr=>∃k:Nat,y=.int .i64 k∧k≤ps.length∧ps.length≤k+f∧wr.ownsRow w.heap.size 49 2 x (QDa (ps.take k) name).length (Qfa (QDa (ps.take k) name))∧Below w.heap.size w wr)
 case atStart=>exact⟨0,rfl,by omega,by omega,World.ownsRow_nil _ _ _ _,Below.refl _ _⟩
 case round=>
  obtain⟨k,rfl,Ga,kW,Hi,hb⟩:=hrel;have Hy:=hb.size;obtain⟨va,vc,rfl⟩:=Qea Hi;by_cases Hh:k<ps.length
  ·obtain⟨g,o,Jh,hg,q0,q1,M9,AM⟩:=(HP.o.new hb).at k Hh;subst Jh;have kX:=QKm ps name k;have hcut:(k:Int)<(ps.length:Int):=by omega
   cases Ht:(ps[k].name.toList==name.toList)with
   | true=>
    have kJ:=hid (QLo Hh (show eqS ps[k].name name=true from Ht));have JZ:=hid Hi;clear Hi;generalize ps[k]=pd at *
    go_wp2_with fail;go_roundg (gk-1)
    case measure=>omega
    case rel=>exact⟨k+1,by go_num,by omega,by omega,by rw[kJ.o];exact Qbb JZ.o (Bq),hb.alloc Hy _⟩
   | false=>
    have kJ:=hid (QLm Hh (show eqS ps[k].name name=false from Ht));generalize ps[k]=pd at *
    obtain⟨i0,hi,Hz,Ho,H4⟩:=info_parts QGc;have Hg:Below wr.heap.size wr ((wr.alloc (.cells #[.string pd.name,.string pd.value] 49)).alloc (.cells #[.string pd.name,.string pd.value] 49)):=(Bq).alloc (by simp) _;have Gs:=hid (Qbb Hi Hg);have Hu:=hid (hb.trans (Hg.mono Hy));clear Hi Hg;go_wp2_with(at_builtin;refine wpList_append_own _ rfl _ _ 44 rfl w.heap.size 49 i0 (.agg #[.string ⟨#[]⟩,.string ⟨#[]⟩]) 2 32 underlying44 hi Hz Ho H4 rfl (by decide) _ (QDa (ps.take k) name).length (Qfa (QDa (ps.take k) name)) rfl (by exact Gs.o) ⟨wr.heap.size+1,0,none⟩ 1 1 [.string pd.name,.string pd.value] rfl rfl (by exact Q8a _ _ _ (wr.heap.size+1) (by simp) _ rfl) (by intro u hu;simp at hu;rcases hu with rfl|rfl <;> rfl) (by unfold maxLen;omega) (by omega) (by simp;omega) ?_);intro v' w7 Hj Hd _;obtain⟨ra',rc',rfl⟩:=Qea Hj;have Gd:=Hu.o.grown Hd (by simp;omega) (fun i e=>(Gs.o.lt i e).1);have HF:=hid (show w7.ownsRow w.heap.size 49 2 (.slice ra' ((QDa (ps.take k) name).length+1) rc') (QDa (ps.take (k+1)) name).length (Qfa (QDa (ps.take (k+1)) name))from by
     rw[kJ.o,List.length_append,List.length_singleton,QCi];exact Hj)
    clear Hj Hd Gs Hu;go_wp2_with fail;go_roundg (gk-1)
    case measure=>omega
    case rel=>exact⟨k+1,by go_num,by omega,by omega,HF.o,Gd⟩
  obtain rfl:k=ps.length:=by omega
  rw[List.take_length]at Hi;have HF:=hid (show Qna wr w.heap.size (.slice va (QDa (ps.take ps.length) name).length vc) (QDa ps name)from by
   rw[List.take_length];refine⟨Hi,fun p hp=>?_⟩;unfold QDa at hp;obtain⟨j,hj,rfl⟩:=List.getElem_of_mem (List.mem_filter.1 hp).1;obtain⟨_,_,_,_,_,_,h1,h2⟩:=HP.o.at j hj;exact⟨h1,h2⟩)
  clear Hi;go_wp2_with fail;go_ret;exact⟨_,rfl,HF.o,hb⟩
theorem Qnt{a b:Qba}(h:a.parent=b.parent∧a.name=b.name∧a.props=b.props):a=b:=by
 cases a;cases b;simp only at h;obtain⟨rfl,rfl,rfl⟩:=h
 rfl
def Qxu(T U:List Qba)(X Y:Nat)(c1 c2:Value)(W:World)(f:Nat)(x:Value)(w:World):Prop:=
 ∃i:Nat,x=.int .i64 i∧i≤T.length∧T.length≤i+f∧Hid (∀j (h1:j<T.length) (h2:j<U.length),j<i→T[j]=U[j])∧Holds w X #[c1] 27∧Holds w Y #[c2] 27∧Below W.heap.size W w
theorem QCq(R R':Nat→Prop)(v u:Value)(T U:List Qba)(w:World)(h1:Qoa R w v T)(h2:Qoa R' w u U) :
 Calls prog 12 #[.agg #[v],.agg #[u]] w fun e w'=>∃b,e=.returned (.bool b)∧(b=true↔T=U)∧Below w.heap.size w w':=by
 obtain⟨a,cap,rfl,gy,gh⟩:=h1.shape;obtain⟨a',cap',rfl,cZ,c8⟩:=h2.shape;have H1:=hid h1;have H2:=hid h2;clear h1 h2;have hX:=(Holds.new w #[.slice a T.length cap] 27).alloc (.cells #[.slice a' U.length cap'] 27);have hY:=Holds.newAt (w:=w.alloc (.cells #[.slice a T.length cap] 27)) (B:=w.heap.size+1) (by simp) #[.slice a' U.length cap'] 27;have He:Below w.heap.size w ((w.alloc (.cells #[.slice a T.length cap] 27)).alloc (.cells #[.slice a' U.length cap'] 27)):=(Bq).alloc (by simp) _;by_cases hl:T.length=U.length
 ·have hl':((T.length:Int) != (U.length:Int))=false:=by rw[hl];simp
  have HL:=hid hl;clear hl;go_enter func12,ntmps12;go_wp2_with fail;go_loopg [16] T.length (fun f x wr=>Qxu T U w.heap.size (w.heap.size+1) (.slice a T.length cap) (.slice a' U.length cap') w f x wr)
  case atStart=>exact⟨0,rfl,by omega,by omega,hid (fun j _ _ h=>by omega),hX,hY,He⟩
  case round=>
   clear hX hY He;obtain⟨i,rfl,Kb,Jm,Ha,hX,hY,hb⟩:=hrel;by_cases Hh:i<T.length
   ·have GI:i<U.length:=by rw[←HL.o];exact Hh
    have k1:(i:Int)<T.length:=by omega
    have k2:(i:Int)<U.length:=by omega
    have x0:=hX.cell 0;have y0:=hY.cell 0;obtain⟨g,o,pa,pc,Jh,hg,c0,c1,c2,hP,-,-,-,-,-⟩:=(H1.o.new hb).at i Hh;obtain⟨g',o',pa',pc',mG,hg',d0,d1,d2,hP',-,-,-,-,-⟩:=(H2.o.new hb).at i GI;subst Jh;subst mG;have HB:=hid hb;have HX:=hid hX;have HY:=hid hY;have HC:=hid (QPj R R' T[i].parent U[i].parent T[i].name U[i].name (.slice pa T[i].props.length pc) (.slice pa' U[i].props.length pc') T[i].props U[i].props wr.drew hP.drew hP'.drew);have GD:Below wr.heap.size wr wr.drew:=(Below.refl _ _).drew;have kJ:=hid (show(T[i].parent=U[i].parent∧T[i].name=U[i].name∧T[i].props=U[i].props)↔T[i]=U[i]from⟨Qnt,fun e=>by rw[e];exact⟨rfl,rfl,rfl⟩⟩);have gD:=hid (show T[i]=U[i]→∀j (h1:j<T.length) (h2:j<U.length),j<i+1→T[j]=U[j]from fun e j j1 j2 h=>by
     by_cases ej:j=i
     ·subst ej;exact e
     exact Ha.o j j1 j2 (by omega))
    have Hl:=hid (show ¬T[i]=U[i]→T≠U from fun h e=>h (by simp only[e]));clear hb hX hY Ha hP hP';generalize T[i].parent=n1 at *
    generalize T[i].name=n2 at *
    generalize T[i].props=n3 at *
    generalize U[i].parent=m1 at *
    generalize U[i].name=m2 at *
    generalize U[i].props=m3 at *
    go_wp2_with fail
    go_region_with (go_at_call 41;refine HC.o.mono ?_;rintro e w2 ⟨b,rfl,fY,Hc⟩)
    all_goals
     have Hg:=GD.trans Hc;have gw:=HX.o.fr Hg;have Ad:=HY.o.fr Hg;have Hu:=HB.o.trans (Hg.mono HB.o.size);rw[kJ.o]at fY;clear x0 y0 c0 c1 c2 d0 d1 d2;cases b with
     | true=>
      have mg:=hid (gD.o (fY.1 rfl));clear fY;go_wp2_with fail;go_roundg (gk-1)
      case measure=>omega
      case rel=>exact⟨i+1,by go_num,by omega,by omega,mg,gw,Ad,Hu⟩
     | false=>
      have mg:=hid (Hl.o (fun e=>by have:=fY.2 e;cases this));clear fY;go_wp2_with fail;go_ret;exact⟨false,rfl,by simp[mg.o],Hu⟩
   obtain rfl:i=T.length:=by omega
   have GC:Hid (T=U):=hid (by
    apply List.ext_getElem HL.o;intro j j1 j2;exact Ha.o j j1 j2 j1)
   have Hc:=hid hb;clear hb hX hY;go_wp2_with fail;go_ret;exact⟨true,rfl,by simp[GC.o],Hc.o⟩
 have hl':((T.length:Int) != (U.length:Int))=true:=by simp;omega
 have Gt:=hid (show T≠U from fun e=>hl (by rw[e]));clear hl;go_enter func12,ntmps12;go_wp2_with fail;go_ret;exact⟨false,rfl,by simp[Gt.o],He⟩
end Go.Proofs.YtgaboghigefgbaaGreatDoor
