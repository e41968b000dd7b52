/- Lemmas on the way to the law; no conditions. -/
import Derived.Test.YtgaboghigefgbaaGreatDoorZ47
import Derived.Test.YtgaboghigefgbaaGreatDoorZ29
set_option linter.all false
set_option maxRecDepth 100000
set_option maxHeartbeats 8000000
namespace Go.Proofs.YtgaboghigefgbaaGreatDoor
open Go.Proofs.Tryz
open Go.Lib (hid)
open Go.RowKit
theorem QIi{l:List Qga}{k:Nat}{T:List Qba}(h:k<l.length)(he:(Q5a T l[k]).2≠0):Qpd k T (l.drop k)=([],(k:Int),(Q5a T l[k]).2):=by
 rw[List.drop_eq_getElem_cons h,Qpd,if_pos he]
theorem Qbk{l:List Qga}{k:Nat}{T:List Qba}(h:k<l.length)(he:(Q5a T l[k]).2=0):Qpd k T (l.drop k)=Qpd (k+1) (Q5a T l[k]).1 (l.drop (k+1)):=by
 rw[List.drop_eq_getElem_cons h,Qpd,if_neg (by rw[he];simp)]
theorem QJi{l:List Qga}{k:Nat}{T:List Qba}(h:l.length≤k):Qpd k T (l.drop k)=(T,0,0):=by
 rw[List.drop_of_length_le h];rfl
theorem QJl{T:List Qba}(hc:Qia T=0)(h0:0<T.length):QUc T:=⟨h0,QBa (QOa hc).2.1,QTb (QOa hc).2.1 h0⟩
theorem Qkk{T:List Qba}(hc:Qia T=0):0<T.length:=by
 cases T with
 | nil=>exact absurd hc (by decide)
 | cons a r=>simp
theorem Qdq(R:Nat→Prop)(v:Value)(T:List Qba)(nm:ByteArray)(ov:Value)(l:List Qga)(w:World)(hT:Qoa R w v T)(hE:QFa w ov l)(Ht:nm.size≤maxLen)(hz:Qyb l)(M8:l.length≤1000000)(lay:Qah w) :
 Calls prog 10 #[.agg #[v],.agg #[.string nm,ov]] w fun e w'=>∃v',e=.returned (.tuple #[.agg #[v'],.int .i64 (QCc T nm l).2.1,.int .i64 (QCc T nm l).2.2])∧Qda w' w.heap.size v' (QCc T nm l).1∧Below w.heap.size w w':=by
 obtain⟨ta,tcap,rfl,bY,Kk⟩:=hT.shape;obtain⟨oa,ocap,rfl,aV,Hf⟩:=hE.slice;obtain⟨W0,gM⟩:∃W0,W0=((w.alloc (.cells #[.slice ta T.length tcap] 27)).alloc (.cells #[.string nm,.slice oa l.length ocap] 31)).alloc (.cells #[.slice none 0 0] 27):=⟨_,rfl⟩;have He:Below w.heap.size w W0:=by rw[gM];exact((Bq).alloc (by simp) _).alloc (by simp;omega) _
 have Gb:Holds W0 w.heap.size #[.slice ta T.length tcap] 27:=by rw[gM];exact((Holds.new w #[.slice ta T.length tcap] 27).alloc _).alloc _
 have kR:Holds W0 (w.heap.size+1) #[.string nm,.slice oa l.length ocap] 31:=by rw[gM];exact(Holds.newAt (w:=w.alloc (.cells #[.slice ta T.length tcap] 27)) (B:=w.heap.size+1) (by simp) #[.string nm,.slice oa l.length ocap] 31).alloc _
 have gX:Holds W0 (w.heap.size+1+1) #[.slice none 0 0] 27:=by rw[gM];exact Holds.newAt (w:=(w.alloc (.cells #[.slice ta T.length tcap] 27)).alloc (.cells #[.string nm,.slice oa l.length ocap] 31)) (B:=w.heap.size+1+1) (by simp) #[.slice none 0 0] 27
 have HT:=hid hT;have HE:=hid hE;have HL:=hid lay;have HZ:=hid hz;clear hT hE lay hz;go_enter func10,ntmps10;go_upto_region 1 with fail;rw[←gM];refine wp_region_any (by kernel_rfl) ?_;refine QUa (ops':=Qwi) (by kernel_rfl) ?_;refine Q8n w.heap.size (w.heap.size+1) (.slice ta T.length tcap) (.slice oa l.length ocap) T nm l R W0 _ _ rfl Ht HZ.o M8 rfl rfl ⟨Gb,kR,HT.o.new He,HE.o.new He,HL.o.fr He⟩ ((Below.refl _ _).drew) ?_;intro c w1 gI h7 Hb;obtain⟨y7,y10,y11,y12,y13,y14,y15,rfl⟩:=gI.ex [7,10,11,12,13,14,15] (by kernel_rfl);simp only[List.setIfInBounds_toArray,List.set_cons_zero,List.set_cons_succ]at h7 ⊢;have h7':y7=.int .i64 (if Qia T=0 then Qva nm l else Qia T):=h7;subst h7';have ay:Below w.heap.size w w1:=He.trans (Hb.mono He.size);have Hr:=Gb.fr Hb;have Hs:=kR.fr Hb;have Hm:=gX.fr Hb;have Hq:=hid ay;have Ky:=hid Hr;have kO:=hid Hs;have GT:=hid Hm;have jb:=Hm.lt;clear gI h7 Hb ay Gb kR gX He Hr Hs Hm gM;by_cases hE0:(if Qia T=0 then Qva nm l else Qia T)=0
 ·have hc:Qia T=0:=by
   rcases Decidable.em (Qia T=0)with h|h
   ·exact h
   rw[if_neg h]at hE0;exact hE0
  rw[if_pos hc]at hE0;rw[if_pos hc,hE0];have hA:=hid (show QCc T nm l=Qpd 0 T l from by unfold QCc;rw[if_neg (by rw[hc];simp),if_neg (by rw[hE0];simp)]);have MU:=hid (QNg hE0).2.2.2.1;have HC:=hid hc;have HW:=hid (fun wx hx=>Qtl R (.slice ta T.length tcap) T wx hx (QJl hc (Qkk hc)) (QSd hc) (by have:=(QOa hc).1;unfold Qza at this;rw[Bool.and_eq_true,decide_eq_true_eq]at this;omega) (Q4b hc));rw[Qdi hc (Qkk hc)]at HW;have zP:=hid (HT.o.new Hq.o);have x0:=Ky.o.cell 0;have xl:=Ky.o.lt;clear hc hE0;go_wp2_with fail;refine Calls.mono (by exact HW.o w1 zP.o) ?_;rintro e w2 ⟨tv,gP,_,rfl,lO,_,_,_,_,Hc⟩;obtain⟨a2,c2,rfl,_,_⟩:=lO.in.shape;have Hx:=GT.o.fr Hc;have gv:=kO.o.fr Hc;have vR:=Hx.lt;have z0:=Hx.cell 0;have z1:=Hx.free 0;have o1:=gv.cell 1;have ol:=gv.lt;have gF:=hid (Hq.o.trans (Hc.mono Hq.o.size));go_wp2_with fail;have kJ:=GT.o;go_loopg [29] (l.length) (fun f x wr=>∃k:Nat,x=.int .i64 k∧k≤l.length∧l.length≤k+f∧∃(tv:Value) (Tk:List Qba),Hid (Holds wr (w.heap.size+1+1) #[tv] 27)∧Hid (Qda wr w.heap.size tv Tk)∧Hid (Qia Tk=0)∧Hid (Qpd k Tk (l.drop k)=Qpd 0 T l)∧Hid (Below w.heap.size w wr))
  case atStart=>exact⟨0,rfl,by omega,by omega,.slice a2 T.length c2,T,hid (Hx.set 0 _),hid ((lO.base Hq.o.size).set Hx (by decide) (by decide) 0 _),HC,hid rfl,hid (gF.o.setCell (by simp;omega) _)⟩
  case round=>
   clear Hx gv lO Hc vR z0 z1 o1 ol x0 xl kJ jb;obtain⟨k,rfl,hk,hf,tv,Tk,HR,fv,ki,eZ,HB⟩:=hrel;obtain⟨a4,c4,rfl,_,_⟩:=fv.o.in.shape;have z0:=HR.o.cell 0;have z1:=HR.o.free 0;have zl:=HR.o.lt;by_cases Hh:k<l.length
   ·have GJ:(k:Int)<(l.length:Int):=by omega
    obtain⟨g,o,e1,hg,Hw⟩:=Q7a (HE.o.new HB.o) (by omega);subst e1;obtain⟨d0,d1,d2,d3⟩:=Hw k Hh;have MX:=List.getElem_mem Hh;have bz:=hid (Qko w.heap.size (.slice a4 Tk.length c4) Tk l[k] (wr.alloc (.cells #[.int .i64 l[k].kind,.string l[k].path,.string l[k].name,.string l[k].value] 39)) (fv.o.new (Bq)) (by have:=HB.o.size;simp;omega) (MU.o _ MX) (HZ.o _ MX).1 (HZ.o _ MX).2.1 (HZ.o _ MX).2.2);have MA:=hid (fun he=>(Qhk ki.o (MU.o _ MX) he).1);have Mu:=hid (fun he=>(QIi (T:=Tk) Hh he).symm.trans eZ.o);have dN:=hid (fun he=>(Qbk (T:=Tk) Hh he).symm.trans eZ.o);have Gl:=HR.o.alloc (.cells #[.int .i64 l[k].kind,.string l[k].path,.string l[k].name,.string l[k].value] 39);have Hc:=HB.o.alloc HB.o.size (.cells #[.int .i64 l[k].kind,.string l[k].path,.string l[k].name,.string l[k].value] 39);clear MX Hw;generalize l[k]=x at *
    generalize Q5a Tk x=C at *
    obtain⟨Tn,er⟩:=C;simp only at bz MA Mu dN;have rY:=hid Gl;have gF:=hid Hc;clear Gl Hc;go_wp2_with fail;refine Calls.mono (by exact bz.o) ?_;rintro e w3 ⟨v3,rfl,Mr,Hg⟩;obtain⟨a5,c5,rfl,_,_⟩:=Mr.in.shape;have ME:=rY.o.fr Hg;have kC:=hid (gF.o.trans (Hg.mono gF.o.size));have nF:=hid (Mr.set ME (by decide) (by decide) 0 (.slice a5 Tn.length c5));have cw:=hid (ME.set 0 (.slice a5 Tn.length c5));have e0:=ME.cell 0;have e1:=ME.free 0;have el:=ME.lt;clear ME Mr Hg z0 z1 zl d0 d1 d2 d3;by_cases he:er=0
    ·subst he;go_wp2_with fail;go_roundg (gk-1)
     case measure=>omega
     case rel=>exact⟨k+1,by go_num,by omega,by omega,.slice a5 Tn.length c5,Tn,cw,nF,hid (MA.o (by first|rfl|trivial)),hid (dN.o (by first|rfl|trivial)),hid (kC.o.setCell (by simp;omega) _)⟩
    have lu:(er != 0)=true:=by simpa using he
    have ch:=hid (Mu.o he);have f0:=cw.o.cell 0;have f1:=cw.o.free 0;have fl:=cw.o.lt;clear he Mu dN MA;go_wp2_with fail;have z0:=(cw.o.set 0 (.slice none 0 0)).cell 0;exact bodyPost_ret (v:=.tuple #[.agg #[.slice none 0 0],.int .i64 k,.int .i64 er]) (by simp[results,Tryz.results10,go_sem,z0]) rfl ⟨.slice none 0 0,by rw[hA.o,←ch.o],by rw[hA.o,←ch.o];exact Qda.nil _ _,(kC.o.setCell (by simp;omega) _).setCell (by simp;omega) _⟩
   have GJ:¬(k:Int)<(l.length:Int):=by omega
   have JU:=hid ((QJi (T:=Tk) (show l.length≤k by omega)).symm.trans eZ.o);go_wp2_with fail;have y0:=(HR.o.set 0 (.slice a4 Tk.length c4)).cell 0;exact bodyPost_ret (v:=.tuple #[.agg #[.slice a4 Tk.length c4],.int .i64 0,.int .i64 0]) (by simp[results,Tryz.results10,go_sem,y0]) rfl ⟨.slice a4 Tk.length c4,by rw[hA.o,←JU.o],by rw[hA.o,←JU.o];exact fv.o.set HR.o (by decide) (by decide) 0 _,HB.o.setCell (by simp;omega) _⟩
 have cI:((if Qia T=0 then Qva nm l else Qia T) != 0)=true:=by simpa using hE0
 have hA:=hid (show QCc T nm l=([],0,if Qia T=0 then Qva nm l else Qia T)from by
  unfold QCc;by_cases h:Qia T=0
  ·rw[if_neg (by rw[h];simp),if_pos h,if_pos (by rw[if_pos h]at hE0;exact hE0)]
  rw[if_pos h,if_neg h])
 obtain⟨E,hE⟩:∃E,E=(if Qia T=0 then Qva nm l else Qia T):=⟨_,rfl⟩;rw[←hE]at cI hA ⊢;clear hE0 hE;have z0:=GT.o.cell 0;have z1:=GT.o.free 0;go_wp2_with fail;have z2:=(GT.o.set 0 (.slice none 0 0)).cell 0;exact bodyPost_ret (v:=.tuple #[.agg #[.slice none 0 0],.int .i64 0,.int .i64 E]) (by simp[results,Tryz.results10,go_sem,z2]) rfl ⟨.slice none 0 0,by rw[hA.o],by rw[hA.o];exact Qda.nil _ _,Hq.o.setCell (by simp;omega) _⟩
theorem Qak{w:World}{B:Nat}{v u:Value}{T U:List Qba}{ta:Option Addr}{n c:Nat}(hv:v=.slice ta n c)(h:(u=v∧U=T)∨Qda w B u U):∃a n c,u=.slice a n c:=by
 rcases h with⟨h,_⟩|h
 ·exact⟨_,_,_,h.trans hv⟩
 obtain⟨a,c,h,_⟩:=h.in.shape;exact⟨_,_,_,h⟩
theorem QAs{R:Nat→Prop}{w w':World}{B:Nat}{v u:Value}{T U:List Qba}(hT:Qoa R w v T)(hb:Below w.heap.size w w')(h:(u=v∧U=T)∨Qda w' B u U):∃R',Qoa R' w' u U:=by
 rcases h with⟨e1,e2⟩|h
 ·exact⟨R,by rw[e1,e2];exact hT.new hb⟩
 exact⟨_,h.in⟩
theorem Qqj{w w':World}{B:Nat}{v u:Value}{T U:List Qba}(h:(u=v∧U=T)∨Qda w B u U)(b:Below w.heap.size w w'):(u=v∧U=T)∨Qda w' B u U:=h.imp id (fun h=>h.new b)
theorem QDl{w:World}{B Z:Nat}{v u z x:Value}{T U:List Qba}(h:(u=v∧U=T)∨Qda w B u U)(hZ:Holds w Z #[z] 27):(u=v∧U=T)∨Qda (w.setCell ⟨Z,0,none⟩ x) B u U:=h.imp id (fun h=>h.set hZ (by decide) (by decide) 0 x)
theorem QXo{w:World}{B B':Nat}{v u x:Value}{T U X:List Qba}(h:(u=v∧U=T)∨Qda w B' u U)(k:(v=x∧T=X)∨Qda w B v T)(hB:B≤B'):(u=x∧U=X)∨Qda w B u U:=by
 rcases h with⟨e1,e2⟩|h
 ·rw[e1,e2];exact k
 exact .inr (h.base hB)
theorem Quq(R:Nat→Prop)(v:Value)(T:List Qba)(nm:ByteArray)(ov:Value)(l:List Qga)(w:World)(hT:Qoa R w v T)(hE:QFa w ov l)(Ht:nm.size≤maxLen)(hz:Qyb l) :
 Calls prog 26 #[.agg #[v],.agg #[.string nm,ov]] w fun e w'=>∃v',e=.returned (.tuple #[.agg #[v'],.int .i64 (QCc T nm l).2.1,.int .i64 (QCc T nm l).2.2])∧((v'=v∧(QCc T nm l).1=T)∨Qda w' w.heap.size v' (QCc T nm l).1)∧Below w.heap.size w w':=by
 obtain⟨ta,tcap,rfl,_,_⟩:=hT.shape;obtain⟨oa,ocap,rfl,aV,Hf⟩:=hE.slice;have qq:=hid (fun wx hx=>QVe R (.slice ta T.length tcap) T wx hx);have rP:=hid (fun wx hx=>Qcg nm (.slice oa l.length ocap) l wx hx Ht hz);obtain⟨W0,gJ⟩:∃W0,W0=((w.alloc (.cells #[.slice ta T.length tcap] 27)).alloc (.cells #[.string nm,.slice oa l.length ocap] 31)).alloc (.cells #[.slice none 0 0] 27):=⟨_,rfl⟩;have He:Below w.heap.size w W0:=by rw[gJ];exact((Bq).alloc (by simp) _).alloc (by simp;omega) _
 have Gb:Holds W0 w.heap.size #[.slice ta T.length tcap] 27:=by rw[gJ];exact((Holds.new w #[.slice ta T.length tcap] 27).alloc _).alloc _
 have kR:Holds W0 (w.heap.size+1) #[.string nm,.slice oa l.length ocap] 31:=by rw[gJ];exact(Holds.newAt (w:=w.alloc (.cells #[.slice ta T.length tcap] 27)) (B:=w.heap.size+1) (by simp) #[.string nm,.slice oa l.length ocap] 31).alloc _
 have gX:Holds W0 (w.heap.size+1+1) #[.slice none 0 0] 27:=by rw[gJ];exact Holds.newAt (w:=(w.alloc (.cells #[.slice ta T.length tcap] 27)).alloc (.cells #[.string nm,.slice oa l.length ocap] 31)) (B:=w.heap.size+1+1) (by simp) #[.slice none 0 0] 27
 have HT:=hid hT;have HE:=hid hE;have sU:=hid hz;have gM:=hid gJ;have Mw:=hid (hT.new He);have gK:=hid He;clear hT hE hz Ht gJ;by_cases hc:Qia T=0
 ·rw[hc]at qq;by_cases hd:Qva nm l=0
  ·rw[hd]at rP;have hA:=hid (show QCc T nm l=Qpd 0 T l from by unfold QCc;rw[if_neg (by rw[hc];simp),if_neg (by rw[hd];simp)]);have MU:=hid (QNg hd).2.2.2.1;have HC:=hid hc;clear hc hd;go_enter func26,ntmps26;go_wp2_with fail;rw[←gM.o];refine Calls.mono (by exact qq.o W0 Mw.o) ?_;rintro e w1 ⟨rfl,Hb⟩;have Hr:=Gb.fr Hb;have Hs:=kR.fr Hb;have Hm:=gX.fr Hb;have Hq:=hid (He.trans (Hb.mono He.size));have o0:=Hs.cell 0;have o1:=Hs.cell 1;have ol:=Hs.lt;clear Gb kR gX He Hb;go_wp2_with fail;refine Calls.mono (by exact rP.o w1 (HE.o.new Hq.o)) ?_;rintro e w2 ⟨rfl,Hc⟩;have gw:=hid (Hr.fr Hc);have gv:=Hs.fr Hc;have Hx:=hid (Hm.fr Hc);have gF:=hid (Hq.o.trans (Hc.mono Hq.o.size));clear o0 o1 ol Hr Hs Hm Hc;have o1:=gv.cell 1;have ol:=gv.lt;clear gv;go_wp2_with fail;go_loopg [28] (l.length) (fun f x wr=>∃k:Nat,x=.int .i64 k∧k≤l.length∧l.length≤k+f∧∃(a5:Option Addr) (n5 c5:Nat) (Tk:List Qba),Hid (Holds wr w.heap.size #[.slice a5 n5 c5] 27)∧Hid (Holds wr (w.heap.size+1+1) #[.slice none 0 0] 27)∧Hid ((Value.slice a5 n5 c5=.slice ta T.length tcap∧Tk=T)∨Qda wr w.heap.size (.slice a5 n5 c5) Tk)∧Hid (Qia Tk=0)∧Hid (Qpd k Tk (l.drop k)=Qpd 0 T l)∧Hid (Below w.heap.size w wr))
   case atStart=>exact⟨0,rfl,by omega,by omega,ta,T.length,tcap,T,gw,Hx,hid (.inl ⟨rfl,rfl⟩),HC,hid rfl,gF⟩
   case round=>
    clear o1 ol;obtain⟨k,rfl,hk,hf,a5,n5,c5,Tk,HX,HZ,HD,ki,eZ,HB⟩:=hrel;have z0:=HX.o.cell 0;have z1:=HX.o.free 0;have zl:=HX.o.lt;have Hy:=HB.o.size;by_cases Hh:k<l.length
    ·have GJ:(k:Int)<(l.length:Int):=by omega
     obtain⟨g,o,e1,hg,Hw⟩:=Q7a (HE.o.new HB.o) (by omega);subst e1;obtain⟨d0,d1,d2,d3⟩:=Hw k Hh;have MX:=List.getElem_mem Hh;obtain⟨Rk,my⟩:=QAs HT.o HB.o HD.o;have bz:=hid (Qvq Rk (.slice a5 n5 c5) Tk l[k] (wr.alloc (.cells #[.int .i64 l[k].kind,.string l[k].path,.string l[k].name,.string l[k].value] 39)) (my.new (Bq)) ki.o (MU.o _ MX) (by have:=(sU.o _ MX).1;omega) (by have:=(sU.o _ MX).2.1;omega) (by have:=(sU.o _ MX).2.2;omega));have MA:=hid (fun he=>(Qhk ki.o (MU.o _ MX) he).1);have Mu:=hid (fun he=>(QIi (T:=Tk) Hh he).symm.trans eZ.o);have dN:=hid (fun he=>(Qbk (T:=Tk) Hh he).symm.trans eZ.o);have j7:=hid (HX.o.alloc (.cells #[.int .i64 l[k].kind,.string l[k].path,.string l[k].name,.string l[k].value] 39));have mu:=hid (HZ.o.alloc (.cells #[.int .i64 l[k].kind,.string l[k].path,.string l[k].name,.string l[k].value] 39));have fd:=hid (HB.o.alloc HB.o.size (.cells #[.int .i64 l[k].kind,.string l[k].path,.string l[k].name,.string l[k].value] 39));have yL:=hid (Qqj HD.o ((Below.refl _ _).alloc (Nat.le_refl _) (.cells #[.int .i64 l[k].kind,.string l[k].path,.string l[k].name,.string l[k].value] 39)));clear MX Hw my;generalize l[k]=x at *
     generalize Q5a Tk x=C at *
     obtain⟨Tn,er⟩:=C;simp only at bz MA Mu dN;go_wp2_with fail;refine Calls.mono (by exact bz.o) ?_;rintro e w3 ⟨v3,rfl,MI,Hg⟩;obtain⟨a6,n6,c6,rfl⟩:=Qak rfl MI;have cD:=hid (j7.o.fr Hg);have KT:=hid (mu.o.fr Hg);have kC:=hid (fd.o.trans (Hg.mono fd.o.size));have vZ:=hid (QXo MI (Qqj yL.o Hg) fd.o.size);have wN:=hid (cD.o.alloc (.cells #[.slice a6 n6 c6] 27));have M2:=hid (KT.o.alloc (.cells #[.slice a6 n6 c6] 27));have mN:=hid (kC.o.alloc kC.o.size (.cells #[.slice a6 n6 c6] 27));have yM:=hid (Qqj vZ.o ((Below.refl _ _).alloc (Nat.le_refl _) (.cells #[.slice a6 n6 c6] 27)));clear MI Hg z0 z1 zl d0 d1 d2 d3 hg Hy;have z0:=cD.o.cell 0;have z1:=cD.o.free 0;have zl:=cD.o.lt;have y0:=KT.o.cell 0;have y1:=KT.o.free 0;have yl:=KT.o.lt;by_cases he:er=0
     ·subst he;have H1:=hid (MA.o (by first|rfl|trivial));have H2:=hid (dN.o (by first|rfl|trivial));clear MA dN Mu;go_wp2_with fail;go_roundg (gk-1)
      case measure=>omega
      case rel=>exact⟨k+1,by go_num,by omega,by omega,a6,n6,c6,Tn,hid (by first|exact wN.o.set 0 _|exact(cD.o.set 0 _).alloc _),hid (by first|exact M2.o.other _ _ (show w.heap.size+1+1≠w.heap.size by omega) | exact(KT.o.other _ _ (show w.heap.size+1+1≠w.heap.size by omega)).alloc _),hid (by first|exact QDl yM.o wN.o|exact Qqj (QDl vZ.o cD.o) (Bq)),H1,H2,hid (by first|exact mN.o.setCell (Nat.le_refl _) _|exact(kC.o.setCell (Nat.le_refl _) _).alloc (by have:=kC.o.size;simpa using this) _)⟩
     have lu:(er != 0)=true:=by simpa using he
     have ch:=hid (Mu.o he);clear he Mu dN MA;go_wp2_with fail;have q0:=(M2.o.set 0 (.slice none 0 0)).cell 0;have q1:=((KT.o.set 0 (.slice none 0 0)).alloc (.cells #[.slice a6 n6 c6] 27)).cell 0;exact bodyPost_ret (v:=.tuple #[.agg #[.slice none 0 0],.int .i64 k,.int .i64 er]) (by simp[results,Tryz.results26,go_sem,q0,q1]) rfl ⟨.slice none 0 0,by rw[hA.o,←ch.o],by rw[hA.o,←ch.o];exact .inr (Qda.nil _ _),by first|exact mN.o.setCell (by simp;omega) _|exact(kC.o.setCell (by simp;omega) _).alloc (by have:=kC.o.size;simpa using this) _⟩
    have GJ:¬(k:Int)<(l.length:Int):=by omega
    have JU:=hid ((QJi (T:=Tk) (show l.length≤k by omega)).symm.trans eZ.o);have y0:=HZ.o.cell 0;have y1:=HZ.o.free 0;have yl:=HZ.o.lt;go_wp2_with fail;have q0:=(HZ.o.set 0 (.slice a5 n5 c5)).cell 0;exact bodyPost_ret (v:=.tuple #[.agg #[.slice a5 n5 c5],.int .i64 0,.int .i64 0]) (by simp[results,Tryz.results26,go_sem,q0]) rfl ⟨.slice a5 n5 c5,by rw[hA.o,←JU.o],by rw[hA.o,←JU.o];exact QDl HD.o HZ.o,HB.o.setCell (by simp;omega) _⟩
  have hA:=hid (show QCc T nm l=([],0,Qva nm l)from by unfold QCc;rw[if_neg (by rw[hc];simp),if_pos hd]);generalize Qva nm l=E at *
  have lu:(E != 0)=true:=by simpa using hd
  clear hc hd;go_enter func26,ntmps26;go_wp2_with fail;rw[←gM.o];refine Calls.mono (by exact qq.o W0 Mw.o) ?_;rintro e w1 ⟨rfl,Hb⟩;have Hs:=kR.fr Hb;have Hm:=gX.fr Hb;have Hq:=hid (He.trans (Hb.mono He.size));have o0:=Hs.cell 0;have o1:=Hs.cell 1;have ol:=Hs.lt;clear Gb kR gX He Hb;go_wp2_with fail;refine Calls.mono (by exact rP.o w1 (HE.o.new Hq.o)) ?_;rintro e w2 ⟨rfl,Hc⟩;have Hx:=Hm.fr Hc;have gF:=hid (Hq.o.trans (Hc.mono Hq.o.size));clear o0 o1 ol Hs Hm Hc;have y0:=Hx.cell 0;have y1:=Hx.free 0;have yl:=Hx.lt;go_wp2_with fail;have q0:=(Hx.set 0 (.slice none 0 0)).cell 0;exact bodyPost_ret (v:=.tuple #[.agg #[.slice none 0 0],.int .i64 0,.int .i64 E]) (by simp[results,Tryz.results26,go_sem,q0]) rfl ⟨.slice none 0 0,by rw[hA.o],by rw[hA.o];exact .inr (Qda.nil _ _),gF.o.setCell (by simp;omega) _⟩
 have hA:=hid (show QCc T nm l=([],0,Qia T)from by unfold QCc;rw[if_pos hc]);generalize Qia T=E at *
 have lu:(E != 0)=true:=by simpa using hc
 clear hc;go_enter func26,ntmps26;go_wp2_with fail;rw[←gM.o];refine Calls.mono (by exact qq.o W0 Mw.o) ?_;rintro e w1 ⟨rfl,Hb⟩;have Hm:=gX.fr Hb;have Hq:=hid (He.trans (Hb.mono He.size));have y0:=Hm.cell 0;have y1:=Hm.free 0;have yl:=Hm.lt;clear Gb kR gX He Hb;go_wp2_with fail;have q0:=(Hm.set 0 (.slice none 0 0)).cell 0;exact bodyPost_ret (v:=.tuple #[.agg #[.slice none 0 0],.int .i64 0,.int .i64 E]) (by simp[results,Tryz.results26,go_sem,q0]) rfl ⟨.slice none 0 0,by rw[hA.o],by rw[hA.o];exact .inr (Qda.nil _ _),Hq.o.setCell (by simp;omega) _⟩
noncomputable def Qxi:Array Oper:=(QPa (Tryz.f16.body.getD .skip) 1).getD #[]
theorem odR:Q0b .any Qxi=true:=by kernel_rfl
theorem Qqt:QRb Qxi=true:=by kernel_rfl
theorem QHu:Qxi.size=7:=by kernel_rfl
def OdF(_ _:Nat)(tv ov:Value)(m:ByteArray)(T:List Qga)(nm:ByteArray)(es:List Qga)(j:Nat):Value→World→Prop:=match j with
 | 0=>fun u _=>u=.agg #[.string m,tv]
 | 1=>fun u _=>u=.int .i64 (Qva m T)
 | 2=>fun u _=>u=.agg #[.string nm,ov]
 | 3=>fun u _=>u=.int .i64 (Qva nm es)
 | 4=>fun u w=>∃nB:Nat,u=.slice (some ⟨nB,0,none⟩) 2 2∧Holds w nB #[.int .i64 (Qva m T),.int .i64 (Qva nm es)] 33
 | 5=>fun u _=>u=.int .i64 (if Qva m T=0 then Qva nm es else Qva m T)
 | 6=>fun u _=>u=.bool ((if Qva m T=0 then Qva nm es else Qva m T) != 0)
 | _=>fun _ _=>True
def OdC(tb ob:Nat)(tv ov:Value)(m:ByteArray)(T:List Qga)(nm:ByteArray)(es:List Qga)(w:World):Prop:=Holds w tb #[.string m,tv] 31∧Holds w ob #[.string nm,ov] 31∧QFa w tv T∧QFa w ov es∧Qah w
section
variable{tb ob:Nat}{tv ov:Value}{m:ByteArray}{T:List Qga}{nm:ByteArray}{es:List Qga}{w w':World}
theorem OdF.stable{j:Nat}{u:Value}(h:OdF tb ob tv ov m T nm es j u w)(k:Below w.heap.size w w'):OdF tb ob tv ov m T nm es j u w':=by
 unfold OdF at *
 split at h
 all_goals first
  | exact h
  | (obtain⟨nB,e,hh⟩:=h;exact⟨nB,e,hh.fr k⟩)
end
theorem Qco{Q:Exit→Act→World→Prop}(tb ob:Nat)(tv ov:Value)(m:ByteArray)(T:List Qga)(nm:ByteArray)(es:List Qga)(W w:World)(A:Act)(hsz:A.tmps.size=32)(Ht:nm.size≤maxLen)(hz:Qyb es)(M8:es.length≤1000000)(hm:m.size≤maxLen)(hy:Qyb T)(lD:T.length≤1000000)
 (a2:A.tmps.getD 2 undef=.pointer (some ⟨tb,0,none⟩)) (a3:A.tmps.getD 3 undef=.pointer (some ⟨ob,0,none⟩)) (hC0:OdC tb ob tv ov m T nm es W) (hE0:Below W.heap.size W w)
 (hQ:∀c w',Qpb Qxi A c→c.tmps.getD 15 undef=.bool ((if Qva m T=0 then Qva nm es else Qva m T) != 0)→Below W.heap.size W w'→Q .normal c w') :
 wpAny prog .any Qxi Q Qxi.size (Array.replicate Qxi.size false) A w:=by
 refine QNa (fun l c wx=>Qsb Qxi A (OdF tb ob tv ov m T nm es) (fun _=>True) l c wx∧Below W.heap.size W wx) odR ?hend ?Hk _ _ _ _ (by simp) (by simp) ⟨Qsb.start trivial,hE0⟩
 case hend=>
  rintro l c wx ⟨hI,hS⟩ hl;have hh:∀k,k<7→l.getD k false=true:=fun k hk=>hl k (by rw[QHu];exact hk);exact hQ c wx hI.1.1 (hI.fact 6 15 rfl (hh 6 (by decide))) hS
 intro l c wx KV i' op ho hl Ha K' hK';obtain⟨hI,hS⟩:=KV;have ke:l.size=7:=by rw[hI.1.2.2.1.1,QHu]
 have hi':i'<7:=by rw[←QHu];exact(Array.getElem?_eq_some_iff.1 ho).1
 have Hf:=ho;simp only[Qxi,QPa,Tryz.f16,Option.getD_some,reduceIte,Nat.reduceEqDiff]at ho;have s2:=(hI.slot 2 (by kernel_rfl)).trans a2;have s3:=(hI.slot 3 (by kernel_rfl)).trans a3;have fs:=And.intro True.intro True.intro;simp only[Array.getD_eq_getD_getElem?]at s2 s3;have GB:i'=0∨i'=1∨i'=2∨i'=3∨i'=4∨i'=5∨i'=6:=by omega
 clear hi';rcases GB with rfl|rfl|rfl|rfl|rfl|rfl|rfl
 all_goals cases ho
 ·have hc:OdC tb ob tv ov m T nm es wx:=⟨hC0.1.fr hS,hC0.2.1.fr hS,hC0.2.2.1.new hS,hC0.2.2.2.1.new hS,hC0.2.2.2.2.fr hS⟩;have x0:=hc.1.cell 0;have x1:=hc.1.cell 1;have xl:=hc.1.lt;go_simp;exact hK' _ _ ⟨hI.st Qqt 0 9 hsz Hf Ha rfl,hS⟩
 ·have f0:c.tmps.getD 9 undef=.agg #[.string m,tv]:=hI.yf 0 9 7 Hf Ha;have e0:=gE f0;have hc:OdC tb ob tv ov m T nm es wx:=⟨hC0.1.fr hS,hC0.2.1.fr hS,hC0.2.2.1.new hS,hC0.2.2.2.1.new hS,hC0.2.2.2.2.fr hS⟩;go_simp;refine(Qag m tv T wx hc.2.2.1 hm hy lD hc.2.2.2.2).mono ?_;rintro e w2 ⟨rfl,Hc⟩;exact hK' _ _ ⟨hI.step Qqt 1 10 rfl (by rw[hsz];decide) _ _ Hf Ha trivial (fun _ _ h=>OdF.stable h Hc) rfl,hS.trans (Hc.mono hS.size)⟩
 ·have hc:OdC tb ob tv ov m T nm es wx:=⟨hC0.1.fr hS,hC0.2.1.fr hS,hC0.2.2.1.new hS,hC0.2.2.2.1.new hS,hC0.2.2.2.2.fr hS⟩;have x0:=hc.2.1.cell 0;have x1:=hc.2.1.cell 1;have xl:=hc.2.1.lt;go_simp;exact hK' _ _ ⟨hI.st Qqt 2 11 hsz Hf Ha rfl,hS⟩
 ·have f2:c.tmps.getD 11 undef=.agg #[.string nm,ov]:=hI.yf 2 11 7 Hf Ha;have e2:=gE f2;have hc:OdC tb ob tv ov m T nm es wx:=⟨hC0.1.fr hS,hC0.2.1.fr hS,hC0.2.2.1.new hS,hC0.2.2.2.1.new hS,hC0.2.2.2.2.fr hS⟩;go_simp;refine(Qag nm ov es wx hc.2.2.2.1 Ht hz M8 hc.2.2.2.2).mono ?_;rintro e w2 ⟨rfl,Hc⟩;exact hK' _ _ ⟨hI.step Qqt 3 12 rfl (by rw[hsz];decide) _ _ Hf Ha trivial (fun _ _ h=>OdF.stable h Hc) rfl,hS.trans (Hc.mono hS.size)⟩
 ·have f1:c.tmps.getD 10 undef=.int .i64 (Qva m T):=hI.yf 1 10 7 Hf Ha;have e1:=gE f1;have f3:c.tmps.getD 12 undef=.int .i64 (Qva nm es):=hI.yf 3 12 7 Hf Ha;have e3:=gE f3;go_simp;exact hK' _ _ ⟨hI.step Qqt 4 13 rfl (by rw[hsz];decide) _ _ Hf Ha trivial (fun _ _ h=>OdF.stable h (Bq)) ⟨_,rfl,Holds.new _ _ _⟩,hS.alloc hS.size _⟩
 ·obtain⟨nB,e4,Jx⟩:∃nB:Nat,c.tmps.getD 13 undef=.slice (some ⟨nB,0,none⟩) 2 2∧Holds wx nB #[.int .i64 (Qva m T),.int .i64 (Qva nm es)] 33:=hI.yf 4 13 7 Hf Ha;have f4:=e4;simp only[Array.getD_eq_getD_getElem?]at e4;have hc:OdC tb ob tv ov m T nm es wx:=⟨hC0.1.fr hS,hC0.2.1.fr hS,hC0.2.2.1.new hS,hC0.2.2.2.1.new hS,hC0.2.2.2.2.fr hS⟩;go_simp;refine(Qaq (Qva m T) (Qva nm es) nB wx Jx).mono ?_;rintro e w2 ⟨rfl,Hc⟩;exact hK' _ _ ⟨hI.step Qqt 5 14 rfl (by rw[hsz];decide) _ _ Hf Ha trivial (fun _ _ h=>OdF.stable h Hc) rfl,hS.trans (Hc.mono hS.size)⟩
 have f5:c.tmps.getD 14 undef=.int .i64 (if Qva m T=0 then Qva nm es else Qva m T):=hI.yf 5 14 7 Hf Ha;have e5:=gE f5;go_simp;exact hK' _ _ ⟨hI.st Qqt 6 15 hsz Hf Ha rfl,hS⟩
theorem Qng{p:Qga→Bool}:∀{T:List Qga} {k:Nat} (hk:k<T.length),(∀i (h:i<T.length),i<k→p T[i]=false)→p T[k]=true→T.find? p=some T[k]
 | [],k,hk,_,_=>absurd hk (Nat.not_lt_zero _)
 | a::r,0,_,_,h=>by rw[List.find?_cons,show p a=true from h];rfl
 | a::r,k+1,hk,hn,h=>by
  rw[List.find?_cons,show p a=false from hn 0 (Nat.zero_lt_succ _) (Nat.zero_lt_succ _)];exact Qng (T:=r) (by simpa using hk) (fun i hi dt=>hn (i+1) (by simpa using hi) (by omega)) h
theorem Qwp{p:Qga→Bool}{T:List Qga}{k:Nat}(hk:T.length≤k)(hn:∀i (h:i<T.length),i<k→p T[i]=false):T.find? p=none:=by
 rw[List.find?_eq_none];intro x hx;obtain⟨i,hi,rfl⟩:=List.getElem_of_mem hx;rw[hn i hi (by omega)]
 decide
theorem QHr(x y:Qga)(cb:Nat)(w:World)(hH:Holds w cb #[.int .i64 x.kind,.string x.path,.string x.name,.string x.value] 39) :
 Calls prog 46 #[.agg #[.int .i64 y.kind,.string y.path,.string y.name,.string y.value],.pointer (some ⟨cb,0,none⟩)] w fun e w'=>e=.returned (.bool (Q2a x y))∧Below w.heap.size w w':=by
 have He:Below w.heap.size w (w.alloc (.cells #[.int .i64 y.kind,.string y.path,.string y.name,.string y.value] 39)):=Bq;have h1:=hH.alloc (.cells #[.int .i64 y.kind,.string y.path,.string y.name,.string y.value] 39);have c0:=hH.cell 0;have c1:=hH.cell 1;have c2:=hH.cell 2;have c3:=hH.cell 3;have cl:=hH.lt;have HC:=hid (fun wx=>QUk x y wx);generalize Q2a x y=R at *
 clear h1 hH;go_enter func46,ntmps46;go_wp2_with fail;refine Calls.mono (by exact HC.o _) ?_;rintro e w1 ⟨rfl,Hb⟩;go_wp2_with fail;go_ret;exact⟨rfl,He.trans (Hb.mono He.size)⟩
theorem Qzj:∀args w,(callFunc 46 args).run prog w=.ok (.enter 46 args) w:=enters_of func46 (by kernel_rfl) rfl
theorem Qeq(m:ByteArray)(tv:Value)(T:List Qga)(nm:ByteArray)(ov:Value)(l:List Qga)(w:World)(hT:QFa w tv T)(hE:QFa w ov l)(hm:m.size≤maxLen)(Ht:nm.size≤maxLen)(hy:Qyb T)(hz:Qyb l)(lD:T.length≤1000000)(M8:l.length≤1000000)(lay:Qah w) :
 Calls prog 16 #[.agg #[.string m,tv],.agg #[.string nm,ov]] w fun e w'=>e=.returned (.tuple #[.string (Qwe m T nm l).1,.string (Qwe m T nm l).2.1,.bool (Qwe m T nm l).2.2])∧Below w.heap.size w w':=by
 obtain⟨ta,tcap,rfl,bY,Kk⟩:=hT.slice;obtain⟨oa,ocap,rfl,aV,Hf⟩:=hE.slice;have hC:Qwe m T nm l=if Qva m T≠0∨Qva nm l≠0 then(⟨#[]⟩,⟨#[]⟩,false)else match T.find? (fun x=>l.any (Q2a x))with
  | some x=>(x.path,x.name,true)
  | none=>(⟨#[]⟩,⟨#[]⟩,false):=rfl
 generalize Qwe m T nm l=C at *
 obtain⟨W0,gM⟩:∃W0,W0=(w.alloc (.cells #[.string m,.slice ta T.length tcap] 31)).alloc (.cells #[.string nm,.slice oa l.length ocap] 31):=⟨_,rfl⟩;have He:Below w.heap.size w W0:=by rw[gM];exact(Bq).alloc (by simp) _
 have Gb:Holds W0 w.heap.size #[.string m,.slice ta T.length tcap] 31:=by rw[gM];exact(Holds.new w #[.string m,.slice ta T.length tcap] 31).alloc _
 have kR:Holds W0 (w.heap.size+1) #[.string nm,.slice oa l.length ocap] 31:=by rw[gM];exact Holds.newAt (w:=w.alloc (.cells #[.string m,.slice ta T.length tcap] 31)) (B:=w.heap.size+1) (by simp) #[.string nm,.slice oa l.length ocap] 31
 have HT:=hid hT;have HE:=hid hE;have HL:=hid lay;have HZ:=hid hz;have HY:=hid hy;clear hT hE lay hz hy;go_enter func16,ntmps16;go_upto_region 1 with fail;rw[←gM];refine wp_region_any (by kernel_rfl) ?_;refine QUa (ops':=Qxi) (by kernel_rfl) ?_;refine Qco w.heap.size (w.heap.size+1) (.slice ta T.length tcap) (.slice oa l.length ocap) m T nm l W0 _ _ rfl Ht HZ.o M8 hm HY.o lD rfl rfl ⟨Gb,kR,HT.o.new He,HE.o.new He,HL.o.fr He⟩ ((Below.refl _ _).drew) ?_;intro c w1 gI fA Hb;obtain⟨y9,y10,y11,y12,y13,y14,y15,rfl⟩:=gI.ex [9,10,11,12,13,14,15] (by kernel_rfl);simp only[List.setIfInBounds_toArray,List.set_cons_zero,List.set_cons_succ]at fA ⊢;obtain⟨E,hE⟩:∃E,E=(if Qva m T=0 then Qva nm l else Qva m T):=⟨_,rfl⟩;have sV:y15=.bool (E != 0):=by rw[hE];exact fA
 subst sV;have ay:Below w.heap.size w w1:=He.trans (Hb.mono He.size);have Hr:=Gb.fr Hb;have Hs:=kR.fr Hb;have Hq:=hid ay;have kO:=hid Hs;have xa:=Hr.cell 1;have xl:=Hr.lt;clear gI fA Hb ay Gb kR He Hr Hs gM;by_cases hE0:E=0
 ·have hc:Qva m T=0∧Qva nm l=0:=by
   rw[hE]at hE0;rcases Decidable.em (Qva m T=0)with h|h
   ·rw[if_pos h]at hE0;exact⟨h,hE0⟩
   rw[if_neg h]at hE0;exact absurd hE0 h
  rw[if_neg (by rw[hc.1,hc.2];simp)]at hC;subst hE0;have HC:=hid hC;clear hc hE hC;go_wp2_with fail;go_loopg [19] (T.length) (fun f x wr=>∃k:Nat,x=.int .i64 k∧k≤T.length∧T.length≤k+f∧Hid (∀i (h:i<T.length),i<k→l.any (Q2a T[i])=false)∧Hid (Holds wr (w.heap.size+1) #[.string nm,.slice oa l.length ocap] 31)∧Hid (Below w.heap.size w wr))
  case atStart=>exact⟨0,rfl,by omega,by omega,hid (fun i h h2=>absurd h2 (by omega)),kO,Hq⟩
  case round=>
   clear xa xl;obtain⟨k,rfl,hk,hf,HN,HO,HB⟩:=hrel;by_cases Hh:k<T.length
   ·have GJ:(k:Int)<(T.length:Int):=by omega
    obtain⟨g,o,e1,hg,Hw⟩:=Q7a (HT.o.new HB.o) (by omega);subst e1;obtain⟨d0,d1,d2,d3⟩:=Hw k Hh;have jr:=fun h=>Qng (p:=fun x=>l.any (Q2a x)) Hh HN.o h;have hW:Below w.heap.size w (wr.alloc (.cells #[.int .i64 T[k].kind,.string T[k].path,.string T[k].name,.string T[k].value] 39)):=HB.o.alloc HB.o.size _;have hH:=Holds.new wr #[.int .i64 T[k].kind,.string T[k].path,.string T[k].name,.string T[k].value] 39;have gv:=HO.o.alloc (.cells #[.int .i64 T[k].kind,.string T[k].path,.string T[k].name,.string T[k].value] 39);have jW:=hid (Q7c 46 Qzj (Q2a T[k]) wr.heap.size (.slice oa l.length ocap) l (wr.alloc (.cells #[.int .i64 T[k].kind,.string T[k].path,.string T[k].name,.string T[k].value] 39)) (fun y _ wx hb=>QHr T[k] y wr.heap.size wx (hH.fr hb)) (HE.o.new hW) (by omega));have me:l.any (Q2a T[k])=true∨l.any (Q2a T[k])=false:=by cases l.any (Q2a T[k]) <;> simp
    have Hk:l.any (Q2a T[k])=false→∀i (h:i<T.length),i<k+1→l.any (Q2a T[i])=false:=by
     intro h i hi dt;by_cases e:i=k
     ·subst e;exact h
     exact HN.o i hi (by omega)
    have qt:=hid jr;have KL:=hid Hk;have HW:=hid hW;have HH:=hid hH;have KK:=hid gv;have oc:=HO.o.cell 1;have ol:=HO.o.lt;clear Hw jr Hk hW hH gv;generalize l.any (Q2a T[k])=q at *
    generalize T[k]=x at *
    rcases me with rfl|rfl
    ·have Hp:=hid (HC.o.trans (by rw[qt.o (by first|rfl|trivial)]));go_wp2_with fail;refine Calls.mono (by exact jW.o) ?_;rintro e w3 ⟨rfl,Hg⟩;have ME:=HH.o.fr Hg;have x1:=ME.cell 1;have x2:=ME.cell 2;have xl:=ME.lt;have kC:=hid (HW.o.trans (Hg.mono HW.o.size));clear ME Hg oc ol d0 d1 d2 d3;go_wp2_with fail;go_quiet(fail);go_wp2_with fail;go_ret3;exact⟨by rw[Hp.o];rfl,kC.o.trans (Qaa.below (S:=fun _=>False) ((Qaa.refl _ _).drewN _) kC.o.size (fun _ _ e=>e))⟩
    go_wp2_with fail;refine Calls.mono (by exact jW.o) ?_;rintro e w3 ⟨rfl,Hg⟩;have bB:=hid (KK.o.fr Hg);have kC:=hid (HW.o.trans (Hg.mono HW.o.size));clear Hg oc ol d0 d1 d2 d3;go_wp2_with fail;go_roundg (gk-1)
    case measure=>omega
    case rel=>exact⟨k+1,by go_num,by omega,by omega,hid (KL.o (by first|rfl|trivial)),bB,kC⟩
   have GJ:¬(k:Int)<(T.length:Int):=by omega
   have Hp:=hid (HC.o.trans (by rw[Qwp (p:=fun x=>l.any (Q2a x)) (show T.length≤k by omega) HN.o]));go_wp2_with fail;go_ret3;exact⟨by rw[Hp.o];rfl,HB.o⟩
 have cI:(E != 0)=true:=by simpa using hE0
 have Hl:Qva m T≠0∨Qva nm l≠0:=by
  rcases Decidable.em (Qva m T=0)with h|h
  ·rw[if_pos h]at hE;exact .inr (by rw[←hE];exact hE0)
  exact .inl h
 have Hp:=hid (hC.trans (if_pos Hl));clear hC hE Hl hE0;go_wp2_with fail;go_ret3;exact⟨by rw[Hp.o];rfl,Hq.o⟩
theorem QNm{p:Qga→Bool}{l:List Qga}{j:Nat}(h:∀i (hi:i<l.length),i<j→p l[i]=false)(hj:j<l.length)(hp:p l[j]=false):∀i (hi:i<l.length),i<j+1→p l[i]=false:=by
 intro i hi kV;by_cases e:i=j
 ·subst e;exact hp
 exact h i hi (by omega)
theorem Qwq(m:ByteArray)(tv:Value)(T:List Qga)(nm:ByteArray)(ov:Value)(l:List Qga)(w:World)(hT:QFa w tv T)(hE:QFa w ov l)(hm:m.size≤maxLen)(Ht:nm.size≤maxLen)(hy:Qyb T)(hz:Qyb l) :
 Calls prog 24 #[.agg #[.string m,tv],.agg #[.string nm,ov]] w fun e w'=>e=.returned (.tuple #[.string (Qwe m T nm l).1,.string (Qwe m T nm l).2.1,.bool (Qwe m T nm l).2.2])∧Below w.heap.size w w':=by
 obtain⟨ta,tcap,rfl,bY,Kk⟩:=hT.slice;obtain⟨oa,ocap,rfl,aV,Hf⟩:=hE.slice;have hC:Qwe m T nm l=if Qva m T≠0∨Qva nm l≠0 then(⟨#[]⟩,⟨#[]⟩,false)else match T.find? (fun x=>l.any (Q2a x))with
  | some x=>(x.path,x.name,true)
  | none=>(⟨#[]⟩,⟨#[]⟩,false):=rfl
 generalize Qwe m T nm l=C at *
 have iP:=hid (fun wx hx=>Qcg m (.slice ta T.length tcap) T wx hx hm hy);have MY:=hid (fun wx hx=>Qcg nm (.slice oa l.length ocap) l wx hx Ht hz);obtain⟨W0,gJ⟩:∃W0,W0=(w.alloc (.cells #[.string m,.slice ta T.length tcap] 31)).alloc (.cells #[.string nm,.slice oa l.length ocap] 31):=⟨_,rfl⟩;have He:Below w.heap.size w W0:=by rw[gJ];exact(Bq).alloc (by simp) _
 have Gb:Holds W0 w.heap.size #[.string m,.slice ta T.length tcap] 31:=by rw[gJ];exact(Holds.new w #[.string m,.slice ta T.length tcap] 31).alloc _
 have kR:Holds W0 (w.heap.size+1) #[.string nm,.slice oa l.length ocap] 31:=by rw[gJ];exact Holds.newAt (w:=w.alloc (.cells #[.string m,.slice ta T.length tcap] 31)) (B:=w.heap.size+1) (by simp) #[.string nm,.slice oa l.length ocap] 31
 have HT:=hid hT;have HE:=hid hE;have gM:=hid gJ;have gK:=hid He;clear hT hE hm Ht hy hz gJ;by_cases h1:Qva m T=0
 ·rw[h1]at iP;by_cases h2:Qva nm l=0
  ·rw[if_neg (by rw[h1,h2];simp)]at hC;have HC:=hid hC;rw[h2]at MY;clear h1 h2 hC;go_enter func24,ntmps24;go_wp2_with fail;rw[←gM.o];refine Calls.mono (by exact iP.o W0 (HT.o.new gK.o)) ?_;rintro e w1 ⟨rfl,Hb⟩;have Hr:=Gb.fr Hb;have Hs:=kR.fr Hb;have Hq:=hid (He.trans (Hb.mono He.size));have x0:=Hr.cell 0;have x1:=Hr.cell 1;have xl:=Hr.lt;have o0:=Hs.cell 0;have o1:=Hs.cell 1;have ol:=Hs.lt;clear Gb kR He Hb;go_wp2_with fail;refine Calls.mono (by exact MY.o w1 (HE.o.new Hq.o)) ?_;rintro e w2 ⟨rfl,Hc⟩;have gw:=Hr.fr Hc;have KK:=hid (Hs.fr Hc);have gF:=hid (Hq.o.trans (Hc.mono Hq.o.size));clear x0 x1 xl o0 o1 ol Hr Hs Hc;have x0:=gw.cell 0;have x1:=gw.cell 1;have xl:=gw.lt;clear gw;go_wp2_with fail;go_loopg [22] (T.length) (fun f x wr=>∃k:Nat,x=.int .i64 k∧k≤T.length∧T.length≤k+f∧Hid (∀i (h:i<T.length),i<k→l.any (Q2a T[i])=false)∧Hid (Holds wr (w.heap.size+1) #[.string nm,.slice oa l.length ocap] 31)∧Hid (Below w.heap.size w wr))
   case atStart=>exact⟨0,rfl,by omega,by omega,hid (fun i h h2=>absurd h2 (by omega)),KK,gF⟩
   case round=>
    clear x0 x1 xl;obtain⟨k,rfl,hk,hf,HN,HO,HB⟩:=hrel;have Hy:=HB.o.size;by_cases Hh:k<T.length
    ·have GJ:(k:Int)<(T.length:Int):=by omega
     obtain⟨g,o,e1,hg,Hw⟩:=Q7a (HT.o.new HB.o) (by omega);subst e1;obtain⟨d0,d1,d2,d3⟩:=Hw k Hh;have qt:=hid (fun h=>Qng (p:=fun x=>l.any (Q2a x)) Hh HN.o h);have KL:=hid (show l.any (Q2a T[k])=false→∀i (h:i<T.length),i<k+1→l.any (Q2a T[i])=false from fun h=>QNm (p:=fun x=>l.any (Q2a x)) HN.o Hh h);have HW:=hid (HB.o.alloc HB.o.size (.cells #[.int .i64 T[k].kind,.string T[k].path,.string T[k].name,.string T[k].value] 39));have HH:=hid (Holds.new wr #[.int .i64 T[k].kind,.string T[k].path,.string T[k].name,.string T[k].value] 39);have KK:=hid (HO.o.alloc (.cells #[.int .i64 T[k].kind,.string T[k].path,.string T[k].name,.string T[k].value] 39));have oc:=HO.o.cell 1;have ol:=HO.o.lt;clear Hw;generalize T[k]=x at *
     obtain⟨go,aK⟩:∃x:Nat,x=gk:=⟨_,rfl⟩;subst aK;obtain⟨wo,AO⟩:∃x:World,x=wr:=⟨_,rfl⟩;subst AO;go_wp2_with fail;go_loopg [29] (l.length) (fun f z wr=>∃j:Nat,z=.int .i64 j∧j≤l.length∧l.length≤j+f∧Hid (∀i (h:i<l.length),i<j→Q2a x l[i]=false)∧Hid (Holds wr wo.heap.size #[.int .i64 x.kind,.string x.path,.string x.name,.string x.value] 39)∧Hid (Holds wr (w.heap.size+1) #[.string nm,.slice oa l.length ocap] 31)∧Hid (Below w.heap.size w wr))
     case atStart=>exact⟨0,rfl,by omega,by omega,hid (fun i h h2=>absurd h2 (by omega)),HH,KK,HW⟩
     case round=>
      clear d0 d1 d2 d3 oc ol HO HB Hy hg KK HW HH;obtain⟨j,rfl,hj,jq,HM,HH,HO,HB⟩:=hrel;have Hy:=HB.o.size;by_cases g9:j<l.length
      ·have io:(j:Int)<(l.length:Int):=by omega
       obtain⟨g2,o2,e2,Jk,aF⟩:=Q7a (HE.o.new HB.o) (by omega);subst e2;obtain⟨f0,f1,f2,f3⟩:=aF j g9;have Gp:=hid (fun h=>QNm (p:=fun y=>Q2a x y) HM.o g9 h);have JN:=hid (fun h=>Qpj (p:=fun y=>Q2a x y) g9 h);clear aF;generalize l[j]=y at *
       have K6:=hid (fun wx=>Qlm x y wx);have H5:=HB.o.alloc Hy (.cells #[.int .i64 y.kind,.string y.path,.string y.name,.string y.value] 39);have qI:=HH.o.alloc (.cells #[.int .i64 y.kind,.string y.path,.string y.name,.string y.value] 39);have KX:=HO.o.alloc (.cells #[.int .i64 y.kind,.string y.path,.string y.name,.string y.value] 39);have bA:=hid H5;have qu:=hid qI;have zn:=hid KX;have c0:=HH.o.cell 0;have c1:=HH.o.cell 1;have c2:=HH.o.cell 2;have c3:=HH.o.cell 3;have cl:=HH.o.lt;clear H5 qI KX;have hv:Q2a x y=true∨Q2a x y=false:=by cases Q2a x y <;> simp
       rcases hv with hv|hv
       ·have HR:=hid (HC.o.trans (by rw[qt.o (JN.o hv)]));rw[hv]at K6;clear hv Gp JN qt KL;go_wp2_with fail;refine Calls.mono (by exact K6.o _) ?_;rintro e w6 ⟨rfl,gn⟩;have qJ:=qu.o.fr gn;have Mt:=hid (bA.o.trans (gn.mono bA.o.size));clear c0 c1 c2 c3 cl f0 f1 f2 f3 Jk gn;have c1:=qJ.cell 1;have c2:=qJ.cell 2;have cl:=qJ.lt;clear qJ;go_wp2_with fail;go_quiet(fail);go_wp2_with fail;go_ret3;exact⟨by rw[HR.o];rfl,Mt.o.trans (Qaa.below (S:=fun _=>False) ((Qaa.refl _ _).drewN _) Mt.o.size (fun _ _ e=>e))⟩
       have HR:=hid (Gp.o hv);rw[hv]at K6;clear hv Gp JN;go_wp2_with fail;refine Calls.mono (by exact K6.o _) ?_;rintro e w6 ⟨rfl,gn⟩;have yT:=hid (qu.o.fr gn);have Mk:=hid (zn.o.fr gn);have Mt:=hid (bA.o.trans (gn.mono bA.o.size));clear c0 c1 c2 c3 cl f0 f1 f2 f3 Jk gn;go_wp2_with fail;go_roundg (gk-1)
       case measure=>omega
       case rel=>exact⟨j+1,by go_num,by omega,by omega,HR,yT,Mk,Mt⟩
      have io:¬(j:Int)<(l.length:Int):=by omega
      have HG:=hid (KL.o (Qrj (p:=fun y=>Q2a x y) (show l.length≤j by omega) HM.o));go_wp2_with fail;go_roundg (go-1)
      case measure=>omega
      case rel=>exact⟨k+1,by go_num,by omega,by omega,HG,HO,HB⟩
    have GJ:¬(k:Int)<(T.length:Int):=by omega
    have Hp:=hid (HC.o.trans (by rw[Qwp (p:=fun x=>l.any (Q2a x)) (show T.length≤k by omega) HN.o]));go_wp2_with fail;go_ret3;exact⟨by rw[Hp.o];rfl,HB.o⟩
  have HR:=hid (hC.trans (if_pos (.inr h2)));generalize Qva nm l=E at *
  have lu:(E != 0)=true:=by simpa using h2
  clear h1 h2 hC;go_enter func24,ntmps24;go_wp2_with fail;rw[←gM.o];refine Calls.mono (by exact iP.o W0 (HT.o.new gK.o)) ?_;rintro e w1 ⟨rfl,Hb⟩;have Hs:=kR.fr Hb;have Hq:=hid (He.trans (Hb.mono He.size));have o0:=Hs.cell 0;have o1:=Hs.cell 1;have ol:=Hs.lt;clear Gb kR He Hb Hs;go_wp2_with fail;refine Calls.mono (by exact MY.o w1 (HE.o.new Hq.o)) ?_;rintro e w2 ⟨rfl,Hc⟩;have gF:=hid (Hq.o.trans (Hc.mono Hq.o.size));clear o0 o1 ol Hc;go_wp2_with fail;go_ret3;exact⟨by rw[HR.o];rfl,gF.o⟩
 have HR:=hid (hC.trans (if_pos (.inl h1)));generalize Qva m T=E at *
 have lu:(E != 0)=true:=by simpa using h1
 clear h1 hC MY;go_enter func24,ntmps24;go_wp2_with fail;rw[←gM.o];refine Calls.mono (by exact iP.o W0 (HT.o.new gK.o)) ?_;rintro e w1 ⟨rfl,Hb⟩;have Hq:=hid (He.trans (Hb.mono He.size));clear Gb kR He Hb;go_wp2_with fail;go_ret3;exact⟨by rw[HR.o];rfl,Hq.o⟩
end Go.Proofs.YtgaboghigefgbaaGreatDoor
