/- Lemmas on the way to the law; no conditions. -/
import Derived.Test.YtgaboghigefgbaaGreatDoorZ16
import Derived.Deep.DeepCutAuto
import Derived.Deep.CutBlock
set_option linter.all false
set_option maxRecDepth 100000
set_option maxHeartbeats 8000000
namespace Go.Proofs.YtgaboghigefgbaaGreatDoor
open Go.Proofs.Tryz
open Go.Lib (hid)
open Go.RowKit
def QAh(a b:Qga):Int:=if Qbc a.path b.path=0 then Qbc a.name b.name else Qbc a.path b.path
theorem QPf(a b:ByteArray):Qbc a b=0↔a=b:=by
 unfold Qbc;cases h:ltS a b with
 | true=>
  simp only[if_true];constructor
  ·intro e;cases e
  intro e;subst e;rw[Qqb]at h;cases h
 | false=>
  simp only[Bool.false_eq_true,if_false];cases h2:eqS a b with
  | true=>simp[(QCa a b).1 h2]
  | false=>
   simp only[Bool.false_eq_true,if_false];constructor
   ·intro e;cases e
   intro e;rw[(QCa a b).2 e]at h2;cases h2
theorem QRm(a b:ByteArray):decide (0≤Qbc a b) = !ltS a b:=by
 unfold Qbc;cases h:ltS a b with
 | true=>rfl
 | false=>cases h2:eqS a b <;> simp
theorem Qhp(a b:Qga):decide (0≤QAh a b) = !ltE a b:=by
 unfold QAh ltE;by_cases h:Qbc a.path b.path=0
 ·have e:=(QPf _ _).1 h;rw[if_pos h,QRm,e,Qqb,(QCa _ _).2 rfl];simp
 rw[if_neg h,QRm];have e:eqS a.path b.path=false:=by
  cases h2:eqS a.path b.path with
  | false=>rfl
  | true=>exact absurd ((QPf _ _).2 ((QCa _ _).1 h2)) h
 rw[e];simp
theorem QBh(a b:Qga):QAh a b=0↔a.path=b.path∧a.name=b.name:=by
 unfold QAh;by_cases h:Qbc a.path b.path=0
 ·rw[if_pos h,QPf];exact⟨fun e=>⟨(QPf _ _).1 h,e⟩,fun e=>e.2⟩
 rw[if_neg h];exact⟨fun e=>absurd e h,fun e=>absurd ((QPf _ _).2 e.1) h⟩
theorem QEl:∀(l:List Qga),(∀i (h:i+1<l.length),ltE l[i] l[i+1]=true)→Qck l=true
 | [],_=>rfl
 | [_],_=>rfl
 | a::b::r,h=>by
  rw[Qck,Bool.and_eq_true];exact⟨h 0 (by simp),QEl (b::r) (fun i hi=>h (i+1) (by simpa using hi))⟩
theorem QYo{l:List Qga}{i:Nat}(h:i+1<l.length)(hn:ltE l[i] l[i+1]=false):Qck l=false:=by
 cases e:Qck l with
 | false=>rfl
 | true=>
  have:=List.pairwise_iff_getElem.1 (Qqh l e) i (i+1) (by omega) h (by omega);rw[this]at hn;cases hn
theorem Qae(a b:Qga)(w:World) :
 Calls prog 53 #[.agg #[.int .i64 a.kind,.string a.path,.string a.name,.string a.value],.agg #[.int .i64 b.kind,.string b.path,.string b.name,.string b.value]] w fun e w'=>e=.returned (.int .i64 (QAh a b))∧Below w.heap.size w w':=by
 have HE:=hid (show QAh a b=(if Qbc a.path b.path=0 then Qbc a.name b.name else Qbc a.path b.path)from rfl);have ku:=(Holds.new w #[.int .i64 a.kind,.string a.path,.string a.name,.string a.value] 39).alloc (.cells #[.int .i64 b.kind,.string b.path,.string b.name,.string b.value] 39);have kj:=Holds.newAt (w:=w.alloc (.cells #[.int .i64 a.kind,.string a.path,.string a.name,.string a.value] 39)) (B:=w.heap.size+1) (by simp) #[.int .i64 b.kind,.string b.path,.string b.name,.string b.value] 39;have He:Below w.heap.size w ((w.alloc (.cells #[.int .i64 a.kind,.string a.path,.string a.name,.string a.value] 39)).alloc (.cells #[.int .i64 b.kind,.string b.path,.string b.name,.string b.value] 39)):=(Bq).alloc (by simp) _;go_enter func53,ntmps53;go_upto_region 1 with fail;refine wp_region_any (by kernel_rfl) ?_;refine QUa (ops':=QVd) (by kernel_rfl) ?_;refine Qbo w.heap.size (w.heap.size+1) a b ((w.alloc (.cells #[.int .i64 a.kind,.string a.path,.string a.name,.string a.value] 39)).alloc (.cells #[.int .i64 b.kind,.string b.path,.string b.name,.string b.value] 39)) _ _ rfl rfl (by simp) ⟨ku.drew,kj.drew⟩ ((Below.refl _ _).drew) ?_;intro c w2 nB gI h4 hb;obtain⟨y4,y5,y6,y7,y8,y9,y10,y11,y12,y13,y14,y15,y16,rfl⟩:=gI.ex [4,5,6,7,8,9,10,11,12,13,14,15,16] (by kernel_rfl);simp only[List.setIfInBounds_toArray,List.set_cons_zero,List.set_cons_succ]at h4 ⊢;have h4':y4=.int .i64 (QAh a b):=h4.trans (by rw[HE.o]);obtain⟨ce,ui⟩:∃x,x=QAh a b:=⟨_,rfl⟩;rw[←ui]at h4';have yJ:=hid ui;subst h4';clear h4 HE ui
 go_wp2_with fail;go_ret;exact⟨by rw[←yJ.o];rfl,He.trans (hb.mono He.size)⟩
theorem QCb(a:ByteArray):Qsc a=a.toList.isEmpty:=by
 unfold Qsc eqS;rw[ByteArray.toList_eq ⟨#[]⟩];cases a.toList <;> rfl
theorem Qdg(a:ByteArray):Q8h a=(a.toList == [47]):=by
 unfold Q8h eqS;rw[ByteArray.toList_eq ⟨#[47]⟩]
theorem Qgp{a b:Qga}(h:¬QAh a b=0):Q2a a b=false:=by
 have h2:=mt (QBh a b).2 h;unfold Q2a;cases e1:eqS a.path b.path with
 | false=>simp
 | true=>
  cases e2:eqS a.name b.name with
  | false=>simp
  | true=>exact absurd ⟨(QCa _ _).1 e1,(QCa _ _).1 e2⟩ h2
theorem Qep(ak bk:Int)(ap an av bv:ByteArray):Q2a ⟨ak,ap,an,av⟩ ⟨bk,ap,an,bv⟩=(!Qsc an && !decide (ak=bk∧av=bv)):=by
 unfold Q2a;simp only[(QCa ap ap).2 rfl,(QCa an an).2 rfl,Bool.true_and,Qga.mk.injEq,true_and]
theorem QAi(ak bk:Int)(ap an av bv:ByteArray)(w:World) :
 Calls prog 47 #[.agg #[.int .i64 ak,.string ap,.string an,.string av],.agg #[.int .i64 bk,.string ap,.string an,.string bv]] w fun e w'=>e=.returned (.bool (Q2a ⟨ak,ap,an,av⟩ ⟨bk,ap,an,bv⟩))∧Below w.heap.size w w':=by
 have ku:=(Holds.new w #[.int .i64 ak,.string ap,.string an,.string av] 39).alloc (.cells #[.int .i64 bk,.string ap,.string an,.string bv] 39);have kj:=Holds.newAt (w:=w.alloc (.cells #[.int .i64 ak,.string ap,.string an,.string av] 39)) (B:=w.heap.size+1) (by simp) #[.int .i64 bk,.string ap,.string an,.string bv] 39;have He:Below w.heap.size w ((w.alloc (.cells #[.int .i64 ak,.string ap,.string an,.string av] 39)).alloc (.cells #[.int .i64 bk,.string ap,.string an,.string bv] 39)):=(Bq).alloc (by simp) _;have hz:QAh ⟨ak,ap,an,av⟩ ⟨bk,ap,an,bv⟩=0:=(QBh _ _).2 ⟨rfl,rfl⟩;have aE:=fun wx=>Qae ⟨ak,ap,an,av⟩ ⟨bk,ap,an,bv⟩ wx;rw[hz]at aE;have HC:=hid aE;clear aE hz;rw[Qep];cases hn:an.toList.isEmpty with
 | true=>
  have HR:=hid (show(!Qsc an && !decide (ak=bk∧av=bv))=false from by rw[QCb,hn];rfl);generalize(!Qsc an && !decide (ak=bk∧av=bv))=R at *
  go_enter func47,ntmps47;go_wp2_with fail;refine Calls.mono (by exact HC.o _) ?_;rintro e w1 ⟨rfl,Hb⟩;have x0:=(ku.fr Hb);have y0:=(kj.fr Hb);have Hq:=hid (He.trans (Hb.mono He.size));have c0:=x0.cell 0;have c1:=x0.cell 1;have c2:=x0.cell 2;have c3:=x0.cell 3;have cl:=x0.lt;have d0:=y0.cell 0;have d1:=y0.cell 1;have d2:=y0.cell 2;have d3:=y0.cell 3;have dl:=y0.lt;clear x0 y0 Hb He ku kj;go_wp2_with fail;go_ret;exact⟨by rw[HR.o];rfl,Hq.o⟩
 | false=>
  have Hl:Qsc an=false:=by rw[QCb,hn]
  by_cases hk:ak=bk
  ·subst hk;cases hv:(av.toList==bv.toList)with
   | true=>
    have HR:=hid (show(!Qsc an && !decide (ak=ak∧av=bv))=false from by rw[Hl,decide_eq_true ⟨rfl,(QCa _ _).1 hv⟩];rfl);generalize(!Qsc an && !decide (ak=ak∧av=bv))=R at *
    clear Hl;go_enter func47,ntmps47;go_wp2_with fail;refine Calls.mono (by exact HC.o _) ?_;rintro e w1 ⟨rfl,Hb⟩;have x0:=(ku.fr Hb);have y0:=(kj.fr Hb);have Hq:=hid (He.trans (Hb.mono He.size));have c0:=x0.cell 0;have c1:=x0.cell 1;have c2:=x0.cell 2;have c3:=x0.cell 3;have cl:=x0.lt;have d0:=y0.cell 0;have d1:=y0.cell 1;have d2:=y0.cell 2;have d3:=y0.cell 3;have dl:=y0.lt;clear x0 y0 Hb He ku kj;go_wp2_with fail;go_ret;exact⟨by rw[HR.o];rfl,Hq.o⟩
   | false=>
    have HR:=hid (show(!Qsc an && !decide (ak=ak∧av=bv))=true from by rw[Hl,decide_eq_false (fun h=>by have h5:=(QCa av bv).2 h.2;unfold eqS at h5;rw[h5]at hv;cases hv)];rfl);generalize(!Qsc an && !decide (ak=ak∧av=bv))=R at *
    clear Hl;go_enter func47,ntmps47;go_wp2_with fail;refine Calls.mono (by exact HC.o _) ?_;rintro e w1 ⟨rfl,Hb⟩;have x0:=(ku.fr Hb);have y0:=(kj.fr Hb);have Hq:=hid (He.trans (Hb.mono He.size));have c0:=x0.cell 0;have c1:=x0.cell 1;have c2:=x0.cell 2;have c3:=x0.cell 3;have cl:=x0.lt;have d0:=y0.cell 0;have d1:=y0.cell 1;have d2:=y0.cell 2;have d3:=y0.cell 3;have dl:=y0.lt;clear x0 y0 Hb He ku kj;go_wp2_with fail;go_ret;exact⟨by rw[HR.o];rfl,Hq.o⟩
  have dz:(ak==bk)=false:=by simpa using hk
  have HR:=hid (show(!Qsc an && !decide (ak=bk∧av=bv))=true from by rw[Hl,decide_eq_false (fun h=>hk h.1)];rfl);generalize(!Qsc an && !decide (ak=bk∧av=bv))=R at *
  clear Hl hk;go_enter func47,ntmps47;go_wp2_with fail;refine Calls.mono (by exact HC.o _) ?_;rintro e w1 ⟨rfl,Hb⟩;have x0:=(ku.fr Hb);have y0:=(kj.fr Hb);have Hq:=hid (He.trans (Hb.mono He.size));have c0:=x0.cell 0;have c1:=x0.cell 1;have c2:=x0.cell 2;have c3:=x0.cell 3;have cl:=x0.lt;have d0:=y0.cell 0;have d1:=y0.cell 1;have d2:=y0.cell 2;have d3:=y0.cell 3;have dl:=y0.lt;clear x0 y0 Hb He ku kj;go_wp2_with fail;go_ret;exact⟨by rw[HR.o];rfl,Hq.o⟩
theorem QUk(a b:Qga)(w:World) :
 Calls prog 47 #[.agg #[.int .i64 a.kind,.string a.path,.string a.name,.string a.value],.agg #[.int .i64 b.kind,.string b.path,.string b.name,.string b.value]] w fun e w'=>e=.returned (.bool (Q2a a b))∧Below w.heap.size w w':=by
 by_cases h0:QAh a b=0
 ·obtain⟨ep,en⟩:=(QBh a b).1 h0;obtain⟨ak,ap,an,av⟩:=a;obtain⟨bk,bp,bn,bv⟩:=b;simp only at ep en;subst ep;subst en;exact QAi ak bk ap an av bv w
 have HR:=hid (Qgp h0);have zE:(QAh a b==0)=false:=by simpa using h0
 have HC:=hid (fun wx=>Qae a b wx);generalize QAh a b=cz at *
 generalize Q2a a b=R at *
 have He:Below w.heap.size w ((w.alloc (.cells #[.int .i64 a.kind,.string a.path,.string a.name,.string a.value] 39)).alloc (.cells #[.int .i64 b.kind,.string b.path,.string b.name,.string b.value] 39)):=(Bq).alloc (by simp) _;clear h0;go_enter func47,ntmps47;go_wp2_with fail;refine Calls.mono (by exact HC.o _) ?_;rintro e w1 ⟨rfl,Hb⟩;go_wp2_with fail;go_ret;exact⟨by rw[HR.o];rfl,He.trans (Hb.mono He.size)⟩
theorem Qgq(k:Int)(p n u:ByteArray)(w:World)(hs:p.size<4294967281)(ko:n.size≤9223372036854775807)(lay:Qah w) :
 Calls prog 52 #[.agg #[.int .i64 k,.string p,.string n,.string u]] w fun e w'=>e=.returned (.bool (Qwb ⟨k,p,n,u⟩))∧Below w.heap.size w w':=by
 have ku:=Holds.new w #[.int .i64 k,.string p,.string n,.string u] 39;have He:Below w.heap.size w (w.alloc (.cells #[.int .i64 k,.string p,.string n,.string u] 39)):=Bq;have pz:=lay.fr He;have HP:=hid (Q4r p (w.alloc (.cells #[.int .i64 k,.string p,.string n,.string u] 39)) hs pz);have HQ:=hid (fun wx=>Qyc n wx ko);have hV:Qwb ⟨k,p,n,u⟩=if Qpc p=false∨256<u.size then false else if k=1 then Qsc n&&Qsc u && !Q8h p else if k=2∨(k=3∧Qsc u=true)then Q6a n else false:=rfl;generalize Qwb ⟨k,p,n,u⟩=V at *
 clear pz lay hs ko;cases hp:Qpc p with
 | false=>
  rw[if_pos (.inl hp)]at hV;have HR:=hid hV;rw[hp]at HP;clear hp hV;go_enter func52,ntmps52;go_wp2_with fail;refine Calls.mono (by exact HP.o) ?_;rintro e w1 ⟨rfl,Hb⟩;go_wp2_with fail;go_ret;exact⟨by rw[HR.o];rfl,He.trans (Hb.mono He.size)⟩
 | true=>
  by_cases hu:256<u.size
  ·rw[if_pos (.inr hu)]at hV;have HR:=hid hV;rw[hp]at HP;have vL:(256:Int)<(u.size:Int):=by omega
   clear hp hV hu;go_enter func52,ntmps52;go_wp2_with fail;refine Calls.mono (by exact HP.o) ?_;rintro e w1 ⟨rfl,Hb⟩;have x0:=(ku.fr Hb);have Hq:=hid (He.trans (Hb.mono He.size));have c0:=x0.cell 0;have c1:=x0.cell 1;have c2:=x0.cell 2;have c3:=x0.cell 3;have cl:=x0.lt;clear x0 Hb He ku;go_wp2_with fail;go_ret;exact⟨by rw[HR.o];rfl,Hq.o⟩
  rw[if_neg (fun h=>h.elim (fun h=>by rw[hp]at h;cases h) hu)]at hV;rw[hp]at HP;have vL:¬(256:Int)<(u.size:Int):=by omega
  clear hp hu;by_cases k1:k=1
  ·subst k1;rw[if_pos rfl]at hV;cases h1:n.toList.isEmpty with
   | false=>
    have HR:=hid (hV.trans (by rw[(QCb n).trans h1]));clear hV;go_enter func52,ntmps52;go_wp2_with fail;refine Calls.mono (by exact HP.o) ?_;rintro e w1 ⟨rfl,Hb⟩;have x0:=(ku.fr Hb);have Hq:=hid (He.trans (Hb.mono He.size));have c0:=x0.cell 0;have c1:=x0.cell 1;have c2:=x0.cell 2;have c3:=x0.cell 3;have cl:=x0.lt;clear x0 Hb He ku;go_wp2_with fail;go_ret;exact⟨by rw[HR.o];rfl,Hq.o⟩
   | true=>
    cases h2:u.toList.isEmpty with
    | false=>
     have HR:=hid (hV.trans (by rw[(QCb n).trans h1,(QCb u).trans h2]));clear hV;go_enter func52,ntmps52;go_wp2_with fail;refine Calls.mono (by exact HP.o) ?_;rintro e w1 ⟨rfl,Hb⟩;have x0:=(ku.fr Hb);have Hq:=hid (He.trans (Hb.mono He.size));have c0:=x0.cell 0;have c1:=x0.cell 1;have c2:=x0.cell 2;have c3:=x0.cell 3;have cl:=x0.lt;clear x0 Hb He ku;go_wp2_with fail;go_ret;exact⟨by rw[HR.o];rfl,Hq.o⟩
    | true=>
     cases h3:(p.toList == [47])with
     | false=>
      have HR:=hid (hV.trans (by rw[(QCb n).trans h1,(QCb u).trans h2,(Qdg p).trans h3]));clear hV;go_enter func52,ntmps52;go_wp2_with fail;refine Calls.mono (by exact HP.o) ?_;rintro e w1 ⟨rfl,Hb⟩;have x0:=(ku.fr Hb);have Hq:=hid (He.trans (Hb.mono He.size));have c0:=x0.cell 0;have c1:=x0.cell 1;have c2:=x0.cell 2;have c3:=x0.cell 3;have cl:=x0.lt;clear x0 Hb He ku;go_wp2_with fail;go_ret;exact⟨by rw[HR.o];rfl,Hq.o⟩
     | true=>
      have HR:=hid (hV.trans (by rw[(QCb n).trans h1,(QCb u).trans h2,(Qdg p).trans h3]));clear hV;go_enter func52,ntmps52;go_wp2_with fail;refine Calls.mono (by exact HP.o) ?_;rintro e w1 ⟨rfl,Hb⟩;have x0:=(ku.fr Hb);have Hq:=hid (He.trans (Hb.mono He.size));have c0:=x0.cell 0;have c1:=x0.cell 1;have c2:=x0.cell 2;have c3:=x0.cell 3;have cl:=x0.lt;clear x0 Hb He ku;go_wp2_with fail;go_ret;exact⟨by rw[HR.o];rfl,Hq.o⟩
  rw[if_neg k1]at hV;have kb1:(k==1)=false:=by simpa using k1
  by_cases k2:k=2
  ·subst k2;rw[if_pos (.inl rfl)]at hV;have HR:=hid hV;generalize Q6a n=R at *
   clear hV k1;go_enter func52,ntmps52;go_wp2_with fail;refine Calls.mono (by exact HP.o) ?_;rintro e w1 ⟨rfl,Hb⟩;have x0:=(ku.fr Hb);have Hq:=hid (He.trans (Hb.mono He.size));have c0:=x0.cell 0;have c1:=x0.cell 1;have c2:=x0.cell 2;have c3:=x0.cell 3;have cl:=x0.lt;clear x0 Hb He ku;go_wp2_with fail;refine Calls.mono (by exact HQ.o _) ?_;rintro e w2 ⟨rfl,rfl⟩;go_wp2_with fail;go_ret;exact⟨by rw[HR.o];rfl,Hq.o⟩
  have kb2:(k==2)=false:=by simpa using k2
  by_cases k3:k=3
  ·subst k3;cases h2:u.toList.isEmpty with
   | true=>
    rw[if_pos (.inr ⟨rfl,(QCb u).trans h2⟩)]at hV;have HR:=hid hV;generalize Q6a n=R at *
    clear hV k1 k2;go_enter func52,ntmps52;go_wp2_with fail;refine Calls.mono (by exact HP.o) ?_;rintro e w1 ⟨rfl,Hb⟩;have x0:=(ku.fr Hb);have Hq:=hid (He.trans (Hb.mono He.size));have c0:=x0.cell 0;have c1:=x0.cell 1;have c2:=x0.cell 2;have c3:=x0.cell 3;have cl:=x0.lt;clear x0 Hb He ku;go_wp2_with fail;refine Calls.mono (by exact HQ.o _) ?_;rintro e w2 ⟨rfl,rfl⟩;go_wp2_with fail;go_ret;exact⟨by rw[HR.o];rfl,Hq.o⟩
   | false=>
    rw[if_neg (fun h=>h.elim k2 (fun h=>by have h5:=h.2;rw[(QCb u).trans h2]at h5;cases h5))]at hV;have HR:=hid hV;clear hV k1 k2;go_enter func52,ntmps52;go_wp2_with fail;refine Calls.mono (by exact HP.o) ?_;rintro e w1 ⟨rfl,Hb⟩;have x0:=(ku.fr Hb);have Hq:=hid (He.trans (Hb.mono He.size));have c0:=x0.cell 0;have c1:=x0.cell 1;have c2:=x0.cell 2;have c3:=x0.cell 3;have cl:=x0.lt;clear x0 Hb He ku;go_wp2_with fail;go_ret;exact⟨by rw[HR.o];rfl,Hq.o⟩
  have kb3:(k==3)=false:=by simpa using k3
  rw[if_neg (fun h=>h.elim k2 (fun h=>k3 h.1))]at hV;have HR:=hid hV;clear hV k1 k2 k3;go_enter func52,ntmps52;go_wp2_with fail;refine Calls.mono (by exact HP.o) ?_;rintro e w1 ⟨rfl,Hb⟩;have x0:=(ku.fr Hb);have Hq:=hid (He.trans (Hb.mono He.size));have c0:=x0.cell 0;have c1:=x0.cell 1;have c2:=x0.cell 2;have c3:=x0.cell 3;have cl:=x0.lt;clear x0 Hb He ku;go_wp2_with fail;go_ret;exact⟨by rw[HR.o];rfl,Hq.o⟩
theorem Qcp(x:Qga)(w:World) :
 Calls prog 49 #[.agg #[.int .i64 x.kind,.string x.path,.string x.name,.string x.value]] w fun e w'=>e=.returned (.bool (decide (256<x.value.size)))∧Below w.heap.size w w':=by
 have He:Below w.heap.size w (w.alloc (.cells #[.int .i64 x.kind,.string x.path,.string x.name,.string x.value] 39)):=Bq;by_cases hu:256<x.value.size
 ·have vL:(256:Int)<(x.value.size:Int):=by omega
  have HR:=hid (show decide (256<x.value.size)=true from decide_eq_true hu);generalize decide (256<x.value.size)=R at *
  clear hu;go_enter func49,ntmps49;go_wp2_with fail;go_ret;exact⟨by rw[HR.o];rfl,He⟩
 have vL:¬(256:Int)<(x.value.size:Int):=by omega
 have HR:=hid (show decide (256<x.value.size)=false from decide_eq_false hu);generalize decide (256<x.value.size)=R at *
 clear hu;go_enter func49,ntmps49;go_wp2_with fail;go_ret;exact⟨by rw[HR.o];rfl,He⟩
theorem Qbp(x:Qga)(w:World)(hs:x.path.size<4294967281)(ko:x.name.size≤9223372036854775807)(lay:Qah w) :
 Calls prog 51 #[.agg #[.int .i64 x.kind,.string x.path,.string x.name,.string x.value]] w fun e w'=>e=.returned (.bool (!Qwb x))∧Below w.heap.size w w':=by
 have HV:=hid (fun wx hl=>Qgq x.kind x.path x.name x.value wx hs ko hl);have hE:Qwb ⟨x.kind,x.path,x.name,x.value⟩=Qwb x:=rfl;rw[hE]at HV;generalize Qwb x=V at *
 clear hE;have He:Below w.heap.size w (w.alloc (.cells #[.int .i64 x.kind,.string x.path,.string x.name,.string x.value] 39)):=Bq;go_enter func51,ntmps51;go_wp2_with fail;refine Calls.mono (by exact HV.o _ (lay.fr He)) ?_;rintro e w1 ⟨rfl,Hb⟩;go_wp2_with fail;go_ret;exact⟨rfl,He.trans (Hb.mono He.size)⟩
theorem Qtk:∀args w,(callFunc 49 args).run prog w=.ok (.enter 49 args) w:=enters_of func49 (by kernel_rfl) rfl
theorem Qsk:∀args w,(callFunc 51 args).run prog w=.ok (.enter 51 args) w:=enters_of func51 (by kernel_rfl) rfl
noncomputable def QDf:Array Oper:=(QPa (Tryz.f20.body.getD .skip) 8).getD #[]
theorem okR:Q0b .any QDf=true:=by kernel_rfl
theorem Qgo:QRb QDf=true:=by kernel_rfl
theorem QMu:QDf.size=13:=by kernel_rfl
def OkF(ob g o k k1 cap n:Nat)(a b:Qga)(_:ByteArray)(j:Nat):Value→World→Prop:=match j with
 | 0=>fun u _=>u=.pointer (some ⟨ob,1,none⟩)
 | 1=>fun u _=>u=.slice (some ⟨g,o,none⟩) n cap
 | 2=>fun u _=>u=.int .i64 (k1:Int)
 | 3=>fun u _=>u=.int .i64 (k:Int)
 | 4=>fun u _=>u=.pointer (some ⟨g,o+k*4,none⟩)
 | 5=>fun u _=>u=.agg #[.int .i64 a.kind,.string a.path,.string a.name,.string a.value]
 | 6=>fun u _=>u=.pointer (some ⟨ob,1,none⟩)
 | 7=>fun u _=>u=.slice (some ⟨g,o,none⟩) n cap
 | 8=>fun u _=>u=.int .i64 (k1:Int)
 | 9=>fun u _=>u=.pointer (some ⟨g,o+k1*4,none⟩)
 | 10=>fun u _=>u=.agg #[.int .i64 b.kind,.string b.path,.string b.name,.string b.value]
 | 11=>fun u _=>u=.int .i64 (QAh a b)
 | 12=>fun u _=>u=.bool (decide (0≤QAh a b))
 | _=>fun _ _=>True
def OkC(ob g o k k1 cap n:Nat)(a b:Qga)(nm:ByteArray)(_ w:World):Prop:=Holds w ob #[.string nm,.slice (some ⟨g,o,none⟩) n cap] 31∧Qie w g (o+k*4) a∧Qie w g (o+k1*4) b
def OkE(_ _ _ _ _ _ _:Nat)(_ _:Qga)(_:ByteArray)(W w:World)(l:Array Bool):Prop:=
 if l.getD 11 false=false then(Below W.heap.size W w)else
 Below W.heap.size W w
section
variable{ob g o k k1 cap n:Nat}{a b:Qga}{nm:ByteArray}{W w:World}{l:Array Bool}
theorem OkE.other{j:Nat}(h:OkE ob g o k k1 cap n a b nm W w l)(n0:j≠11:=by decide):OkE ob g o k k1 cap n a b nm W w (l.setIfInBounds j true):=by
 unfold OkE at h ⊢;rw[Qsa n0];exact h
theorem OkE.at0(h:OkE ob g o k k1 cap n a b nm W w l)(no:l.getD 11 false=false):Below W.heap.size W w:=by
 unfold OkE at h;rw[no,if_pos rfl]at h;exact h
theorem OkE.to0(hs:11<l.size)(h:Below W.heap.size W w):OkE ob g o k k1 cap n a b nm W w (l.setIfInBounds 11 true):=by
 unfold OkE;rw[Qjb hs,if_neg (by simp)];exact h
theorem OkF.world{j:Nat}{u:Value}{w':World}(h:OkF ob g o k k1 cap n a b nm j u w):OkF ob g o k k1 cap n a b nm j u w':=by
 unfold OkF at *
 split at h
 all_goals exact h
end
theorem Qho{Q:Exit→Act→World→Prop}(ob g o k k1 cap n:Nat)(a b:Qga)(nm:ByteArray)(W w:World)(A:Act)(hsz:A.tmps.size=42)(Aq:k1<n)(Ga:Hid (k1=k+1))(hnc:n≤1000)
 (a1:A.tmps.getD 1 undef=.pointer (some ⟨ob,0,none⟩)) (a3:A.tmps.getD 3 undef=.int .i64 (k1:Int)) (hC0:OkC ob g o k k1 cap n a b nm W w) (hE0:Below W.heap.size W w)
 (hQ:∀c w' ,Qpb QDf A c→c.tmps.getD 41 undef=.bool (decide (0≤QAh a b))→(Below W.heap.size W w')→Q .normal c w') :
 wpAny prog .any QDf Q QDf.size (Array.replicate QDf.size false) A w:=by
 refine QNa (fun l c wx=>Qsb QDf A (OkF ob g o k k1 cap n a b nm ) (fun _=>True) l c wx∧(l.getD 11 false=false→OkC ob g o k k1 cap n a b nm W wx)∧OkE ob g o k k1 cap n a b nm W wx l) okR ?hend ?Hk _ _ _ _ (by simp) (by simp) ⟨Qsb.start trivial,fun _=>hC0,by unfold OkE;rw[if_pos (QXg _ _)];exact hE0⟩
 case hend=>
  rintro l c wx ⟨hI,hC,hE⟩ hl;have hh:∀k,k<13→l.getD k false=true:=fun k hk=>hl k (by rw[QMu];exact hk);have J8:Below W.heap.size W wx:=by
   unfold OkE at hE;rw[hh 11 (by decide),if_neg (by simp)]at hE;exact hE
  exact hQ c wx hI.1.1 (hI.fact 12 41 rfl (hh 12 (by decide))) J8
 intro l c wx KV i' op ho hl Ha K' hK';obtain⟨hI,hC,hE⟩:=KV;have ke:l.size=13:=by rw[hI.1.2.2.1.1,QMu]
 have hi':i'<13:=by rw[←QMu];exact(Array.getElem?_eq_some_iff.1 ho).1
 have Hf:=ho;simp only[QDf,QPa,Tryz.f20,Option.getD_some,reduceIte,Nat.reduceEqDiff]at ho;have s1:=(hI.slot 1 (by kernel_rfl)).trans a1;have s3:=(hI.slot 3 (by kernel_rfl)).trans a3;have fs:=And.intro True.intro True.intro;simp only[Array.getD_eq_getD_getElem?]at s1 s3;have GB:i'=0∨i'=1∨i'=2∨i'=3∨i'=4∨i'=5∨i'=6∨i'=7∨i'=8∨i'=9∨i'=10∨i'=11∨i'=12:=by omega
 clear hi';rcases GB with rfl|rfl|rfl|rfl|rfl|rfl|rfl|rfl|rfl|rfl|rfl|rfl|rfl
 all_goals cases ho
 ·go_simp;exact hK' _ _ ⟨hI.st Qgo 0 29 hsz Hf Ha rfl,(fun h=>hC (Qja h)),hE.other⟩
 ·have f0:c.tmps.getD 29 undef=.pointer (some ⟨ob,1,none⟩):=hI.yf 0 29 13 Hf Ha;have e0:=gE f0;have hc:=hC (hI.1.2.2.1.2.no_far 13 hl (by kernel_rfl:Qzc QDf 13 11 1=true));have x0:=hc.1.cell 1;have xl:=hc.1.lt;go_simp;exact hK' _ _ ⟨hI.st Qgo 1 30 hsz Hf Ha rfl,(fun h=>hC (Qja h)),hE.other⟩
 ·go_simp;exact hK' _ _ ⟨hI.st Qgo 2 31 hsz Hf Ha rfl,(fun h=>hC (Qja h)),hE.other⟩
 ·have f2:c.tmps.getD 31 undef=.int .i64 (k1:Int):=hI.yf 2 31 13 Hf Ha;have e2:=gE f2;have hw:IntKind.i64.wrap ((k1:Int)-1)=(k:Int):=by rw[IntWalk.i64_in _ (by have:=Ga.o;omega)];have:=Ga.o;omega
  go_simp;exact hK' _ _ ⟨hI.st Qgo 3 32 hsz Hf Ha rfl,(fun h=>hC (Qja h)),hE.other⟩
 ·have f1:c.tmps.getD 30 undef=.slice (some ⟨g,o,none⟩) n cap:=hI.yf 1 30 13 Hf Ha;have e1:=gE f1;have f3:c.tmps.getD 32 undef=.int .i64 (k:Int):=hI.yf 3 32 13 Hf Ha;have e3:=gE f3;have hb:(k:Int)<(n:Int):=by have:=Ga.o;omega
  go_simp;exact hK' _ _ ⟨hI.st Qgo 4 33 hsz Hf Ha rfl,(fun h=>hC (Qja h)),hE.other⟩
 ·have f4:c.tmps.getD 33 undef=.pointer (some ⟨g,o+k*4,none⟩):=hI.yf 4 33 13 Hf Ha;have e4:=gE f4;have hc:=hC (hI.1.2.2.1.2.no_far 13 hl (by kernel_rfl:Qzc QDf 13 11 5=true));obtain⟨x0,x1,x2,x3⟩:=hc.2.1;have xl:=World.block_lt_of_cell? wx _ x0;go_simp;exact hK' _ _ ⟨hI.st Qgo 5 34 hsz Hf Ha rfl,(fun h=>hC (Qja h)),hE.other⟩
 ·go_simp;exact hK' _ _ ⟨hI.st Qgo 6 35 hsz Hf Ha rfl,(fun h=>hC (Qja h)),hE.other⟩
 ·have f6:c.tmps.getD 35 undef=.pointer (some ⟨ob,1,none⟩):=hI.yf 6 35 13 Hf Ha;have e6:=gE f6;have hc:=hC (hI.1.2.2.1.2.no_far 13 hl (by kernel_rfl:Qzc QDf 13 11 7=true));have x0:=hc.1.cell 1;have xl:=hc.1.lt;go_simp;exact hK' _ _ ⟨hI.st Qgo 7 36 hsz Hf Ha rfl,(fun h=>hC (Qja h)),hE.other⟩
 ·go_simp;exact hK' _ _ ⟨hI.st Qgo 8 37 hsz Hf Ha rfl,(fun h=>hC (Qja h)),hE.other⟩
 ·have f7:c.tmps.getD 36 undef=.slice (some ⟨g,o,none⟩) n cap:=hI.yf 7 36 13 Hf Ha;have e7:=gE f7;have f8:c.tmps.getD 37 undef=.int .i64 (k1:Int):=hI.yf 8 37 13 Hf Ha;have e8:=gE f8;have hb:(k1:Int)<(n:Int):=by omega
  go_simp;exact hK' _ _ ⟨hI.st Qgo 9 38 hsz Hf Ha rfl,(fun h=>hC (Qja h)),hE.other⟩
 ·have f9:c.tmps.getD 38 undef=.pointer (some ⟨g,o+k1*4,none⟩):=hI.yf 9 38 13 Hf Ha;have e9:=gE f9;have hc:=hC (hI.1.2.2.1.2.no_far 13 hl (by kernel_rfl:Qzc QDf 13 11 10=true));obtain⟨x0,x1,x2,x3⟩:=hc.2.2;have xl:=World.block_lt_of_cell? wx _ x0;go_simp;exact hK' _ _ ⟨hI.st Qgo 10 39 hsz Hf Ha rfl,(fun h=>hC (Qja h)),hE.other⟩
 ·have f5:c.tmps.getD 34 undef=.agg #[.int .i64 a.kind,.string a.path,.string a.name,.string a.value]:=hI.yf 5 34 13 Hf Ha;have e5:=gE f5;have f10:c.tmps.getD 39 undef=.agg #[.int .i64 b.kind,.string b.path,.string b.name,.string b.value]:=hI.yf 10 39 13 Hf Ha;have e10:=gE f10;have hc:=hC (hI.1.2.2.1.2.no_far 13 hl (by kernel_rfl:Qzc QDf 13 11 11=true));have hp:=hE.at0 hl;go_simp;refine(Qae a b wx).mono ?_;rintro e w2 ⟨rfl,Hc⟩;have Kj:Below W.heap.size W w2:=hp.trans (Hc.mono hp.size);exact hK' _ _ ⟨hI.step Qgo 11 40 rfl (by rw[hsz];decide) _ _ Hf Ha trivial (fun _ _ h=>OkF.world h) rfl,fun h=>absurd h (by rw[Qjb (by rw[ke];decide)];simp),OkE.to0 (by rw[ke];decide) Kj⟩
 have f11:c.tmps.getD 40 undef=.int .i64 (QAh a b):=hI.yf 11 40 13 Hf Ha;have e11:=gE f11;go_simp;exact hK' _ _ ⟨hI.st Qgo 12 41 hsz Hf Ha rfl,(fun h=>hC (Qja h)),hE.other⟩
def Qyb(l:List Qga):Prop:=∀x∈l,x.path.size≤2000000∧x.name.size≤2000000∧x.value.size≤2000000
theorem Q7a{w:World}{a:Option Addr}{n c:Nat}{l:List Qga}(h:QFa w (.slice a n c) l)(h0:0<l.length):∃g o,a=some ⟨g,o,none⟩∧g<w.heap.size∧∀(i:Nat) (h:i<l.length),Qie w g (o+i*4) l[i]:=by
 obtain⟨a',c',e,_,_,h3⟩:=h;simp only[Value.slice.injEq]at e;obtain⟨rfl,_,_⟩:=e;exact h3 h0
theorem Qvt{l:List Qga}{n:Nat}(h:∀j (hj:j+1<l.length),j<n→ltE l[j] l[j+1]=true)(hn:l.length≤n+1):Qck l=true:=QEl l (fun i hi=>h i hi (by omega))
theorem Qag(nm:ByteArray)(v:Value)(l:List Qga)(w:World)(hE:QFa w v l)(Ht:nm.size≤maxLen)(hz:Qyb l)(M8:l.length≤1000000)(lay:Qah w) :
 Calls prog 20 #[.agg #[.string nm,v]] w fun e w'=>e=.returned (.int .i64 (Qva nm l))∧Below w.heap.size w w':=by
 obtain⟨a,cap,rfl,gy,gh,gj⟩:=id hE;clear gj;have hC:Qva nm l=if 40<l.length∨l.any (fun x=>decide (256<x.value.size))=true then 3 else if QTa nm.data.toList=false∨l.any (fun x=>!Qwb x)=true then 1 else if Qck l=false then 12 else 0:=rfl;generalize Qva nm l=C at *
 have He:Below w.heap.size w (w.alloc (.cells #[.string nm,.slice a l.length cap] 31)):=Bq;have M4:=Holds.new w #[.string nm,.slice a l.length cap] 31;have HX:=hid (fun wx (hb:Below w.heap.size w wx)=>Qrd 49 Qtk (fun x=>decide (256<x.value.size)) (.slice a l.length cap) l wx (fun x _ wy _=>Qcp x wy) (hE.new hb) (by omega));have HY:=hid (fun wx (hb:Below w.heap.size w wx)=>Qrd 51 Qsk (fun x=>!Qwb x) (.slice a l.length cap) l wx (fun x hx wy hby=>Qbp x wy (by have:=(hz x hx).1;omega) (by have:=(hz x hx).2.1;omega) (lay.keeps (Qaa.of_fresh (hb.trans (hby.mono hb.size)) (fun _=>False)) (fun e=>e))) (hE.new hb) (by omega));have HN:=hid (fun wx=>Qac nm wx Ht);have HE:=hid hE;clear lay Ht hE;obtain⟨P,hP⟩:∃P,P=l.any (fun x=>decide (256<x.value.size)):=⟨_,rfl⟩;obtain⟨V,hV⟩:∃V,V=l.any (fun x=>!Qwb x):=⟨_,rfl⟩;rw[←hP,←hV]at hC;rw[←hP]at HX;rw[←hV]at HY;clear hP hV;by_cases h40:40<l.length
 ·have hR:=hid (hC.trans (if_pos (.inl h40)));have fC:(40:Int)<(l.length:Int):=by omega
  clear hC h40;go_enter func20,ntmps20;go_wp2_with fail;go_ret;exact⟨by rw[hR.o];rfl,He⟩
 have fC:¬(40:Int)<(l.length:Int):=by omega
 cases P with
 | true=>
  have hR:=hid (hC.trans (if_pos (.inr rfl)));clear hC h40;go_enter func20,ntmps20;go_wp2_with fail;refine Calls.mono (by exact HX.o _ He) ?_;rintro e w1 ⟨rfl,Hb⟩;go_wp2_with fail;go_ret;exact⟨by rw[hR.o];rfl,He.trans (Hb.mono He.size)⟩
 | false=>
  rw[if_neg (fun h=>h.elim h40 (fun h=>by cases h))]at hC;cases hn:QTa nm.data.toList with
  | false=>
   have hR:=hid (hC.trans (if_pos (.inl hn)));rw[hn]at HN;clear hC hn h40;go_enter func20,ntmps20;go_wp2_with fail;refine Calls.mono (by exact HX.o _ He) ?_;rintro e w1 ⟨rfl,Hb⟩;have x0:=(M4.fr Hb).cell 0;have xl:=(M4.fr Hb).lt;have Hq:=hid (He.trans (Hb.mono He.size));clear Hb He M4;go_wp2_with fail;refine Calls.mono (by exact HN.o _) ?_;rintro e w2 ⟨rfl,rfl⟩;go_wp2_with fail;go_ret;exact⟨by rw[hR.o];rfl,Hq.o⟩
  | true=>
   rw[hn]at HN;cases V with
   | true=>
    have hR:=hid (hC.trans (if_pos (.inr rfl)));clear hC hn h40;go_enter func20,ntmps20;go_wp2_with fail;refine Calls.mono (by exact HX.o _ He) ?_;rintro e w1 ⟨rfl,Hb⟩;have x0:=(M4.fr Hb).cell 0;have x1:=(M4.fr Hb).cell 1;have xl:=(M4.fr Hb).lt;have Hq:=hid (He.trans (Hb.mono He.size));clear Hb He M4;go_wp2_with fail;refine Calls.mono (by exact HN.o _) ?_;rintro e w2 ⟨rfl,rfl⟩;go_wp2_with fail;refine Calls.mono (by exact HY.o _ Hq.o) ?_;rintro e w3 ⟨rfl,Hg⟩;go_wp2_with fail;go_ret;exact⟨by rw[hR.o];rfl,Hq.o.trans (Hg.mono Hq.o.size)⟩
   | false=>
    rw[if_neg (by rw[hn];simp)]at hC;have HC:=hid hC;clear hC hn h40;go_enter func20,ntmps20;go_wp2_with fail;refine Calls.mono (by exact HX.o _ He) ?_;rintro e w1 ⟨rfl,Hb⟩;have mw:=M4.fr Hb;have x0:=mw.cell 0;have x1:=mw.cell 1;have xl:=mw.lt;have yS:=hid mw;have Hq:=hid (He.trans (Hb.mono He.size));clear Hb He M4 mw;go_wp2_with fail;refine Calls.mono (by exact HN.o _) ?_;rintro e w2 ⟨rfl,rfl⟩;go_wp2_with fail;refine Calls.mono (by exact HY.o _ Hq.o) ?_;rintro e w3 ⟨rfl,Hg⟩;have ME:=yS.o.fr Hg;have Hu:=Hq.o.trans (Hg.mono Hq.o.size);clear x0 x1 xl HX HY HN;go_wp2_with fail;go_loopg [3] (l.length) (fun f x wr=>∃k:Nat,x=.int .i64 ((k+1:Nat):Int)∧k≤l.length∧l.length≤k+f∧Hid (∀j (hj:j+1<l.length),j<k→ltE l[j] l[j+1]=true)∧Holds wr w.heap.size #[.string nm,.slice a l.length cap] 31∧Below w.heap.size w wr)
    case atStart=>exact⟨0,rfl,by omega,by omega,hid (fun j _ h=>by omega),ME,Hu⟩
    case round=>
     clear ME Hu Hg;obtain⟨k,rfl,hk,hf,hN,hH,hb⟩:=hrel;have c1:=hH.cell 1;have cl:=hH.lt;have Hy:=hb.size;by_cases Hh:k+1<l.length
     ·have GJ:((k+1:Nat):Int)<(l.length:Int):=by omega
      obtain⟨g,o,e1,hg,Hw⟩:=Q7a (HE.o.new hb) (by omega);subst e1;have ha:=Hw k (by omega);have xT:=Hw (k+1) Hh;have hy:ltE l[k] l[k+1]=true∨ltE l[k] l[k+1]=false:=by cases ltE l[k] l[k+1] <;> simp
      have jO:=Qhp l[k] l[k+1];clear Hw;have HB:=hid hb;have HH:=hid hH;clear hb hH;go_upto_region 8 with fail;refine wp_region_any (by kernel_rfl) ?_;refine QUa (ops':=QDf) (by kernel_rfl) ?_;refine Qho w.heap.size g o k (k+1) cap l.length l[k] l[k+1] nm wr _ _ rfl Hh (hid rfl) (by omega) rfl rfl ⟨HH.o.drew,ha,xT⟩ ((Below.refl _ _).drew) ?_;intro c w5 gI sZ H5;obtain⟨y29,y30,y31,y32,y33,y34,y35,y36,y37,y38,y39,y40,y41,rfl⟩:=gI.ex [29,30,31,32,33,34,35,36,37,38,39,40,41] (by kernel_rfl);simp only[List.setIfInBounds_toArray,List.set_cons_zero,List.set_cons_succ]at sZ ⊢;have td:y41=.bool (decide (0≤QAh l[k] l[k+1])):=sZ;subst td;have bA:=hid (HB.o.trans (H5.mono HB.o.size));have qu:=hid (HH.o.fr H5);clear H5 gI sZ ha xT;rcases hy with hy|hy
      ·rw[jO,hy];have zB:=hid hy;clear jO hy;go_wp2_with fail;go_roundg (gk-1)
       case measure=>omega
       case rel=>
        refine⟨k+1,by go_num,by omega,by omega,hid (fun j hj ip=>?_),qu.o,bA.o⟩;by_cases e:j=k
        ·subst e;exact zB.o
        exact hN.o j hj (by omega)
      rw[jO,hy];have hR:=hid (HC.o.trans (if_pos (QYo Hh hy)));clear jO hy;go_wp2_with fail;go_ret;exact⟨by rw[hR.o];rfl,bA.o⟩
     have GJ:¬((k+1:Nat):Int)<(l.length:Int):=by omega
     have hR:=hid (HC.o.trans (if_neg (by rw[Qvt hN.o (by omega)];decide)));have HB:=hid hb;clear hb hH;go_wp2_with fail;go_ret;exact⟨by rw[hR.o];rfl,HB.o⟩
noncomputable def Qwi:Array Oper:=(QPa (Tryz.f10.body.getD .skip) 1).getD #[]
theorem oaR:Q0b .any Qwi=true:=by kernel_rfl
theorem Qpt:QRb Qwi=true:=by kernel_rfl
theorem QDu:Qwi.size=7:=by kernel_rfl
def OaF(_ _:Nat)(tv ov:Value)(T:List Qba)(nm:ByteArray)(es:List Qga)(_:Nat→Prop)(j:Nat):Value→World→Prop:=match j with
 | 0=>fun u _=>u=.agg #[tv]
 | 1=>fun u _=>u=.int .i64 (Qia T)
 | 2=>fun u _=>u=.agg #[.string nm,ov]
 | 3=>fun u _=>u=.int .i64 (Qva nm es)
 | 4=>fun u w=>∃nB:Nat,u=.slice (some ⟨nB,0,none⟩) 2 2∧Holds w nB #[.int .i64 (Qia T),.int .i64 (Qva nm es)] 33
 | 5=>fun u _=>u=.int .i64 (if Qia T=0 then Qva nm es else Qia T)
 | 6=>fun u _=>u=.int .i64 (if Qia T=0 then Qva nm es else Qia T)
 | _=>fun _ _=>True
def OaC(tb ob:Nat)(tv ov:Value)(T:List Qba)(nm:ByteArray)(es:List Qga)(R:Nat→Prop)(w:World):Prop:=Holds w tb #[tv] 27∧Holds w ob #[.string nm,ov] 31∧Qoa R w tv T∧QFa w ov es∧Qah w
section
variable{tb ob:Nat}{tv ov:Value}{T:List Qba}{nm:ByteArray}{es:List Qga}{R:Nat→Prop}{w w':World}
theorem OaF.stable{j:Nat}{u:Value}(h:OaF tb ob tv ov T nm es R j u w)(k:Below w.heap.size w w'):OaF tb ob tv ov T nm es R j u w':=by
 unfold OaF at *
 split at h
 all_goals first
  | exact h
  | (obtain⟨nB,e,hh⟩:=h;exact⟨nB,e,hh.fr k⟩)
end
theorem Q8n{Q:Exit→Act→World→Prop}(tb ob:Nat)(tv ov:Value)(T:List Qba)(nm:ByteArray)(es:List Qga)(R:Nat→Prop)(W w:World)(A:Act)(hsz:A.tmps.size=47)(Ht:nm.size≤maxLen)(hz:Qyb es)(M8:es.length≤1000000)
 (a2:A.tmps.getD 2 undef=.pointer (some ⟨tb,0,none⟩)) (a3:A.tmps.getD 3 undef=.pointer (some ⟨ob,0,none⟩)) (hC0:OaC tb ob tv ov T nm es R W) (hE0:Below W.heap.size W w)
 (hQ:∀c w',Qpb Qwi A c→c.tmps.getD 7 undef=.int .i64 (if Qia T=0 then Qva nm es else Qia T)→Below W.heap.size W w'→Q .normal c w') :
 wpAny prog .any Qwi Q Qwi.size (Array.replicate Qwi.size false) A w:=by
 refine QNa (fun l c wx=>Qsb Qwi A (OaF tb ob tv ov T nm es R) (fun _=>True) l c wx∧Below W.heap.size W wx) oaR ?hend ?Hk _ _ _ _ (by simp) (by simp) ⟨Qsb.start trivial,hE0⟩
 case hend=>
  rintro l c wx ⟨hI,hS⟩ hl;have hh:∀k,k<7→l.getD k false=true:=fun k hk=>hl k (by rw[QDu];exact hk);exact hQ c wx hI.1.1 (hI.fact 6 7 rfl (hh 6 (by decide))) hS
 intro l c wx KV i' op ho hl Ha K' hK';obtain⟨hI,hS⟩:=KV;have ke:l.size=7:=by rw[hI.1.2.2.1.1,QDu]
 have hi':i'<7:=by rw[←QDu];exact(Array.getElem?_eq_some_iff.1 ho).1
 have Hf:=ho;simp only[Qwi,QPa,Tryz.f10,Option.getD_some,reduceIte,Nat.reduceEqDiff]at ho;have s2:=(hI.slot 2 (by kernel_rfl)).trans a2;have s3:=(hI.slot 3 (by kernel_rfl)).trans a3;have fs:=And.intro True.intro True.intro;simp only[Array.getD_eq_getD_getElem?]at s2 s3;have GB:i'=0∨i'=1∨i'=2∨i'=3∨i'=4∨i'=5∨i'=6:=by omega
 clear hi';rcases GB with rfl|rfl|rfl|rfl|rfl|rfl|rfl
 all_goals cases ho
 ·have hc:OaC tb ob tv ov T nm es R wx:=⟨hC0.1.fr hS,hC0.2.1.fr hS,hC0.2.2.1.new hS,hC0.2.2.2.1.new hS,hC0.2.2.2.2.fr hS⟩;have x0:=hc.1.cell 0;have xl:=hc.1.lt;go_simp;exact hK' _ _ ⟨hI.st Qpt 0 10 hsz Hf Ha rfl,hS⟩
 ·have f0:c.tmps.getD 10 undef=.agg #[tv]:=hI.yf 0 10 7 Hf Ha;have e0:=gE f0;have hc:OaC tb ob tv ov T nm es R wx:=⟨hC0.1.fr hS,hC0.2.1.fr hS,hC0.2.2.1.new hS,hC0.2.2.2.1.new hS,hC0.2.2.2.2.fr hS⟩;go_simp;refine(QFg R tv T wx hc.2.2.1).mono ?_;rintro e w2 ⟨rfl,Hc⟩;exact hK' _ _ ⟨hI.step Qpt 1 11 rfl (by rw[hsz];decide) _ _ Hf Ha trivial (fun _ _ h=>OaF.stable h Hc) rfl,hS.trans (Hc.mono hS.size)⟩
 ·have hc:OaC tb ob tv ov T nm es R wx:=⟨hC0.1.fr hS,hC0.2.1.fr hS,hC0.2.2.1.new hS,hC0.2.2.2.1.new hS,hC0.2.2.2.2.fr hS⟩;have x0:=hc.2.1.cell 0;have x1:=hc.2.1.cell 1;have xl:=hc.2.1.lt;go_simp;exact hK' _ _ ⟨hI.st Qpt 2 12 hsz Hf Ha rfl,hS⟩
 ·have f2:c.tmps.getD 12 undef=.agg #[.string nm,ov]:=hI.yf 2 12 7 Hf Ha;have e2:=gE f2;have hc:OaC tb ob tv ov T nm es R wx:=⟨hC0.1.fr hS,hC0.2.1.fr hS,hC0.2.2.1.new hS,hC0.2.2.2.1.new hS,hC0.2.2.2.2.fr hS⟩;go_simp;refine(Qag nm ov es wx hc.2.2.2.1 Ht hz M8 hc.2.2.2.2).mono ?_;rintro e w2 ⟨rfl,Hc⟩;exact hK' _ _ ⟨hI.step Qpt 3 13 rfl (by rw[hsz];decide) _ _ Hf Ha trivial (fun _ _ h=>OaF.stable h Hc) rfl,hS.trans (Hc.mono hS.size)⟩
 ·have f1:c.tmps.getD 11 undef=.int .i64 (Qia T):=hI.yf 1 11 7 Hf Ha;have e1:=gE f1;have f3:c.tmps.getD 13 undef=.int .i64 (Qva nm es):=hI.yf 3 13 7 Hf Ha;have e3:=gE f3;go_simp;exact hK' _ _ ⟨hI.step Qpt 4 14 rfl (by rw[hsz];decide) _ _ Hf Ha trivial (fun _ _ h=>OaF.stable h (Bq)) ⟨_,rfl,Holds.new _ _ _⟩,hS.alloc hS.size _⟩
 ·obtain⟨nB,e4,Jx⟩:∃nB:Nat,c.tmps.getD 14 undef=.slice (some ⟨nB,0,none⟩) 2 2∧Holds wx nB #[.int .i64 (Qia T),.int .i64 (Qva nm es)] 33:=hI.yf 4 14 7 Hf Ha;have f4:=e4;simp only[Array.getD_eq_getD_getElem?]at e4;have hc:OaC tb ob tv ov T nm es R wx:=⟨hC0.1.fr hS,hC0.2.1.fr hS,hC0.2.2.1.new hS,hC0.2.2.2.1.new hS,hC0.2.2.2.2.fr hS⟩;go_simp;refine(Qaq (Qia T) (Qva nm es) nB wx Jx).mono ?_;rintro e w2 ⟨rfl,Hc⟩;exact hK' _ _ ⟨hI.step Qpt 5 15 rfl (by rw[hsz];decide) _ _ Hf Ha trivial (fun _ _ h=>OaF.stable h Hc) rfl,hS.trans (Hc.mono hS.size)⟩
 have f5:c.tmps.getD 15 undef=.int .i64 (if Qia T=0 then Qva nm es else Qia T):=hI.yf 5 15 7 Hf Ha;have e5:=gE f5;go_simp;exact hK' _ _ ⟨hI.st Qpt 6 7 hsz Hf Ha rfl,hS⟩
theorem Qfp(a b:Qga):Q2a a b=((a.path.toList==b.path.toList)&&(a.name.toList==b.name.toList) && !a.name.toList.isEmpty && !(decide (a.kind=b.kind)&&(a.value.toList==b.value.toList))):=by
 obtain⟨ak,ap,an,av⟩:=a;obtain⟨bk,bp,bn,bv⟩:=b;show _=(eqS ap bp&&eqS an bn && !an.toList.isEmpty && !(decide (ak=bk)&&eqS av bv));rw[←QCb];unfold Q2a;simp only[Qga.mk.injEq];cases h1:eqS ap bp with
 | false=>rfl
 | true=>
  cases h2:eqS an bn with
  | false=>rfl
  | true=>
   obtain rfl:=(QCa _ _).1 h1;obtain rfl:=(QCa _ _).1 h2;have:decide (ak=bk∧ap=ap∧an=an∧av=bv)=(decide (ak=bk)&&eqS av bv):=by
    rw[Bool.eq_iff_iff];simp[QCa]
   rw[this]
theorem Qlm(a b:Qga)(w:World) :
 Calls prog 58 #[.agg #[.int .i64 a.kind,.string a.path,.string a.name,.string a.value],.agg #[.int .i64 b.kind,.string b.path,.string b.name,.string b.value]] w fun e w'=>e=.returned (.bool (Q2a a b))∧Below w.heap.size w w':=by
 have He:Below w.heap.size w ((w.alloc (.cells #[.int .i64 a.kind,.string a.path,.string a.name,.string a.value] 39)).alloc (.cells #[.int .i64 b.kind,.string b.path,.string b.name,.string b.value] 39)):=(Bq).alloc (by simp) _;have hV:=Qfp a b;generalize Q2a a b=V at *
 obtain⟨ak,ap,an,av⟩:=a;obtain⟨bk,bp,bn,bv⟩:=b;simp only at hV ⊢;cases h1:(ap.toList==bp.toList)with
 | false=>
  rw[h1]at hV;have HR:=hid hV;clear hV;go_enter func58,ntmps58;go_wp2_with fail;go_ret;exact⟨by rw[HR.o];rfl,He⟩
 | true=>
  cases h2:(an.toList==bn.toList)with
  | false=>
   rw[h1,h2]at hV;have HR:=hid hV;clear hV;go_enter func58,ntmps58;go_wp2_with fail;go_ret;exact⟨by rw[HR.o];rfl,He⟩
  | true=>
   cases h3:an.toList.isEmpty with
   | true=>
    rw[h1,h2,h3]at hV;have HR:=hid hV;clear hV;go_enter func58,ntmps58;go_wp2_with fail;go_ret;exact⟨by rw[HR.o];rfl,He⟩
   | false=>
    by_cases hk:ak=bk
    ·subst hk;cases h4:(av.toList==bv.toList)with
     | true=>
      rw[h1,h2,h3,h4,decide_eq_true rfl]at hV;have HR:=hid hV;clear hV;go_enter func58,ntmps58;go_wp2_with fail;go_ret;exact⟨by rw[HR.o];rfl,He⟩
     | false=>
      rw[h1,h2,h3,h4]at hV;have HR:=hid hV;clear hV;go_enter func58,ntmps58;go_wp2_with fail;go_ret;exact⟨by rw[HR.o];rfl,He⟩
    have dz:(ak != bk)=true:=by simpa using hk
    rw[h1,h2,h3,decide_eq_false hk]at hV;clear hk;have HR:=hid hV;clear hV;go_enter func58,ntmps58;go_wp2_with fail;go_ret;exact⟨by rw[HR.o];rfl,He⟩
end Go.Proofs.YtgaboghigefgbaaGreatDoor
