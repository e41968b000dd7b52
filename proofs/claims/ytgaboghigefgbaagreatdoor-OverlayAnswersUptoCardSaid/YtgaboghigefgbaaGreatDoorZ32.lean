/- Lemmas on the way to the law; no conditions. -/
import Derived.Test.YtgaboghigefgbaaGreatDoorZ2
import Derived.BigQuiet
import Derived.BigRegion
set_option linter.all false
set_option maxRecDepth 100000
set_option maxHeartbeats 8000000
namespace Go.Proofs.YtgaboghigefgbaaGreatDoor
open Go.Proofs.Tryz
open Go.Lib (hid)
open Go.RowKit
section
variable{L:List (Int × ByteArray × Int)}{d i k:Nat}{v:Int}
theorem Qzq{t:Int × ByteArray × Int}(hs:QKd L i≠⟨#[40]⟩)(h:L[i]? = some t)(h2:t.1=2):Rd L .prim d i (some (t.2.2 % 4294967296,i+1,decide (8<d),decide (t.2.2<0)||decide (4294967295<t.2.2),false)):=
 ⟨1,by rw[evT,if_neg hs,h];show some (if _ then _ else _)=_;rw[if_pos h2]⟩
theorem Qfn(hs:QKd L i≠⟨#[40]⟩)(h:∀t,L[i]? = some t→t.1≠2):Rd L .prim d i none:=
 ⟨1,by
  rw[evT,if_neg hs];cases e:L[i]? with
  | none=>rfl
  | some t=>show some (if _ then _ else _)=_;rw[if_neg (h t e)]⟩
end
def QBl(R:Nat→Prop)(w:World)(v:Value)(L:List (Int × ByteArray × Int)):Prop:=
 ∃(a:Option Addr) (cap:Nat),v=.slice a L.length cap∧(∀t∈L,t.2.1.size≤maxLen)∧(0<L.length→∃g o,a=some ⟨g,o,none⟩∧R g∧∀(j:Nat) (h:j<L.length),
  w.cell? ⟨g,o+j*6,none⟩=some (.int .i64 L[j].1)∧w.cell? ⟨g,o+j*6+1,none⟩=some (.string L[j].2.1)∧w.cell? ⟨g,o+j*6+2,none⟩=some (.int .i64 L[j].2.2))
theorem QBl.keeps{R S:Nat→Prop}{w w':World}{v:Value}{L:List (Int × ByteArray × Int)}(h:QBl R w v L)(k:Qaa S w w')(hs:∀g,R g→¬S g):QBl R w' v L:=by
 obtain⟨a,cap,e,h1,h2⟩:=h;refine⟨a,cap,e,h1,fun h0=>?_⟩;obtain⟨g,o,ea,hR,hc⟩:=h2 h0;refine⟨g,o,ea,hR,fun j hj=>?_⟩;obtain⟨c0,c1,c2⟩:=hc j hj;have Hh:=World.block_lt_of_cell? w _ c0;exact⟨(k.cell (p:=⟨g,o+j*6,none⟩) Hh (hs g hR)).trans c0,(k.cell (p:=⟨g,o+j*6+1,none⟩) Hh (hs g hR)).trans c1,(k.cell (p:=⟨g,o+j*6+2,none⟩) Hh (hs g hR)).trans c2⟩
theorem Qoh.keeps{S:Nat→Prop}{w w':World}{g:Nat}{bs:List Nat}(h:Qoh w g bs)(k:Qaa S w w')(hg:¬S g)(hb:∀b∈bs,¬S b):Qoh w' g bs:=by
 obtain⟨h1,h2,h3⟩:=h;exact⟨h1.keeps k hg,h2,fun i hi=>(h3 i hi).block (k.block _ (h3 i hi).lt (hb _ (List.getElem_mem hi)))⟩
def QTc(w:World)(r:Nat)(L:List (Int × ByteArray × Int))(i d:Nat)(syn dp gr dv:Bool):Prop:=
 ∃lv g bs,Holds w r #[lv,.slice (some ⟨g,0,none⟩) 10 10,.int .i64 i,.int .i64 d,.bool syn,.bool dp,.bool gr,.bool dv] 261∧QBl (fun x=>x≠r) w lv L∧Qoh w g bs∧g≠r∧(∀b∈bs,b≠r)∧i≤L.length∧L.length≤1000000000∧d≤i
theorem QTc.keeps{w w':World}{r:Nat}{L:List (Int × ByteArray × Int)}{i d:Nat}{syn dp gr dv:Bool}(h:QTc w r L i d syn dp gr dv)(k:Qaa (fun _=>False) w w'):QTc w' r L i d syn dp gr dv:=by
 obtain⟨lv,g,bs,h1,h2,h3,h4⟩:=h;exact⟨lv,g,bs,h1.keeps k (fun e=>e),h2.keeps k (fun _ _ e=>e),h3.keeps k (fun e=>e) (fun _ _ e=>e),h4⟩
section
variable{w:World}{r:Nat}{L:List (Int × ByteArray × Int)}{i d:Nat}{syn dp gr dv:Bool}
theorem QTc.put(h:QTc w r L i d syn dp gr dv)(o:Nat)(x:Value){i' d':Nat}{syn' dp' gr' dv':Bool}(hi:i'≤L.length)(hd:d'≤i')
 (he:∀lv rv:Value,(#[lv,rv,.int .i64 i,.int .i64 d,.bool syn,.bool dp,.bool gr,.bool dv]:Array Value).setIfInBounds o x=#[lv,rv,.int .i64 i',.int .i64 d',.bool syn',.bool dp',.bool gr',.bool dv']) :
 QTc (w.setCell ⟨r,o,none⟩ x) r L i' d' syn' dp' gr' dv'∧Qaa (fun b=>b=r) w (w.setCell ⟨r,o,none⟩ x):=by
 obtain⟨lv,g,bs,h1,h2,h3,h4,h5,_,h7,_⟩:=h;have k:=(Qaa.refl (fun b=>b=r) w).setCell (p:=⟨r,o,none⟩) (.inr rfl) x;exact⟨⟨lv,g,bs,by rw[←he];exact h1.set o x,h2.keeps k (fun _ hg e=>hg e),h3.keeps k h4 h5,h4,h5,hi,h7,hd⟩,k⟩
theorem QTc.next(h:QTc w r L i d syn dp gr dv)(hi:i+1≤L.length):QTc (w.setCell ⟨r,2,none⟩ (.int .i64 ((i+1:Nat):Int))) r L (i+1) d syn dp gr dv∧Qaa (fun b=>b=r) w (w.setCell ⟨r,2,none⟩ (.int .i64 ((i+1:Nat):Int))):=
 h.put 2 _ hi (by obtain⟨_,_,_,_,_,_,_,_,_,_,hd⟩:=h;omega) (fun _ _=>rfl)
end
def QNf(r:Nat)(L:List (Int × ByteArray × Int))(i d:Nat)(syn dp gr dv:Bool)(w:World)(e:Ending)(w':World):Prop:=
 e=.returned (.string (if syn=true then⟨#[]⟩else QKd L i))∧QTc w' r L i d syn dp gr dv∧Qaa (fun _=>False) w w'
theorem Qwa(w:World)(n:Nat):Qaa (fun _=>False) w (w.drewN n):=(Qaa.refl _ w).drewN n
theorem Qfh(r:Nat)(L:List (Int × ByteArray × Int))(i d:Nat)(syn dp gr dv:Bool)(w:World)(h:QTc w r L i d syn dp gr dv) :
 Calls prog 234 #[.pointer (some ⟨r,0,none⟩)] w (QNf r L i d syn dp gr dv w):=by
 have HR:=hid h;obtain⟨lv,g,bs,hH,⟨a,cap,rfl,hsz,mP⟩,_,_,_,rh,hLb,_⟩:=h;have jC:=hid mP;clear mP hsz;have c0:=hH.cell 0;have c2:=hH.cell 2;have c4:=hH.cell 4;have cl:=hH.lt;cases syn with
 | true=>
  go_enter func234,ntmps234;go_wp2_with fail;go_quiet(fail);go_wp2_with fail;go_ret;exact⟨rfl,HR.o.keeps (Qwa _ _),Qwa _ _⟩
 | false=>
  by_cases Hh:i<L.length
  ·have GJ:(i:Int)<(L.length:Int):=by omega
   have mX:¬((L.length:Int)≤(i:Int)):=by omega
   obtain⟨gt,ot,rfl,_,hc⟩:=jC.o (by omega);obtain⟨d0,d1,_⟩:=hc i Hh;have hs:QKd L i=if L[i].1=4 then L[i].2.1 else⟨#[]⟩:=by unfold QKd;rw[List.getElem?_eq_getElem Hh]
   have HS:=hid hs;clear hc hs;generalize L[i].1=kd at *
   generalize L[i].2.1=tx at *
   by_cases hk:kd=4
   ·subst hk;have Hp:=hid (show QKd L i=tx from by rw[HS.o];rfl);go_enter func234,ntmps234;go_wp2_with fail;go_quiet(fail);go_wp2_with fail;go_quiet(fail);go_wp2_with fail;go_ret;exact⟨by rw[Hp.o];rfl,(HR.o.keeps (Qwa _ _)).keeps (Qwa _ _),(Qwa _ _).drewN _⟩
   have dz:(kd != 4)=true:=by simpa using hk
   have Hp:=hid (show QKd L i=⟨#[]⟩from by rw[HS.o,if_neg hk]);clear hk;go_enter func234,ntmps234;go_wp2_with fail;go_quiet(fail);go_wp2_with fail;go_ret;exact⟨by rw[Hp.o];rfl,HR.o.keeps (Qwa _ _),Qwa _ _⟩
  have GJ:¬(i:Int)<(L.length:Int):=by omega
  have mX:(L.length:Int)≤(i:Int):=by omega
  have Hp:=hid (show QKd L i=⟨#[]⟩from by unfold QKd;rw[List.getElem?_eq_none (by omega)]);go_enter func234,ntmps234;go_wp2_with fail;go_quiet(fail);go_wp2_with fail;go_ret;exact⟨by rw[Hp.o];rfl,HR.o.keeps (Qwa _ _),Qwa _ _⟩
theorem QWj{a:ByteArray}{l:List UInt8}(h:a.toList=l):a=⟨l.toArray⟩:=by
 rw[ByteArray.toList_eq]at h;apply ByteArray.ext;show a.data=l.toArray;rw[←h]
section
variable{w:World}{r:Nat}{L:List (Int × ByteArray × Int)}{i d:Nat}{syn dp gr dv:Bool}
theorem QTc.cells(h:QTc w r L i d syn dp gr dv):w.cell? ⟨r,2,none⟩=some (.int .i64 i)∧w.cell? ⟨r,3,none⟩=some (.int .i64 d)∧w.cell? ⟨r,4,none⟩=some (.bool syn)∧w.cell? ⟨r,5,none⟩=some (.bool dp)∧w.cell? ⟨r,6,none⟩=some (.bool gr)∧w.cell? ⟨r,7,none⟩=some (.bool dv)∧
 w.frozen? ⟨r,2,none⟩=false∧w.frozen? ⟨r,3,none⟩=false∧w.frozen? ⟨r,4,none⟩=false∧w.frozen? ⟨r,5,none⟩=false∧w.frozen? ⟨r,6,none⟩=false∧w.frozen? ⟨r,7,none⟩=false∧r<w.heap.size∧i≤L.length∧L.length≤1000000000∧d≤i:=by
 obtain⟨lv,g,bs,h1,h2,h3,h4,h5,h6,h7,h8⟩:=h;exact⟨h1.cell 2,h1.cell 3,h1.cell 4,h1.cell 5,h1.cell 6,h1.cell 7,h1.free 2,h1.free 3,h1.free 4,h1.free 5,h1.free 6,h1.free 7,h1.lt,h6,h7,h8⟩
theorem QTc.on(h:QTc w r L i d syn dp gr dv)(hi:i+1≤L.length):QTc (w.setCell ⟨r,2,none⟩ (.int .i64 ((i:Int)+1))) r L (i+1) d syn dp gr dv∧Qaa (fun b=>b=r) w (w.setCell ⟨r,2,none⟩ (.int .i64 ((i:Int)+1))):=by
 have:=h.next hi;rwa [show((i+1:Nat):Int)=(i:Int)+1 from by omega]at this
end
def QSt(r:Nat)(L:List (Int × ByteArray × Int))(d:Nat)(w:World)(e:Ending)(w':World):Prop:=
 ∃(v:Int) (i:Nat) (dp gr dv:Bool),e=.returned (.int .u32 v)∧0≤v∧v≤4294967295∧QTc w' r L i d true dp gr dv∧Qaa (fun b=>b=r) w w'
def Qkj(r:Nat)(L:List (Int × ByteArray × Int))(W:Wh)(d i:Nat)(dp gr dv:Bool)(w:World)(e:Ending)(w':World):Prop:=
 (∃(v:Int) (j:Nat) (p g q:Bool),Rd L W d i (some (v,j,p,g,q))∧e=.returned (.int .u32 v)∧0≤v∧v≤4294967295∧i<j∧j≤L.length∧QTc w' r L j d false (dp||p) (gr||g) (dv||q)∧Qaa (fun b=>b=r) w w')∨
 (Rd L W d i none∧QSt r L d w e w')
theorem QJd{r:Nat}{w w':World}(k:Qaa (fun _=>False) w w'):Qaa (fun b=>b=r) w w':=k.mono (fun _ _ e=>e.elim)
theorem QSl(r:Nat)(L:List (Int × ByteArray × Int))(d i:Nat)(gr dv:Bool)(w:World)(h:QTc w r L i d false true gr dv)(hs:¬QKd L i=⟨#[40]⟩)(Hh:i<L.length)(hk:L[i].1=2) :
 Calls prog 232 #[.pointer (some ⟨r,0,none⟩)] w (Qkj r L .prim d i true gr dv w):=by
 have gE:=Qfh r L i d false true gr dv w h;unfold QNf at gE;simp only[Bool.false_eq_true,if_false]at gE;have mB:((QKd L i).toList == [40])=false:=by
  rw[beq_eq_false_iff_ne];intro e;exact hs (QWj e)
 have HS:=hid hs;generalize QKd L i=t at gE mB;clear hs;go_enter func232,ntmps232;go_wp2_with fail;refine gE.mono ?_;rintro e w1 ⟨rfl,gi,Ga⟩;obtain⟨c2,c3,c4,c5,c6,_,f2,f3,f4,f5,f6,_,rl,Hb,Hc,Hg⟩:=gi.cells;have Kx:=hid gi;obtain⟨lv,g,bs,hH,⟨a,cap,rfl,hsz,mP⟩,_⟩:=gi;have c0:=hH.cell 0;have jC:=hid mP;clear hH mP hsz;have GJ:(i:Int)<(L.length:Int):=by omega
 have mX:¬((L.length:Int)≤(i:Int)):=by omega
 obtain⟨gt,ot,rfl,_,hc⟩:=jC.o (by omega);obtain⟨d0,d1,d2⟩:=hc i Hh;have gj:L[i]? = some L[i]:=List.getElem?_eq_getElem Hh;have JP:=hid gj;clear hc gj d1;have kA:=Qzq (d:=d) HS.o JP.o hk;rw[hk]at d0;have j6:=hid kA;clear kA hk;generalize L[i].2.2=x at *
 have Hp:∀(wx:World) (gr':Bool),gr'=(gr||(decide (x<0)||decide (4294967295<x)))→Qaa (fun _=>False) w1 wx→
  Qkj r L .prim d i true gr dv w (.returned (.int .u32 (x % 4294967296))) (((wx.setCell ⟨r,2,none⟩ (.int .i64 ((i:Int)+1))).setCell ⟨r,5,none⟩ (.bool true)).setCell ⟨r,6,none⟩ (.bool gr')):=by
  intro wx gr' e2 eF;obtain⟨q1,m1⟩:=(Kx.o.keeps eF).on (by omega);obtain⟨q2,m2⟩:=q1.put 5 (.bool true) (i':=i+1) (d':=d) (syn':=false) (dp':=true) (gr':=gr) (dv':=dv) (by omega) (by omega) (fun _ _=>rfl);obtain⟨q3,m3⟩:=q2.put 6 (.bool gr') (i':=i+1) (d':=d) (syn':=false) (dp':=true) (gr':=gr') (dv':=dv) (by omega) (by omega) (fun _ _=>rfl);refine .inl ⟨_,_,_,_,_,j6.o,rfl,by omega,by omega,by omega,by omega,?_,(((((QJd Ga).trans (QJd eF) (fun _ _ e=>e)).trans m1 (fun _ _ e=>e)).trans m2 (fun _ _ e=>e)).trans m3 (fun _ _ e=>e))⟩;rw[←e2,Bool.or_false,show(true||decide (8<d))=true from by rfl];exact q3
 have gV:=hid Hp;clear Hp;cases gr with
 | true=>
  go_wp2_with fail;go_quiet(fail);go_wp2_with fail;go_quiet(fail);go_wp2_with fail;go_ret;exact gV.o _ true (by simp) (Qwa _ _)
 | false=>
  by_cases hx:x<0
  ·go_wp2_with fail;go_quiet(fail);go_wp2_with fail;go_quiet(fail);go_wp2_with fail;go_ret;exact gV.o _ true (by simp[hx]) (Qwa _ _)
  by_cases hy:(4294967295:Int)<x
  ·go_wp2_with fail;go_quiet(fail);go_wp2_with fail;go_quiet(fail);go_wp2_with fail;go_ret;exact gV.o _ true (by simp[hy]) (Qwa _ _)
  go_wp2_with fail;go_quiet(fail);go_wp2_with fail;go_quiet(fail);go_wp2_with fail;go_ret;have hq:=fun n=>gV.o (w1.drewN n) (decide (x<0)||decide (4294967295<x)) (by simp) (Qwa _ _);rw[show x % 4294967296=x from by omega]at hq;exact hq _
theorem QTl(r:Nat)(L:List (Int × ByteArray × Int))(d i:Nat)(gr dv:Bool)(w:World)(h8:8<d)(h:QTc w r L i d false false gr dv)(hs:¬QKd L i=⟨#[40]⟩)(Hh:i<L.length)(hk:L[i].1=2) :
 Calls prog 232 #[.pointer (some ⟨r,0,none⟩)] w (Qkj r L .prim d i false gr dv w):=by
 have gE:=Qfh r L i d false false gr dv w h;unfold QNf at gE;simp only[Bool.false_eq_true,if_false]at gE;have mB:((QKd L i).toList == [40])=false:=by
  rw[beq_eq_false_iff_ne];intro e;exact hs (QWj e)
 have HS:=hid hs;generalize QKd L i=t at gE mB;clear hs;have zJ:(8:Int)<(d:Int):=by omega
 go_enter func232,ntmps232;go_wp2_with fail;refine gE.mono ?_;rintro e w1 ⟨rfl,gi,Ga⟩;obtain⟨c2,c3,c4,c5,c6,_,f2,f3,f4,f5,f6,_,rl,Hb,Hc,Hg⟩:=gi.cells;have Kx:=hid gi;obtain⟨lv,g,bs,hH,⟨a,cap,rfl,hsz,mP⟩,_⟩:=gi;have c0:=hH.cell 0;have jC:=hid mP;clear hH mP hsz;have GJ:(i:Int)<(L.length:Int):=by omega
 have mX:¬((L.length:Int)≤(i:Int)):=by omega
 obtain⟨gt,ot,rfl,_,hc⟩:=jC.o (by omega);obtain⟨d0,d1,d2⟩:=hc i Hh;have gj:L[i]? = some L[i]:=List.getElem?_eq_getElem Hh;have JP:=hid gj;clear hc gj d1;have kA:=Qzq (d:=d) HS.o JP.o hk;rw[hk]at d0;have j6:=hid kA;clear kA hk;generalize L[i].2.2=x at *
 have Hp:∀(wx:World) (gr':Bool),gr'=(gr||(decide (x<0)||decide (4294967295<x)))→Qaa (fun _=>False) w1 wx→
  Qkj r L .prim d i false gr dv w (.returned (.int .u32 (x % 4294967296))) (((wx.setCell ⟨r,2,none⟩ (.int .i64 ((i:Int)+1))).setCell ⟨r,5,none⟩ (.bool true)).setCell ⟨r,6,none⟩ (.bool gr')):=by
  intro wx gr' e2 eF;obtain⟨q1,m1⟩:=(Kx.o.keeps eF).on (by omega);obtain⟨q2,m2⟩:=q1.put 5 (.bool true) (i':=i+1) (d':=d) (syn':=false) (dp':=true) (gr':=gr) (dv':=dv) (by omega) (by omega) (fun _ _=>rfl);obtain⟨q3,m3⟩:=q2.put 6 (.bool gr') (i':=i+1) (d':=d) (syn':=false) (dp':=true) (gr':=gr') (dv':=dv) (by omega) (by omega) (fun _ _=>rfl);refine .inl ⟨_,_,_,_,_,j6.o,rfl,by omega,by omega,by omega,by omega,?_,(((((QJd Ga).trans (QJd eF) (fun _ _ e=>e)).trans m1 (fun _ _ e=>e)).trans m2 (fun _ _ e=>e)).trans m3 (fun _ _ e=>e))⟩;rw[←e2,Bool.or_false,show(false||decide (8<d))=true from by simp[h8]];exact q3
 have gV:=hid Hp;clear Hp;cases gr with
 | true=>
  go_wp2_with fail;go_quiet(fail);go_wp2_with fail;go_quiet(fail);go_wp2_with fail;go_ret;exact gV.o _ true (by simp) (Qwa _ _)
 | false=>
  by_cases hx:x<0
  ·go_wp2_with fail;go_quiet(fail);go_wp2_with fail;go_quiet(fail);go_wp2_with fail;go_ret;exact gV.o _ true (by simp[hx]) (Qwa _ _)
  by_cases hy:(4294967295:Int)<x
  ·go_wp2_with fail;go_quiet(fail);go_wp2_with fail;go_quiet(fail);go_wp2_with fail;go_ret;exact gV.o _ true (by simp[hy]) (Qwa _ _)
  go_wp2_with fail;go_quiet(fail);go_wp2_with fail;go_quiet(fail);go_wp2_with fail;go_ret;have hq:=fun n=>gV.o (w1.drewN n) (decide (x<0)||decide (4294967295<x)) (by simp) (Qwa _ _);rw[show x % 4294967296=x from by omega]at hq;exact hq _
theorem QUl(r:Nat)(L:List (Int × ByteArray × Int))(d i:Nat)(gr dv:Bool)(w:World)(h8:¬8<d)(h:QTc w r L i d false false gr dv)(hs:¬QKd L i=⟨#[40]⟩)(Hh:i<L.length)(hk:L[i].1=2) :
 Calls prog 232 #[.pointer (some ⟨r,0,none⟩)] w (Qkj r L .prim d i false gr dv w):=by
 have gE:=Qfh r L i d false false gr dv w h;unfold QNf at gE;simp only[Bool.false_eq_true,if_false]at gE;have mB:((QKd L i).toList == [40])=false:=by
  rw[beq_eq_false_iff_ne];intro e;exact hs (QWj e)
 have HS:=hid hs;generalize QKd L i=t at gE mB;clear hs;have zJ:¬(8:Int)<(d:Int):=by omega
 go_enter func232,ntmps232;go_wp2_with fail;refine gE.mono ?_;rintro e w1 ⟨rfl,gi,Ga⟩;obtain⟨c2,c3,c4,c5,c6,_,f2,f3,f4,f5,f6,_,rl,Hb,Hc,Hg⟩:=gi.cells;have Kx:=hid gi;obtain⟨lv,g,bs,hH,⟨a,cap,rfl,hsz,mP⟩,_⟩:=gi;have c0:=hH.cell 0;have jC:=hid mP;clear hH mP hsz;have GJ:(i:Int)<(L.length:Int):=by omega
 have mX:¬((L.length:Int)≤(i:Int)):=by omega
 obtain⟨gt,ot,rfl,_,hc⟩:=jC.o (by omega);obtain⟨d0,d1,d2⟩:=hc i Hh;have gj:L[i]? = some L[i]:=List.getElem?_eq_getElem Hh;have JP:=hid gj;clear hc gj d1;have kA:=Qzq (d:=d) HS.o JP.o hk;rw[hk]at d0;have j6:=hid kA;clear kA hk;generalize L[i].2.2=x at *
 have Hp:∀(wx:World) (gr':Bool),gr'=(gr||(decide (x<0)||decide (4294967295<x)))→Qaa (fun _=>False) w1 wx→
  Qkj r L .prim d i false gr dv w (.returned (.int .u32 (x % 4294967296))) (((wx.setCell ⟨r,2,none⟩ (.int .i64 ((i:Int)+1))).setCell ⟨r,5,none⟩ (.bool (decide ((8:Int)<(d:Int))))).setCell ⟨r,6,none⟩ (.bool gr')):=by
  intro wx gr' e2 eF;obtain⟨q1,m1⟩:=(Kx.o.keeps eF).on (by omega);obtain⟨q2,m2⟩:=q1.put 5 (.bool (decide ((8:Int)<(d:Int)))) (i':=i+1) (d':=d) (syn':=false) (dp':=(decide ((8:Int)<(d:Int)))) (gr':=gr) (dv':=dv) (by omega) (by omega) (fun _ _=>rfl);obtain⟨q3,m3⟩:=q2.put 6 (.bool gr') (i':=i+1) (d':=d) (syn':=false) (dp':=(decide ((8:Int)<(d:Int)))) (gr':=gr') (dv':=dv) (by omega) (by omega) (fun _ _=>rfl);refine .inl ⟨_,_,_,_,_,j6.o,rfl,by omega,by omega,by omega,by omega,?_,(((((QJd Ga).trans (QJd eF) (fun _ _ e=>e)).trans m1 (fun _ _ e=>e)).trans m2 (fun _ _ e=>e)).trans m3 (fun _ _ e=>e))⟩;rw[←e2,Bool.or_false,show(false||decide (8<d))=(decide ((8:Int)<(d:Int)))from by(rw[Bool.false_or];exact decide_eq_decide.2 (by omega))];exact q3
 have gV:=hid Hp;clear Hp;cases gr with
 | true=>
  go_wp2_with fail;go_quiet(fail);go_wp2_with fail;go_quiet(fail);go_wp2_with fail;go_ret;exact gV.o _ true (by simp) (Qwa _ _)
 | false=>
  by_cases hx:x<0
  ·go_wp2_with fail;go_quiet(fail);go_wp2_with fail;go_quiet(fail);go_wp2_with fail;go_ret;exact gV.o _ true (by simp[hx]) (Qwa _ _)
  by_cases hy:(4294967295:Int)<x
  ·go_wp2_with fail;go_quiet(fail);go_wp2_with fail;go_quiet(fail);go_wp2_with fail;go_ret;exact gV.o _ true (by simp[hy]) (Qwa _ _)
  go_wp2_with fail;go_quiet(fail);go_wp2_with fail;go_quiet(fail);go_wp2_with fail;go_ret;have hq:=fun n=>gV.o (w1.drewN n) (decide (x<0)||decide (4294967295<x)) (by simp) (Qwa _ _);rw[show x % 4294967296=x from by omega]at hq;exact hq _
theorem Qui(r:Nat)(L:List (Int × ByteArray × Int))(d i:Nat)(dp gr dv:Bool)(w:World)(h:QTc w r L i d false dp gr dv)(hs:¬QKd L i=⟨#[40]⟩) :
 Calls prog 232 #[.pointer (some ⟨r,0,none⟩)] w (Qkj r L .prim d i dp gr dv w):=by
 have gE:=Qfh r L i d false dp gr dv w h;unfold QNf at gE;simp only[Bool.false_eq_true,if_false]at gE;by_cases Kd:∃Hh:i<L.length,L[i].1=2
 ·obtain⟨Hh,hk⟩:=Kd;clear gE;cases dp with
  | true=>exact QSl r L d i gr dv w h hs Hh hk
  | false=>
   by_cases h8:8<d
   ·exact QTl r L d i gr dv w h8 h hs Hh hk
   exact QUl r L d i gr dv w h8 h hs Hh hk
 have sw:=hid Kd;clear Kd;have mB:((QKd L i).toList == [40])=false:=by
  rw[beq_eq_false_iff_ne];intro e;exact hs (QWj e)
 have HS:=hid hs;generalize QKd L i=t at gE mB;clear hs
 have eC:∀wx:World,QTc wx r L i d false dp gr dv→Qaa (fun b=>b=r) w wx→Rd L .prim d i none→
  Qkj r L .prim d i dp gr dv w (.returned (.int .u32 0)) (wx.setCell ⟨r,4,none⟩ (.bool true)):=by
  intro wx hx kx hn;obtain⟨q1,m1⟩:=hx.put 4 (.bool true) (i':=i) (d':=d) (syn':=true) (dp':=dp) (gr':=gr) (dv':=dv) hx.cells.2.2.2.2.2.2.2.2.2.2.2.2.2.1 hx.cells.2.2.2.2.2.2.2.2.2.2.2.2.2.2.2 (fun _ _=>rfl);exact .inr ⟨hn,0,i,dp,gr,dv,rfl,by omega,by omega,q1,kx.trans m1 (fun _ _ e=>e)⟩
 have dL:=hid eC;clear eC;go_enter func232,ntmps232;go_wp2_with fail;refine gE.mono ?_;rintro e w1 ⟨rfl,gi,Ga⟩;obtain⟨c2,c3,c4,c5,c6,_,f2,f3,f4,f5,f6,_,rl,Hb,Hc,Hg⟩:=gi.cells;have Kx:=hid gi;obtain⟨lv,g,bs,hH,⟨a,cap,rfl,hsz,mP⟩,_⟩:=gi;have c0:=hH.cell 0;have jC:=hid mP;clear hH mP hsz;by_cases Hh:i<L.length
 ·have GJ:(i:Int)<(L.length:Int):=by omega
  have mX:¬((L.length:Int)≤(i:Int)):=by omega
  obtain⟨gt,ot,rfl,_,hc⟩:=jC.o (by omega);obtain⟨d0,d1,d2⟩:=hc i Hh;have gj:L[i]? = some L[i]:=List.getElem?_eq_getElem Hh;have JP:=hid gj;clear hc gj d1;have hk:¬L[i].1=2:=fun e=>sw.o ⟨Hh,e⟩;have dz:(L[i].1 != 2)=true:=by simpa using hk
  have kA:=Qfn (d:=d) HS.o (by rw[JP.o];intro t' e;injection e with e;rw[←e];exact hk);have j6:=hid kA;clear kA hk;generalize L[i].1=kd at *
  go_wp2_with fail;go_quiet(fail);go_wp2_with fail;go_ret;exact dL.o _ (Kx.o.keeps (Qwa _ _)) ((QJd Ga).trans (QJd (Qwa _ _)) (fun _ _ e=>e)) j6.o
 have GJ:¬(i:Int)<(L.length:Int):=by omega
 have mX:(L.length:Int)≤(i:Int):=by omega
 have kA:=Qfn (d:=d) HS.o (by rw[List.getElem?_eq_none (by omega)];rintro t' ⟨⟩);have j6:=hid kA;clear kA;go_wp2_with fail;go_quiet(fail);go_wp2_with fail;go_ret;exact dL.o _ (Kx.o.keeps (Qwa _ _)) ((QJd Ga).trans (QJd (Qwa _ _)) (fun _ _ e=>e)) j6.o
def Q3j:Option (Int × Nat × Bool × Bool × Bool)→Int × Int × Int
 | none=>(0,0,6)
 | some (v,j,p,g,q)=>if p=true then(0,0,3)else if g=true then(0,0,2)else if q=true then(0,0,22)else(v,j,0)
def Q8l(s p g q:Bool)(u:Int)(j:Nat):Int × Int × Int:=if s=true then(0,0,6)else if p=true then(0,0,3)else if g=true then(0,0,2)else if q=true then(0,0,22)else(u,j,0)
def mkF(s p g q:Bool):Nat→Bool
 | 0=>s
 | 1=>p
 | 2=>g
 | _=>q
theorem Q2f(w:World)(o:Obj)(n:Nat):Qaa (fun _=>False) w ((w.alloc o).drewN n):=((Qaa.refl _ w).alloc o).drewN n
theorem Qaa.cell_of{w w':World}(k:Qaa (fun _=>False) w w'){g o:Nat}{v:Value}(h:w.cell? ⟨g,o,none⟩=some v)(hl:g<w.heap.size):w'.cell? ⟨g,o,none⟩=some v:=
 (k.cell (p:=⟨g,o,none⟩) hl (fun e=>e)).trans h
theorem QYp(w:World)(s p g q:Bool)(t:Nat) :
 ∃(W:World) (b:Nat),(w.alloc (.cells #[.bool s,.int .i64 6,.bool p,.int .i64 3,.bool g,.int .i64 2,.bool q,.int .i64 22] t)).drew=W∧w.heap.size=b∧W.cell? ⟨b,0,none⟩=some (.bool s)∧W.cell? ⟨b,1,none⟩=some (.int .i64 6)∧W.cell? ⟨b,2,none⟩=some (.bool p)∧W.cell? ⟨b,3,none⟩=some (.int .i64 3)∧W.cell? ⟨b,4,none⟩=some (.bool g)∧W.cell? ⟨b,5,none⟩=some (.int .i64 2)∧W.cell? ⟨b,6,none⟩=some (.bool q)∧W.cell? ⟨b,7,none⟩=some (.int .i64 22)∧b<W.heap.size∧Qaa (fun _=>False) w W:=by
 have hn:=Holds.new w #[.bool s,.int .i64 6,.bool p,.int .i64 3,.bool g,.int .i64 2,.bool q,.int .i64 22] t;exact⟨_,_,rfl,rfl,hn.cell 0,hn.cell 1,hn.cell 2,hn.cell 3,hn.cell 4,hn.cell 5,hn.cell 6,hn.cell 7,hn.lt,((Qaa.refl _ w).alloc _).drewN 1⟩
theorem Qto{r:Nat}{L:List (Int × ByteArray × Int)}{W:Wh}{d i:Nat}{w:World}{e:Ending}{w':World}(h:Qkj r L W d i false false false w e w') :
 ∃(u:Int) (j:Nat) (s p g q:Bool),e=.returned (.int .u32 u)∧0≤u∧u≤4294967295∧j≤1000000000∧w'.cell? ⟨r,2,none⟩=some (.int .i64 j)∧w'.cell? ⟨r,4,none⟩=some (.bool s)∧w'.cell? ⟨r,5,none⟩=some (.bool p)∧w'.cell? ⟨r,6,none⟩=some (.bool g)∧w'.cell? ⟨r,7,none⟩=some (.bool q)∧r<w'.heap.size∧Qaa (fun b=>b=r) w w'∧
  ∃res,Rd L W d i res∧Q3j res=Q8l s p g q u j:=by
 rcases h with⟨u,j,p,g,q,hr,rfl,h0,h1,_,_,ha,hk⟩|⟨hr,u,j,p,g,q,rfl,h0,h1,ha,hk⟩
 ·obtain⟨c2,_,c4,c5,c6,c7,_,_,_,_,_,_,rl,hj,hL,_⟩:=ha.cells;refine⟨u,j,false,p,g,q,rfl,h0,h1,by omega,c2,c4,by simpa using c5,by simpa using c6,by simpa using c7,rl,hk,_,hr,?_⟩;simp[Q3j,Q8l]
 obtain⟨c2,_,c4,c5,c6,c7,_,_,_,_,_,_,rl,hj,hL,_⟩:=ha.cells;exact⟨u,j,true,p,g,q,rfl,h0,h1,by omega,c2,c4,c5,c6,c7,rl,hk,_,hr,rfl⟩
end Go.Proofs.YtgaboghigefgbaaGreatDoor
