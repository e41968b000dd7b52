/- Lemmas on the way to the law; no conditions. -/
import Derived.Test.YtgaboghigefgbaaGreatDoorZ18
import Derived.Test.YtgaboghigefgbaaGreatDoorZ15
set_option linter.all false
set_option maxHeartbeats 8000000
namespace Go.Proofs.YtgaboghigefgbaaGreatDoor
open Go.Proofs.Tryz
open Go.Lib (hid)
open Go.RowKit
def Q9c(T:List Qba)(s:ByteArray):Int × Bool:=if 0≤QSb T s then(QSb T s,true)else(0,false)
def QYa(T:List Qba)(s:ByteArray):Int × Bool:=if Qia T≠0 then(0,false)else Q9c T s
theorem Qpg{T:List Qba}{s:ByteArray}{k:Nat}(h:QSb T s=k):Q9c T s=((k:Int),true):=by unfold Q9c;rw[h,if_pos (by omega)]
theorem Qwk{T:List Qba}{s:ByteArray}(h:QSb T s = -1):Q9c T s=(0,false):=by unfold Q9c;rw[h,if_neg (by omega)]
theorem QXq(R:Nat→Prop)(v:Value)(T:List Qba)(u:Nat)(w:World)(hT:Qoa R w v T)(hn:Q3a T=true)(hu:u<T.length)(hl:T.length≤120) :
 Calls prog 150 #[.agg #[v],.int .i64 u] w fun e w'=>e=.returned (.string (Qab T u))∧Below w.heap.size w w':=by
 obtain⟨a,cap,rfl,gy,gh⟩:=hT.shape;have HT:=hid hT;clear hT;have HN:=hid hn;clear hn;by_cases h0:u=0
 ·have h0':((u:Int)==0)=true:=by simp[h0]
  have hP:=hid (show Qab T u=⟨#[47]⟩from by unfold Qab;rw[if_pos h0]);clear h0;go_enter func150,ntmps150;go_wp2_with fail;go_ret;exact⟨by rw[hP.o];rfl,Bq⟩
 have h0':((u:Int)==0)=false:=by simp;omega
 have hP:=hid (show Qab T u=⟨(Q5d (pc T u)).toArray⟩from by unfold Qab;rw[if_neg h0]);have js:=hid (QJh HN.o u u (Nat.le_refl _) hu);clear h0;go_enter func150,ntmps150;go_wp2_with fail
 go_loopg [1,5] (u) (fun f x y wr=>∃(k:Nat) (o:ByteArray),x=.int .i64 k∧y=.string o∧k≤f∧k≤u∧o.size≤4000∧Hid (Q5d (pc T u)=Q5d (pc T k)++o.data.toList)∧
  ∃n,(w.alloc (.cells #[.slice a T.length cap] 27)).drewN n=wr)
 case atStart=>exact⟨u,ByteArray.empty,rfl,rfl,Nat.le_refl _,Nat.le_refl _,by decide,by show _=_;rw[show ByteArray.empty.data.toList=[]from rfl,List.append_nil],0,rfl⟩
 case round=>
  obtain⟨k,o,rfl,rfl,hf,lE,Ay,hF,n,rfl⟩:=hrel;by_cases GN:0<k
  ·have hk:k<T.length:=by omega
   obtain⟨g,oo,pa,pc',rfl,hg,c0,c1,c2,hp,p1,p2,b0,b1,b2⟩:=HT.o.at k hk;have ko:=QTh HN.o k hk;have gz:=Qib (QBa HN.o) GN hk;have GC:=hid (show T[k].parent=((QGb T k:Nat):Int)from by rw[gz.2,Qxa hk]);obtain⟨x1,oG,MV,Gy⟩:=QNe ⟨#[47]⟩ T[k].name (by rw[show(⟨#[47]⟩:ByteArray).size=1 from rfl];omega);rw[show(⟨#[47]⟩:ByteArray).size=1 from rfl]at MV;obtain⟨x2,oH,hx2,aG⟩:=QNe x1 o (by omega);have KU:=hid (show Q5d (pc T u)=Q5d (pc T (QGb T k))++x2.data.toList from by
    rw[hF.o,Qtb (QBa HN.o) GN hk,Qog,aG,Gy,QHa hk];simp)
   have iL:x2.size≤4000:=by
    have h1:=congrArg List.length KU.o;have h2:=js.o;simp only[List.length_append]at h1;have h3:x2.data.toList.length=x2.size:=by simp
    omega
   obtain⟨pO,MM⟩:=gz;clear hp c2 MV Gy hx2 aG hF MM;generalize T[k].parent=pp at c0 GC b1 b2;have iz:=GC.o;subst iz;generalize QGb T k=pk at *
   have Jn:(0:Int)<(k:Int):=by omega
   go_wp2_with fail;go_roundg (gk-1)
   case measure=>omega
   case rel=>exact⟨pk,x2,rfl,rfl,by omega,by omega,iL,KU,n,rfl⟩
  have Ga:k=0:=by omega
  subst Ga;have hE:=hid (show o=Qab T u from QMi (by rw[hP.o,hF.o,Qbe];rfl));clear hF;go_wp2_with fail;go_ret;exact⟨by rw[hE.o];rfl,QJa (Bq) n⟩
theorem Qrl(R:Nat→Prop)(v:Value)(T:List Qba)(s:ByteArray)(w:World)(hT:Qoa R w v T)(hn:Q3a T=true)(hl:T.length≤120) :
 Calls prog 109 #[.agg #[v],.string s] w fun e w'=>e=.returned (.tuple #[.int .i64 (Q9c T s).1,.bool (Q9c T s).2])∧Below w.heap.size w w':=by
 obtain⟨a,cap,rfl,gy,gh⟩:=hT.shape;have HT:=hid hT;clear hT;have HP:=hid (fun(k:Nat) (hk:k<T.length) wx hx=>QXq R (.slice a T.length cap) T k wx hx hn hk hl);clear hn;go_enter func109,ntmps109;go_wp2_with fail;go_loopg [10] (T.length) (fun f x wr=>∃k:Nat,x=.int .i64 k∧k≤T.length∧T.length≤k+f∧Hid (∀q:Nat,q<k→eqS (Qab T q) s=false)∧Below w.heap.size w wr∧Holds wr w.heap.size #[.slice a T.length cap] 27)
 case atStart=>exact⟨0,rfl,by omega,by omega,(fun q h=>absurd h (Nat.not_lt_zero q):∀q:Nat,q<0→eqS (Qab T q) s=false),Bq,Holds.new w _ _⟩
 case round=>
  obtain⟨k,rfl,hk,hf,hF,hb,hB⟩:=hrel;have Hy:=hb.size;have bx:=hB.cell 0;have bl:=hB.lt;by_cases Hh:k<T.length
  ·cases he:((Qab T k).toList==s.toList)with
   | true=>
    have hX:=hid (Qpg (QHh Hh he hF.o));go_wp2_with fail;refine(HP.o k Hh _ (by exact HT.o.new hb)).mono ?_;rintro e w1 ⟨rfl,Hb⟩;go_wp2_with fail;go_ret2;exact⟨by rw[hX.o];rfl,hb.trans (Hb.mono Hy)⟩
   | false=>
    have KU:=hid (show ∀q:Nat,q<k+1→eqS (Qab T q) s=false from fun q hq=>by
     by_cases e:q=k
     ·subst e;exact he
     exact hF.o q (by omega))
    go_wp2_with fail;refine(HP.o k Hh _ (by exact HT.o.new hb)).mono ?_;rintro e w1 ⟨rfl,Hb⟩;have GR:=hB.fr Hb;go_wp2_with fail;go_roundg (gk-1)
    case measure=>omega
    case rel=>exact⟨k+1,by go_num,by omega,by omega,KU,hb.trans (Hb.mono Hy),GR⟩
  have hX:=hid (Qwk (Q0m (s:=s) (by have:=hF.o;rwa [show k=T.length from by omega]at this)));go_wp2_with fail;go_ret2;exact⟨by rw[hX.o];rfl,hb⟩
theorem QGg(R:Nat→Prop)(v:Value)(T:List Qba)(s:ByteArray)(w:World)(hT:Qoa R w v T) :
 Calls prog 111 #[.agg #[v],.string s] w fun e w'=>e=.returned (.tuple #[.int .i64 (Qua T s).1,.int .i64 (Qua T s).2])∧Below w.heap.size w w':=by
 obtain⟨a,cap,rfl,gy,gh⟩:=hT.shape;have HT:=hid hT;clear hT;have gd:=fun wx hx=>QFg R (.slice a T.length cap) T wx hx;have hE:=hid (show Qua T s=if Qia T≠0 then(0,Qia T)else if 0≤QSb T s then(QSb T s,0)else(0,4)from rfl);have He:Below w.heap.size w (w.alloc (.cells #[.slice a T.length cap] 27)):=Bq;have kj:=Holds.new w #[.slice a T.length cap] 27;by_cases hz:Qia T=0
 ·have Ht:=Q3b hz;have gS:=(Qlb (QQa hz)).2;have K4:=hid (fun wx hx=>Qrl R (.slice a T.length cap) T s wx hx Ht gS);have GD:=QSf T s;have Jj:=hid (show Q9c T s=if 0≤QSb T s then(QSb T s,true)else(0,false)from rfl);by_cases hf:0≤QSb T s
  ·have hX:=hid (show Qua T s=(QSb T s,0)from by rw[hE.o,if_neg (by simp[hz]),if_pos hf]);rw[hz]at gd;have ki:=hid gd;clear gd hz Ht hE GD;rw[Jj.o]at K4;generalize QSb T s=x at *
   go_enter func111,ntmps111;go_wp2_with fail;refine(ki.o _ (by exact HT.o.new He)).mono ?_;rintro e w1 ⟨rfl,Hb⟩;have GR:=kj.fr Hb;have bx:=GR.cell 0;have bl:=GR.lt;have Hc:=He.trans (Hb.mono (by simp));go_wp2_with fail;refine(K4.o _ (by exact HT.o.new Hc)).mono ?_;rintro e w2 ⟨rfl,Hg⟩;go_wp2_with fail;go_ret2;exact⟨by rw[hX.o];rfl,Hc.trans (Hg.mono Hc.size)⟩
  have hX:=hid (show Qua T s=(0,4)from by rw[hE.o,if_neg (by simp[hz]),if_neg hf]);have hf':QSb T s<0:=by omega
  rw[hz]at gd;have ki:=hid gd;clear gd hz Ht hE GD hf;rw[Jj.o]at K4;generalize QSb T s=x at *
  go_enter func111,ntmps111;go_wp2_with fail;refine(ki.o _ (by exact HT.o.new He)).mono ?_;rintro e w1 ⟨rfl,Hb⟩;have GR:=kj.fr Hb;have bx:=GR.cell 0;have bl:=GR.lt;have Hc:=He.trans (Hb.mono (by simp));go_wp2_with fail;refine(K4.o _ (by exact HT.o.new Hc)).mono ?_;rintro e w2 ⟨rfl,Hg⟩;go_wp2_with fail;go_ret2;exact⟨by rw[hX.o];rfl,Hc.trans (Hg.mono Hc.size)⟩
 have hz':(Qia T != 0)=true:=by simpa using hz
 have hX:=hid (show Qua T s=(0,Qia T)from by rw[hE.o,if_pos hz]);have ki:=hid gd;clear gd hz hE;generalize Qia T=c at *
 go_enter func111,ntmps111;go_wp2_with fail;refine(ki.o _ (by exact HT.o.new He)).mono ?_;rintro e w1 ⟨rfl,Hb⟩;go_wp2_with fail;go_ret2;exact⟨by rw[hX.o];rfl,He.trans (Hb.mono (by simp))⟩
theorem QVq(R:Nat→Prop)(v:Value)(T:List Qba)(s:ByteArray)(w:World)(hT:Qoa R w v T) :
 Calls prog 80 #[.agg #[v],.string s] w fun e w'=>e=.returned (.tuple #[.int .i64 (QYa T s).1,.bool (QYa T s).2])∧Below w.heap.size w w':=by
 obtain⟨a,cap,rfl,gy,gh⟩:=hT.shape;have HT:=hid hT;clear hT;have gd:=fun wx hx=>QFg R (.slice a T.length cap) T wx hx;have He:Below w.heap.size w (w.alloc (.cells #[.slice a T.length cap] 27)):=Bq;have kj:=Holds.new w #[.slice a T.length cap] 27;by_cases hz:Qia T=0
 ·have Ht:=Q3b hz;have gS:=(Qlb (QQa hz)).2;have K4:=hid (fun wx hx=>Qrl R (.slice a T.length cap) T s wx hx Ht gS);have hX:=hid (show QYa T s=Q9c T s from by unfold QYa;rw[if_neg (by simp[hz])]);rw[hz]at gd;have ki:=hid gd;clear gd hz Ht;go_enter func80,ntmps80;go_wp2_with fail;refine(ki.o _ (by exact HT.o.new He)).mono ?_;rintro e w1 ⟨rfl,Hb⟩;have GR:=kj.fr Hb;have bx:=GR.cell 0;have bl:=GR.lt;have Hc:=He.trans (Hb.mono (by simp));go_wp2_with fail;refine(K4.o _ (by exact HT.o.new Hc)).mono ?_;rintro e w2 ⟨rfl,Hg⟩;generalize Q9c T s=x at *
  go_wp2_with fail;go_ret2;exact⟨by rw[hX.o];rfl,Hc.trans (Hg.mono Hc.size)⟩
 have hz':(Qia T != 0)=true:=by simpa using hz
 have hX:=hid (show QYa T s=(0,false)from by unfold QYa;rw[if_pos hz]);have ki:=hid gd;clear gd hz;generalize Qia T=c at *
 go_enter func80,ntmps80;go_wp2_with fail;refine(ki.o _ (by exact HT.o.new He)).mono ?_;rintro e w1 ⟨rfl,Hb⟩;go_wp2_with fail;go_ret2;exact⟨by rw[hX.o];rfl,He.trans (Hb.mono (by simp))⟩
def QDk(T:List Qba)(k:Int)(s:ByteArray):Int:=match T.findIdx? (QRa k s)with
 | some i=>(i:Int)
 | none => -1
theorem QUq(nd:Qba)(pv:Value)(k:Int)(s:ByteArray)(kb sb:Nat)(w:World)(hK:Holds w kb #[.int .i64 k] 3)(hS:Holds w sb #[.string s] 9) :
 Calls prog 113 #[.agg #[.int .i64 nd.parent,.string nd.name,pv],.pointer (some ⟨kb,0,none⟩),.pointer (some ⟨sb,0,none⟩)] w fun e w'=>e=.returned (.bool (QRa k s nd))∧Below w.heap.size w w':=by
 have k0:=hK.cell 0;have kl:=hK.lt;have s0:=hS.cell 0;have sl:=hS.lt;have hE:=hid (show QRa k s nd=(decide (nd.parent=k)&&eqS nd.name s)from rfl);by_cases h1:nd.parent=k
 ·have h1':(nd.parent==k)=true:=by simp[h1]
  have hd:decide (nd.parent=k)=true:=by simp[h1]
  rw[hd]at hE;clear h1 hd;cases h2:(nd.name.toList==s.toList)with
  | true=>
   go_enter func113,ntmps113;go_wp2_with fail;go_ret;exact⟨Qka (by rw[hE.o];unfold eqS;rw[h2];rfl),Bq⟩
  | false=>
   go_enter func113,ntmps113;go_wp2_with fail;go_ret;exact⟨Qka (by rw[hE.o];unfold eqS;rw[h2];rfl),Bq⟩
 have h1':(nd.parent==k)=false:=by simpa using h1
 have hd:decide (nd.parent=k)=false:=by simpa using h1
 rw[hd]at hE;clear h1 hd;go_enter func113,ntmps113;go_wp2_with fail;go_ret;exact⟨Qka (by rw[hE.o];rfl),Bq⟩
theorem QOl:∀args w,(callFunc 113 args).run prog w=.ok (.enter 113 args) w:=enters_of func113 (by kernel_rfl) rfl
theorem QWh(R:Nat→Prop)(v:Value)(T:List Qba)(k:Int)(s:ByteArray)(kb sb:Nat)(w:World)(hT:Qoa R w v T)(hl:T.length≤1000)(hK:Holds w kb #[.int .i64 k] 3)(hS:Holds w sb #[.string s] 9) :
 Calls prog 152 #[v,.func (.func 113) #[] #[.pointer (some ⟨kb,0,none⟩),.pointer (some ⟨sb,0,none⟩)]] w
  fun e w'=>e=.returned (.int .i64 (QDk T k s))∧Below w.heap.size w w':=by
 obtain⟨a,cap,rfl,gy,gh⟩:=hT.shape;have HT:=hid hT;clear hT;have HK:=hid hK;clear hK;have HS:=hid hS;clear hS;have eg:=QOl;go_enter func152,ntmps152;go_wp2_with fail;go_loopg [8] (T.length) (fun f x wr=>∃j:Nat,x=.int .i64 j∧j≤T.length∧T.length≤j+f∧Hid (∀i (h:i<T.length),i<j→QRa k s T[i]=false)∧Below w.heap.size w wr)
 case atStart=>exact⟨0,rfl,by omega,by omega,fun i h h2=>absurd h2 (by omega),Below.refl _ _⟩
 case round=>
  obtain⟨j,rfl,hj,hf,hN,hb⟩:=hrel;have Hy:=hb.size;by_cases Hh:j<T.length
  ·have cK:Qaa (fun _=>False) w wr:=Qaa.of_fresh hb _;obtain⟨g,o,pa,pc,rfl,hg,c0,c1,c2,-,-,-,-,-,-⟩:=(HT.o.new hb).at j Hh;have Gh:=HK.o.keeps cK (fun e=>e);have Ku:=HS.o.keeps cK (fun e=>e);have Mo:=QUq T[j] (.slice pa T[j].props.length pc) k s kb sb wr Gh Ku;cases hy:QRa k s T[j]with
   | true=>
    rw[hy]at Mo;have Mj:=hid Mo;clear Mo;have Hp:=hid (show(QDk T k s)=j from by
     have:T.findIdx? (QRa k s)=some j:=by
      rw[List.findIdx?_eq_some_iff_getElem];exact⟨Hh,hy,fun i hi=>by have:=hN.o i (by omega) hi;rw[this];simp⟩
     unfold QDk;rw[this])
    clear hy cK Gh Ku;go_wp2_with fail;refine(Mj.o).mono ?_;rintro e w' ⟨rfl,hb'⟩;go_wp2_with fail;go_ret;exact⟨QXa (by rw[Hp.o]),hb.trans (hb'.mono Hy)⟩
   | false=>
    rw[hy]at Mo;have Mj:=hid Mo;clear Mo;have HY:=hid hy;clear hy cK Gh Ku;go_wp2_with fail;refine(Mj.o).mono ?_;rintro e w' ⟨rfl,hb'⟩;go_wp2_with fail;go_roundg (gk-1)
    case measure=>omega
    case rel=>
     refine⟨j+1,by go_num,by omega,by omega,?_,hb.trans (hb'.mono Hy)⟩;intro i hi dt;by_cases e:i=j
     ·subst e;exact HY.o
     exact hN.o i hi (by omega)
  have Hp:=hid (show(QDk T k s) = -1 from by
   have:T.findIdx? (QRa k s)=none:=by
    rw[List.findIdx?_eq_none_iff];intro x hx;obtain⟨i,hi,e⟩:=List.getElem_of_mem hx;rw[←e];exact hN.o i hi (by omega)
   unfold QDk;rw[this])
  go_wp2_with fail;go_ret;exact⟨QXa (by rw[Hp.o]),hb⟩
theorem Q8f(R:Nat→Prop)(v:Value)(T:List Qba)(k:Int)(s:ByteArray)(kb sb:Nat)(w:World)(hT:Qoa R w v T)(hl:T.length≤1000)(hK:Holds w kb #[.int .i64 k] 3)(hS:Holds w sb #[.string s] 9) :
 Calls prog 112 #[v,.func (.func 113) #[] #[.pointer (some ⟨kb,0,none⟩),.pointer (some ⟨sb,0,none⟩)]] w
  fun e w'=>e=.returned (.bool (T.any (QRa k s)))∧Below w.heap.size w w':=by
 have hi:=QWh R v T k s kb sb w hT hl hK hS;have Gc:decide ((QDk T k s) ≥ 0)=T.any (QRa k s):=by
  unfold QDk;cases h:T.findIdx? (QRa k s)with
  | none=>
   rw[List.findIdx?_eq_none_iff]at h;have:T.any (QRa k s)=false:=by rw[List.any_eq_false];intro x hx;rw[h x hx];simp
   rw[this];simp
  | some i=>
   rw[List.findIdx?_eq_some_iff_getElem]at h;obtain⟨h1,h2,_⟩:=h;have:T.any (QRa k s)=true:=List.any_eq_true.2 ⟨_,List.getElem_mem h1,h2⟩;rw[this];simp
 have HA:=hid Gc;generalize QDk T k s=x at *
 have HI:=hid hi;clear hi Gc hT hK hS;go_enter func112,ntmps112;go_wp2_with fail;refine(HI.o).mono ?_;rintro e w' ⟨rfl,hb'⟩;go_wp2_with fail;go_ret;exact⟨Qka (by rw[←HA.o]),hb'⟩
end Go.Proofs.YtgaboghigefgbaaGreatDoor
