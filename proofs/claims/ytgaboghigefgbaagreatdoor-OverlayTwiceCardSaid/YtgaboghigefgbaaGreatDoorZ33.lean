/- Contracts of package tree: path, Path, find, Find, begin. | Contracts of package tree: a child with a name, sought among the nodes. -/
import Derived.Test.YtgaboghigefgbaaGreatDoorZ20
import Derived.Test.YtgaboghigefgbaaGreatDoorZ25
import Derived.Test.YtgaboghigefgbaaGreatDoorZ1
set_option linter.all false
set_option maxHeartbeats 8000000
namespace Go.Proofs.YtgaboghigefgbaaGreatDoor
open Go.Lib (hid)
open Go.RowKit
def QCd(T:List Qba)(s:ByteArray):Int × Bool:=if 0≤Q2b T s then(Q2b T s,true)else(0,false)
def Qpb(T:List Qba)(s:ByteArray):Int × Bool:=if Qfa T≠0 then(0,false)else QCd T s
theorem QPi{T:List Qba}{s:ByteArray}{k:Nat}(h:Q2b T s=k):QCd T s=((k:Int),true):=by unfold QCd;rw[h,if_pos (by omega)]
theorem Qlk{T:List Qba}{s:ByteArray}(h:Q2b T s = -1):QCd T s=(0,false):=by unfold QCd;rw[h,if_neg (by omega)]
theorem Qxq(R:Nat→Prop)(v:Value)(T:List Qba)(u:Nat)(w:World)(hT:Qpa R w v T)(hn:QWa T=true)(hu:u<T.length)(hl:T.length≤120) :
 Calls Tryz.prog 150 #[.agg #[v],.int .i64 u] w fun e w'=>e = .returned (.string (QQa T u))∧Below w.heap.size w w':=by
 obtain⟨a,cap,rfl,gM,gB⟩:=hT.shape
 have HT:=hid hT;clear hT
 have HN:=hid hn;clear hn
 by_cases h0:u=0
 ·have h0':((u:Int) == 0)=true:=by simp[h0]
  have hP:=hid (show QQa T u=⟨#[47]⟩from by unfold QQa;rw[if_pos h0])
  clear h0
  go_enter Tryz.func150,Tryz.ntmps150
  go_wp2_with fail
  go_ret
  exact⟨by rw[hP.out];rfl,(Below.refl _ _).alloc (Nat.le_refl _) _⟩
 ·have h0':((u:Int) == 0)=false:=by simp;omega
  have hP:=hid (show QQa T u=⟨(Qje (pc T u)).toArray⟩from by unfold QQa;rw[if_neg h0])
  have jX:=hid (QPh HN.out u u (Nat.le_refl _) hu)
  clear h0
  go_enter Tryz.func150,Tryz.ntmps150
  go_wp2_with fail
  go_loopg [1,5] (u) (fun f x y wr=>∃(k:Nat) (o:ByteArray),x = .int .i64 k∧y = .string o∧k≤f∧k≤u∧o.size≤4000∧Hid (Qje (pc T u)=Qje (pc T k)++o.data.toList)∧
   ∃n,(w.alloc (.cells #[.slice a T.length cap] 27)).drewN n=wr)
  case atStart=>exact⟨u,ByteArray.empty,rfl,rfl,Nat.le_refl _,Nat.le_refl _,by decide,by show _=_;rw[show ByteArray.empty.data.toList=[]from rfl,List.append_nil],0,rfl⟩
  case round=>
   obtain⟨k,o,rfl,rfl,hf,pJ,Dd,hF,n,rfl⟩:=hrel
   by_cases GF:0<k
   ·have hk:k<T.length:=by omega
    obtain⟨g,oo,pa,pc',rfl,hg,c0,c1,c2,hp,p1,p2,b0,b1,b2⟩:=HT.out.at k hk
    have KQ:=QYh HN.out k hk
    have gU:=Q3a (Qua HN.out) GF hk
    have GP:=hid (show T[k].parent=((Qwb T k:Nat):Int)from by rw[gU.2,Qsa hk])
    obtain⟨x1,rE,jL,Gy⟩:=Q1e ⟨#[47]⟩ T[k].name (by rw[show(⟨#[47]⟩:ByteArray).size=1 from rfl];omega)
    rw[show(⟨#[47]⟩:ByteArray).size=1 from rfl]at jL
    obtain⟨x2,rF,hx2,bI⟩:=Q1e x1 o (by omega)
    have mN:=hid (show Qje (pc T u)=Qje (pc T (Qwb T k))++x2.data.toList from by
     rw[hF.out,Qlb (Qua HN.out) GF hk,Qug,bI,Gy,QEa hk];simp)
    have oh:x2.size≤4000:=by
     have h1:=congrArg List.length mN.out
     have h2:=jX.out
     simp only[List.length_append]at h1
     have h3:x2.data.toList.length=x2.size:=by simp
     omega
    obtain⟨tP,jp⟩:=gU
    clear hp c2 jL Gy hx2 bI hF jp
    generalize T[k].parent=pp at c0 GP b1 b2
    have nQ:=GP.out
    subst nQ
    generalize Qwb T k=pk at *
    have ac:(0:Int)<(k:Int):=by omega
    go_wp2_with fail
    go_roundg (gk-1)
    case measure=>omega
    case rel=>exact⟨pk,x2,rfl,rfl,by omega,by omega,oh,mN,n,rfl⟩
   ·have gz:k=0:=by omega
    subst gz
    have hE:=hid (show o=QQa T u from QLi (by rw[hP.out,hF.out,Qte];rfl))
    clear hF
    go_wp2_with fail
    go_ret
    exact⟨by rw[hE.out];rfl,QIa ((Below.refl _ _).alloc (Nat.le_refl _) _) n⟩
theorem Qfl(R:Nat→Prop)(v:Value)(T:List Qba)(s:ByteArray)(w:World)(hT:Qpa R w v T)(hn:QWa T=true)(hl:T.length≤120) :
 Calls Tryz.prog 109 #[.agg #[v],.string s] w fun e w'=>e = .returned (.tuple #[.int .i64 (QCd T s).1,.bool (QCd T s).2])∧Below w.heap.size w w':=by
 obtain⟨a,cap,rfl,gM,gB⟩:=hT.shape
 have HT:=hid hT;clear hT
 have HP:=hid (fun(k:Nat) (hk:k<T.length) wx hx=>Qxq R (.slice a T.length cap) T k wx hx hn hk hl)
 clear hn
 go_enter Tryz.func109,Tryz.ntmps109
 go_wp2_with fail
 go_loopg [10] (T.length) (fun f x wr=>∃k:Nat,x = .int .i64 k∧k≤T.length∧T.length≤k+f∧Hid (∀q:Nat,q<k→eqS (QQa T q) s=false)∧Below w.heap.size w wr∧Holds wr w.heap.size #[.slice a T.length cap] 27)
 case atStart=>exact⟨0,rfl,by omega,by omega,(fun q h=>absurd h (Nat.not_lt_zero q):∀q:Nat,q<0→eqS (QQa T q) s=false),(Below.refl _ _).alloc (Nat.le_refl _) _,Holds.new w _ _⟩
 case round=>
  obtain⟨k,rfl,hk,hf,hF,hb,hB⟩:=hrel
  have H3:=hb.size
  have bx:=hB.cell 0
  have bl:=hB.lt
  by_cases Hh:k<T.length
  ·cases he:((QQa T k).toList == s.toList)with
   | true=>
    have hX:=hid (QPi (QNh Hh he hF.out))
    go_wp2_with fail
    refine(HP.out k Hh _ (by exact HT.out.new hb)).mono ?_
    rintro e w1 ⟨rfl,Hb⟩
    go_wp2_with fail
    go_ret2
    exact⟨by rw[hX.out];rfl,hb.trans (Hb.mono H3)⟩
   | false=>
    have mN:=hid (show ∀q:Nat,q<k+1→eqS (QQa T q) s=false from fun q hq=>by
     by_cases e:q=k
     ·subst e;exact he
     ·exact hF.out q (by omega))
    go_wp2_with fail
    refine(HP.out k Hh _ (by exact HT.out.new hb)).mono ?_
    rintro e w1 ⟨rfl,Hb⟩
    have GS:=hB.keeps (Qaa.of_fresh Hb (fun _=>False)) (fun e=>e)
    go_wp2_with fail
    go_roundg (gk-1)
    case measure=>omega
    case rel=>exact⟨k+1,by go_num,by omega,by omega,mN,hb.trans (Hb.mono H3),GS⟩
  ·have hX:=hid (Qlk (QOm (s:=s) (by have:=hF.out;rwa [show k=T.length from by omega]at this)))
   go_wp2_with fail
   go_ret2
   exact⟨by rw[hX.out];rfl,hb⟩
theorem QMg(R:Nat→Prop)(v:Value)(T:List Qba)(s:ByteArray)(w:World)(hT:Qpa R w v T) :
 Calls Tryz.prog 111 #[.agg #[v],.string s] w fun e w'=>e = .returned (.tuple #[.int .i64 (QBa T s).1,.int .i64 (QBa T s).2])∧Below w.heap.size w w':=by
 obtain⟨a,cap,rfl,gM,gB⟩:=hT.shape
 have HT:=hid hT;clear hT
 have gy:=fun wx hx=>QLg R (.slice a T.length cap) T wx hx
 have hE:=hid (show QBa T s=if Qfa T≠0 then(0,Qfa T)else if 0≤Q2b T s then(Q2b T s,0)else(0,4)from rfl)
 have He:Below w.heap.size w (w.alloc (.cells #[.slice a T.length cap] 27)):=(Below.refl _ _).alloc (Nat.le_refl _) _
 have ke:=Holds.new w #[.slice a T.length cap] 27
 by_cases hz:Qfa T=0
 ·have Hv:=Q0b hz
  have Ge:=(Qeb (QPa hz)).2
  have mn:=hid (fun wx hx=>Qfl R (.slice a T.length cap) T s wx hx Hv Ge)
  have gw:=QZf T s
  have J8:=hid (show QCd T s=if 0≤Q2b T s then(Q2b T s,true)else(0,false)from rfl)
  by_cases hf:0≤Q2b T s
  ·have hX:=hid (show QBa T s=(Q2b T s,0)from by rw[hE.out,if_neg (by simp[hz]),if_pos hf])
   rw[hz]at gy
   have kF:=hid gy
   clear gy hz Hv hE gw
   rw[J8.out]at mn
   generalize Q2b T s=x at *
   go_enter Tryz.func111,Tryz.ntmps111
   go_wp2_with fail
   refine(kF.out _ (by exact HT.out.new He)).mono ?_
   rintro e w1 ⟨rfl,Hb⟩
   have GS:=ke.keeps (Qaa.of_fresh Hb (fun _=>False)) (fun e=>e)
   have bx:=GS.cell 0
   have bl:=GS.lt
   have Hc:=He.trans (Hb.mono (by simp))
   go_wp2_with fail
   refine(mn.out _ (by exact HT.out.new Hc)).mono ?_
   rintro e w2 ⟨rfl,Hi⟩
   go_wp2_with fail
   go_ret2
   exact⟨by rw[hX.out];rfl,Hc.trans (Hi.mono Hc.size)⟩
  ·have hX:=hid (show QBa T s=(0,4)from by rw[hE.out,if_neg (by simp[hz]),if_neg hf])
   have hf':Q2b T s<0:=by omega
   rw[hz]at gy
   have kF:=hid gy
   clear gy hz Hv hE gw hf
   rw[J8.out]at mn
   generalize Q2b T s=x at *
   go_enter Tryz.func111,Tryz.ntmps111
   go_wp2_with fail
   refine(kF.out _ (by exact HT.out.new He)).mono ?_
   rintro e w1 ⟨rfl,Hb⟩
   have GS:=ke.keeps (Qaa.of_fresh Hb (fun _=>False)) (fun e=>e)
   have bx:=GS.cell 0
   have bl:=GS.lt
   have Hc:=He.trans (Hb.mono (by simp))
   go_wp2_with fail
   refine(mn.out _ (by exact HT.out.new Hc)).mono ?_
   rintro e w2 ⟨rfl,Hi⟩
   go_wp2_with fail
   go_ret2
   exact⟨by rw[hX.out];rfl,Hc.trans (Hi.mono Hc.size)⟩
 ·have hz':(Qfa T != 0)=true:=by simpa using hz
  have hX:=hid (show QBa T s=(0,Qfa T)from by rw[hE.out,if_pos hz])
  have kF:=hid gy
  clear gy hz hE
  generalize Qfa T=c at *
  go_enter Tryz.func111,Tryz.ntmps111
  go_wp2_with fail
  refine(kF.out _ (by exact HT.out.new He)).mono ?_
  rintro e w1 ⟨rfl,Hb⟩
  go_wp2_with fail
  go_ret2
  exact⟨by rw[hX.out];rfl,He.trans (Hb.mono (by simp))⟩
theorem Qvq(R:Nat→Prop)(v:Value)(T:List Qba)(s:ByteArray)(w:World)(hT:Qpa R w v T) :
 Calls Tryz.prog 80 #[.agg #[v],.string s] w fun e w'=>e = .returned (.tuple #[.int .i64 (Qpb T s).1,.bool (Qpb T s).2])∧Below w.heap.size w w':=by
 obtain⟨a,cap,rfl,gM,gB⟩:=hT.shape
 have HT:=hid hT;clear hT
 have gy:=fun wx hx=>QLg R (.slice a T.length cap) T wx hx
 have He:Below w.heap.size w (w.alloc (.cells #[.slice a T.length cap] 27)):=(Below.refl _ _).alloc (Nat.le_refl _) _
 have ke:=Holds.new w #[.slice a T.length cap] 27
 by_cases hz:Qfa T=0
 ·have Hv:=Q0b hz
  have Ge:=(Qeb (QPa hz)).2
  have mn:=hid (fun wx hx=>Qfl R (.slice a T.length cap) T s wx hx Hv Ge)
  have hX:=hid (show Qpb T s=QCd T s from by unfold Qpb;rw[if_neg (by simp[hz])])
  rw[hz]at gy
  have kF:=hid gy
  clear gy hz Hv
  go_enter Tryz.func80,Tryz.ntmps80
  go_wp2_with fail
  refine(kF.out _ (by exact HT.out.new He)).mono ?_
  rintro e w1 ⟨rfl,Hb⟩
  have GS:=ke.keeps (Qaa.of_fresh Hb (fun _=>False)) (fun e=>e)
  have bx:=GS.cell 0
  have bl:=GS.lt
  have Hc:=He.trans (Hb.mono (by simp))
  go_wp2_with fail
  refine(mn.out _ (by exact HT.out.new Hc)).mono ?_
  rintro e w2 ⟨rfl,Hi⟩
  generalize QCd T s=x at *
  go_wp2_with fail
  go_ret2
  exact⟨by rw[hX.out];rfl,Hc.trans (Hi.mono Hc.size)⟩
 ·have hz':(Qfa T != 0)=true:=by simpa using hz
  have hX:=hid (show Qpb T s=(0,false)from by unfold Qpb;rw[if_pos hz])
  have kF:=hid gy
  clear gy hz
  generalize Qfa T=c at *
  go_enter Tryz.func80,Tryz.ntmps80
  go_wp2_with fail
  refine(kF.out _ (by exact HT.out.new He)).mono ?_
  rintro e w1 ⟨rfl,Hb⟩
  go_wp2_with fail
  go_ret2
  exact⟨by rw[hX.out];rfl,He.trans (Hb.mono (by simp))⟩
def Qtk(T:List Qba)(k:Int)(s:ByteArray):Int:=match T.findIdx? (QNa k s)with
 | some i=>(i:Int)
 | none => -1
theorem Quq(nd:Qba)(pv:Value)(k:Int)(s:ByteArray)(kb sb:Nat)(w:World)(hK:Holds w kb #[.int .i64 k] 3)(hS:Holds w sb #[.string s] 9) :
 Calls Tryz.prog 113 #[.agg #[.int .i64 nd.parent,.string nd.name,pv],.pointer (some ⟨kb,0,none⟩),.pointer (some ⟨sb,0,none⟩)] w fun e w'=>e = .returned (.bool (QNa k s nd))∧Below w.heap.size w w':=by
 have k0:=hK.cell 0
 have kl:=hK.lt
 have s0:=hS.cell 0
 have sl:=hS.lt
 have hE:=hid (show QNa k s nd=(decide (nd.parent=k) && eqS nd.name s)from rfl)
 by_cases h1:nd.parent=k
 ·have h1':(nd.parent == k)=true:=by simp[h1]
  have hd:decide (nd.parent=k)=true:=by simp[h1]
  rw[hd]at hE
  clear h1 hd
  cases h2:(nd.name.toList == s.toList)with
  | true=>
   go_enter Tryz.func113,Tryz.ntmps113
   go_wp2_with fail
   go_ret
   exact⟨Qha (by rw[hE.out];unfold eqS;rw[h2];rfl),(Below.refl _ _).alloc (Nat.le_refl _) _⟩
  | false=>
   go_enter Tryz.func113,Tryz.ntmps113
   go_wp2_with fail
   go_ret
   exact⟨Qha (by rw[hE.out];unfold eqS;rw[h2];rfl),(Below.refl _ _).alloc (Nat.le_refl _) _⟩
 ·have h1':(nd.parent == k)=false:=by simpa using h1
  have hd:decide (nd.parent=k)=false:=by simpa using h1
  rw[hd]at hE
  clear h1 hd
  go_enter Tryz.func113,Tryz.ntmps113
  go_wp2_with fail
  go_ret
  exact⟨Qha (by rw[hE.out];rfl),(Below.refl _ _).alloc (Nat.le_refl _) _⟩
theorem QEl:∀args w,(callFunc 113 args).run Tryz.prog w = .ok (.enter 113 args) w:=enters_of Tryz.func113 (by kernel_rfl) rfl
theorem Q0h(R:Nat→Prop)(v:Value)(T:List Qba)(k:Int)(s:ByteArray)(kb sb:Nat)(w:World)(hT:Qpa R w v T)(hl:T.length≤1000)(hK:Holds w kb #[.int .i64 k] 3)(hS:Holds w sb #[.string s] 9) :
 Calls Tryz.prog 152 #[v,.func (.func 113) #[] #[.pointer (some ⟨kb,0,none⟩),.pointer (some ⟨sb,0,none⟩)]] w
  fun e w'=>e = .returned (.int .i64 (Qtk T k s))∧Below w.heap.size w w':=by
 obtain⟨a,cap,rfl,gM,gB⟩:=hT.shape
 have HT:=hid hT;clear hT
 have HK:=hid hK;clear hK
 have HS:=hid hS;clear hS
 have eg:=QEl
 go_enter Tryz.func152,Tryz.ntmps152
 go_wp2_with fail
 go_loopg [8] (T.length) (fun f x wr=>∃j:Nat,x = .int .i64 j∧j≤T.length∧T.length≤j+f∧Hid (∀i (h:i<T.length),i<j→QNa k s T[i]=false)∧Below w.heap.size w wr)
 case atStart=>exact⟨0,rfl,by omega,by omega,fun i h h2=>absurd h2 (by omega),Below.refl _ _⟩
 case round=>
  obtain⟨j,rfl,hj,hf,hN,hb⟩:=hrel
  have H3:=hb.size
  by_cases Hh:j<T.length
  ·have dR:Qaa (fun _=>False) w wr:=Qaa.of_fresh hb _
   obtain⟨g,o,pa,pc,rfl,hg,c0,c1,c2,-,-,-,-,-,-⟩:=(HT.out.new hb).at j Hh
   have Gg:=HK.out.keeps dR (fun e=>e)
   have KA:=HS.out.keeps dR (fun e=>e)
   have kM:=Quq T[j] (.slice pa T[j].props.length pc) k s kb sb wr Gg KA
   cases hy:QNa k s T[j]with
   | true=>
    rw[hy]at kM
    have Mf:=hid kM;clear kM
    have Hn:=hid (show(Qtk T k s)=j from by
     have:T.findIdx? (QNa k s)=some j:=by
      rw[List.findIdx?_eq_some_iff_getElem]
      exact⟨Hh,hy,fun i hi=>by have:=hN.out i (by omega) hi;rw[this];simp⟩
     unfold Qtk;rw[this])
    clear hy dR Gg KA
    go_wp2_with fail
    refine(Mf.out).mono ?_
    rintro e w' ⟨rfl,hb'⟩
    go_wp2_with fail
    go_ret
    exact⟨QUa (by rw[Hn.out]),hb.trans (hb'.mono H3)⟩
   | false=>
    rw[hy]at kM
    have Mf:=hid kM;clear kM
    have HY:=hid hy
    clear hy dR Gg KA
    go_wp2_with fail
    refine(Mf.out).mono ?_
    rintro e w' ⟨rfl,hb'⟩
    go_wp2_with fail
    go_roundg (gk-1)
    case measure=>omega
    case rel=>
     refine⟨j+1,by go_num,by omega,by omega,?_,hb.trans (hb'.mono H3)⟩
     intro i hi bR
     by_cases e:i=j
     ·subst e;exact HY.out
     ·exact hN.out i hi (by omega)
  ·have Hn:=hid (show(Qtk T k s) = -1 from by
    have:T.findIdx? (QNa k s)=none:=by
     rw[List.findIdx?_eq_none_iff]
     intro x hx
     obtain⟨i,hi,e⟩:=List.getElem_of_mem hx
     rw[←e];exact hN.out i hi (by omega)
    unfold Qtk;rw[this])
   go_wp2_with fail
   go_ret
   exact⟨QUa (by rw[Hn.out]),hb⟩
theorem Qeg(R:Nat→Prop)(v:Value)(T:List Qba)(k:Int)(s:ByteArray)(kb sb:Nat)(w:World)(hT:Qpa R w v T)(hl:T.length≤1000)(hK:Holds w kb #[.int .i64 k] 3)(hS:Holds w sb #[.string s] 9) :
 Calls Tryz.prog 112 #[v,.func (.func 113) #[] #[.pointer (some ⟨kb,0,none⟩),.pointer (some ⟨sb,0,none⟩)]] w
  fun e w'=>e = .returned (.bool (T.any (QNa k s)))∧Below w.heap.size w w':=by
 have hi:=Q0h R v T k s kb sb w hT hl hK hS
 have Gh:decide ((Qtk T k s) ≥ 0)=T.any (QNa k s):=by
  unfold Qtk
  cases h:T.findIdx? (QNa k s)with
  | none=>
   rw[List.findIdx?_eq_none_iff]at h
   have:T.any (QNa k s)=false:=by rw[List.any_eq_false];intro x hx;rw[h x hx];simp
   rw[this];simp
  | some i=>
   rw[List.findIdx?_eq_some_iff_getElem]at h
   obtain⟨h1,h2,_⟩:=h
   have:T.any (QNa k s)=true:=List.any_eq_true.2 ⟨_,List.getElem_mem h1,h2⟩
   rw[this];simp
 have HA:=hid Gh
 generalize Qtk T k s=x at *
 have HI:=hid hi
 clear hi Gh hT hK hS
 go_enter Tryz.func112,Tryz.ntmps112
 go_wp2_with fail
 refine(HI.out).mono ?_
 rintro e w' ⟨rfl,hb'⟩
 go_wp2_with fail
 go_ret
 exact⟨Qha (by rw[←HA.out]),hb'⟩
end Go.Proofs.YtgaboghigefgbaaGreatDoor
