/- Lemmas on the way to the law; no conditions. -/
import Derived.Test.YtgaboghigefgbaaGreatDoorZ18
import Derived.Laws.CopyRow
import Derived.Shelf.Spec.SlicesInsertGrow
import Derived.Deep.RegionLaw
import Derived.Lib.SliceRun
set_option linter.all false
set_option maxRecDepth 100000
set_option maxHeartbeats 8000000
namespace Go.Proofs.YtgaboghigefgbaaGreatDoor
open Go.Proofs.Tryz
open Go.Lib (hid)
section
open Go.RowKit
theorem Q1c{P:Program}(w:World)(dT sT ty elem:TypeId)(size g o dLen dCap:Nat)(a:Addr)(sLen sCap:Nat)(cur:Array Value)(t:TypeId)(cs:List Value)
 (hu:P.underlying dT=some (.slice elem)) (hs:(P.info? elem).map (·.size)=some size)
 (hg:w.heap[g]? = some (.cells cur t (0,0))) (n:Nat) (hm:Nat.min sLen dLen=n) (hn:cs.length=n*size)
 (mo:∀j v,cs[j]? = some v→w.cell? (a.add j)=some v) (Ka:o+cs.length≤cur.size) (h1:∀v∈cs,v.oneCell'=true) :
 (Builtin.copy_ #[dT,sT] ty #[.slice (some ⟨g,o,none⟩) dLen dCap,.slice (some a) sLen sCap]).run P w =
  .ok (goInt n) (w.setRow g (cur.toList.take o++cs++cur.toList.drop (o+cs.length)).toArray):=by
 have hl:=run_loadCells_list (P:=P) w a cs mo;have kJ:=run_storeCells_at P g o t cs 0 cur w hg (by simpa using Ka) h1;rw[hn]at hl;cases hq:P.info? elem with
 | none=>simp[hq]at hs
 | some i=>
  have hi:i.size=size:=by simpa[hq]using hs
  simp[Builtin.copy_,run_underlying hu,Builtin.lenOf,Builtin.firstCells,sizeOf,typeInfo,hq,hi,hm,hl,kJ]
theorem Qze(a b:List Qqa):Qfa (a++b)=Qfa a++Qfa b:=by
 induction a with
 | nil=>rfl
 | cons x a ih=>show _::_::Qfa (a++b)=_;rw[ih];rfl
theorem QZf(ps:List Qqa):∀i,(Qfa ps).take (i*2)=Qfa (ps.take i):=by
 induction ps with
 | nil=>intro i;simp[Qfa]
 | cons x ps ih=>
  intro i;cases i with
  | zero=>rfl
  | succ i=>
   rw[show(i+1)*2=i*2+1+1 from by omega];show _::_::(Qfa ps).take (i*2)=_::_::Qfa (ps.take i);rw[ih]
theorem QYf(ps:List Qqa):∀i,(Qfa ps).drop (i*2)=Qfa (ps.drop i):=by
 induction ps with
 | nil=>intro i;simp[Qfa]
 | cons x ps ih=>
  intro i;cases i with
  | zero=>rfl
  | succ i=>
   rw[show(i+1)*2=i*2+1+1 from by omega];show(Qfa ps).drop (i*2)=Qfa (ps.drop i);rw[ih]
def QOo(ps:List Qqa)(i:Nat)(p:Qqa):List Qqa:=ps.take i++p::ps.drop i
theorem QUr{ps:List Qqa}{i:Nat}(p:Qqa)(h:i≤ps.length):(QOo ps i p).length=ps.length+1:=by
 unfold QOo;simp;omega
theorem QQn(ps:List Qqa)(i:Nat)(p:Qqa):Qfa (QOo ps i p)=(Qfa ps).take (i*2)++[.string p.name,.string p.value]++(Qfa ps).drop (i*2):=by
 unfold QOo;rw[Qze,QZf,QYf,List.append_assoc];rfl
theorem QVr{ps:List Qqa}{i:Nat}{p q:Qqa}(h:q∈QOo ps i p):q∈ps∨q=p:=by
 unfold QOo at h;rcases List.mem_append.1 h with h|h
 ·exact Or.inl (List.mem_of_mem_take h)
 rcases List.mem_cons.1 h with h|h
 ·exact Or.inr h
 exact Or.inl (List.mem_of_mem_drop h)
theorem Qsm{α:Type}(c nw xs:List α)(a n:Nat)(hn:nw.length=2)(hx:c.take n=xs)(hc:n+2≤c.length)(ha:a≤n) :
 ((c.take (a+2)++xs.drop a++c.drop (a+2+(xs.drop a).length)).take a++nw++(c.take (a+2)++xs.drop a++c.drop (a+2+(xs.drop a).length)).drop (a+nw.length)).take (n+2)=xs.take a++nw++xs.drop a:=by
 have MW:xs.length=n:=by rw[←hx,List.length_take];omega
 have h1:(c.take (a+2)++xs.drop a++c.drop (a+2+(xs.drop a).length)).take a=xs.take a:=by
  rw[List.append_assoc,List.take_append_of_le_length (by rw[List.length_take];omega),List.take_take,←hx,List.take_take]
  congr 1;omega
 have h2:(c.take (a+2)++xs.drop a++c.drop (a+2+(xs.drop a).length)).drop (a+nw.length)=xs.drop a++c.drop (a+2+(xs.drop a).length):=by
  rw[hn,List.append_assoc,List.drop_append_of_le_length (by rw[List.length_take];omega),List.drop_take];simp
 rw[h1,h2,←List.append_assoc,List.take_append_of_le_length (by simp;omega),List.take_of_length_le (by simp;omega)]
theorem QPn{α:Type}(c nw xs:List α)(a n:Nat)(hn:nw.length=2)(hx:c.take a=xs.take a)(MW:xs.length=n)(hc:n+2≤c.length)(ha:a≤n) :
 ((c.take a++nw++c.drop (a+nw.length)).take (a+2)++xs.drop a++(c.take a++nw++c.drop (a+nw.length)).drop (a+2+(xs.drop a).length)).take (n+2)=xs.take a++nw++xs.drop a:=by
 have h1:(c.take a++nw++c.drop (a+nw.length)).take (a+2)=xs.take a++nw:=by
  rw[List.take_append_of_le_length (by simp;omega),List.take_of_length_le (by simp;omega),hx]
 rw[h1,List.take_append_of_le_length (by simp;omega),List.take_of_length_le (by simp;omega)]
end
section
open Go.RowKit Go.Lib
def Qxj(ps:List Qqa)(k:Nat):List Qqa:=ps.take k++ps.drop (k+1)
theorem QEn(ps:List Qqa)(k:Nat):Qfa (Qxj ps k)=(Qfa ps).take (k*2)++(Qfa ps).drop ((k+1)*2):=by
 unfold Qxj;rw[Qze,QZf,QYf]
theorem QLr{ps:List Qqa}{k:Nat}(h:k<ps.length):(Qxj ps k).length=ps.length-1:=by
 unfold Qxj;simp;omega
theorem QMr{ps:List Qqa}{k:Nat}{q:Qqa}(h:q∈Qxj ps k):q∈ps:=by
 unfold Qxj at h;rcases List.mem_append.1 h with h|h
 ·exact List.mem_of_mem_take h
 exact List.mem_of_mem_drop h
theorem Qdl{w:World}{b o:Nat}{cur:Array Value}{t:TypeId}{vs:List Value}(h:Holds w b cur t)(hl:o+vs.length≤cur.size)(h1:∀v∈vs,v.oneCell'=true) :
 w.setCells b o vs=w.setRow b (cur.toList.take o++vs++cur.toList.drop (o+vs.length)).toArray:=by
 have e1:=run_storeCells_at (P:=prog) b o t vs 0 cur w h (by simpa using hl) h1;have e2:=run_storeCells_cells (P:=prog) b o vs 0 w (fun j hj=>by
  rw[h.cell (o+0+j)];simp;omega) (fun j hj=>h.free _) h1
 simp only[Nat.add_zero]at e1 e2;rw[e1]at e2;injection e2 with _ h2;exact h2.symm
theorem Qlp{α:Type}(c zs xs:List α)(a n:Nat)(hx:c.take n=xs)(MW:xs.length=n)(ha:a+2≤n)(hc:n≤c.length) :
 ((c.take a++xs.drop (a+2)++c.drop (a+(xs.drop (a+2)).length)).take (n-2)++zs++(c.take a++xs.drop (a+2)++c.drop (a+(xs.drop (a+2)).length)).drop (n-2+zs.length)).take (n-2)=xs.take a++xs.drop (a+2):=by
 have h1:c.take a=xs.take a:=by rw[←hx,List.take_take];congr 1;omega
 have h2:(c.take a++xs.drop (a+2)++c.drop (a+(xs.drop (a+2)).length)).take (n-2)=xs.take a++xs.drop (a+2):=by
  rw[List.take_append_of_le_length (by simp;omega),List.take_of_length_le (by simp;omega),h1]
 rw[h2,List.append_assoc,List.take_append_of_le_length (by simp;omega),List.take_of_length_le (by simp;omega)]
theorem QZk(base:Nat)(v:Value)(ps:List Qqa)(k:Nat)(w:World)(hr:Qna w base v ps)(hk:k<ps.length)(hl:ps.length≤1000) :
 Calls prog 119 #[v,.int .i64 k,.int .i64 ((k:Int)+1)] w fun e w'=>∃v',e=.returned v'∧Qna w' base v' (Qxj ps k)∧Qaa (fun g=>v.ownBlock=some g) w w':=by
 obtain⟨i0,mf,Hz,Ho,H4⟩:=info_parts QGc;have kr:∀q∈Qxj ps k,Qod q:=fun q hq=>hr.2 q (QMr hq);have kt:=hid kr;have gY:=hid (QEn ps k);have hlen:=QLr hk;rcases hr.1.2 with⟨_,h0⟩|⟨g,cap,cur,rfl,hb,hh,hc,hm,hs,ht⟩
 ·omega
 have MW:=Q4a ps;have Hr:=QDb ps;have hH:Holds w g cur 49:=hh;unfold maxLen at hm;have GG:g<w.heap.size:=lt_of_block hh;have MH:∀j u,(Qfa ps)[j]? = some u→w.cell? ⟨g,j,none⟩=some u:=fun j u hj=>by
  have Ge:j<(Qfa ps).length:=(List.getElem?_eq_some_iff.1 hj).1;rw[hH.cell j,←hj,←ht,List.getElem?_take_of_lt (by omega)];simp
 generalize iM:Qfa ps=xs at *
 have hsz:(prog.info? 49).map (·.size)=some 2:=by rw[mf];simp[Ho]
 have oU:(xs.drop ((k+1)*2)).length=(ps.length-(k+1))*2:=by rw[List.length_drop,MW];omega
 have mL:∀u∈xs.drop ((k+1)*2),u.oneCell'=true:=fun u hu=>Hr u (List.mem_of_mem_drop hu);obtain⟨row1,Kp⟩:∃x:Array Value,x=(cur.toList.take (k*2)++xs.drop ((k+1)*2)++cur.toList.drop (k*2+(xs.drop ((k+1)*2)).length)).toArray:=⟨_,rfl⟩;obtain⟨row2,Gi⟩:∃x:Array Value,x=(row1.toList.take ((ps.length-1)*2)++[Value.string ⟨#[]⟩,Value.string ⟨#[]⟩]++row1.toList.drop ((ps.length-1)*2+2)).toArray:=⟨_,rfl⟩;have Gn:row1.size=cap*2:=by rw[Kp];simp;omega
 have Gx:row2.size=cap*2:=by rw[Gi];simp;omega
 have Kq:row2.toList.take ((ps.length-1)*2)=xs.take (k*2)++xs.drop ((k+1)*2):=by
  have:=Qlp cur.toList [Value.string ⟨#[]⟩,Value.string ⟨#[]⟩] xs (k*2) (ps.length*2) ht MW (by omega) (by simp;omega);rw[show k*2+2=(k+1)*2 from by omega,show ps.length*2-2=(ps.length-1)*2 from by omega]at this;rw[Gi,Kp];exact this
 have ew:w.drew.setCells g (0+k*2) (xs.drop ((k+1)*2))=w.drew.setRow g row1:=by
  rw[Kp,Nat.zero_add];exact Qdl (show Holds w.drew g cur 49 from hH) (by omega) mL
 have gG:∀ty dc,(Builtin.clear_ #[44] ty #[.slice (some ⟨g,(ps.length-1)*2,none⟩) 1 dc]).run prog (w.drew.setRow g row1)=.ok (.tuple #[]) ((w.drew.setRow g row1).setRow g row2):=fun ty dc=>by
  have kJ:=run_storeCells_at (P:=prog) g ((ps.length-1)*2) 49 [Value.string ⟨#[]⟩,Value.string ⟨#[]⟩] 0 row1 (w.drew.setRow g row1) (setRow_heap _ _ cur row1 _ _ (show w.drew.heap[g]? = _ from hh)) (by simp;omega) (fun u hu=>by simp at hu;rcases hu with rfl|rfl <;> rfl);simp only[Nat.add_zero]at kJ;rw[show [Value.string ⟨#[]⟩,Value.string ⟨#[]⟩].length=2 from rfl,←Gi]at kJ;have lQ:(Builtin.zeroCells (Value.agg #[.string ⟨#[]⟩,.string ⟨#[]⟩]).cells 1).toList=[Value.string ⟨#[]⟩,Value.string ⟨#[]⟩]:=by kernel_rfl
  simp[Builtin.clear_,run_underlying underlying44,lQ,kJ]
 have Hp:∀W:World,W.heap=((w.setRow g row1).setRow g row2).heap→W.os=w.os→W.tape=w.tape→W.output=w.output→Qna W base (.slice (some ⟨g,0,none⟩) (ps.length-1) cap) (Qxj ps k)∧Qaa (fun b=>(Value.slice (some ⟨g,0,none⟩) ps.length cap).ownBlock=some b) w W:=fun W hW h1 h2 h3=>by
  refine⟨⟨⟨by rw[gY.o,hlen];simp[MW];omega,.inr ⟨g,cap,row2,by rw[hlen],hb,?_,by omega,by unfold maxLen;omega,Gx,?_⟩⟩,kt.o⟩,h1,h2,h3,?_,?_⟩
  ·rw[hW];exact setRow_heap _ g row1 row2 _ _ (setRow_heap w g cur row1 _ _ hh)
  ·rw[hlen,gY.o,Kq]
  ·rw[hW];simp
  intro j hj hn;have ph:j≠g:=fun e=>hn (by rw[e];rfl);rw[hW,setRow_other _ g j _ ph,setRow_other _ g j _ ph]
 have mixed:prog.follows Departure.mixedOrders=true:=by kernel_rfl
 have bq:∀j,j<(xs.drop ((k+1)*2)).length→(w.drew.cell? ⟨g,0+k*2+j,none⟩).isSome=true∧w.drew.frozen? ⟨g,0+k*2+j,none⟩=false:=fun j hj=>by
  refine⟨?_,hH.free _⟩;rw[show w.drew.cell? ⟨g,0+k*2+j,none⟩=w.cell? ⟨g,0+k*2+j,none⟩from rfl,hH.cell];simp;omega
 have mo:∀j u,(xs.drop ((k+1)*2))[j]? = some u→w.drew.cell? ((⟨g,(k+1)*2,none⟩:Addr).add j)=some u:=fun j u hj=>by
  rw[Addr.add_lit];exact MH _ u (by rwa [List.getElem?_drop]at hj)
 have gV:=hid Hp;have K6:=hid gG;have wK:=hid ew;have nD:=hid bq;have sK:=hid mo;have iR:=hid oU;have nk:=hid mL;have Ga:((k:Int)+1).toNat=k+1:=by omega
 have kW:(0:Int)≤(k:Int)+1:=by omega
 have GH:(k:Int)+1≤(ps.length:Int):=by omega
 have G7:¬((k:Int)=(k:Int)+1):=by omega
 have KZ:k+(ps.length-(k+1))=ps.length-1:=by omega
 have mJ:ps.length-(ps.length-1)=1:=by omega
 have hnil:cap=k+1→xs.drop ((k+1)*2)=[]:=fun e=>List.drop_eq_nil_of_le (by omega);have j3:=hid hnil;clear hr kr Hp gG Gn Gx Kq Kp Gi ht hs MH hH hh bq mo oU mL hnil ew;have GB:k≤cap:=by omega
 by_cases df:cap=k+1
 ·have gz:ps.length=k+1:=by omega
  have hz:(xs.drop ((k+1)*2)).length=0*2:=by rw[j3.o df];rfl
  have eV:∀j u,(xs.drop ((k+1)*2))[j]? = some u→w.drew.cell? ((⟨g,0,none⟩:Addr).add j)=some u:=fun j u hj=>by rw[j3.o df]at hj;simp at hj
  have HZ:=hid hz;have nE:=hid eV;have jN:(k:Int)≤(k:Int)+1:=by omega
  have aI:=gV.o;have kF:=K6.o;subst df;rw[gz,show k+1-1=k from rfl]at aI kF;have fe:=hid aI;have MY:=hid kF;clear hz eV aI kF K6 gV;go_enter func119,ntmps119;go_wp2_with fail
  go_region_law_o (refine step_append_room rfl (.tmp 22) (.tmp 25) 44 rfl 49 i0 2 underlying44 mf Ho g 0 k (k+1) (by simp[Act.eval,Act.put]) ⟨g,0,none⟩ 0 0 (xs.drop ((k+1)*2)) (by simp[Act.eval,Act.put]) HZ.o nE.o nk.o (by omega) nD.o ?_;rw[wK.o,Nat.add_zero])
  go_wp2_with(simp only[MY.o]);go_ret;exact⟨_,rfl,fe.o _ rfl rfl rfl rfl⟩
 have hcn':¬(k+1=cap):=fun e=>df e.symm;have de:¬(cap=ps.length-1):=by omega
 go_enter func119,ntmps119;go_wp2_with fail
 go_region_law_o (refine step_append_room rfl (.tmp 22) (.tmp 25) 44 rfl 49 i0 2 underlying44 mf Ho g 0 k cap (by simp[Act.eval,Act.put]) ⟨g,(k+1)*2,none⟩ (ps.length-(k+1)) (cap-(k+1)) (xs.drop ((k+1)*2)) (by simp[Act.eval,Act.put]) iR.o sK.o nk.o (by omega) nD.o ?_;rw[wK.o,KZ])
 go_wp2_with(simp only[K6.o]);go_ret;exact⟨_,rfl,gV.o _ rfl rfl rfl rfl⟩
end
section
open Go.RowKit Go.Lib
theorem Q0k(base N:Nat)(v:Value)(ps:List Qqa)(i:Nat)(p:Qqa)(w:World)(hr:Qna w base v ps)(hi:i≤ps.length)(hl:ps.length≤1000)(hN:Holds w N #[.string p.name,.string p.value] 49)(Hl:v.ownBlock≠some N)(hp:Qod p)(gx:base≤w.heap.size) :
 Calls prog 117 #[v,.int .i64 i,.slice (some ⟨N,0,none⟩) 1 1] w fun e w'=>∃v',e=.returned v'∧Qna w' base v' (QOo ps i p)∧Qaa (fun g=>v.ownBlock=some g) w w':=by
 obtain⟨i0,mf,Hz,Ho,H4⟩:=info_parts QGc;have K0:∀j u,([.string p.name,.string p.value]:List Value)[j]? = some u→w.cell? ((⟨N,0,none⟩:Addr).add j)=some u:=fun j u hj=>by
  rw[Addr.add_lit,Nat.zero_add,hN.cell j];simpa using hj
 have mL:∀u∈([.string p.name,.string p.value]:List Value),u.oneCell'=true:=fun u hu=>by simp at hu;rcases hu with rfl|rfl <;> rfl
 have kr:∀q∈QOo ps i p,Qod q:=fun q hq=>by
  rcases QVr hq with h|h
  ·exact hr.2 q h
  rw[h];exact hp
 have kt:=hid kr;have gY:=hid (QQn ps i p);have hlen:=QUr p hi;by_cases Mo:i=ps.length
 ·subst Mo;obtain⟨va,vc,rfl⟩:=Qea hr.1;have HR:=hid hr;have HC:=hid K0;clear hr kr K0;by_cases yy:vc=ps.length
  all_goals try subst yy
  all_goals
   go_enter func117,ntmps117;go_wp2_with(at_builtin;refine wpList_append_own _ rfl _ _ 44 rfl base 49 i0 (.agg #[.string ⟨#[]⟩,.string ⟨#[]⟩]) 2 32 underlying44 mf Hz Ho H4 rfl (by decide) _ ps.length (Qfa ps) rfl (by exact HR.o.1) ⟨N,0,none⟩ 1 1 [.string p.name,.string p.value] rfl rfl HC.o mL (by unfold maxLen;omega) (by omega) gx ?_);intro v' w5 Hj Hd _;go_wp2_with fail;go_ret;refine⟨_,rfl,⟨?_,kt.o⟩,Qaa.of_grown Hd (fun _ e=>e)⟩;rw[gY.o,hlen,List.take_of_length_le (by rw[Q4a];omega),List.drop_eq_nil_of_le (by rw[Q4a];omega),List.append_nil];exact Hj
 have hin2:i<ps.length:=by omega
 rcases hr.1.2 with⟨_,h0⟩|⟨g,cap,cur,rfl,hb,hh,hc,hm,hs,ht⟩
 ·omega
 have yb:g≠N:=fun e=>Hl (by rw[e];rfl);have MW:=Q4a ps;have Hr:=QDb ps;have HH:=hid hh;unfold maxLen at hm;have GG:g<w.heap.size:=lt_of_block hh;have MH:∀j u,(Qfa ps)[j]? = some u→w.cell? ⟨g,j,none⟩=some u:=fun j u hj=>by
  have hH:Holds w g cur 49:=hh;have Ge:j<(Qfa ps).length:=(List.getElem?_eq_some_iff.1 hj).1;rw[hH.cell j,←hj,←ht,List.getElem?_take_of_lt (by omega)];simp
 generalize iM:Qfa ps=xs at *
 have hsz:(prog.info? 49).map (·.size)=some 2:=by rw[mf];simp[Ho]
 have hiz:¬((i:Int)=(ps.length:Int)):=by omega
 have bu:IntKind.i64.wrap ((ps.length:Int)+1)=(ps.length:Int)+1:=by rw[IntKind.wrap_i64];omega
 have bw:IntKind.i64.wrap ((i:Int)+1)=(i:Int)+1:=by rw[IntKind.wrap_i64];omega
 have oU:(xs.drop (i*2)).length=(ps.length-i)*2:=by rw[List.length_drop,MW];omega
 have pE:Nat.min (ps.length+1-i) (ps.length-i)=ps.length-i:=by simp only[Nat.min_def];split <;> omega
 have pF:Nat.min (ps.length-i) (ps.length-i)=ps.length-i:=by simp only[Nat.min_def];split <;> omega
 have eI:Nat.min 1 (ps.length+1-i)=1:=by simp only[Nat.min_def];split <;> omega
 have jo:N<w.heap.size:=hN.lt;by_cases Ko:ps.length+1≤cap
 ·have rz:=hid (Qsm cur.toList [Value.string p.name,Value.string p.value] xs (i*2) (ps.length*2) rfl ht (by simp;omega) (by omega));obtain⟨cur1,jK⟩:∃x:Array Value,x=(cur.toList.take (i*2+2)++xs.drop (i*2)++cur.toList.drop (i*2+2+(xs.drop (i*2)).length)).toArray:=⟨_,rfl⟩;obtain⟨cur2,jL⟩:∃x:Array Value,x=(cur1.toList.take (i*2)++[Value.string p.name,Value.string p.value]++cur1.toList.drop (i*2+2)).toArray:=⟨_,rfl⟩;have Gn:cur1.size=cap*2:=by rw[jK];simp;omega
  have Gx:cur2.size=cap*2:=by rw[jL];simp;omega
  have Kq:cur2.toList.take ((ps.length+1)*2)=xs.take (i*2)++[.string p.name,.string p.value]++xs.drop (i*2):=by
   rw[jL,jK,show(ps.length+1)*2=ps.length*2+2 from by omega];exact rz.o
  have oQ:∀(W:World),W.heap=w.heap→∀ty dc sc,(Builtin.copy_ #[44,44] ty #[.slice (some ⟨g,(i+1)*2,none⟩) (ps.length-i) dc,.slice (some ⟨g,i*2,none⟩) (ps.length+1-i) sc]).run prog W=.ok (goInt ((ps.length-i:Nat):Int)) (W.setRow g cur1):=fun W hW ty dc sc=>by
   rw[jK,show i*2+2=(i+1)*2 from by omega]
   exact Q1c W _ _ ty 49 2 g ((i+1)*2) (ps.length-i) dc ⟨g,i*2,none⟩ (ps.length+1-i) sc cur 49 (xs.drop (i*2)) underlying44 hsz (by rw[hW];exact HH.o) (ps.length-i) pE oU
    (fun j u hj=>by
     rw[Addr.add_lit,World.cell?_of_block (w:=w) (by rw[hW])];exact MH _ u (by rwa [List.getElem?_drop]at hj)) (by omega) (fun u hu=>Hr u (List.mem_of_mem_drop hu))
  have oR:∀(W:World),W.heap=(w.setRow g cur1).heap→∀ty dc,(Builtin.copy_ #[44,44] ty #[.slice (some ⟨g,i*2,none⟩) (ps.length+1-i) dc,.slice (some ⟨N,0,none⟩) 1 1]).run prog W=.ok (goInt 1) (W.setRow g cur2):=fun W hW ty dc=>by
   rw[jL]
   exact Q1c W _ _ ty 49 2 g (i*2) (ps.length+1-i) dc ⟨N,0,none⟩ 1 1 cur1 49 [.string p.name,.string p.value] underlying44 hsz (by rw[hW];exact setRow_heap w g cur cur1 _ _ HH.o) 1 eI rfl
    (fun j u hj=>by
     rw[World.cell?_of_block (w:=w) (by rw[hW,Addr.add_lit];exact setRow_other w g N cur1 (Ne.symm yb))];exact K0 j u hj) (by simp;omega) mL
  have K1:∀lb cb,(callFunc 155 #[.slice (some ⟨N,0,none⟩) 1 1,.slice (some ⟨g,(i+1)*2,none⟩) lb cb]).run prog w=.ok (.value (.bool false)) w:=fun lb cb=>by
   rw[run_callFunc_extern func155 (by kernel_rfl) (by kernel_rfl) (by kernel_rfl) (e:=Extern.SlicesOverlaps.overlaps #[44,44] #[4]) (by kernel_rfl),
    Lib.run_overlaps_apart w 44 4 49 underlying44 2 Tryz.sizeOf49 ⟨N,0,none⟩ ⟨g,(i+1)*2,none⟩ 1 1 lb cb (Ne.symm yb) 49 49 2 cur.size
     (by unfold World.shape?;rw[hN.o];rfl) (by unfold World.shape?;rw[HH.o]) (by omega) (hN.free 0) (hN.free 2)]
   rfl
  have Hb:(0:Int)≤(i:Int)+1:=by omega
  have lN:((i:Int)+1).toNat=i+1:=by omega
  have Hc:¬(cap=i+1):=by omega
  have Hg:(i:Int)≤(ps.length:Int)+1:=by omega
  have Hu:¬(cap=i):=by omega
  have Hp:∀(W:World),W.heap=((w.setRow g cur1).setRow g cur2).heap→W.os=w.os→W.tape=w.tape→W.output=w.output→Qna W base (.slice (some ⟨g,0,none⟩) (ps.length+1) cap) (QOo ps i p)∧Qaa (fun b=>(Value.slice (some ⟨g,0,none⟩) ps.length cap).ownBlock=some b) w W:=fun W hW h1 h2 h3=>by
   refine⟨⟨⟨by rw[gY.o,hlen,←iM]at *;simp[MW];omega,.inr ⟨g,cap,cur2,by rw[hlen],hb,?_,by omega,by unfold maxLen;omega,Gx,?_⟩⟩,kt.o⟩,h1,h2,h3,?_,?_⟩
   ·rw[hW];exact setRow_heap _ g cur1 cur2 _ _ (setRow_heap w g cur cur1 _ _ HH.o)
   ·rw[hlen,gY.o,Kq]
   ·rw[hW];simp
   intro k hk hn;have ph:k≠g:=fun e=>hn (by rw[e];rfl);rw[hW,setRow_other _ g k _ ph,setRow_other _ g k _ ph]
  have mixed:prog.follows Departure.mixedOrders=true:=by kernel_rfl
  have gV:=hid Hp;have iP:=hid (fun ty dc sc=>oQ w.drew rfl ty dc sc);have MY:=hid (fun ty dc=>oR (w.drew.setRow g cur1) rfl ty dc);clear hr kr Hp oQ oR Gn Gx Kq jK jL ht hs MH K0;go_enter func117,ntmps117;go_wp2_with(simp only[K1])
  go_region_law_o (refine step_copy_runI rfl _ _ 44 44 rfl (.slice (some ⟨g,(i+1)*2,none⟩) (ps.length-i) (cap-(i+1))) (.slice (some ⟨g,i*2,none⟩) (ps.length+1-i) (cap-i)) (by simp[Act.eval,Act.put]) (by simp[Act.eval,Act.put]) (iP.o _ _ _) ?_)
  go_wp2_with(simp only[MY.o]);go_ret;exact⟨_,rfl,gV.o _ rfl rfl rfl rfl⟩
 have df:cap=ps.length:=by omega
 subst df;have dt:i+(ps.length+1-i)=ps.length+1:=by omega
 have lD:(ps.length:Int)+1-(i:Int)=((ps.length+1-i:Nat):Int):=by omega
 have pK:(Builtin.firstCells i0.size i (.slice (some ⟨g,0,none⟩) i ps.length)).run prog w.drew=.ok (xs.take (i*2)).toArray w.drew:=by
  rw[Ho];exact run_firstCells_some w.drew 2 i ⟨g,0,none⟩ i ps.length (xs.take (i*2)) (by rw[List.length_take];omega) (fun j u hj=>by
   rw[Addr.add_lit,Nat.zero_add];rw[List.getElem?_take]at hj;split at hj
   ·exact MH j u hj
   cases hj)
 obtain⟨G,hG⟩:∃G,G=grownCap w (ps.length+1) ps.length 49:=⟨_,rfl⟩;obtain⟨ROW,cT⟩:∃R:Array Value,R=(xs.take (i*2)).toArray++Builtin.zeroCells (Value.agg #[.string ⟨#[]⟩,.string ⟨#[]⟩]).cells (ps.length+1-i)++Builtin.zeroCells (Value.agg #[.string ⟨#[]⟩,.string ⟨#[]⟩]).cells (G-(ps.length+1)):=⟨_,rfl⟩
 have JK:∀ty,(Builtin.append_ #[44,3] ty #[.slice (some ⟨g,0,none⟩) i ps.length,.int .i64 ((ps.length:Int)+1-(i:Int))]).run prog w =
  .ok (.slice (some ⟨w.heap.size,0,none⟩) (ps.length+1) G) (w.drew.alloc (.cells ROW 49)):=fun ty=>by
  have h:=Lib.run_append_grow_zeros w 44 3 ty 49 i0 _ .i64 .i64 underlying44 underlying3 mf Hz (some ⟨g,0,none⟩) i ps.length (xs.take (i*2)) pK (ps.length+1-i) (by omega) (by omega) (by omega) (by omega) (by rw[H4];omega) (by rw[H4,dt];exact growslice_fits (by omega) (by omega));rw[dt]at h;rw[lD,cT,hG];exact h
 have hGn:ps.length+1≤G:=by rw[hG];exact grownCap_ge w _ _ _
 have hG63:G≤9223372036854775807:=by
  have:=grownCap_le_maxLen w (ps.length+1) ps.length 49 (by unfold maxLen;omega);rw[←hG]at this;unfold maxLen at this;omega
 have zU:ROW.size=G*2:=by
  rw[cT];simp[Builtin.zeroCells,Value.cells];omega
 have xK:ROW.toList.take (i*2)=xs.take (i*2):=by
  rw[cT];simp only[Array.toList_append,List.append_assoc];rw[List.take_append_of_le_length (by simp;omega),List.take_of_length_le (by simp;omega)]
 have rz:=hid (QPn ROW.toList [Value.string p.name,Value.string p.value] xs (i*2) (ps.length*2) rfl xK MW (by simp;omega) (by omega));clear cT pK dt hG;obtain⟨row1,Kp⟩:∃x:Array Value,x=(ROW.toList.take (i*2)++[Value.string p.name,Value.string p.value]++ROW.toList.drop (i*2+2)).toArray:=⟨_,rfl⟩;obtain⟨row2,Gi⟩:∃x:Array Value,x=(row1.toList.take (i*2+2)++xs.drop (i*2)++row1.toList.drop (i*2+2+(xs.drop (i*2)).length)).toArray:=⟨_,rfl⟩;have Gn:row1.size=G*2:=by rw[Kp];simp;omega
 have Gx:row2.size=G*2:=by rw[Gi];simp;omega
 have Kq:row2.toList.take ((ps.length+1)*2)=xs.take (i*2)++[.string p.name,.string p.value]++xs.drop (i*2):=by
  rw[Gi,Kp,show(ps.length+1)*2=ps.length*2+2 from by omega];exact rz.o
 have dr:g<w.heap.size:=GG;have hA:∀W:World,W.heap=(w.alloc (.cells ROW 49)).heap→W.heap[w.heap.size]? = some (.cells ROW 49 (0,0)):=fun W hW=>by rw[hW];exact heap_alloc_new w _
 have oS:∀(W:World),W.heap=(w.alloc (.cells ROW 49)).heap→∀ty dc,(Builtin.copy_ #[44,44] ty #[.slice (some ⟨w.heap.size,i*2,none⟩) (ps.length+1-i) dc,.slice (some ⟨N,0,none⟩) 1 1]).run prog W=.ok (goInt 1) (W.setRow w.heap.size row1):=fun W hW ty dc=>by
  rw[Kp]
  exact Q1c W _ _ ty 49 2 w.heap.size (i*2) (ps.length+1-i) dc ⟨N,0,none⟩ 1 1 ROW 49 [.string p.name,.string p.value] underlying44 hsz (hA W hW) 1 eI rfl
   (fun j u hj=>by
    rw[World.cell?_of_block (w:=w) (by rw[hW,Addr.add_lit];exact heap_alloc_old w _ jo)];exact K0 j u hj) (by simp;omega) mL
 have oT:∀(W:World),W.heap=((w.alloc (.cells ROW 49)).setRow w.heap.size row1).heap→∀ty dc sc,(Builtin.copy_ #[44,44] ty #[.slice (some ⟨w.heap.size,(i+1)*2,none⟩) (ps.length-i) dc,.slice (some ⟨g,i*2,none⟩) (ps.length-i) sc]).run prog W=.ok (goInt ((ps.length-i:Nat):Int)) (W.setRow w.heap.size row2):=fun W hW ty dc sc=>by
  rw[Gi,show i*2+2=(i+1)*2 from by omega]
  exact Q1c W _ _ ty 49 2 w.heap.size ((i+1)*2) (ps.length-i) dc ⟨g,i*2,none⟩ (ps.length-i) sc row1 49 (xs.drop (i*2)) underlying44 hsz (by rw[hW];exact setRow_heap _ _ ROW row1 _ _ (hA _ rfl)) (ps.length-i) pF oU
   (fun j u hj=>by
    rw[Addr.add_lit,World.cell?_of_block (w:=w) (by rw[hW];exact(setRow_other _ _ g row1 (by omega)).trans (heap_alloc_old w _ dr))];exact MH _ u (by rwa [List.getElem?_drop]at hj)) (by omega) (fun u hu=>Hr u (List.mem_of_mem_drop hu))
 have Hp:∀(W:World),W.heap=(((w.alloc (.cells ROW 49)).setRow w.heap.size row1).setRow w.heap.size row2).heap→W.os=w.os→W.tape=w.tape→W.output=w.output→Qna W base (.slice (some ⟨w.heap.size,0,none⟩) (ps.length+1) G) (QOo ps i p)∧Qaa (fun b=>(Value.slice (some ⟨g,0,none⟩) ps.length ps.length).ownBlock=some b) w W:=fun W hW h1 h2 h3=>by
  refine⟨⟨⟨by rw[gY.o,hlen];simp[MW];omega,.inr ⟨w.heap.size,G,row2,by rw[hlen],gx,?_,by omega,by unfold maxLen;omega,Gx,?_⟩⟩,kt.o⟩,h1,h2,h3,?_,?_⟩
  ·rw[hW];exact setRow_heap _ _ row1 row2 _ _ (setRow_heap _ _ ROW row1 _ _ (hA _ rfl))
  ·rw[hlen,gY.o,Kq]
  ·rw[hW];simp
  intro k hk hn;rw[hW,setRow_other _ _ k _ (by omega),setRow_other _ _ k _ (by omega)];exact heap_alloc_old w _ hk
 have mixed:prog.follows Departure.mixedOrders=true:=by kernel_rfl
 have gV:=hid Hp;have sH:=hid JK;have yI:=hid (fun ty dc=>oS ((w.alloc (.cells ROW 49)).drew) rfl ty dc);have vY:=hid (fun ty dc sc=>oT (((w.alloc (.cells ROW 49)).drew.setRow w.heap.size row1).drew) rfl ty dc sc);have hGi:¬(G=i):=by omega
 have hGim:¬(G=i+1):=by omega
 have KY:¬(ps.length=i):=by omega
 have Hb:(0:Int)≤(i:Int)+1:=by omega
 have lN:((i:Int)+1).toNat=i+1:=by omega
 have Hg:(i:Int)≤(ps.length:Int):=by omega
 clear hr kr Hp oS oT JK Gn Gx Kq Kp Gi ht hs MH K0 hA rz zU xK lD;go_enter func117,ntmps117
 go_wp2_with(first
  | (at_builtin;refine Lib.wpList_append_run _ rfl _ _ _ _ rfl _ _ rfl rfl _ _ (sH.o _) ?_)
  | (simp only[yI.o])
  | (simp only[vY.o]))
 go_region_law_o (refine step_copy_runI rfl _ _ 44 44 rfl (.slice (some ⟨w.heap.size,(i+1)*2,none⟩) (ps.length-i) (G-(i+1))) (.slice (some ⟨g,i*2,none⟩) (ps.length-i) (ps.length-i)) (by simp[Act.eval,Act.put]) (by simp[Act.eval,Act.put]) (vY.o _ _ _) ?_)
 go_wp2_with fail;go_ret;exact⟨_,rfl,gV.o _ rfl rfl rfl rfl⟩
end
end Go.Proofs.YtgaboghigefgbaaGreatDoor
