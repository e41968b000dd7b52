/- Copying rows of elements of more than one cell; a property put into a row of properties (plain). | Contracts of slices.Delete at a row of properties, one property taken out. | Contracts of slices.Insert at a row of properties. -/
import Derived.Test.YtgaboghigefgbaaGreatDoorZ20
import Derived.Laws.CopyRow
import Derived.Shelf.Spec.SlicesInsertGrow
import Derived.Deep.RegionLaw
import Derived.Lib.SliceRun
set_option linter.all false
set_option maxHeartbeats 8000000
namespace Go.Proofs.YtgaboghigefgbaaGreatDoor
open Go.Lib (hid)
open Go.RowKit
theorem Q6c{P:Program}(w:World)(dT sT ty elem:TypeId)(size g o dLen dCap:Nat)(a:Addr)(sLen sCap:Nat)(cur:Array Value)(t:TypeId)(cs:List Value)
 (hu:P.underlying dT=some (.slice elem)) (hs:(P.info? elem).map (·.size)=some size)
 (hg:w.heap[g]? = some (.cells cur t (0,0))) (n:Nat) (hm:Nat.min sLen dLen=n) (hn:cs.length=n*size)
 (aj:∀j v,cs[j]? = some v→w.cell? (a.add j)=some v) (kZ:o+cs.length≤cur.size) (h1:∀v∈cs,v.oneCell'=true) :
 (Builtin.copy_ #[dT,sT] ty #[.slice (some ⟨g,o,none⟩) dLen dCap,.slice (some a) sLen sCap]).run P w =
  .ok (goInt n) (w.setRow g (cur.toList.take o++cs++cur.toList.drop (o+cs.length)).toArray):=by
 have hl:=run_loadCells_list (P:=P) w a cs aj
 have kE:=run_storeCells_at P g o t cs 0 cur w hg (by simpa using kZ) h1
 rw[hn]at hl
 cases hq:P.info? elem with
 | none=>simp[hq]at hs
 | some i=>
  have hi:i.size=size:=by simpa[hq]using hs
  simp[Builtin.copy_,run_underlying hu,Builtin.lenOf,Builtin.firstCells,sizeOf,typeInfo,hq,hi,hm,hl,kE]
theorem QKe(a b:List Qla):Qga (a++b)=Qga a++Qga b:=by
 induction a with
 | nil=>rfl
 | cons x a ih=>show _::_::Qga (a++b)=_;rw[ih];rfl
theorem Q6f(ps:List Qla):∀i,(Qga ps).take (i*2)=Qga (ps.take i):=by
 induction ps with
 | nil=>intro i;simp[Qga]
 | cons x ps ih=>
  intro i
  cases i with
  | zero=>rfl
  | succ i=>
   rw[show(i+1)*2=i*2+1+1 from by omega]
   show _::_::(Qga ps).take (i*2)=_::_::Qga (ps.take i)
   rw[ih]
theorem Q5f(ps:List Qla):∀i,(Qga ps).drop (i*2)=Qga (ps.drop i):=by
 induction ps with
 | nil=>intro i;simp[Qga]
 | cons x ps ih=>
  intro i
  cases i with
  | zero=>rfl
  | succ i=>
   rw[show(i+1)*2=i*2+1+1 from by omega]
   show(Qga ps).drop (i*2)=Qga (ps.drop i)
   rw[ih]
def QJo(ps:List Qla)(i:Nat)(p:Qla):List Qla:=ps.take i++p::ps.drop i
theorem Qnr{ps:List Qla}{i:Nat}(p:Qla)(h:i≤ps.length):(QJo ps i p).length=ps.length+1:=by
 unfold QJo;simp;omega
theorem QJn(ps:List Qla)(i:Nat)(p:Qla):Qga (QJo ps i p)=(Qga ps).take (i*2)++[.string p.name,.string p.value]++(Qga ps).drop (i*2):=by
 unfold QJo
 rw[QKe,Q6f,Q5f,List.append_assoc];rfl
theorem Qor{ps:List Qla}{i:Nat}{p q:Qla}(h:q∈QJo ps i p):q∈ps∨q=p:=by
 unfold QJo at h
 rcases List.mem_append.1 h with h|h
 ·exact Or.inl (List.mem_of_mem_take h)
 ·rcases List.mem_cons.1 h with h|h
  ·exact Or.inr h
  ·exact Or.inl (List.mem_of_mem_drop h)
theorem Qlm{α:Type}(c nw xs:List α)(a n:Nat)(hn:nw.length=2)(hx:c.take n=xs)(hc:n+2≤c.length)(ha:a≤n) :
 ((c.take (a+2)++xs.drop a++c.drop (a+2+(xs.drop a).length)).take a++nw++(c.take (a+2)++xs.drop a++c.drop (a+2+(xs.drop a).length)).drop (a+nw.length)).take (n+2)=xs.take a++nw++xs.drop a:=by
 have jw:xs.length=n:=by rw[←hx,List.length_take];omega
 have h1:(c.take (a+2)++xs.drop a++c.drop (a+2+(xs.drop a).length)).take a=xs.take a:=by
  rw[List.append_assoc,List.take_append_of_le_length (by rw[List.length_take];omega),List.take_take,←hx,List.take_take]
  congr 1;omega
 have h2:(c.take (a+2)++xs.drop a++c.drop (a+2+(xs.drop a).length)).drop (a+nw.length)=xs.drop a++c.drop (a+2+(xs.drop a).length):=by
  rw[hn,List.append_assoc,List.drop_append_of_le_length (by rw[List.length_take];omega),List.drop_take]
  simp
 rw[h1,h2,←List.append_assoc,List.take_append_of_le_length (by simp;omega),List.take_of_length_le (by simp;omega)]
theorem QIn{α:Type}(c nw xs:List α)(a n:Nat)(hn:nw.length=2)(hx:c.take a=xs.take a)(jw:xs.length=n)(hc:n+2≤c.length)(ha:a≤n) :
 ((c.take a++nw++c.drop (a+nw.length)).take (a+2)++xs.drop a++(c.take a++nw++c.drop (a+nw.length)).drop (a+2+(xs.drop a).length)).take (n+2)=xs.take a++nw++xs.drop a:=by
 have h1:(c.take a++nw++c.drop (a+nw.length)).take (a+2)=xs.take a++nw:=by
  rw[List.take_append_of_le_length (by simp;omega),List.take_of_length_le (by simp;omega),hx]
 rw[h1,List.take_append_of_le_length (by simp;omega),List.take_of_length_le (by simp;omega)]
end Go.Proofs.YtgaboghigefgbaaGreatDoor
namespace Go.Proofs.YtgaboghigefgbaaGreatDoor
open Go.Lib (hid)
open Go.RowKit Go.Lib
def Qlj(ps:List Qla)(k:Nat):List Qla:=ps.take k++ps.drop (k+1)
theorem Qyn(ps:List Qla)(k:Nat):Qga (Qlj ps k)=(Qga ps).take (k*2)++(Qga ps).drop ((k+1)*2):=by
 unfold Qlj;rw[QKe,Q6f,Q5f]
theorem Qcr{ps:List Qla}{k:Nat}(h:k<ps.length):(Qlj ps k).length=ps.length-1:=by
 unfold Qlj;simp;omega
theorem Qdr{ps:List Qla}{k:Nat}{q:Qla}(h:q∈Qlj ps k):q∈ps:=by
 unfold Qlj at h
 rcases List.mem_append.1 h with h|h
 ·exact List.mem_of_mem_take h
 ·exact List.mem_of_mem_drop h
theorem Q0k{w:World}{b o:Nat}{cur:Array Value}{t:TypeId}{vs:List Value}(h:Holds w b cur t)(hl:o+vs.length≤cur.size)(h1:∀v∈vs,v.oneCell'=true) :
 w.setCells b o vs=w.setRow b (cur.toList.take o++vs++cur.toList.drop (o+vs.length)).toArray:=by
 have e1:=run_storeCells_at (P:=Tryz.prog) b o t vs 0 cur w h (by simpa using hl) h1
 have e2:=run_storeCells_cells (P:=Tryz.prog) b o vs 0 w (fun j hj=>by
  rw[h.cell (o+0+j)]
  simp
  omega) (fun j hj=>h.free _) h1
 simp only[Nat.add_zero]at e1 e2
 rw[e1]at e2
 injection e2 with _ h2
 exact h2.symm
theorem Qbp{α:Type}(c zs xs:List α)(a n:Nat)(hx:c.take n=xs)(jw:xs.length=n)(ha:a+2≤n)(hc:n≤c.length) :
 ((c.take a++xs.drop (a+2)++c.drop (a+(xs.drop (a+2)).length)).take (n-2)++zs++(c.take a++xs.drop (a+2)++c.drop (a+(xs.drop (a+2)).length)).drop (n-2+zs.length)).take (n-2)=xs.take a++xs.drop (a+2):=by
 have h1:c.take a=xs.take a:=by rw[←hx,List.take_take];congr 1;omega
 have h2:(c.take a++xs.drop (a+2)++c.drop (a+(xs.drop (a+2)).length)).take (n-2)=xs.take a++xs.drop (a+2):=by
  rw[List.take_append_of_le_length (by simp;omega),List.take_of_length_le (by simp;omega),h1]
 rw[h2,List.append_assoc,List.take_append_of_le_length (by simp;omega),List.take_of_length_le (by simp;omega)]
set_option maxRecDepth 100000 in
theorem QNk(base:Nat)(v:Value)(ps:List Qla)(k:Nat)(w:World)(hr:Qma w base v ps)(hk:k<ps.length)(hl:ps.length≤1000) :
 Calls Tryz.prog 119 #[v,.int .i64 k,.int .i64 ((k:Int)+1)] w fun e w'=>∃v',e = .returned v'∧Qma w' base v' (Qlj ps k)∧Qaa (fun g=>v.ownBlock=some g) w w':=by
 obtain⟨i0,Kp,H4,Hp,gj⟩:=info_parts Q4f
 have mj:∀q∈Qlj ps k,QFe q:=fun q hq=>hr.2 q (Qdr hq)
 have Ke:=hid mj
 have g8:=hid (Qyn ps k)
 have hlen:=Qcr hk
 rcases hr.1.2 with⟨_,h0⟩|⟨g,cap,cur,rfl,hb,hh,hc,hm,hs,ht⟩
 ·omega
 have jw:=Q9a ps
 have H5:=QSb ps
 have hH:Holds w g cur 49:=hh
 unfold maxLen at hm
 have jj:g<w.heap.size:=lt_of_block hh
 have jh:∀j u,(Qga ps)[j]? = some u→w.cell? ⟨g,j,none⟩=some u:=fun j u hj=>by
  have Gu:j<(Qga ps).length:=(List.getElem?_eq_some_iff.1 hj).1
  rw[hH.cell j,←hj,←ht,List.getElem?_take_of_lt (by omega)];simp
 generalize hxs:Qga ps=xs at *
 have hsz:(Tryz.prog.info? 49).map (·.size)=some 2:=by rw[Kp];simp[Hp]
 have rT:(xs.drop ((k+1)*2)).length=(ps.length-(k+1))*2:=by rw[List.length_drop,jw];omega
 have Ma:∀u∈xs.drop ((k+1)*2),u.oneCell'=true:=fun u hu=>H5 u (List.mem_of_mem_drop hu)
 obtain⟨row1,Kv⟩:∃x:Array Value,x=(cur.toList.take (k*2)++xs.drop ((k+1)*2)++cur.toList.drop (k*2+(xs.drop ((k+1)*2)).length)).toArray:=⟨_,rfl⟩
 obtain⟨row2,Gj⟩:∃x:Array Value,x=(row1.toList.take ((ps.length-1)*2)++[Value.string ⟨#[]⟩,Value.string ⟨#[]⟩]++row1.toList.drop ((ps.length-1)*2+2)).toArray:=⟨_,rfl⟩
 have ko:row1.size=cap*2:=by rw[Kv];simp;omega
 have GB:row2.size=cap*2:=by rw[Gj];simp;omega
 have GC:row2.toList.take ((ps.length-1)*2)=xs.take (k*2)++xs.drop ((k+1)*2):=by
  have:=Qbp cur.toList [Value.string ⟨#[]⟩,Value.string ⟨#[]⟩] xs (k*2) (ps.length*2) ht jw (by omega) (by simp;omega)
  rw[show k*2+2=(k+1)*2 from by omega,show ps.length*2-2=(ps.length-1)*2 from by omega]at this
  rw[Gj,Kv]
  exact this
 have ie:w.drew.setCells g (0+k*2) (xs.drop ((k+1)*2))=w.drew.setRow g row1:=by
  rw[Kv,Nat.zero_add]
  exact Q0k (show Holds w.drew g cur 49 from hH) (by omega) Ma
 have gN:∀ty dc,(Builtin.clear_ #[44] ty #[.slice (some ⟨g,(ps.length-1)*2,none⟩) 1 dc]).run Tryz.prog (w.drew.setRow g row1) = .ok (.tuple #[]) ((w.drew.setRow g row1).setRow g row2):=fun ty dc=>by
  have kE:=run_storeCells_at (P:=Tryz.prog) g ((ps.length-1)*2) 49 [Value.string ⟨#[]⟩,Value.string ⟨#[]⟩] 0 row1 (w.drew.setRow g row1) (setRow_heap _ _ cur row1 _ _ (show w.drew.heap[g]? = _ from hh)) (by simp;omega) (fun u hu=>by simp at hu;rcases hu with rfl|rfl <;> rfl)
  simp only[Nat.add_zero]at kE
  rw[show [Value.string ⟨#[]⟩,Value.string ⟨#[]⟩].length=2 from rfl,←Gj]at kE
  have pT:(Builtin.zeroCells (Value.agg #[.string ⟨#[]⟩,.string ⟨#[]⟩]).cells 1).toList=[Value.string ⟨#[]⟩,Value.string ⟨#[]⟩]:=by kernel_rfl
  simp[Builtin.clear_,run_underlying Tryz.underlying44,pT,kE]
 have Hn:∀W:World,W.heap=((w.setRow g row1).setRow g row2).heap→W.os=w.os→W.tape=w.tape→W.output=w.output→Qma W base (.slice (some ⟨g,0,none⟩) (ps.length-1) cap) (Qlj ps k)∧Qaa (fun b=>(Value.slice (some ⟨g,0,none⟩) ps.length cap).ownBlock=some b) w W:=fun W hW h1 h2 h3=>by
  refine⟨⟨⟨by rw[g8.out,hlen];simp[jw];omega,.inr ⟨g,cap,row2,by rw[hlen],hb,?_,by omega,by unfold maxLen;omega,GB,?_⟩⟩,Ke.out⟩,h1,h2,h3,?_,?_⟩
  ·rw[hW];exact setRow_heap _ g row1 row2 _ _ (setRow_heap w g cur row1 _ _ hh)
  ·rw[hlen,g8.out,GC]
  ·rw[hW];simp
  ·intro j hj hn
   have sI:j≠g:=fun e=>hn (by rw[e];rfl)
   rw[hW,setRow_other _ g j _ sI,setRow_other _ g j _ sI]
 have mixed:Tryz.prog.follows Departure.mixedOrders=true:=by kernel_rfl
 have cA:∀j,j<(xs.drop ((k+1)*2)).length→(w.drew.cell? ⟨g,0+k*2+j,none⟩).isSome=true∧w.drew.frozen? ⟨g,0+k*2+j,none⟩=false:=fun j hj=>by
  refine⟨?_,hH.free _⟩
  rw[show w.drew.cell? ⟨g,0+k*2+j,none⟩=w.cell? ⟨g,0+k*2+j,none⟩from rfl,hH.cell]
  simp
  omega
 have aj:∀j u,(xs.drop ((k+1)*2))[j]? = some u→w.drew.cell? ((⟨g,(k+1)*2,none⟩:Addr).add j)=some u:=fun j u hj=>by
  rw[Addr.add_lit]
  exact jh _ u (by rwa [List.getElem?_drop]at hj)
 have gX:=hid Hn
 have ma:=hid gN
 have Aw:=hid ie
 have qE:=hid cA
 have ws:=hid aj
 have BX:=hid rT
 have qr:=hid Ma
 have gz:((k:Int)+1).toNat=k+1:=by omega
 have gJ:(0:Int)≤(k:Int)+1:=by omega
 have Hy:(k:Int)+1≤(ps.length:Int):=by omega
 have gA:¬((k:Int)=(k:Int)+1):=by omega
 have Gl:k+(ps.length-(k+1))=ps.length-1:=by omega
 have da:ps.length-(ps.length-1)=1:=by omega
 have hnil:cap=k+1→xs.drop ((k+1)*2)=[]:=fun e=>List.drop_eq_nil_of_le (by omega)
 have JQ:=hid hnil
 clear hr mj Hn gN ko GB GC Kv Gj ht hs jh hH hh cA aj rT Ma hnil ie
 have GV:k≤cap:=by omega
 by_cases pu:cap=k+1
 ·have gU:ps.length=k+1:=by omega
  have hz:(xs.drop ((k+1)*2)).length=0*2:=by rw[JQ.out pu];rfl
  have iV:∀j u,(xs.drop ((k+1)*2))[j]? = some u→w.drew.cell? ((⟨g,0,none⟩:Addr).add j)=some u:=fun j u hj=>by rw[JQ.out pu]at hj;simp at hj
  have HZ:=hid hz
  have qF:=hid iV
  have k5:(k:Int)≤(k:Int)+1:=by omega
  have bM:=gX.out
  have K7:=ma.out
  subst pu
  rw[gU,show k+1-1=k from rfl]at bM K7
  have B3:=hid bM
  have oz:=hid K7
  clear hz iV bM K7 ma gX
  go_enter Tryz.func119,Tryz.ntmps119
  go_wp2_with fail
  go_region_law_o (refine step_append_room rfl (.tmp 22) (.tmp 25) 44 rfl 49 i0 2 Tryz.underlying44 Kp Hp g 0 k (k+1) (by simp[Act.eval,Act.put]) ⟨g,0,none⟩ 0 0 (xs.drop ((k+1)*2)) (by simp[Act.eval,Act.put]) HZ.out qF.out qr.out (by omega) qE.out ?_;rw[Aw.out,Nat.add_zero])
  go_wp2_with (simp only[oz.out])
  go_ret
  exact⟨_,rfl,B3.out _ rfl rfl rfl rfl⟩
 ·have hcn':¬(k+1=cap):=fun e=>pu e.symm
  have eJ:¬(cap=ps.length-1):=by omega
  go_enter Tryz.func119,Tryz.ntmps119
  go_wp2_with fail
  go_region_law_o (refine step_append_room rfl (.tmp 22) (.tmp 25) 44 rfl 49 i0 2 Tryz.underlying44 Kp Hp g 0 k cap (by simp[Act.eval,Act.put]) ⟨g,(k+1)*2,none⟩ (ps.length-(k+1)) (cap-(k+1)) (xs.drop ((k+1)*2)) (by simp[Act.eval,Act.put]) BX.out ws.out qr.out (by omega) qE.out ?_;rw[Aw.out,Gl])
  go_wp2_with (simp only[ma.out])
  go_ret
  exact⟨_,rfl,gX.out _ rfl rfl rfl rfl⟩
end Go.Proofs.YtgaboghigefgbaaGreatDoor
namespace Go.Proofs.YtgaboghigefgbaaGreatDoor
open Go.Lib (hid)
open Go.RowKit Go.Lib
set_option maxRecDepth 100000 in
theorem QOk(base N:Nat)(v:Value)(ps:List Qla)(i:Nat)(p:Qla)(w:World)(hr:Qma w base v ps)(hi:i≤ps.length)(hl:ps.length≤1000)(hN:Holds w N #[.string p.name,.string p.value] 49)(Hm:v.ownBlock≠some N)(hp:QFe p)(gi:base≤w.heap.size) :
 Calls Tryz.prog 117 #[v,.int .i64 i,.slice (some ⟨N,0,none⟩) 1 1] w fun e w'=>∃v',e = .returned v'∧Qma w' base v' (QJo ps i p)∧Qaa (fun g=>v.ownBlock=some g) w w':=by
 obtain⟨i0,Kp,H4,Hp,gj⟩:=info_parts Q4f
 have K9:∀j u,([.string p.name,.string p.value]:List Value)[j]? = some u→w.cell? ((⟨N,0,none⟩:Addr).add j)=some u:=fun j u hj=>by
  rw[Addr.add_lit,Nat.zero_add,hN.cell j];simpa using hj
 have Ma:∀u∈([.string p.name,.string p.value]:List Value),u.oneCell'=true:=fun u hu=>by simp at hu;rcases hu with rfl|rfl <;> rfl
 have mj:∀q∈QJo ps i p,QFe q:=fun q hq=>by
  rcases Qor hq with h|h
  ·exact hr.2 q h
  ·rw[h];exact hp
 have Ke:=hid mj
 have g8:=hid (QJn ps i p)
 have hlen:=Qnr p hi
 by_cases kM:i=ps.length
 ·subst kM
  obtain⟨va,vc,rfl⟩:=Qea hr.1
  have HR:=hid hr
  have HC:=hid K9
  clear hr mj K9
  by_cases hvc:vc=ps.length
  all_goals try subst hvc
  all_goals
   go_enter Tryz.func117,Tryz.ntmps117
   go_wp2_with (at_builtin;refine wpList_append_own _ rfl _ _ 44 rfl base 49 i0 (.agg #[.string ⟨#[]⟩,.string ⟨#[]⟩]) 2 32 Tryz.underlying44 Kp H4 Hp gj rfl (by decide) _ ps.length (Qga ps) rfl (by exact HR.out.1) ⟨N,0,none⟩ 1 1 [.string p.name,.string p.value] rfl rfl HC.out Ma (by unfold maxLen;omega) (by omega) gi ?_)
   intro v' w5 Hg Hd _
   go_wp2_with fail
   go_ret
   refine⟨_,rfl,⟨?_,Ke.out⟩,Qaa.of_grown Hd (fun _ e=>e)⟩
   rw[g8.out,hlen,List.take_of_length_le (by rw[Q9a];omega),List.drop_eq_nil_of_le (by rw[Q9a];omega),List.append_nil]
   exact Hg
 ·have yv:i<ps.length:=by omega
  rcases hr.1.2 with⟨_,h0⟩|⟨g,cap,cur,rfl,hb,hh,hc,hm,hs,ht⟩
  ·omega
  have Bt:g≠N:=fun e=>Hm (by rw[e];rfl)
  have jw:=Q9a ps
  have H5:=QSb ps
  have HH:=hid hh
  unfold maxLen at hm
  have jj:g<w.heap.size:=lt_of_block hh
  have jh:∀j u,(Qga ps)[j]? = some u→w.cell? ⟨g,j,none⟩=some u:=fun j u hj=>by
   have hH:Holds w g cur 49:=hh
   have Gu:j<(Qga ps).length:=(List.getElem?_eq_some_iff.1 hj).1
   rw[hH.cell j,←hj,←ht,List.getElem?_take_of_lt (by omega)];simp
  generalize hxs:Qga ps=xs at *
  have hsz:(Tryz.prog.info? 49).map (·.size)=some 2:=by rw[Kp];simp[Hp]
  have hiz:¬((i:Int)=(ps.length:Int)):=by omega
  have jv:IntKind.i64.wrap ((ps.length:Int)+1)=(ps.length:Int)+1:=by rw[IntKind.wrap_i64];omega
  have Je:IntKind.i64.wrap ((i:Int)+1)=(i:Int)+1:=by rw[IntKind.wrap_i64];omega
  have rT:(xs.drop (i*2)).length=(ps.length-i)*2:=by rw[List.length_drop,jw];omega
  have tq:Nat.min (ps.length+1-i) (ps.length-i)=ps.length-i:=by simp only[Nat.min_def];split <;> omega
  have tr:Nat.min (ps.length-i) (ps.length-i)=ps.length-i:=by simp only[Nat.min_def];split <;> omega
  have iC:Nat.min 1 (ps.length+1-i)=1:=by simp only[Nat.min_def];split <;> omega
  have jH:N<w.heap.size:=hN.lt
  by_cases Ku:ps.length+1≤cap
  ·have vw:=hid (Qlm cur.toList [Value.string p.name,Value.string p.value] xs (i*2) (ps.length*2) rfl ht (by simp;omega) (by omega))
   obtain⟨cur1,Js⟩:∃x:Array Value,x=(cur.toList.take (i*2+2)++xs.drop (i*2)++cur.toList.drop (i*2+2+(xs.drop (i*2)).length)).toArray:=⟨_,rfl⟩
   obtain⟨cur2,Jt⟩:∃x:Array Value,x=(cur1.toList.take (i*2)++[Value.string p.name,Value.string p.value]++cur1.toList.drop (i*2+2)).toArray:=⟨_,rfl⟩
   have ko:cur1.size=cap*2:=by rw[Js];simp;omega
   have GB:cur2.size=cap*2:=by rw[Jt];simp;omega
   have GC:cur2.toList.take ((ps.length+1)*2)=xs.take (i*2)++[.string p.name,.string p.value]++xs.drop (i*2):=by
    rw[Jt,Js,show(ps.length+1)*2=ps.length*2+2 from by omega];exact vw.out
   have rO:∀(W:World),W.heap=w.heap→∀ty dc sc,(Builtin.copy_ #[44,44] ty #[.slice (some ⟨g,(i+1)*2,none⟩) (ps.length-i) dc,.slice (some ⟨g,i*2,none⟩) (ps.length+1-i) sc]).run Tryz.prog W = .ok (goInt ((ps.length-i:Nat):Int)) (W.setRow g cur1):=fun W hW ty dc sc=>by
    rw[Js,show i*2+2=(i+1)*2 from by omega]
    exact Q6c W _ _ ty 49 2 g ((i+1)*2) (ps.length-i) dc ⟨g,i*2,none⟩ (ps.length+1-i) sc cur 49 (xs.drop (i*2)) Tryz.underlying44 hsz (by rw[hW];exact HH.out) (ps.length-i) tq rT
     (fun j u hj=>by
      rw[Addr.add_lit,World.cell?_of_block (w:=w) (by rw[hW])]
      exact jh _ u (by rwa [List.getElem?_drop]at hj)) (by omega) (fun u hu=>H5 u (List.mem_of_mem_drop hu))
   have rP:∀(W:World),W.heap=(w.setRow g cur1).heap→∀ty dc,(Builtin.copy_ #[44,44] ty #[.slice (some ⟨g,i*2,none⟩) (ps.length+1-i) dc,.slice (some ⟨N,0,none⟩) 1 1]).run Tryz.prog W = .ok (goInt 1) (W.setRow g cur2):=fun W hW ty dc=>by
    rw[Jt]
    exact Q6c W _ _ ty 49 2 g (i*2) (ps.length+1-i) dc ⟨N,0,none⟩ 1 1 cur1 49 [.string p.name,.string p.value] Tryz.underlying44 hsz (by rw[hW];exact setRow_heap w g cur cur1 _ _ HH.out) 1 iC rfl
     (fun j u hj=>by
      rw[World.cell?_of_block (w:=w) (by rw[hW,Addr.add_lit];exact setRow_other w g N cur1 (Ne.symm Bt))]
      exact K9 j u hj) (by simp;omega) Ma
   have mm:∀lb cb,(callFunc 155 #[.slice (some ⟨N,0,none⟩) 1 1,.slice (some ⟨g,(i+1)*2,none⟩) lb cb]).run Tryz.prog w = .ok (.value (.bool false)) w:=fun lb cb=>by
    rw[run_callFunc_extern Tryz.func155 (by kernel_rfl) (by kernel_rfl) (by kernel_rfl) (e:=Extern.SlicesOverlaps.overlaps #[44,44] #[4]) (by kernel_rfl),
     Lib.run_overlaps_apart w 44 4 49 Tryz.underlying44 2 Tryz.sizeOf49 ⟨N,0,none⟩ ⟨g,(i+1)*2,none⟩ 1 1 lb cb (Ne.symm Bt) 49 49 2 cur.size
      (by unfold World.shape?;rw[hN.out];rfl) (by unfold World.shape?;rw[HH.out]) (by omega) (hN.free 0) (hN.free 2)]
    rfl
   have Hb:(0:Int)≤(i:Int)+1:=by omega
   have cD:((i:Int)+1).toNat=i+1:=by omega
   have Hc:¬(cap=i+1):=by omega
   have Hi:(i:Int)≤(ps.length:Int)+1:=by omega
   have Hu:¬(cap=i):=by omega
   have Hn:∀(W:World),W.heap=((w.setRow g cur1).setRow g cur2).heap→W.os=w.os→W.tape=w.tape→W.output=w.output→Qma W base (.slice (some ⟨g,0,none⟩) (ps.length+1) cap) (QJo ps i p)∧Qaa (fun b=>(Value.slice (some ⟨g,0,none⟩) ps.length cap).ownBlock=some b) w W:=fun W hW h1 h2 h3=>by
    refine⟨⟨⟨by rw[g8.out,hlen,←hxs]at *;simp[jw];omega,.inr ⟨g,cap,cur2,by rw[hlen],hb,?_,by omega,by unfold maxLen;omega,GB,?_⟩⟩,Ke.out⟩,h1,h2,h3,?_,?_⟩
    ·rw[hW];exact setRow_heap _ g cur1 cur2 _ _ (setRow_heap w g cur cur1 _ _ HH.out)
    ·rw[hlen,g8.out,GC]
    ·rw[hW];simp
    ·intro k hk hn
     have sI:k≠g:=fun e=>hn (by rw[e];rfl)
     rw[hW,setRow_other _ g k _ sI,setRow_other _ g k _ sI]
   have mixed:Tryz.prog.follows Departure.mixedOrders=true:=by kernel_rfl
   have gX:=hid Hn
   have BQ:=hid (fun ty dc sc=>rO w.drew rfl ty dc sc)
   have oz:=hid (fun ty dc=>rP (w.drew.setRow g cur1) rfl ty dc)
   clear hr mj Hn rO rP ko GB GC Js Jt ht hs jh K9
   go_enter Tryz.func117,Tryz.ntmps117
   go_wp2_with (simp only[mm])
   go_region_law_o (refine step_copy_runI rfl _ _ 44 44 rfl (.slice (some ⟨g,(i+1)*2,none⟩) (ps.length-i) (cap-(i+1))) (.slice (some ⟨g,i*2,none⟩) (ps.length+1-i) (cap-i)) (by simp[Act.eval,Act.put]) (by simp[Act.eval,Act.put]) (BQ.out _ _ _) ?_)
   go_wp2_with (simp only[oz.out])
   go_ret
   exact⟨_,rfl,gX.out _ rfl rfl rfl rfl⟩
  ·have pu:cap=ps.length:=by omega
   subst pu
   have bR:i+(ps.length+1-i)=ps.length+1:=by omega
   have j3:(ps.length:Int)+1-(i:Int)=((ps.length+1-i:Nat):Int):=by omega
   have tJ:(Builtin.firstCells i0.size i (.slice (some ⟨g,0,none⟩) i ps.length)).run Tryz.prog w.drew = .ok (xs.take (i*2)).toArray w.drew:=by
    rw[Hp]
    exact run_firstCells_some w.drew 2 i ⟨g,0,none⟩ i ps.length (xs.take (i*2)) (by rw[List.length_take];omega) (fun j u hj=>by
     rw[Addr.add_lit,Nat.zero_add]
     rw[List.getElem?_take]at hj
     split at hj
     ·exact jh j u hj
     ·cases hj)
   obtain⟨G,hG⟩:∃G,G=grownCap w (ps.length+1) ps.length 49:=⟨_,rfl⟩
   obtain⟨ROW,dY⟩:∃R:Array Value,R=(xs.take (i*2)).toArray++Builtin.zeroCells (Value.agg #[.string ⟨#[]⟩,.string ⟨#[]⟩]).cells (ps.length+1-i)++Builtin.zeroCells (Value.agg #[.string ⟨#[]⟩,.string ⟨#[]⟩]).cells (G-(ps.length+1)):=⟨_,rfl⟩
   have KS:∀ty,(Builtin.append_ #[44,3] ty #[.slice (some ⟨g,0,none⟩) i ps.length,.int .i64 ((ps.length:Int)+1-(i:Int))]).run Tryz.prog w =
    .ok (.slice (some ⟨w.heap.size,0,none⟩) (ps.length+1) G) (w.drew.alloc (.cells ROW 49)):=fun ty=>by
    have h:=Lib.run_append_grow_zeros w 44 3 ty 49 i0 _ .i64 .i64 Tryz.underlying44 Tryz.underlying3 Kp H4 (some ⟨g,0,none⟩) i ps.length (xs.take (i*2)) tJ (ps.length+1-i) (by omega) (by omega) (by omega) (by omega) (by rw[gj];omega) (by rw[gj,bR];exact growslice_fits (by omega) (by omega))
    rw[bR]at h
    rw[j3,dY,hG]
    exact h
   have hGn:ps.length+1≤G:=by rw[hG];exact grownCap_ge w _ _ _
   have hG63:G≤9223372036854775807:=by
    have:=grownCap_le_maxLen w (ps.length+1) ps.length 49 (by unfold maxLen;omega)
    rw[←hG]at this
    unfold maxLen at this
    omega
   have CS:ROW.size=G*2:=by
    rw[dY]
    simp[Builtin.zeroCells,Value.cells]
    omega
   have A9:ROW.toList.take (i*2)=xs.take (i*2):=by
    rw[dY]
    simp only[Array.toList_append,List.append_assoc]
    rw[List.take_append_of_le_length (by simp;omega),List.take_of_length_le (by simp;omega)]
   have vw:=hid (QIn ROW.toList [Value.string p.name,Value.string p.value] xs (i*2) (ps.length*2) rfl A9 jw (by simp;omega) (by omega))
   clear dY tJ bR hG
   obtain⟨row1,Kv⟩:∃x:Array Value,x=(ROW.toList.take (i*2)++[Value.string p.name,Value.string p.value]++ROW.toList.drop (i*2+2)).toArray:=⟨_,rfl⟩
   obtain⟨row2,Gj⟩:∃x:Array Value,x=(row1.toList.take (i*2+2)++xs.drop (i*2)++row1.toList.drop (i*2+2+(xs.drop (i*2)).length)).toArray:=⟨_,rfl⟩
   have ko:row1.size=G*2:=by rw[Kv];simp;omega
   have GB:row2.size=G*2:=by rw[Gj];simp;omega
   have GC:row2.toList.take ((ps.length+1)*2)=xs.take (i*2)++[.string p.name,.string p.value]++xs.drop (i*2):=by
    rw[Gj,Kv,show(ps.length+1)*2=ps.length*2+2 from by omega];exact vw.out
   have ym:g<w.heap.size:=jj
   have hA:∀W:World,W.heap=(w.alloc (.cells ROW 49)).heap→W.heap[w.heap.size]? = some (.cells ROW 49 (0,0)):=fun W hW=>by rw[hW];exact heap_alloc_new w _
   have rQ:∀(W:World),W.heap=(w.alloc (.cells ROW 49)).heap→∀ty dc,(Builtin.copy_ #[44,44] ty #[.slice (some ⟨w.heap.size,i*2,none⟩) (ps.length+1-i) dc,.slice (some ⟨N,0,none⟩) 1 1]).run Tryz.prog W = .ok (goInt 1) (W.setRow w.heap.size row1):=fun W hW ty dc=>by
    rw[Kv]
    exact Q6c W _ _ ty 49 2 w.heap.size (i*2) (ps.length+1-i) dc ⟨N,0,none⟩ 1 1 ROW 49 [.string p.name,.string p.value] Tryz.underlying44 hsz (hA W hW) 1 iC rfl
     (fun j u hj=>by
      rw[World.cell?_of_block (w:=w) (by rw[hW,Addr.add_lit];exact heap_alloc_old w _ jH)]
      exact K9 j u hj) (by simp;omega) Ma
   have rR:∀(W:World),W.heap=((w.alloc (.cells ROW 49)).setRow w.heap.size row1).heap→∀ty dc sc,(Builtin.copy_ #[44,44] ty #[.slice (some ⟨w.heap.size,(i+1)*2,none⟩) (ps.length-i) dc,.slice (some ⟨g,i*2,none⟩) (ps.length-i) sc]).run Tryz.prog W = .ok (goInt ((ps.length-i:Nat):Int)) (W.setRow w.heap.size row2):=fun W hW ty dc sc=>by
    rw[Gj,show i*2+2=(i+1)*2 from by omega]
    exact Q6c W _ _ ty 49 2 w.heap.size ((i+1)*2) (ps.length-i) dc ⟨g,i*2,none⟩ (ps.length-i) sc row1 49 (xs.drop (i*2)) Tryz.underlying44 hsz (by rw[hW];exact setRow_heap _ _ ROW row1 _ _ (hA _ rfl)) (ps.length-i) tr rT
     (fun j u hj=>by
      rw[Addr.add_lit,World.cell?_of_block (w:=w) (by rw[hW];exact(setRow_other _ _ g row1 (by omega)).trans (heap_alloc_old w _ ym))]
      exact jh _ u (by rwa [List.getElem?_drop]at hj)) (by omega) (fun u hu=>H5 u (List.mem_of_mem_drop hu))
   have Hn:∀(W:World),W.heap=(((w.alloc (.cells ROW 49)).setRow w.heap.size row1).setRow w.heap.size row2).heap→W.os=w.os→W.tape=w.tape→W.output=w.output→Qma W base (.slice (some ⟨w.heap.size,0,none⟩) (ps.length+1) G) (QJo ps i p)∧Qaa (fun b=>(Value.slice (some ⟨g,0,none⟩) ps.length ps.length).ownBlock=some b) w W:=fun W hW h1 h2 h3=>by
    refine⟨⟨⟨by rw[g8.out,hlen];simp[jw];omega,.inr ⟨w.heap.size,G,row2,by rw[hlen],gi,?_,by omega,by unfold maxLen;omega,GB,?_⟩⟩,Ke.out⟩,h1,h2,h3,?_,?_⟩
    ·rw[hW];exact setRow_heap _ _ row1 row2 _ _ (setRow_heap _ _ ROW row1 _ _ (hA _ rfl))
    ·rw[hlen,g8.out,GC]
    ·rw[hW];simp
    ·intro k hk hn
     rw[hW,setRow_other _ _ k _ (by omega),setRow_other _ _ k _ (by omega)]
     exact heap_alloc_old w _ hk
   have mixed:Tryz.prog.follows Departure.mixedOrders=true:=by kernel_rfl
   have gX:=hid Hn
   have Cr:=hid KS
   have BT:=hid (fun ty dc=>rQ ((w.alloc (.cells ROW 49)).drew) rfl ty dc)
   have zP:=hid (fun ty dc sc=>rR (((w.alloc (.cells ROW 49)).drew.setRow w.heap.size row1).drew) rfl ty dc sc)
   have hGi:¬(G=i):=by omega
   have hGim:¬(G=i+1):=by omega
   have c8:¬(ps.length=i):=by omega
   have Hb:(0:Int)≤(i:Int)+1:=by omega
   have cD:((i:Int)+1).toNat=i+1:=by omega
   have Hi:(i:Int)≤(ps.length:Int):=by omega
   clear hr mj Hn rQ rR KS ko GB GC Kv Gj ht hs jh K9 hA vw CS A9 j3
   go_enter Tryz.func117,Tryz.ntmps117
   go_wp2_with (first
    | (at_builtin;refine Lib.wpList_append_run _ rfl _ _ _ _ rfl _ _ rfl rfl _ _ (Cr.out _) ?_)
    | (simp only[BT.out])
    | (simp only[zP.out]))
   go_region_law_o (refine step_copy_runI rfl _ _ 44 44 rfl (.slice (some ⟨w.heap.size,(i+1)*2,none⟩) (ps.length-i) (G-(i+1))) (.slice (some ⟨g,i*2,none⟩) (ps.length-i) (ps.length-i)) (by simp[Act.eval,Act.put]) (by simp[Act.eval,Act.put]) (zP.out _ _ _) ?_)
   go_wp2_with fail
   go_ret
   exact⟨_,rfl,gX.out _ rfl rfl rfl rfl⟩
end Go.Proofs.YtgaboghigefgbaaGreatDoor
