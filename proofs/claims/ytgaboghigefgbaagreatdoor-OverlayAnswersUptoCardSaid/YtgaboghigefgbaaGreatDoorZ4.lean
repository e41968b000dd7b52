/- Lemmas on the way to the law; no conditions. -/
import Derived.Test.YtgaboghigefgbaaGreatDoorZ3
import Derived.Lib.SmallJoins
import Derived.Deep.Slices
import Derived.Deep.Fields
set_option linter.all false
set_option maxRecDepth 100000
namespace Go.Proofs.YtgaboghigefgbaaGreatDoor
open Go.Proofs.Tryz
open Go.RowKit Go.Joins Go.ChangeShapes Go.WideShapes Go.Deep
section
theorem Q1u:prog.cellsOf 9=1:=by kernel_rfl
theorem Qev:prog.cellsOf 3=1:=by kernel_rfl
theorem QTu:prog.cellsOf 44=1:=by kernel_rfl
theorem QQu:prog.cellsOf 25=1:=by kernel_rfl
theorem Q0u:prog.cellsOf 49=2:=by kernel_rfl
theorem QZu:prog.cellsOf 46=3:=by kernel_rfl
theorem Qfv:prog.cellsOf 27=1:=by kernel_rfl
section
variable{H:Type}{enc:TypeId × Value→H}{w:World}{base n:Nat}{spare:Nat→Bool}{held:Bool}{y:DataW H × List MemPlace}
theorem Qyq{α:Type}{cs:List α}(h:cs.length=2):∃a b,cs=[a,b]:=by
 match cs,h with
 | [a,b],_=>exact⟨a,b,rfl⟩
theorem Q4k{α:Type}{cs:List α}(h:cs.length=3):∃a b c,cs=[a,b,c]:=by
 match cs,h with
 | [a,b,c],_=>exact⟨a,b,c,rfl⟩
theorem Qxq{α:Type}{cs:List α}(h:cs.length=1):∃a,cs=[a]:=by
 match cs,h with
 | [a],_=>exact⟨a,rfl⟩
theorem Qpq{cs:List Value}{x:DataW H × List MemPlace}(h:DataW.trod enc prog w base spare held n 49 cs=some x):∃p:Qqa,cs=[.string p.name,.string p.value]∧p.name.size≤9223372036854775807∧p.value.size≤9223372036854775807:=by
 obtain⟨ys,m,_,_,hl,mZ,hf⟩:=DataW.trod_struct underlying49 h;rw[Q0u]at hl;obtain⟨v0,v1,rfl⟩:=Qyq hl;obtain⟨y0,y1,rfl⟩:=Qyq mZ;have h0:DataW.trod enc prog w base spare held m 9 (([v0,v1].drop 0).take (prog.cellsOf 9))=some y0:=hf 0 _ rfl;have h1:DataW.trod enc prog w base spare held m 9 (([v0,v1].drop 1).take (prog.cellsOf 9))=some y1:=hf 1 _ rfl;rw[Q1u]at h0 h1;obtain⟨s,e0,-,b0⟩:=DataW.trod_string underlying9 h0;obtain⟨t,e1,-,b1⟩:=DataW.trod_string underlying9 h1;simp at e0 e1;unfold maxLen at b0 b1;exact⟨⟨s,t⟩,by rw[e0,e1],by show s.size≤_;omega,by show t.size≤_;omega⟩
theorem Qpo{v:Value}(h:DataW.trod enc prog w base spare held n 44 [v]=some y):∃ps,QAa (fun g=>g<w.heap.size) w v ps:=by
 rcases open_slice underlying44 h with⟨Hw,_⟩|⟨a,len,cap,m,k,D,Pl,Hw,hb,hl,hm,lG,hx,hi⟩
 ·simp at Hw;exact⟨[],none,0,Hw,by simp,by omega,fun h=>absurd h (Nat.lt_irrefl _)⟩
 simp at Hw;have mW:len≤m:=by rw[lG];split <;> omega
 have key:∀i:Fin len,∃p:Qqa,w.cell? (a.add (i.1*2))=some (.string p.name)∧w.cell? (a.add (i.1*2+1))=some (.string p.value)∧p.name.size≤9223372036854775807∧p.value.size≤9223372036854775807:=by
  intro i;obtain⟨cs',hc,ht'⟩:=hi i.1 (by have:=i.2;omega);rw[Q0u]at hc;obtain⟨p,rfl,b0,b1⟩:=Qpq ht';obtain⟨_,gG,gj⟩:=World.cells?_some hc;have c0:=gj 0 (by omega);have c1:=gj 1 (by omega);rw[Go.Deep.add_add]at c0 c1;exact⟨p,c0,c1,b0,b1⟩
 obtain⟨f,hf⟩:=Classical.skolem.1 key;refine⟨List.ofFn f,some a,cap,by rw[Hw,List.length_ofFn],by rw[List.length_ofFn];exact hl,by unfold maxLen at hm;omega,fun h0=>?_⟩;rw[List.length_ofFn]at h0;obtain⟨g,o,sp⟩:=a;have c0:=(hf ⟨0,h0⟩).1;have iF:sp=none:=by simpa[Addr.add]using World.cell?_spot c0
 subst iF;refine⟨g,o,rfl,?_,fun j hj=>?_⟩
 ·rw[Addr.add_lit]at c0;exact World.block_lt_of_cell? w _ c0
 have hj':j<len:=by rw[List.length_ofFn]at hj;exact hj
 obtain⟨d0,d1,b0,b1⟩:=hf ⟨j,hj'⟩;rw[Addr.add_lit]at d0 d1;rw[List.getElem_ofFn];exact⟨d0,by rw[Nat.add_assoc];exact d1,b0,b1⟩
theorem Q5p{cs:List Value}{x:DataW H × List MemPlace}(h:DataW.trod enc prog w base spare held n 46 cs=some x):∃(nd:Qba) (pv:Value),cs=[.int .i64 nd.parent,.string nd.name,pv]∧QAa (fun g=>g<w.heap.size) w pv nd.props∧nd.name.size≤9223372036854775807∧-9223372036854775808≤nd.parent∧nd.parent≤9223372036854775807:=by
 obtain⟨ys,m,_,_,hl,mZ,hf⟩:=DataW.trod_struct underlying46 h;rw[QZu]at hl;obtain⟨v0,v1,v2,rfl⟩:=Q4k hl;obtain⟨y0,y1,y2,rfl⟩:=Q4k mZ;have h0:DataW.trod enc prog w base spare held m 3 (([v0,v1,v2].drop 0).take (prog.cellsOf 3))=some y0:=hf 0 _ rfl;have h1:DataW.trod enc prog w base spare held m 9 (([v0,v1,v2].drop 1).take (prog.cellsOf 9))=some y1:=hf 1 _ rfl;have h2:DataW.trod enc prog w base spare held m 44 (([v0,v1,v2].drop 2).take (prog.cellsOf 44))=some y2:=hf 2 _ rfl;rw[Qev]at h0;rw[Q1u]at h1;rw[QTu]at h2;obtain⟨q,e0,-,b0⟩:=DataW.trod_int underlying3 h0;obtain⟨s,e1,-,b1⟩:=DataW.trod_string underlying9 h1;obtain⟨ps,hp⟩:=Qpo h2;simp at e0 e1;unfold maxLen at b1;have hq:-9223372036854775808≤q∧q≤9223372036854775807:=by
  simp[Lit.wf,IntKind.min,IntKind.max,IntKind.signed,IntKind.bits]at b0;exact b0
 exact⟨⟨q,s,ps⟩,v2,by rw[e0,e1],hp,by show s.size≤_;omega,hq.1,hq.2⟩
theorem Q7n{v:Value}(h:DataW.trod enc prog w base spare held n 25 [v]=some y):∃T,Qoa (fun g=>g<w.heap.size) w v T:=by
 rcases open_slice underlying25 h with⟨Hw,_⟩|⟨a,len,cap,m,k,D,Pl,Hw,hb,hl,hm,lG,hx,hi⟩
 ·simp at Hw;exact⟨[],none,0,Hw,by simp,by omega,fun h=>absurd h (Nat.lt_irrefl _)⟩
 simp at Hw;have mW:len≤m:=by rw[lG];split <;> omega
 have key:∀i:Fin len,∃nd:Qba,∃pv,w.cell? (a.add (i.1*3))=some (.int .i64 nd.parent)∧w.cell? (a.add (i.1*3+1))=some (.string nd.name)∧w.cell? (a.add (i.1*3+2))=some pv∧QAa (fun g=>g<w.heap.size) w pv nd.props∧nd.name.size≤9223372036854775807∧-9223372036854775808≤nd.parent∧nd.parent≤9223372036854775807:=by
  intro i;obtain⟨cs',hc,ht'⟩:=hi i.1 (by have:=i.2;omega);rw[QZu]at hc;obtain⟨nd,pv,rfl,r⟩:=Q5p ht';obtain⟨_,gG,gj⟩:=World.cells?_some hc;have c0:=gj 0 (by omega);have c1:=gj 1 (by omega);have c2:=gj 2 (by omega);rw[Go.Deep.add_add]at c0 c1 c2;exact⟨nd,pv,c0,c1,c2,r⟩
 obtain⟨f,hf⟩:=Classical.skolem.1 key;refine⟨List.ofFn f,some a,cap,by rw[Hw,List.length_ofFn],by rw[List.length_ofFn];exact hl,by unfold maxLen at hm;omega,fun h0=>?_⟩;rw[List.length_ofFn]at h0;obtain⟨g,o,sp⟩:=a;obtain⟨_,c0,_⟩:=hf ⟨0,h0⟩;have iF:sp=none:=by simpa[Addr.add]using World.cell?_spot c0
 subst iF;refine⟨g,o,rfl,?_,fun j hj=>?_⟩
 ·rw[Addr.add_lit]at c0;exact World.block_lt_of_cell? w _ c0
 have hj':j<len:=by rw[List.length_ofFn]at hj;exact hj
 obtain⟨pv,d0,d1,d2,r⟩:=hf ⟨j,hj'⟩;rw[Addr.add_lit]at d0 d1 d2;rw[List.getElem_ofFn];exact⟨pv,d0,by rw[Nat.add_assoc];exact d1,by rw[Nat.add_assoc];exact d2,r⟩
theorem QYq{r:Reach}{b0:Nat}{v:Value}{d:DataW H}{p:List MemPlace}(hv:Value.okWide prog w r b0 27 v)(h:DataW.Trod enc prog w base spare held 27 v d p) :
 ∃a cap T,v=.agg #[.slice a (List.length T) cap]∧Qoa (fun g=>g<w.heap.size) w (.slice a (List.length T) cap) T:=by
 obtain⟨cs,rfl,hsz⟩:=okWide_struct underlying27 hv;rw[Qfv]at hsz;obtain⟨l⟩:=cs;obtain⟨v0,rfl⟩:=Qxq (cs:=l) hsz;obtain⟨fuel,hf⟩:=h;obtain⟨ys,m,_,_,hl,mZ,hf⟩:=DataW.trod_struct underlying27 hf;obtain⟨y0,rfl⟩:=Qxq mZ;have h0:DataW.trod enc prog w base spare held m 25 (([v0].drop 0).take (prog.cellsOf 25))=some y0:=by have:=hf 0 _ rfl;simpa[Value.cells]using this
 rw[QQu]at h0;obtain⟨T,hT⟩:=Q7n (v:=v0) (by simpa[Value.cells]using h0);obtain⟨a,cap,rfl,_,_⟩:=hT.shape;exact⟨a,cap,T,rfl,hT⟩
end
end
section
theorem Qiu:prog.cellsOf 9=1:=by kernel_rfl
theorem QRu:prog.cellsOf 3=1:=by kernel_rfl
theorem Qhu:prog.cellsOf 29=1:=by kernel_rfl
theorem Qgu:prog.cellsOf 39=4:=by kernel_rfl
theorem QSu:prog.cellsOf 31=2:=by kernel_rfl
section
variable{H:Type}{enc:TypeId × Value→H}{w:World}{base n:Nat}{spare:Nat→Bool}{held:Bool}{y:DataW H × List MemPlace}
theorem Qen{α:Type}{cs:List α}(h:cs.length=2):∃a b,cs=[a,b]:=by
 match cs,h with
 | [a,b],_=>exact⟨a,b,rfl⟩
theorem Q3k{α:Type}{cs:List α}(h:cs.length=4):∃a b c d,cs=[a,b,c,d]:=by
 match cs,h with
 | [a,b,c,d],_=>exact⟨a,b,c,d,rfl⟩
theorem Qfk{d:DataW H}{l:List (DataW H)}(h:d∈l):Rows.uptoBulk d≤Rows.uptoBulkAll l:=by
 induction l with
 | nil=>cases h
 | cons x r ih=>
  simp only[Rows.uptoBulkAll];rcases List.mem_cons.1 h with e|e
  ·subst e;omega
  have:=ih e;omega
theorem Qqp{cs:List Value}{x:DataW H × List MemPlace}(h:DataW.trod enc prog w base spare held n 39 cs=some x):∃e:Qga,cs=QOr e∧e.path.size≤Rows.uptoBulk x.1∧e.name.size≤Rows.uptoBulk x.1∧e.value.size≤Rows.uptoBulk x.1:=by
 obtain⟨ys,m,_,hx,hl,mZ,hf⟩:=DataW.trod_struct underlying39 h;rw[Qgu]at hl;obtain⟨v0,v1,v2,v3,rfl⟩:=Q3k hl;obtain⟨y0,y1,y2,y3,rfl⟩:=Q3k mZ;have h0:DataW.trod enc prog w base spare held m 3 (([v0,v1,v2,v3].drop 0).take (prog.cellsOf 3))=some y0:=hf 0 _ rfl;have h1:DataW.trod enc prog w base spare held m 9 (([v0,v1,v2,v3].drop 1).take (prog.cellsOf 9))=some y1:=hf 1 _ rfl;have h2:DataW.trod enc prog w base spare held m 9 (([v0,v1,v2,v3].drop 2).take (prog.cellsOf 9))=some y2:=hf 2 _ rfl;have h3:DataW.trod enc prog w base spare held m 9 (([v0,v1,v2,v3].drop 3).take (prog.cellsOf 9))=some y3:=hf 3 _ rfl;rw[QRu]at h0;rw[Qiu]at h1 h2 h3;obtain⟨q,e0,-,-⟩:=DataW.trod_int underlying3 h0;obtain⟨s,e1,x1,-⟩:=DataW.trod_string underlying9 h1;obtain⟨t,e2,x2,-⟩:=DataW.trod_string underlying9 h2;obtain⟨u,e3,x3,-⟩:=DataW.trod_string underlying9 h3;simp at e0 e1 e2 e3;have hb:s.size≤Rows.uptoBulk x.1∧t.size≤Rows.uptoBulk x.1∧u.size≤Rows.uptoBulk x.1:=by
  rw[hx,x1,x2,x3];simp only[List.map_cons,List.map_nil,Rows.uptoBulk,Rows.uptoBulkAll,Array.length_toList];have z (s:ByteArray):s.data.size=s.size:=rfl;rw[z,z,z];omega
 exact⟨⟨q,s,t,u⟩,by rw[e0,e1,e2,e3];rfl,hb.1,hb.2.1,hb.2.2⟩
theorem QIn{v:Value}(h:DataW.trod enc prog w base spare held n 29 [v]=some y):∃L,QFa w v L∧∀e∈L,e.path.size≤Rows.uptoBulk y.1∧e.name.size≤Rows.uptoBulk y.1∧e.value.size≤Rows.uptoBulk y.1:=by
 rcases open_slice underlying29 h with⟨Hw,_⟩|⟨a,len,cap,m,k,D,Pl,Hw,hb,hl,hm,lG,hx,hi⟩
 ·simp at Hw;exact⟨[],⟨none,0,Hw,by simp,by omega,fun h=>absurd h (Nat.lt_irrefl _)⟩,fun e he=>by cases he⟩
 simp at Hw;have mW:len≤m:=by rw[lG];split <;> omega
 have key:∀i:Fin len,∃p:Qga,(w.cell? (a.add (i.1*4))=some (.int .i64 p.kind)∧w.cell? (a.add (i.1*4+1))=some (.string p.path)∧w.cell? (a.add (i.1*4+2))=some (.string p.name)∧w.cell? (a.add (i.1*4+3))=some (.string p.value))∧p.path.size≤Rows.uptoBulk y.1∧p.name.size≤Rows.uptoBulk y.1∧p.value.size≤Rows.uptoBulk y.1:=by
  intro i;obtain⟨cs',hc,ht'⟩:=hi i.1 (by have:=i.2;omega);rw[Qgu]at hc;obtain⟨p,rfl,b0,b1,b2⟩:=Qqp ht';obtain⟨_,gG,gj⟩:=World.cells?_some hc;have c0:=gj 0 (by omega);have c1:=gj 1 (by omega);have c2:=gj 2 (by omega);have c3:=gj 3 (by omega);rw[Go.Deep.add_add]at c0 c1 c2 c3;have hd:Rows.uptoBulk (D i.1)≤Rows.uptoBulk y.1:=by
   rw[hx];have KF:D i.1∈(List.range len).map D:=List.mem_map_of_mem (List.mem_range.2 i.2);have:=Qfk KF;simp only[Rows.uptoBulk];omega
  exact⟨p,⟨c0,c1,c2,c3⟩,Nat.le_trans b0 hd,Nat.le_trans b1 hd,Nat.le_trans b2 hd⟩
 obtain⟨f,hf⟩:=Classical.skolem.1 key;refine⟨List.ofFn f,⟨some a,cap,by rw[Hw,List.length_ofFn],by rw[List.length_ofFn];exact hl,by unfold maxLen at hm;omega,fun h0=>?_⟩,fun e he=>by
  obtain⟨i,rfl⟩:=(List.mem_ofFn ..).1 he;exact(hf i).2⟩
 rw[List.length_ofFn]at h0;obtain⟨g,o,sp⟩:=a;have c0:=(hf ⟨0,h0⟩).1.1;have iF:sp=none:=by simpa[Addr.add]using World.cell?_spot c0
 subst iF;refine⟨g,o,rfl,?_,fun j hj=>?_⟩
 ·rw[Addr.add_lit]at c0;exact World.block_lt_of_cell? w _ c0
 have hj':j<len:=by rw[List.length_ofFn]at hj;exact hj
 obtain⟨⟨d0,d1,d2,d3⟩,_⟩:=hf ⟨j,hj'⟩;rw[Addr.add_lit]at d0 d1 d2 d3;rw[List.getElem_ofFn];exact⟨d0,by rw[Nat.add_assoc];exact d1,by rw[Nat.add_assoc];exact d2,by rw[Nat.add_assoc];exact d3⟩
theorem QTk{r:Reach}{b0:Nat}{v:Value}{d:DataW H}{p:List MemPlace}(hv:Value.okWide prog w r b0 31 v)(h:DataW.Trod enc prog w base spare held 31 v d p) :
 ∃nm a cap L,v=.agg #[.string nm,.slice a (List.length L) cap]∧QFa w (.slice a (List.length L) cap) L∧nm.size≤Rows.uptoBulk d∧∀e∈L,e.path.size≤Rows.uptoBulk d∧e.name.size≤Rows.uptoBulk d∧e.value.size≤Rows.uptoBulk d:=by
 obtain⟨cs,rfl,hsz⟩:=okWide_struct underlying31 hv;rw[QSu]at hsz;obtain⟨l⟩:=cs;obtain⟨v0,v1,rfl⟩:=Qen (cs:=l) hsz;obtain⟨fuel,hf⟩:=h;obtain⟨ys,m,_,hx,hl,mZ,hf⟩:=DataW.trod_struct underlying31 hf;obtain⟨y0,y1,rfl⟩:=Qen mZ;have h0:DataW.trod enc prog w base spare held m 9 (([v0,v1].drop 0).take (prog.cellsOf 9))=some y0:=by have:=hf 0 _ rfl;simpa[Value.cells]using this
 have h1:DataW.trod enc prog w base spare held m 29 (([v0,v1].drop 1).take (prog.cellsOf 29))=some y1:=by have:=hf 1 _ rfl;simpa[Value.cells]using this
 rw[Qiu]at h0;rw[Qhu]at h1;obtain⟨s,e0,x0,-⟩:=DataW.trod_string underlying9 h0;simp at e0;obtain⟨L,hL,hb⟩:=QIn (v:=v1) (by simpa using h1);obtain⟨a,cap,rfl,_,_⟩:=hL.slice;simp only[Prod.mk.injEq]at hx;have hd:s.size≤Rows.uptoBulk d∧Rows.uptoBulk y1.1≤Rows.uptoBulk d:=by
  rw[hx.1,x0];simp only[List.map_cons,List.map_nil,Rows.uptoBulk,Rows.uptoBulkAll,Array.length_toList];have z (s:ByteArray):s.data.size=s.size:=rfl;rw[z];omega
 exact⟨s,a,cap,L,by rw[e0],hL,hd.1,fun e he=>⟨Nat.le_trans (hb e he).1 hd.2,Nat.le_trans (hb e he).2.1 hd.2,Nat.le_trans (hb e he).2.2 hd.2⟩⟩
end
end
end Go.Proofs.YtgaboghigefgbaaGreatDoor
