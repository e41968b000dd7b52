/- Trees in memory. | Rows of nodes and of properties, as a call makes them. | Trees that a call has made: rows of nodes, each with a row of properties. | Edits in memory. | Siblings with names of their own; what a valid tree has of it, in plain Lean. | Blocks of memory and rows that a call has made. | The tree of the root alone. | Add keeps a valid tree valid, in plain Lean: parts. | Add keeps a valid tree valid, in plain Lean. | How much the properties of a tree take, in plain Lean. -/
import Derived.Test.YtgaboghigefgbaaGreatDoorZ1
import Derived.Test.YtgaboghigefgbaaGreatDoorZ2
import Derived.Laws.OwnMore
set_option linter.all false
namespace Go.Proofs.YtgaboghigefgbaaGreatDoor
open Go.RowKit
def QGa(R:Nat→Prop)(w:World)(v:Value)(ps:List Qla):Prop:=
 ∃(a:Option Addr) (cap:Nat),v = .slice a ps.length cap∧ps.length≤cap∧cap≤9223372036854775807∧
  (0<ps.length→∃g o,a=some ⟨g,o,none⟩∧R g∧∀(k:Nat) (h:k<ps.length),w.cell? ⟨g,o+k*2,none⟩=some (.string ps[k].name)∧w.cell? ⟨g,o+k*2+1,none⟩=some (.string ps[k].value)∧
   ps[k].name.size≤9223372036854775807∧ps[k].value.size≤9223372036854775807)
def Qpa(R:Nat→Prop)(w:World)(v:Value)(T:List Qba):Prop:=
 ∃(a:Option Addr) (cap:Nat),v = .slice a T.length cap∧T.length≤cap∧cap≤9223372036854775807∧
  (0<T.length→∃g o,a=some ⟨g,o,none⟩∧R g∧∀(k:Nat) (h:k<T.length),∃pv,w.cell? ⟨g,o+k*3,none⟩=some (.int .i64 T[k].parent)∧w.cell? ⟨g,o+k*3+1,none⟩=some (.string T[k].name)∧
   w.cell? ⟨g,o+k*3+2,none⟩=some pv∧QGa R w pv T[k].props∧T[k].name.size≤9223372036854775807∧-9223372036854775808≤T[k].parent∧T[k].parent≤9223372036854775807)
theorem QGa.shape{R:Nat→Prop}{w:World}{v:Value}{ps:List Qla}(h:QGa R w v ps):∃a cap,v = .slice a ps.length cap∧ps.length≤cap∧cap≤9223372036854775807:=by
 obtain⟨a,cap,e,h1,h2,_⟩:=h;exact⟨a,cap,e,h1,h2⟩
theorem Qpa.shape{R:Nat→Prop}{w:World}{v:Value}{T:List Qba}(h:Qpa R w v T):∃a cap,v = .slice a T.length cap∧T.length≤cap∧cap≤9223372036854775807:=by
 obtain⟨a,cap,e,h1,h2,_⟩:=h;exact⟨a,cap,e,h1,h2⟩
theorem QGa.at{R:Nat→Prop}{w:World}{a:Option Addr}{n cap:Nat}{ps:List Qla}(h:QGa R w (.slice a n cap) ps)(k:Nat)(hk:k<ps.length) :
 ∃g o,a=some ⟨g,o,none⟩∧g<w.heap.size∧w.cell? ⟨g,o+k*2,none⟩=some (.string ps[k].name)∧w.cell? ⟨g,o+k*2+1,none⟩=some (.string ps[k].value)∧ps[k].name.size≤9223372036854775807∧ps[k].value.size≤9223372036854775807:=by
 obtain⟨a',cap',e,h1,h2,h3⟩:=h
 cases e
 obtain⟨g,o,rfl,_,hc⟩:=h3 (by omega)
 obtain⟨c0,c1,b0,b1⟩:=hc k hk
 exact⟨g,o,rfl,World.block_lt_of_cell? w _ c0,c0,c1,b0,b1⟩
theorem Qpa.at{R:Nat→Prop}{w:World}{a:Option Addr}{n cap:Nat}{T:List Qba}(h:Qpa R w (.slice a n cap) T)(k:Nat)(hk:k<T.length) :
 ∃g o pa pc,a=some ⟨g,o,none⟩∧g<w.heap.size∧w.cell? ⟨g,o+k*3,none⟩=some (.int .i64 T[k].parent)∧w.cell? ⟨g,o+k*3+1,none⟩=some (.string T[k].name)∧
  w.cell? ⟨g,o+k*3+2,none⟩=some (.slice pa T[k].props.length pc)∧QGa R w (.slice pa T[k].props.length pc) T[k].props∧T[k].props.length≤pc∧pc≤9223372036854775807∧
  T[k].name.size≤9223372036854775807∧-9223372036854775808≤T[k].parent∧T[k].parent≤9223372036854775807:=by
 obtain⟨a',cap',e,h1,h2,h3⟩:=h
 cases e
 obtain⟨g,o,rfl,_,hc⟩:=h3 (by omega)
 obtain⟨pv,c0,c1,c2,hp,b0,b1,b2⟩:=hc k hk
 obtain⟨pa,pc,rfl,p1,p2⟩:=hp.shape
 exact⟨g,o,pa,pc,rfl,World.block_lt_of_cell? w _ c0,c0,c1,c2,hp,p1,p2,b0,b1,b2⟩
theorem QGa.keeps{R S:Nat→Prop}{w w':World}{v:Value}{ps:List Qla}(h:QGa R w v ps)(k:Qaa S w w')(hs:∀g,R g→¬S g):QGa R w' v ps:=by
 obtain⟨a,cap,e,h1,h2,h3⟩:=h
 refine⟨a,cap,e,h1,h2,fun h0=>?_⟩
 obtain⟨g,o,ea,hR,hc⟩:=h3 h0
 refine⟨g,o,ea,hR,fun j hj=>?_⟩
 obtain⟨c0,c1,b0,b1⟩:=hc j hj
 have hg:=World.block_lt_of_cell? w _ c0
 exact⟨(k.cell (p:=⟨g,o+j*2,none⟩) hg (hs g hR)).trans c0,(k.cell (p:=⟨g,o+j*2+1,none⟩) hg (hs g hR)).trans c1,b0,b1⟩
theorem Qpa.keeps{R S:Nat→Prop}{w w':World}{v:Value}{T:List Qba}(h:Qpa R w v T)(k:Qaa S w w')(hs:∀g,R g→¬S g):Qpa R w' v T:=by
 obtain⟨a,cap,e,h1,h2,h3⟩:=h
 refine⟨a,cap,e,h1,h2,fun h0=>?_⟩
 obtain⟨g,o,ea,hR,hc⟩:=h3 h0
 refine⟨g,o,ea,hR,fun j hj=>?_⟩
 obtain⟨pv,c0,c1,c2,hp,b0,b1,b2⟩:=hc j hj
 have hg:=World.block_lt_of_cell? w _ c0
 exact⟨pv,(k.cell (p:=⟨g,o+j*3,none⟩) hg (hs g hR)).trans c0,(k.cell (p:=⟨g,o+j*3+1,none⟩) hg (hs g hR)).trans c1,(k.cell (p:=⟨g,o+j*3+2,none⟩) hg (hs g hR)).trans c2,hp.keeps k hs,b0,b1,b2⟩
theorem Qpa.new{R:Nat→Prop}{w w':World}{v:Value}{T:List Qba}(h:Qpa R w v T)(b:Below w.heap.size w w'):Qpa R w' v T:=h.keeps (Qaa.of_fresh b (fun _=>False)) (fun _ _ e=>e)
theorem QGa.new{R:Nat→Prop}{w w':World}{v:Value}{ps:List Qla}(h:QGa R w v ps)(b:Below w.heap.size w w'):QGa R w' v ps:=h.keeps (Qaa.of_fresh b (fun _=>False)) (fun _ _ e=>e)
theorem Qpa.mono{R R':Nat→Prop}{w:World}{v:Value}{T:List Qba}(h:Qpa R w v T)(hs:∀g,R g→R' g):Qpa R' w v T:=by
 obtain⟨a,cap,e,h1,h2,h3⟩:=h
 refine⟨a,cap,e,h1,h2,fun h0=>?_⟩
 obtain⟨g,o,ea,hR,hc⟩:=h3 h0
 refine⟨g,o,ea,hs g hR,fun j hj=>?_⟩
 obtain⟨pv,c0,c1,c2,hp,r⟩:=hc j hj
 refine⟨pv,c0,c1,c2,?_,r⟩
 obtain⟨a,cap,e,h1,h2,h3⟩:=hp
 refine⟨a,cap,e,h1,h2,fun h0=>?_⟩
 obtain⟨g,o,ea,hR,hc⟩:=h3 h0
 exact⟨g,o,ea,hs g hR,hc⟩
theorem QIa{B:Nat}{a w:World}(h:Below B a w)(n:Nat):Below B a (w.drewN n):=⟨h.os,h.tape,h.output,h.size,h.block⟩
def QAa:List Qba→List Value→List Value
 | n::T,pv::pvs=>.int .i64 n.parent :: .string n.name::pv::QAa T pvs
 | _,_=>[]
def Qga:List Qla→List Value
 | []=>[]
 | p::ps=>.string p.name :: .string p.value::Qga ps
theorem Qme:∀(T:List Qba) (pvs:List Value),pvs.length=T.length→(QAa T pvs).length=T.length*3
 | [],[],_=>rfl
 | n::T,pv::pvs,h=>by simp only[QAa,List.length_cons];rw[Qme T pvs (by simpa using h)];omega
theorem Q9a:∀ps:List Qla,(Qga ps).length=ps.length*2
 | []=>rfl
 | p::ps=>by simp only[Qga,List.length_cons];rw[Q9a ps];omega
theorem QXc:∀(T:List Qba) (pvs:List Value) (k:Nat) (hk:k<T.length) (hp:k<pvs.length),pvs.length=T.length→
 (QAa T pvs)[k*3]? = some (.int .i64 T[k].parent)∧(QAa T pvs)[k*3+1]? = some (.string T[k].name)∧(QAa T pvs)[k*3+2]? = some pvs[k]
 | n::T,pv::pvs,0,_,_,_=>⟨rfl,rfl,rfl⟩
 | n::T,pv::pvs,k+1,hk,hp,h=>by
  have:=QXc T pvs k (by simpa using hk) (by simpa using hp) (by simpa using h)
  rw[show(k+1)*3=k*3+3 from by omega]
  exact this
theorem QQe:∀(ps:List Qla) (k:Nat) (hk:k<ps.length),(Qga ps)[k*2]? = some (.string ps[k].name)∧(Qga ps)[k*2+1]? = some (.string ps[k].value)
 | p::ps,0,_=>⟨rfl,rfl⟩
 | p::ps,k+1,hk=>by
  have:=QQe ps k (by simpa using hk)
  rw[show(k+1)*2=k*2+2 from by omega]
  exact this
theorem Qkc:∀(T:List Qba) (pvs:List Value) (n:Qba) (pv:Value),pvs.length=T.length→QAa (T++[n]) (pvs++[pv])=QAa T pvs++[.int .i64 n.parent,.string n.name,pv]
 | [],[],_,_,_=>rfl
 | n::T,p::pvs,m,pv,h=>by simp only[QAa,List.cons_append];rw[Qkc T pvs m pv (by simpa using h)]
theorem Qgg:∀(a b:List Qla),Qga (a++b)=Qga a++Qga b
 | [],_=>rfl
 | p::a,b=>by simp only[Qga,List.cons_append];rw[Qgg a b]
theorem QSb:∀ps:List Qla,∀u∈Qga ps,u.oneCell'=true
 | [],u,h=>by cases h
 | p::ps,u,h=>by
  rcases List.mem_cons.1 h with rfl|h
  ·rfl
  ·rcases List.mem_cons.1 h with rfl|h
   ·rfl
   ·exact QSb ps u h
theorem QCh(w:World)(g o:Nat)(xs:List Value)(h:∀j,j<xs.length→w.cell? ⟨g,o+j,none⟩=xs[j]?):∀j u,xs[j]? = some u→w.cell? ((⟨g,o,none⟩:Addr).add j)=some u:=by
 intro j u hu
 have Gq:(⟨g,o,none⟩:Addr).add j=⟨g,o+j,none⟩:=by unfold Addr.add;split <;> simp_all
 rw[Gq,h j (List.getElem?_eq_some_iff.1 hu).1,hu]
def QIc(n:Qba):Prop:=n.name.size≤9223372036854775807∧-9223372036854775808≤n.parent∧n.parent≤9223372036854775807
def QFe(p:Qla):Prop:=p.name.size≤9223372036854775807∧p.value.size≤9223372036854775807
theorem Q5p{R:Nat→Prop}{w:World}{base:Nat}{E:TypeId}{v:Value}{ps:List Qla}(h:w.ownsRow base E 2 v ps.length (Qga ps))(hb:∀p∈ps,QFe p)(hR:∀g,base≤g→R g):QGa R w v ps:=by
 rcases h.2 with⟨rfl,h0⟩|⟨g,cap,cur,rfl,Hc,hh,hcap,hmax,_⟩
 ·exact⟨none,0,by rw[h0],by omega,by omega,fun hp=>by omega⟩
 ·have hm:cap≤9223372036854775807:=by unfold maxLen at hmax;omega
  refine⟨some ⟨g,0,none⟩,cap,rfl,hcap,hm,fun _=>⟨g,0,rfl,hR g Hc,fun k hk=>?_⟩⟩
  obtain⟨a0,a1⟩:=QQe ps k hk
  have c:=fun j (hj:j<ps.length*2)=>h.cellAt j hj
  obtain⟨o1,o2⟩:=hb ps[k] (List.getElem_mem hk)
  rw[Nat.zero_add]
  exact⟨(c _ (by omega)).trans a0,(c _ (by omega)).trans a1,o1,o2⟩
theorem QFk{R:Nat→Prop}{w:World}{base:Nat}{E:TypeId}{v:Value}{T:List Qba}{pvs:List Value}(h:w.ownsRow base E 3 v T.length (QAa T pvs))(hl:pvs.length=T.length)
 (hp:∀k (h:k<T.length) (h2:k<pvs.length),QGa R w pvs[k] T[k].props) (hb:∀n∈T,QIc n) (hR:∀g,base≤g→R g):Qpa R w v T:=by
 rcases h.2 with⟨rfl,h0⟩|⟨g,cap,cur,rfl,Hc,hh,hcap,hmax,_⟩
 ·exact⟨none,0,by rw[h0],by omega,by omega,fun hp=>by omega⟩
 ·have hm:cap≤9223372036854775807:=by unfold maxLen at hmax;omega
  refine⟨some ⟨g,0,none⟩,cap,rfl,hcap,hm,fun _=>⟨g,0,rfl,hR g Hc,fun k hk=>?_⟩⟩
  obtain⟨a0,a1,a2⟩:=QXc T pvs k hk (by omega) hl
  have c:=fun j (hj:j<T.length*3)=>h.cellAt j hj
  obtain⟨o1,o2,o3⟩:=hb T[k] (List.getElem_mem hk)
  rw[Nat.zero_add]
  exact⟨_,(c _ (by omega)).trans a0,(c _ (by omega)).trans a1,(c _ (by omega)).trans a2,hp k hk (by omega),o1,o2,o3⟩
theorem Qpa.row{R:Nat→Prop}{w:World}{a:Option Addr}{n cap:Nat}{T:List Qba}(h:Qpa R w (.slice a n cap) T)(h0:0<T.length) :
 ∃g o pvs,a=some ⟨g,o,none⟩∧g<w.heap.size∧R g∧pvs.length=T.length∧(∀k (h:k<T.length) (h2:k<pvs.length),QGa R w pvs[k] T[k].props)∧(∀n∈T,QIc n)∧
  (∀j u,(QAa T pvs)[j]? = some u→w.cell? ((⟨g,o,none⟩:Addr).add j)=some u)∧∀u∈QAa T pvs,u.oneCell'=true:=by
 obtain⟨a',cap',e,h1,h2,h3⟩:=h
 cases e
 obtain⟨g,o,rfl,hR,hc⟩:=h3 h0
 have hl:((List.range T.length).map fun k=>(w.cell? ⟨g,o+k*3+2,none⟩).getD undef).length=T.length:=by simp
 have Gp:∀k (h:k<T.length) (h2:k<((List.range T.length).map fun k=>(w.cell? ⟨g,o+k*3+2,none⟩).getD undef).length),w.cell? ⟨g,o+k*3+2,none⟩=some ((List.range T.length).map fun k=>(w.cell? ⟨g,o+k*3+2,none⟩).getD undef)[k]∧QGa R w ((List.range T.length).map fun k=>(w.cell? ⟨g,o+k*3+2,none⟩).getD undef)[k] T[k].props:=by
  intro k hk h2
  obtain⟨pv,_,_,c2,hp,_⟩:=hc k hk
  simp[c2,hp]
 generalize ((List.range T.length).map fun k=>(w.cell? ⟨g,o+k*3+2,none⟩).getD undef)=pvs at hl Gp
 have hg:=World.block_lt_of_cell? w _ (Gp 0 h0 (by omega)).1
 have g8:∀j (hj:j<(QAa T pvs).length),w.cell? ⟨g,o+j,none⟩=(QAa T pvs)[j]?∧∃u,(QAa T pvs)[j]? = some u∧u.oneCell'=true:=by
  intro j hj
  rw[Qme T pvs hl]at hj
  have hk:j / 3<T.length:=by omega
  obtain⟨a0,a1,a2⟩:=QXc T pvs (j / 3) hk (by omega) hl
  obtain⟨pv,c0,c1,_,_⟩:=hc (j / 3) hk
  obtain⟨c2,hp⟩:=Gp (j / 3) hk (by omega)
  obtain⟨pa,pc,GP,_⟩:=hp.shape
  have:j=j / 3*3∨j=j / 3*3+1∨j=j / 3*3+2:=by omega
  rcases this with e|e|e
  ·rw[e,a0];exact⟨c0,_,rfl,rfl⟩
  ·rw[e,a1];exact⟨by rw[←Nat.add_assoc];exact c1,_,rfl,rfl⟩
  ·rw[e,a2];exact⟨by rw[←Nat.add_assoc];exact c2,_,rfl,by rw[GP];rfl⟩
 refine⟨g,o,pvs,rfl,hg,hR,hl,fun k h h2=>(Gp k h h2).2,?_,QCh w g o _ (fun j hj=>(g8 j hj).1),?_⟩
 ·intro n hn
  obtain⟨k,hk,rfl⟩:=List.mem_iff_getElem.1 hn
  obtain⟨pv,_,_,_,_,b0,b1,b2⟩:=hc k hk
  exact⟨b0,b1,b2⟩
 ·intro u hu
  obtain⟨j,hj,rfl⟩:=List.mem_iff_getElem.1 hu
  obtain⟨u,h1,h2⟩:=(g8 j hj).2
  rw[List.getElem?_eq_getElem hj]at h1
  cases h1;exact h2
theorem QGa.row{R:Nat→Prop}{w:World}{a:Option Addr}{n cap:Nat}{ps:List Qla}(h:QGa R w (.slice a n cap) ps)(h0:0<ps.length) :
 ∃g o,a=some ⟨g,o,none⟩∧g<w.heap.size∧R g∧(∀p∈ps,QFe p)∧(∀j u,(Qga ps)[j]? = some u→w.cell? ((⟨g,o,none⟩:Addr).add j)=some u)∧∀u∈Qga ps,u.oneCell'=true:=by
 obtain⟨a',cap',e,h1,h2,h3⟩:=h
 cases e
 obtain⟨g,o,rfl,hR,hc⟩:=h3 h0
 have g8:∀j (hj:j<(Qga ps).length),w.cell? ⟨g,o+j,none⟩=(Qga ps)[j]?∧∃u,(Qga ps)[j]? = some u∧u.oneCell'=true:=by
  intro j hj
  rw[Q9a ps]at hj
  have hk:j / 2<ps.length:=by omega
  obtain⟨a0,a1⟩:=QQe ps (j / 2) hk
  obtain⟨c0,c1,_⟩:=hc (j / 2) hk
  have:j=j / 2*2∨j=j / 2*2+1:=by omega
  rcases this with e|e
  ·rw[e,a0];exact⟨c0,_,rfl,rfl⟩
  ·rw[e,a1];exact⟨by rw[←Nat.add_assoc];exact c1,_,rfl,rfl⟩
 refine⟨g,o,rfl,World.block_lt_of_cell? w _ (hc 0 h0).1,hR,?_,QCh w g o _ (fun j hj=>(g8 j hj).1),?_⟩
 ·intro p hp
  obtain⟨k,hk,rfl⟩:=List.mem_iff_getElem.1 hp
  obtain⟨_,_,b0,b1⟩:=hc k hk
  exact⟨b0,b1⟩
 ·intro u hu
  obtain⟨j,hj,rfl⟩:=List.mem_iff_getElem.1 hu
  obtain⟨u,h1,h2⟩:=(g8 j hj).2
  rw[List.getElem?_eq_getElem hj]at h1
  cases h1;exact h2
theorem Qva{w:World}{base:Nat}{e t:TypeId}{size:Nat}{v:Value}{n b:Nat}{xs:List Value}{cs:Array Value}(h:w.ownsRow base e size v n xs)(hH:Holds w b cs t)(Hm:t≠e):v.ownBlock≠some b:=by
 rcases h.2 with⟨rfl,_⟩|⟨g,cap,cur,rfl,_,hh,_⟩
 ·simp[Value.ownBlock]
 ·intro e2
  have e3:g=b:=Option.some.inj e2
  subst e3
  have h2:w.heap[g]? = some (.cells cs t (0,0)):=hH
  rw[h2]at hh
  cases hh
  exact Hm rfl
theorem QGa.bound{R:Nat→Prop}{w:World}{v:Value}{ps:List Qla}(h:QGa R w v ps):QGa (fun g=>g<w.heap.size) w v ps:=by
 obtain⟨a,cap,e,h1,h2,h3⟩:=h
 refine⟨a,cap,e,h1,h2,fun h0=>?_⟩
 obtain⟨g,o,ea,_,hc⟩:=h3 h0
 exact⟨g,o,ea,World.block_lt_of_cell? w _ (hc 0 h0).1,hc⟩
theorem Qpa.bound{R:Nat→Prop}{w:World}{v:Value}{T:List Qba}(h:Qpa R w v T):Qpa (fun g=>g<w.heap.size) w v T:=by
 obtain⟨a,cap,e,h1,h2,h3⟩:=h
 refine⟨a,cap,e,h1,h2,fun h0=>?_⟩
 obtain⟨g,o,ea,_,hc⟩:=h3 h0
 refine⟨g,o,ea,?_,fun k hk=>?_⟩
 ·obtain⟨pv,c0,_⟩:=hc 0 h0
  exact World.block_lt_of_cell? w _ c0
 ·obtain⟨pv,c0,c1,c2,hp,r⟩:=hc k hk
  exact⟨pv,c0,c1,c2,hp.bound,r⟩
theorem Qad{w:World}{b1 b2:Nat}{e1 e2:TypeId}{s1 s2:Nat}{v1 v2:Value}{n1 n2:Nat}{x1 x2:List Value}(h1:w.ownsRow b1 e1 s1 v1 n1 x1)(h2:w.ownsRow b2 e2 s2 v2 n2 x2)(Hm:e1≠e2):v1.ownBlock=none∨v1.ownBlock≠v2.ownBlock:=by
 rcases h1.2 with⟨rfl,_⟩|⟨g1,c1,cur1,rfl,_,hh1,_⟩
 ·exact .inl rfl
 ·rcases h2.2 with⟨rfl,_⟩|⟨g2,c2,cur2,rfl,_,hh2,_⟩
  ·right;simp[Value.ownBlock]
  ·right
   simp only[Value.ownBlock]
   intro e
   simp at e
   subst e
   rw[hh1]at hh2
   simp at hh2
   exact Hm hh2.2
theorem Q8b{w:World}{base base':Nat}{e:TypeId}{size:Nat}{v:Value}{n:Nat}{xs:List Value}(h:w.ownsRow base e size v n xs)(hb:base'≤base):w.ownsRow base' e size v n xs:=by
 refine⟨h.1,?_⟩
 rcases h.2 with hn|⟨g,cap,cur,hv,hg,rest⟩
 ·exact .inl hn
 ·exact .inr ⟨g,cap,cur,hv,by omega,rest⟩
theorem Qea{w:World}{base:Nat}{e:TypeId}{size:Nat}{v:Value}{n:Nat}{xs:List Value}(h:w.ownsRow base e size v n xs):∃a cap,v = .slice a n cap:=by
 rcases h.2 with⟨rfl,rfl⟩|⟨g,cap,cur,rfl,_⟩
 ·exact⟨none,0,rfl⟩
 ·exact⟨_,_,rfl⟩
theorem Qhb{w w':World}{base:Nat}{e:TypeId}{size:Nat}{v:Value}{n:Nat}{xs:List Value}(h:w.ownsRow base e size v n xs)(k:Below w.heap.size w w'):w'.ownsRow base e size v n xs:=Qca h (Qaa.of_fresh k (fun _=>False)) (fun _ _ e=>e)
theorem QNf{w:World}{base b:Nat}{e t:TypeId}{size:Nat}{v:Value}{n:Nat}{xs:List Value}{cs:Array Value}(h:w.ownsRow base e size v n xs)(hH:Holds w b cs t)(Hm:t≠e)(o:Nat)(x:Value):(w.setCell ⟨b,o,none⟩ x).ownsRow base e size v n xs:=
 Qca h (S:=fun i=>i=b) ((Qaa.refl (fun i=>i=b) w).setCell (p:=⟨b,o,none⟩) (.inr rfl) x) (fun g e1 e2=>Qva h hH Hm (by rw[e1,e2]))
theorem Holds.newAt{w:World}{B:Nat}(hB:w.heap.size=B)(cs:Array Value)(t:TypeId):Holds (w.alloc (.cells cs t)) B cs t:=by
 subst hB;exact Holds.new w cs t
def Qma(w:World)(base:Nat)(v:Value)(ps:List Qla):Prop:=w.ownsRow base 49 2 v ps.length (Qga ps)∧∀p∈ps,QFe p
def Qda(w:World)(base:Nat)(v:Value)(T:List Qba):Prop:=
 ∃pvs:List Value,pvs.length=T.length∧w.ownsRow base 46 3 v T.length (QAa T pvs)∧(∀k (_:k<T.length) (_:k<pvs.length),Qma w base pvs[k] T[k].props)∧∀n∈T,QIc n
theorem Qma.in{w:World}{base:Nat}{v:Value}{ps:List Qla}(h:Qma w base v ps):QGa (fun g=>base≤g) w v ps:=Q5p h.1 h.2 (fun _ h=>h)
theorem Qda.in{w:World}{base:Nat}{v:Value}{T:List Qba}(h:Qda w base v T):Qpa (fun g=>base≤g) w v T:=by
 obtain⟨pvs,h1,h2,h3,h4⟩:=h
 exact QFk h2 h1 (fun k hk gJ=>(h3 k hk gJ).in) h4 (fun _ h=>h)
theorem Qma.new{w w':World}{base:Nat}{v:Value}{ps:List Qla}(h:Qma w base v ps)(k:Below w.heap.size w w'):Qma w' base v ps:=⟨Qhb h.1 k,h.2⟩
theorem Qma.base{w:World}{base base':Nat}{v:Value}{ps:List Qla}(h:Qma w base v ps)(k:base'≤base):Qma w base' v ps:=⟨Q8b h.1 k,h.2⟩
theorem Qda.new{w w':World}{base:Nat}{v:Value}{T:List Qba}(h:Qda w base v T)(k:Below w.heap.size w w'):Qda w' base v T:=by
 obtain⟨pvs,h1,h2,h3,h4⟩:=h
 exact⟨pvs,h1,Qhb h2 k,fun j hj Gu=>(h3 j hj Gu).new k,h4⟩
theorem Qda.base{w:World}{base base':Nat}{v:Value}{T:List Qba}(h:Qda w base v T)(k:base'≤base):Qda w base' v T:=by
 obtain⟨pvs,h1,h2,h3,h4⟩:=h
 exact⟨pvs,h1,Q8b h2 k,fun j hj Gu=>(h3 j hj Gu).base k,h4⟩
theorem Qma.set{w:World}{base b:Nat}{t:TypeId}{v:Value}{ps:List Qla}{cs:Array Value}(h:Qma w base v ps)(hH:Holds w b cs t)(Hm:t≠49)(o:Nat)(x:Value):Qma (w.setCell ⟨b,o,none⟩ x) base v ps:=⟨QNf h.1 hH Hm o x,h.2⟩
theorem Qda.set{w:World}{base b:Nat}{t:TypeId}{v:Value}{T:List Qba}{cs:Array Value}(h:Qda w base v T)(hH:Holds w b cs t)(Hm:t≠46)(kN:t≠49)(o:Nat)(x:Value):Qda (w.setCell ⟨b,o,none⟩ x) base v T:=by
 obtain⟨pvs,h1,h2,h3,h4⟩:=h
 exact⟨pvs,h1,QNf h2 hH Hm o x,fun j hj Gu=>(h3 j hj Gu).set hH kN o x,h4⟩
theorem Qma.apart{w w':World}{base b2:Nat}{e:TypeId}{s:Nat}{v v2:Value}{ps:List Qla}{n:Nat}{xs:List Value}(h:Qma w base v ps)(h2:w.ownsRow b2 e s v2 n xs)(hg:w.grownBy w' v2.ownBlock)(Hm:49≠e):Qma w' base v ps:=
 ⟨h.1.kept hg (Qad h.1 h2 Hm),h.2⟩
theorem Qfi{w w':World}{base b:Nat}{e t:TypeId}{size:Nat}{v:Value}{n:Nat}{xs:List Value}{cs:Array Value}(h:w.ownsRow base e size v n xs)(hH:Holds w b cs t)(Hm:t≠e)(k:Qaa (· = b) w w'):w'.ownsRow base e size v n xs:=
 Qca h (S:=fun i=>i=b) k (fun g e1 e2=>Qva h hH Hm (by rw[e1,e2]))
theorem Qda.other{w w':World}{base b:Nat}{t:TypeId}{v:Value}{T:List Qba}{cs:Array Value}(h:Qda w base v T)(hH:Holds w b cs t)(Hm:t≠46)(kN:t≠49)(k:Qaa (· = b) w w'):Qda w' base v T:=by
 obtain⟨pvs,h1,h2,h3,h4⟩:=h
 exact⟨pvs,h1,Qfi h2 hH Hm k,fun j hj Gu=>⟨Qfi (h3 j hj Gu).1 hH kN k,(h3 j hj Gu).2⟩,h4⟩
theorem Qda.nil(w:World)(base:Nat):Qda w base (.slice none 0 0) []:=⟨[],rfl,World.ownsRow_nil _ _ _ _,fun k h=>absurd h (Nat.not_lt_zero k),fun _ h=>by cases h⟩
theorem Qma.nil(w:World)(base:Nat):Qma w base (.slice none 0 0) []:=⟨World.ownsRow_nil _ _ _ _,fun _ h=>by cases h⟩
theorem Qda.more{w w':World}{base:Nat}{v v' pv:Value}{T:List Qba}{pvs:List Value}{n:Qba}(h1:pvs.length=T.length)(h2:w.ownsRow base 46 3 v T.length (QAa T pvs))
 (h3:∀k (_:k<T.length) (_:k<pvs.length),Qma w base pvs[k] T[k].props) (h4:∀n∈T,QIc n) (hp:Qma w base pv n.props) (hn:QIc n)
 (Hj:w'.ownsRow base 46 3 v' (T.length+1) (QAa T pvs++[.int .i64 n.parent,.string n.name,pv])) (hg:w.grownBy w' v.ownBlock):Qda w' base v' (T++[n]):=by
 refine⟨pvs++[pv],by simp[h1],?_,?_,?_⟩
 ·rw[Qkc T pvs n pv h1,List.length_append];exact Hj
 ·intro k hk gJ
  by_cases e:k<T.length
  ·have:Qma w' base pvs[k] T[k].props:=(h3 k e (by omega)).apart h2 hg (by decide)
   simpa[List.getElem_append_left,e,h1]using this
  ·have e2:k=T.length:=by simp at hk;omega
   subst e2
   have:Qma w' base pv n.props:=hp.apart h2 hg (by decide)
   simpa[List.getElem_append_right,h1]using this
 ·intro m hm
  rcases List.mem_append.1 hm with hm|hm
  ·exact h4 m hm
  ·simp at hm;subst hm;exact hn
theorem Q4f:(Tryz.prog.info? 49).map (fun i=>(i.zero,i.size,i.bytes))=some (some (.agg #[.string ⟨#[]⟩,.string ⟨#[]⟩]),2,32):=by kernel_rfl
theorem Qqk:(Tryz.prog.info? 46).map (fun i=>(i.zero,i.size,i.bytes))=some (some (.agg #[.int .i64 0,.string ⟨#[]⟩,.slice none 0 0]),3,48):=by kernel_rfl
theorem QRe{w:World}{B base:Nat}{e:TypeId}{size n:Nat}{cs:Array Value}(hB:w.heap.size=B)(hb:base≤B)(hs:cs.size=n*size)(hn:n≤1000):(w.alloc (.cells cs e)).ownsRow base e size (.slice (some ⟨B,0,none⟩) n n) n cs.toList:=by
 subst hB
 refine⟨by simpa using hs,.inr ⟨w.heap.size,n,cs,rfl,hb,heap_alloc_new w _,Nat.le_refl _,by unfold maxLen;omega,hs,?_⟩⟩
 rw[List.take_of_length_le (by simp[hs])]
def QBs(x:Qja):List Value:=[.int .i64 x.kind,.string x.path,.string x.name,.string x.value]
def Qqa(l:List Qja):List Value:=l.flatMap QBs
def QRf(w:World)(g o:Nat)(x:Qja):Prop:=w.cell? ⟨g,o,none⟩=some (.int .i64 x.kind)∧w.cell? ⟨g,o+1,none⟩=some (.string x.path)∧w.cell? ⟨g,o+2,none⟩=some (.string x.name)∧w.cell? ⟨g,o+3,none⟩=some (.string x.value)
def Qjb(w:World)(v:Value)(l:List Qja):Prop:=
 ∃(a:Option Addr) (cap:Nat),v = .slice a l.length cap∧l.length≤cap∧cap≤9223372036854775807∧
  (0<l.length→∃g o,a=some ⟨g,o,none⟩∧g<w.heap.size∧∀(i:Nat) (h:i<l.length),QRf w g (o+i*4) l[i])
theorem QRf.keep{w w':World}{g o:Nat}{x:Qja}(h:QRf w g o x)(k:Below w.heap.size w w')(hg:g<w.heap.size):QRf w' g o x:=
 ⟨(k.cell (p:=⟨g,o,none⟩) hg).trans h.1,(k.cell (p:=⟨g,o+1,none⟩) hg).trans h.2.1,(k.cell (p:=⟨g,o+2,none⟩) hg).trans h.2.2.1,(k.cell (p:=⟨g,o+3,none⟩) hg).trans h.2.2.2⟩
theorem Qjb.new{w w':World}{v:Value}{l:List Qja}(h:Qjb w v l)(k:Below w.heap.size w w'):Qjb w' v l:=by
 obtain⟨a,cap,rfl,h1,h2,h3⟩:=h
 refine⟨a,cap,rfl,h1,h2,fun h0=>?_⟩
 obtain⟨g,o,rfl,hg,hc⟩:=h3 h0
 exact⟨g,o,rfl,Nat.lt_of_lt_of_le hg k.size,fun i hi=>(hc i hi).keep k hg⟩
theorem Qjb.slice{w:World}{v:Value}{l:List Qja}(h:Qjb w v l):∃a c,v = .slice a l.length c∧l.length≤c∧c≤9223372036854775807:=by
 obtain⟨a,c,e,h1,h2,_⟩:=h;exact⟨a,c,e,h1,h2⟩
theorem Q4c(l:List Qja):(Qqa l).length=l.length*4:=by
 induction l with
 | nil=>rfl
 | cons x l ih=>simp only[Qqa,List.flatMap_cons,List.length_append,List.length_cons,QBs,List.length_nil]at ih ⊢;omega
theorem QTg:∀(l:List Qja) (i:Nat) (h:i<l.length),(Qqa l)[i*4]? = some (.int .i64 l[i].kind)∧(Qqa l)[i*4+1]? = some (.string l[i].path)∧(Qqa l)[i*4+2]? = some (.string l[i].name)∧(Qqa l)[i*4+3]? = some (.string l[i].value)
 | x::l,0,_=>⟨rfl,rfl,rfl,rfl⟩
 | x::l,i+1,h=>by
  have:=QTg l i (by simpa using h)
  rw[show(i+1)*4=i*4+4 from by omega]
  exact this
theorem QYf(l:List Qja):∀u∈Qqa l,u.oneCell'=true:=by
 intro u hu
 obtain⟨x,_,hx⟩:=List.mem_flatMap.1 hu
 simp only[QBs,List.mem_cons,List.not_mem_nil,or_false]at hx
 rcases hx with rfl|rfl|rfl|rfl <;> rfl
theorem Qhc{w:World}{base:Nat}{v:Value}{l:List Qja}(h:w.ownsRow base 39 4 v l.length (Qqa l)):Qjb w v l:=by
 rcases id h.2 with⟨rfl,h0⟩|⟨g,cap,cur,rfl,hb,hh,hcap,hm,hs,ht⟩
 ·exact⟨none,0,by rw[h0],by omega,by omega,fun h1=>by omega⟩
 ·refine⟨_,cap,rfl,hcap,by unfold maxLen at hm;omega,fun h0=>⟨g,0,rfl,(h.lt g rfl).2,fun i hi=>?_⟩⟩
  obtain⟨a,b,c,d⟩:=QTg l i hi
  rw[Nat.zero_add]
  exact⟨by rw[h.cellAt _ (by omega)];exact a,by rw[h.cellAt _ (by omega)];exact b,by rw[h.cellAt _ (by omega)];exact c,by rw[h.cellAt _ (by omega)];exact d⟩
def Dis(L:List Qba):Prop:=∀x y,0<x→x<L.length→0<y→y<L.length→QTa L x=QTa L y→Qwa L x=Qwa L y→x=y
theorem QTl{L:List Qba}{p:Nat}(hD:Dis L){ks:List Nat}(hp:ks.Perm (QDa L p))(hs:ks.Pairwise (fun a b=>ltS (Qwa L b) (Qwa L a)=false)):ks=QDa L p:=by
 have hk:=(Q1d L p L.length).2
 have gJ:(QDa L p).Pairwise (fun a b=>ltS (Qwa L b) (Qwa L a)=false):=hk.imp (fun {a b} MW=>by
  rcases MW with h|⟨h,_⟩
  ·exact QXh h
  ·simp only[Q8o]at h;rw[h];exact Q4a _)
 refine List.Perm.eq_of_pairwise (le:=fun a b=>ltS (Qwa L b) (Qwa L a)=false) (fun a b ha hb MW hba=>?_) hs gJ hp
 have ha':=(QQc L p a).1 (hp.mem_iff.1 ha)
 have hb':=(QQc L p b).1 hb
 refine hD a b ha'.2.1 ha'.1 hb'.2.1 hb'.1 (by rw[ha'.2.2,hb'.2.2]) ?_
 rcases Qjd hba with e|e
 ·exact e
 ·rw[e]at MW;cases MW
theorem QQs{l pre post:List Nat}{x:Nat}(h:l=pre++x::post)(hn:l.Nodup):l.idxOf x=pre.length:=by
 subst h
 have:=Qcs hn pre.length (by simp)
 simpa using this
theorem QKn{L:List Qba}(h:Par L){f i k:Nat}(hi:i<L.length)(hk:k∈QDa L i)(hf:L.length≤k+f):i ∉ QYa L f k:=by
 obtain⟨k1,k2,k3⟩:=(QQc L i k).1 hk
 intro hm
 have:=((QOg h f k k1 hf).1 i).1 hm
 have h2:=Qfn h k1 i i (Nat.le_refl _) hi this.2
 have h3:=(h k k2 k1).2
 rw[k3]at h3;omega
theorem QAc{T:List Qba}(h:Qfa T=0):Dis T:=by
 have hn:=Q0b h
 have ht:QIi T=false:=by
  unfold Qfa at h
  rw[QPa h,hn]at h
  simp only[Bool.true_eq_false,if_false]at h
  split at h
  ·cases h
  ·split at h
   ·cases h
   ·rename_i h3;simpa using h3
 rw[QPj hn]at ht
 have key:∀x y,0<x→x<y→y<T.length→QTa T x=QTa T y→Qwa T x=Qwa T y→False:=by
  intro x y hx aL hy hp hm
  have:Qlf T=true:=by
   unfold Qlf
   rw[List.any_eq_true]
   exact⟨y,List.mem_range.2 hy,(Qfh T y y).2 ⟨x,hx,aL,hp,hm⟩⟩
  rw[ht]at this;cases this
 intro x y hx jw hy df hp hm
 rcases Nat.lt_trichotomy x y with h1|h1|h1
 ·exact(key x y hx h1 df hp hm).elim
 ·exact h1
 ·exact(key y x hy h1 jw hp.symm hm.symm).elim
theorem QHm{T:List Qba}(h:Dis T){k:Nat}{name:ByteArray}(_:k<T.length)(ha:T.any (QNa (k:Int) name)=false):Dis (T++[⟨k,name,[]⟩]):=by
 have JD:∀i,i<T.length→QTa (T++[(⟨k,name,[]⟩:Qba)]) i=QTa T i∧Qwa (T++[(⟨k,name,[]⟩:Qba)]) i=Qwa T i:=by
  intro i hi
  unfold QTa Qwa
  rw[List.getElem?_append_left hi]
  exact⟨rfl,rfl⟩
 have gU:QTa (T++[(⟨k,name,[]⟩:Qba)]) T.length=k∧Qwa (T++[(⟨k,name,[]⟩:Qba)]) T.length=name:=by
  unfold QTa Qwa
  simp
 have j9:∀i,i<T.length→QTa T i=(k:Int)→Qwa T i=name→False:=by
  intro i hi h1 h2
  have:=List.any_eq_false.1 ha T[i] (List.getElem_mem hi)
  apply this
  unfold QNa
  rw[Qsa hi]at h1
  rw[QEa hi]at h2
  rw[h1,h2]
  simp[eqS]
 intro x y hx jw hy df hp hm
 simp only[List.length_append,List.length_singleton]at jw df
 by_cases h1:x<T.length
 ·by_cases h2:y<T.length
  ·rw[(JD x h1).1,(JD y h2).1]at hp
   rw[(JD x h1).2,(JD y h2).2]at hm
   exact h x y hx h1 hy h2 hp hm
  ·obtain rfl:y=T.length:=by omega
   rw[(JD x h1).1,gU.1]at hp
   rw[(JD x h1).2,gU.2]at hm
   exact(j9 x h1 hp hm).elim
 ·obtain rfl:x=T.length:=by omega
  by_cases h2:y<T.length
  ·rw[(JD y h2).1,gU.1]at hp
   rw[(JD y h2).2,gU.2]at hm
   exact(j9 y h2 hp.symm hm.symm).elim
  ·omega
theorem QMi{T:List Qba}(h:Qfa T=0)(i:Nat)(hi:i<T.length):Q6b T T.length i≤8:=by
 have hd:QPd T=false:=by
  unfold Qfa at h
  split at h
  ·cases h
  ·split at h
   ·cases h
   ·split at h
    ·cases h
    ·split at h
     ·cases h
     ·split at h
      ·cases h
      ·rename_i h5;simpa using h5
 unfold QPd at hd
 have:=List.any_eq_false.1 hd i (List.mem_range.2 hi)
 unfold QAs at this
 simpa using this
theorem Q8a{w:World}{b c:Nat}{xs ys:Array Value}{t u:TypeId}(h:Holds w b xs t)(k:Holds w c ys u)(Hm:t≠u):b≠c:=by
 rintro rfl
 have:=h.symm.trans k
 injection this with this;injection this with _ this;exact Hm this
theorem QNc{w:World}{base:Nat}{v:Value}{T:List Qba}(h:Qda w base v T):∃a c,v = .slice a T.length c:=by
 obtain⟨_,_,g2,_⟩:=h;exact Qea g2
theorem Qnb{w:World}{base:Nat}{e:TypeId}{size:Nat}{v:Value}{n:Nat}{xs:List Value}(h:w.ownsRow base e size v n xs){g:Nat}(hg:v.ownBlock=some g):base≤g∧∃cur,Holds w g cur e:=by
 rcases h.2 with⟨rfl,_⟩|⟨g',cap,cur,rfl,hb,hh,_⟩
 ·cases hg
 ·have:g'=g:=Option.some.inj hg
  subst this
  exact⟨hb,cur,hh⟩
theorem QTd{w:World}{base:Nat}{v:Value}{T:List Qba}(h:Qda w base v T){g:Nat}(hg:v.ownBlock=some g):base≤g∧∃cur,Holds w g cur 46:=by
 obtain⟨_,_,g2,_⟩:=h
 exact Qnb g2 hg
theorem Q2l{R:Nat→Prop}{w:World}{g o n cap:Nat}{T:List Qba}(h:Qpa R w (.slice (some ⟨g,o,none⟩) n cap) T)(h0:0<T.length):R g:=by
 obtain⟨_,_,e,_,_,h3⟩:=h
 cases e
 obtain⟨g',o',ea,hR,_⟩:=h3 h0
 cases ea
 exact hR
def Qko:List Qba:=[⟨-1,⟨#[]⟩,[]⟩]
theorem QOr(w:World)(base B:Nat)(hB:w.heap.size=B)(hb:base≤B):Qda (w.alloc (.cells #[.int .i64 (-1),.string ⟨#[]⟩,.slice none 0 0] 46)) base (.slice (some ⟨B,0,none⟩) 1 1) Qko:=by
 subst hB
 refine⟨[.slice none 0 0],rfl,World.ownsRow_lit w #[.int .i64 (-1),.string ⟨#[]⟩,.slice none 0 0] 1 hb (by decide) (by decide),?_,?_⟩
 ·intro k hk gJ
  obtain rfl:k=0:=by simp[Qko]at hk;exact hk
  exact Qma.nil _ _
 ·intro m hm
  simp only[Qko,List.mem_singleton]at hm
  subst hm
  unfold QIc;decide
end Go.Proofs.YtgaboghigefgbaaGreatDoor
open Go
namespace Go.Proofs.YtgaboghigefgbaaGreatDoor
theorem QFb{L:List Qba}(h:Q2c L){i:Nat}(hi:i<L.length):∃k,(Qab L)[i]? = some k∧k<L.length∧(Qab L).idxOf k=i∧Qwa (Qoa L) i=Qwa L k∧Qmb (Qoa L) i=Qmb L k∧(i=0→k=0)∧(0<i→0<k∧QTa (Qoa L) i=(((Qab L).idxOf (Qwb L k):Nat):Int)∧(Qab L).idxOf (Qwb L k)<i∧(Qab L)[(Qab L).idxOf (Qwb L k)]? = some (Qwb L k)∧QTa L k=(Qwb L k:Int)):=by
 obtain⟨h0,hp,hr⟩:=h
 have hl:=QXb hp h0
 have M0:=Q5c hp h0
 obtain⟨h1,h2⟩:=Qlc hp h0
 have mi:=QWc h2
 have Mk:i<(Qab L).length:=by omega
 have yw:i<(Qoa L).length:=by omega
 have hk:=(h1 _).1 (List.getElem_mem Mk)
 refine⟨(Qab L)[i],List.getElem?_eq_getElem Mk,hk,Qcs mi i Mk,?_,?_,?_,?_⟩
 ·rw[QEa yw,QTe i Mk];rfl
 ·rw[QOa yw,QTe i Mk];rfl
 ·rintro rfl;exact QAj h0 Mk
 ·intro Kp
  obtain⟨hz,Hh⟩:=QTp hp h0 Kp Mk
  have gU:=Q3a hp (by omega:0<(Qab L)[i]) hk
  obtain⟨hq,vq⟩:=Qsj ((h1 (Qwb L (Qab L)[i])).2 (by omega))
  refine⟨by omega,?_,Hh,?_,gU.2.symm⟩
  ·rw[Qsa yw,QTe i Mk];unfold Q4b;simp only;rw[if_neg hz]
  ·rw[List.getElem?_eq_getElem hq,vq]
theorem Quo{L:List Qba}(h:Q2c L):∀(f i k:Nat),i<L.length→(Qab L)[i]? = some k→Q6b (Qoa L) f i=Q6b L f k:=by
 intro f
 induction f with
 | zero=>intro i k _ _;rfl
 | succ f ih=>
  intro i k hi hk
  obtain⟨k',hk',kH,_,_,_,hz,hs⟩:=QFb h hi
  rw[hk]at hk';cases hk'
  unfold Q6b
  by_cases Kp:i=0
  ·subst Kp;rw[hz rfl];simp
  ·obtain⟨k0,iG,Hh,hg,vp⟩:=hs (by omega)
   rw[if_pos (by omega),if_pos (by omega)]
   simp only[Int.toNat_natCast]
   rw[iG,vp,ih _ _ (by omega) hg]
theorem QYm:∀(T:List Qba) (i:Nat),(∀k (h:k<T.length),Qud (i+k) T[k]=true∧T[k].props.all (fun p=>Q6a p.name)=true)→QEd i T=true:=by
 intro T
 induction T with
 | nil=>intro i _;rfl
 | cons n r ih=>
  intro i h
  rw[QJf,Bool.and_eq_true,Bool.and_eq_true]
  refine⟨h 0 (by simp),ih _ (fun k hk=>?_)⟩
  have:=h (k+1) (by simpa using hk)
  rw[show i+1+k=i+(k+1)from by omega];exact this
theorem Q1g{L:List Qba}(h:Q2c L)(hn:QWa L=true):QWa (Qoa L)=true:=by
 have hl:=QXb h.2.1 h.1
 have M2:=QSe h
 refine QYm _ 0 (fun i hi=>?_)
 have vb:i<L.length:=by omega
 obtain⟨k,hk,kH,_,Hv,ku,hz,hs⟩:=QFb h vb
 obtain⟨a1,a2⟩:=QRc L 0 hn k kH
 rw[QEa hi,QEa kH]at Hv
 rw[QOa hi,QOa kH]at ku
 rw[Nat.zero_add]at a1 ⊢
 refine⟨?_,by rw[ku];exact a2⟩
 unfold Qud at a1 ⊢
 rw[Hv]
 by_cases Kp:i=0
 ·subst Kp
  obtain rfl:=hz rfl
  have:=M2.2.2
  rw[Qsa hi]at this
  rw[if_pos rfl]at a1 ⊢
  rw[this]
  simp only[Bool.and_eq_true]at a1 ⊢
  exact⟨by simp,a1.2⟩
 ·obtain⟨k0,iG,Hh,_,_⟩:=hs (by omega)
  rw[if_neg (by omega)]at a1
  rw[if_neg Kp]
  simp only[Bool.and_eq_true]at a1 ⊢
  rw[Qsa hi]at iG
  refine⟨?_,a1.2⟩
  rw[iG];simp;omega
theorem Qnm{L:List Qba}(h:Q2c L)(hn:QWa L=true)(hD:Dis L):QIi (Qoa L)=false:=by
 have hl:=QXb h.2.1 h.1
 rw[QPj (Q1g h hn)]
 unfold Qlf
 rw[List.any_eq_false]
 intro i hi hd
 rw[List.mem_range]at hi
 obtain⟨c,c0,ci,hp,hm⟩:=(Qfh _ i i).1 hd
 obtain⟨k,hk,kH,hid,Hv,_,_,hs⟩:=QFb h (show i<L.length by omega)
 obtain⟨k',hk',nJ,yt,yO,_,_,hs'⟩:=QFb h (show c<L.length by omega)
 obtain⟨k0,iG,Hh,hg,vp⟩:=hs (by omega)
 obtain⟨k0',yZ,td,hg',yX⟩:=hs' c0
 rw[iG,yZ]at hp
 have e:(Qab L).idxOf (Qwb L k')=(Qab L).idxOf (Qwb L k):=by omega
 rw[e,hg]at hg'
 have e2:Qwb L k'=Qwb L k:=(Option.some.inj hg').symm
 have:=hD k' k k0' nJ k0 kH (by rw[vp,yX,e2]) (by rw[←Hv,←yO,hm])
 rw[this,hid]at yt
 omega
theorem Qmm{L:List Qba}(h:Q2c L)(hd:∀k,k<L.length→Q6b L L.length k≤8):QPd (Qoa L)=false:=by
 have hl:=QXb h.2.1 h.1
 unfold QPd
 rw[List.any_eq_false]
 intro i hi
 rw[List.mem_range]at hi
 obtain⟨k,hk,kH,_⟩:=QFb h (show i<L.length by omega)
 unfold QAs
 rw[hl,Quo h _ i k (by omega) hk]
 have:=hd k kH
 simp;omega
theorem QHg{L:List Qba}(h:Q2c L){n:Qba}(hn:n∈Qoa L):∃m∈L,n.props=m.props:=by
 unfold Qoa at hn
 obtain⟨k,hk,rfl⟩:=List.mem_map.1 hn
 have hk':=((Qlc h.2.1 h.1).1 k).1 hk
 exact⟨L[k],List.getElem_mem hk',QOa hk'⟩
end Go.Proofs.YtgaboghigefgbaaGreatDoor
open Go
namespace Go.Proofs.YtgaboghigefgbaaGreatDoor
theorem QXl(g:Qcf→Qcf):∀(p q:List Qcf),(∀r x y p' q',p=r++x::p'→q=r++y::q'→ltC x y→ltC (g x) (g y))→ltP p q→ltP (p.map g) (q.map g)
 | [],[],_,h=>h.elim
 | [],_::_,_,_=>trivial
 | _::_,[],_,h=>h.elim
 | a::p,b::q,H,h=>by
  rcases h with h|⟨rfl,h⟩
  ·exact .inl (H [] a b p q rfl rfl h)
  ·exact .inr ⟨rfl,QXl g p q (fun r x y p' q' e1 e2=>H (a::r) x y p' q' (by rw[e1];rfl) (by rw[e2];rfl)) h⟩
theorem QDj{L:List Qba}(h:Par L):∀(n a:Nat),a≤n→a<L.length→∀(r:List Qcf) (x:Qcf) (p':List Qcf),pc L a=r++x::p'→0<x.2∧x.2<L.length∧x.1=Qwa L x.2∧pc L (Qwb L x.2)=r:=by
 intro n
 induction n with
 | zero=>intro a ha _ r x p' e;obtain rfl:a=0:=by omega
         rw[Qte]at e;simp at e
 | succ n ih=>
  intro a ha mX r x p' e
  by_cases h0:a=0
  ·subst h0;rw[Qte]at e;simp at e
  ·have hp:=Q3a h (by omega) mX
   rw[Qlb h (by omega) mX]at e
   rcases List.eq_nil_or_concat p' with rfl|⟨q,b,rfl⟩
   ·obtain⟨e1,e2⟩:=List.append_inj' e rfl
    cases e2
    exact⟨by show 0<a;omega,mX,rfl,e1⟩
   ·rw[show r++x::(q.concat b)=(r++x::q)++[b]from by simp]at e
    obtain⟨e1,_⟩:=List.append_inj' e rfl
    exact ih _ (by omega) (by omega) r x q e1
theorem Q6h{L:List Qba}(h:Q2c L):∀(n i k:Nat),i≤n→i<L.length→(Qab L)[i]? = some k→pc (Qoa L) i=(pc L k).map (fun c=>(c.1,(Qab L).idxOf c.2)):=by
 have hl:=QXb h.2.1 h.1
 have M2:=QSe h
 intro n
 induction n with
 | zero=>
  intro i k hi GW hk
  obtain rfl:i=0:=by omega
  obtain⟨k',hk',_,_,_,_,hz,_⟩:=QFb h GW
  rw[hk]at hk';cases hk'
  rw[hz rfl];rfl
 | succ n ih=>
  intro i k hi GW hk
  obtain⟨k',hk',kH,hid,Hv,_,hz,hs⟩:=QFb h GW
  rw[hk]at hk';cases hk'
  by_cases h0:i=0
  ·subst h0;rw[hz rfl];rfl
  ·obtain⟨k0,iG,Hh,hg,vp⟩:=hs (by omega)
   rw[Qlb M2.2.1 (by omega) (by omega),Qlb h.2.1 k0 kH,List.map_append]
   have e:Qwb (Qoa L) i=(Qab L).idxOf (Qwb L k):=by
    show(QTa (Qoa L) i).toNat=_
    rw[iG];simp
   rw[e,ih _ _ (by omega) (by omega) hg,Hv]
   simp[hid]
theorem Qto{L:List Qba}(h:Q2c L)(hD:Dis L):Asc (Qoa L):=by
 have hl:=QXb h.2.1 h.1
 have M0:=Q5c h.2.1 h.1
 obtain⟨h1,h2⟩:=Qlc h.2.1 h.1
 intro i h0 hi
 have vb:i<L.length:=by omega
 have hp:=(List.pairwise_iff_getElem.1 h2) (i-1) i (by omega) (by omega) (by omega)
 unfold ltI at hp ⊢
 have ha:=(h1 _).1 (List.getElem_mem (show i-1<(Qab L).length by omega))
 have hb:=(h1 _).1 (List.getElem_mem (show i<(Qab L).length by omega))
 rw[Q6h h _ (i-1) _ (Nat.le_refl _) (by omega) (List.getElem?_eq_getElem (by omega)),Q6h h _ i _ (Nat.le_refl _) vb (List.getElem?_eq_getElem (by omega))]
 refine QXl _ _ _ (fun r x y p' q' e1 e2 hc=>?_) hp
 obtain⟨x0,xl,xn,xp⟩:=QDj h.2.1 _ _ (Nat.le_refl _) ha r x p' e1
 obtain⟨y0,yl,yn,yp⟩:=QDj h.2.1 _ _ (Nat.le_refl _) hb r y q' e2
 rcases hc with hc|⟨hc,gB⟩
 ·exact .inl hc
 ·exfalso
  have px:=Q3a h.2.1 x0 xl
  have py:=Q3a h.2.1 y0 yl
  have e:=Q1p h.2.1 (show Qwb L x.2<L.length by omega) (show Qwb L y.2<L.length by omega) (xp.trans yp.symm)
  have:=hD x.2 y.2 x0 xl y0 yl (by rw[←px.2,←py.2,e]) (by rw[←xn,←yn,hc])
  omega
theorem Q2k{L:List Qba}(h:Q2c L)(hD:Dis L)(hn:QWa L=true)(hlen:L.length≤120)(hf:∀m∈L,QGf m=true)(ha:∀m∈L,Qtd m.props=true)(hd:∀k,k<L.length→Q6b L L.length k≤8):Qfa (Qoa L)=0:=by
 have hl:=QXb h.2.1 h.1
 have h0:=h.1
 have M2:=QSe h
 refine Qjj ⟨?_,Q1g h hn,?_,Qnm h hn hD,Qmm h hd⟩
 ·unfold Qza
  rw[Bool.and_eq_true,List.all_eq_true]
  refine⟨by simp;omega,fun n hn=>?_⟩
  obtain⟨m,hm,e⟩:=QHg h hn
  have:=hf m hm
  unfold QGf at this ⊢
  rw[e];exact this
 ·refine(Qbf M2.2.1 M2.2.2).2 ⟨fun j hj=>?_,Qto h hD⟩
  rw[QOa hj]
  obtain⟨m,hm,e⟩:=QHg h (List.getElem_mem hj)
  rw[e];exact ha m hm
theorem QGm{T:List Qba}(h:Par T):∀(n i f:Nat),i≤n→i<T.length→i≤f→Q6b T f i=Q6b T i i:=by
 intro n
 induction n with
 | zero=>intro i f hi _ _;obtain rfl:i=0:=by omega
         cases f <;> simp[Q6b]
 | succ n ih=>
  intro i f hi GW hf
  by_cases h0:i=0
  ·subst h0;cases f <;> simp[Q6b]
  ·obtain⟨i,rfl⟩:∃j,i=j+1:=⟨i-1,by omega⟩
   obtain⟨f,rfl⟩:∃j,f=j+1:=⟨f-1,by omega⟩
   have hp:=Q3a h (by omega) GW
   unfold Q6b
   rw[if_pos (by omega),if_pos (by omega)]
   simp only[Int.toNat_natCast]
   rw[←hp.2,ih _ f (by omega) (by omega) (by omega),ih _ i (by omega) (by omega) (by omega)]
theorem Qer{T:List Qba}(n:Qba):∀(f i:Nat),Par T→i<T.length→Q6b (T++[n]) f i=Q6b T f i:=by
 intro f
 induction f with
 | zero=>intro i _ _;rfl
 | succ f ih=>
  intro i h hi
  unfold Q6b
  by_cases h0:i=0
  ·subst h0;simp
  ·have hp:=Q3a h (by omega) hi
   rw[if_pos (by omega),if_pos (by omega)]
   simp only[Int.toNat_natCast]
   have e:QTa (T++[n]) i=QTa T i:=by unfold QTa;rw[List.getElem?_append_left hi]
   rw[e,←hp.2,ih _ h (by omega)]
theorem QQn{T:List Qba}(hc:Qfa T=0){k:Nat}{name:ByteArray}(hk:k<T.length)(hn:Q0a name.data.toList=true)(ha:T.any (QNa (k:Int) name)=false)(hd:Q6b T T.length (k:Int)<8)(hl:T.length<120):Qfa (Qoa (T++[⟨(k:Int),name,[]⟩]))=0:=by
 obtain⟨h1,h2,h3,h4,h5⟩:=Qya hc
 have h0:0<T.length:=by omega
 have hp:=Qua h2
 have zt:Q2c T:=⟨h0,hp,Qqb h2 h0⟩
 have hs:=Qae zt (n:=⟨(k:Int),name,[]⟩) rfl hk
 have hf:∀m∈T,QGf m=true:=by
  unfold Qza at h1
  rw[Bool.and_eq_true,List.all_eq_true]at h1
  exact h1.2
 refine Q2k hs (QHm (QAc hc) hk ha) ?_ (by simp;omega) ?_ ?_ ?_
 ·refine QYm _ 0 (fun i hi=>?_)
  rw[Nat.zero_add]
  by_cases hiT:i<T.length
  ·rw[List.getElem_append_left hiT]
   have:=QRc T 0 h2 i hiT
   rw[Nat.zero_add]at this;exact this
  ·obtain rfl:i=T.length:=by simp at hi;omega
   rw[List.getElem_append_right (Nat.le_refl _)]
   simp only[Nat.sub_self,List.getElem_cons_zero,List.all_nil,and_true]
   unfold Qud
   rw[if_neg (by omega)]
   simp[hn];omega
 ·intro m hm
  rcases List.mem_append.1 hm with h|h
  ·exact hf m h
  ·simp at h;subst h;rfl
 ·intro m hm
  rcases List.mem_append.1 hm with h|h
  ·exact Qfc hc m h
  ·simp at h;subst h;rfl
 ·intro i hi
  have hlen:(T++[(⟨(k:Int),name,[]⟩:Qba)]).length=T.length+1:=by simp
  rw[hlen]at hi ⊢
  have hT:∀j,j<T.length→∀f,j≤f→Q6b (T++[(⟨(k:Int),name,[]⟩:Qba)]) f j=Q6b T T.length j:=by
   intro j hj f hf
   rw[Qer _ _ _ hp hj,QGm hp _ j f (Nat.le_refl _) hj hf,QGm hp _ j T.length (Nat.le_refl _) hj (by omega)]
  by_cases hiT:i<T.length
  ·rw[hT i hiT _ (by omega)];exact QMi hc i hiT
  ·obtain rfl:i=T.length:=by omega
   have e:QTa (T++[(⟨(k:Int),name,[]⟩:Qba)]) T.length=(k:Int):=by unfold QTa;simp
   unfold Q6b
   rw[if_pos (by omega)]
   simp only[Int.toNat_natCast]
   rw[e,hT k hk _ (by omega)]
   omega
theorem Q1j{T:List Qba}{s name:ByteArray}(he:(Q3c T s name).2=0):Qfa (Q3c T s name).1=0∧(Q3c T s name).1.length=T.length+1:=by
 unfold Q3c at he ⊢
 rcases Qsb T s with⟨hb,_⟩|⟨hc,k,hk,hb,_⟩
 ·rw[if_pos hb]at he;exact absurd he hb
 ·rw[hb]at he ⊢
  rw[if_neg (by simp)]at he ⊢
  by_cases h1:Q0a name.data.toList=false
  ·rw[if_pos h1]at he;simp at he
  rw[if_neg h1]at he ⊢
  by_cases h2:T.any (QNa ((k:Int),(0:Int)).1 name)=true
  ·rw[if_pos h2]at he;simp at he
  rw[if_neg h2]at he ⊢
  by_cases h3:8≤Q6b T T.length ((k:Int),(0:Int)).1
  ·rw[if_pos h3]at he;simp at he
  rw[if_neg h3]at he ⊢
  by_cases h4:120≤T.length
  ·rw[if_pos h4]at he;simp at he
  rw[if_neg h4]
  have h2':=Qqb (Qya hc).2.1 (by omega)
  refine⟨QQn hc hk (by simpa using h1) (by simpa using h2) (Nat.lt_of_not_le h3) (by omega),?_⟩
  have hs:=Qae (T:=T) ⟨by omega,Qua (Qya hc).2.1,h2'⟩ (n:=⟨(k:Int),name,[]⟩) rfl hk
  show(Qoa _).length=_
  rw[QXb hs.2.1 hs.1];simp
theorem Qlo:Qfa Qko=0:=by kernel_rfl
end Go.Proofs.YtgaboghigefgbaaGreatDoor
namespace Go.Proofs.YtgaboghigefgbaaGreatDoor
open Go.RowKit
def Q3q(p:Qla):Nat:=p.value.size+p.name.size+20
def QOd(l:List Qla):Nat:=(l.map Q3q).sum
def QWd(T:List Qba):Nat:=(T.map fun n=>QOd n.props).sum
theorem Qyh(a b:List Qla):QOd (a++b)=QOd a+QOd b:=by simp[QOd]
theorem Qrn(p:Qla)(b:List Qla):QOd (p::b)=Q3q p+QOd b:=by simp[QOd]
theorem Q4q(l:List Qla)(p:Qla):QOd (QSc l p)≤QOd l+Q3q p:=by
 unfold QSc
 obtain⟨h1,_,_⟩:=Qhm l p.name
 rw[Qyh,Qrn]
 have e1:QOd l=QOd (l.take (Qfb l p.name))+QOd (l.drop (Qfb l p.name)):=by rw[←Qyh,List.take_append_drop]
 have e2:QOd (l.drop (Qff l p.name))≤QOd (l.drop (Qfb l p.name)):=by
  obtain⟨d,hd⟩:∃d,Qff l p.name=Qfb l p.name+d:=⟨Qff l p.name-Qfb l p.name,by omega⟩
  rw[hd,←List.drop_drop]
  generalize l.drop (Qfb l p.name)=m
  have:QOd m=QOd (m.take d)+QOd (m.drop d):=by rw[←Qyh,List.take_append_drop]
  omega
 omega
theorem Q0o:∀(T:List Qba) (k:Nat) (n:Qba) (h:k<T.length),QWd (T.set k n)+QOd T[k].props=QWd T+QOd n.props:=by
 intro T
 induction T with
 | nil=>intro k n h;simp at h
 | cons m T ih=>
  intro k n h
  cases k with
  | zero=>simp only[QWd,List.set_cons_zero,List.map_cons,List.sum_cons,List.getElem_cons_zero];omega
  | succ k=>
   have:=ih k n (by simpa using h)
   simp only[QWd,List.set_cons_succ,List.map_cons,List.sum_cons,List.getElem_cons_succ]at this ⊢
   omega
theorem Q5q{T:List Qba}{s name value:ByteArray}(he:(QSd T s name value).2=0):QWd (QSd T s name value).1≤QWd T+(value.size+name.size+20):=by
 unfold QSd at he ⊢
 split
 ·simp[QWd]
 ·rename_i h0
  rw[if_neg h0]at he
  split
  ·simp[QWd]
  ·rename_i h1
   rw[if_neg h1]at he
   split
   ·simp[QWd]
   ·simp only
    unfold QIb
    split
    ·rename_i n hn
     have hk:=(List.getElem?_eq_some_iff.1 hn).1
     have h2:=Q0o T (QBa T s).1.toNat (Qod n ⟨name,value⟩) hk
     have h3:T[(QBa T s).1.toNat]=n:=(List.getElem?_eq_some_iff.1 hn).2
     have h4:=Q4q n.props ⟨name,value⟩
     rw[h3]at h2
     unfold Qod at h2 ⊢
     simp only at h2
     unfold Q3q at h4
     simp only at h4
     omega
    ·omega
def QLq(T:List Qba):Prop:=∀n∈T,n.props=[]
theorem QYo{T:List Qba}(h:QLq T):QWd T=0:=by
 unfold QWd
 have:(T.map fun n=>QOd n.props)=T.map fun _=>0:=List.map_congr_left fun n hn=>by rw[h n hn];rfl
 rw[this]
 clear this h
 induction T with
 | nil=>rfl
 | cons n T ih=>rw[List.map_cons,List.sum_cons,ih]
theorem QYq{T:List Qba}{s name:ByteArray}(h:QLq T)(he:(Q3c T s name).2=0):QLq (Q3c T s name).1:=by
 rcases Qsb T s with⟨h1,_⟩|⟨hc,k,hk,hb,_⟩
 ·unfold Q3c at he;rw[if_pos h1]at he;exact absurd he h1
 ·unfold Q3c at he ⊢
  rw[hb]at he ⊢
  rw[if_neg (by simp)]at he ⊢
  split at he
  ·cases he
  ·rename_i h2
   rw[if_neg h2]
   split at he
   ·cases he
   ·rename_i h3
    rw[if_neg h3]
    split at he
    ·cases he
    ·rename_i h4
     rw[if_neg h4]
     split at he
     ·cases he
     ·rename_i h5
      rw[if_neg h5]
      have hP:=Qua (Qya hc).2.1
      have hT:Q2c T:=⟨by omega,hP,Qqb (Qya hc).2.1 (by omega)⟩
      have hS:=Qae hT (n:=⟨(k:Int),name,[]⟩) rfl hk
      intro n hn
      obtain⟨m,hm,e⟩:=QHg hS hn
      rw[e]
      rcases List.mem_append.1 hm with hm|hm
      ·exact h m hm
      ·rw[List.mem_singleton.1 hm]
end Go.Proofs.YtgaboghigefgbaaGreatDoor
