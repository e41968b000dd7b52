/- Lemmas on the way to the law; no conditions. -/
import Derived.Test.YtgaboghigefgbaaGreatDoorZ1
import Derived.Test.YtgaboghigefgbaaGreatDoorZ2
import Derived.Laws.OwnMore
set_option linter.all false
namespace Go.Proofs.YtgaboghigefgbaaGreatDoor
open Go.RowKit
def QAa(R:Nat→Prop)(w:World)(v:Value)(ps:List Qqa):Prop:=
 ∃(a:Option Addr) (cap:Nat),v=.slice a ps.length cap∧ps.length≤cap∧cap≤9223372036854775807∧
  (0<ps.length→∃g o,a=some ⟨g,o,none⟩∧R g∧∀(k:Nat) (h:k<ps.length),w.cell? ⟨g,o+k*2,none⟩=some (.string ps[k].name)∧w.cell? ⟨g,o+k*2+1,none⟩=some (.string ps[k].value)∧
   ps[k].name.size≤9223372036854775807∧ps[k].value.size≤9223372036854775807)
def Qoa(R:Nat→Prop)(w:World)(v:Value)(T:List Qba):Prop:=
 ∃(a:Option Addr) (cap:Nat),v=.slice a T.length cap∧T.length≤cap∧cap≤9223372036854775807∧
  (0<T.length→∃g o,a=some ⟨g,o,none⟩∧R g∧∀(k:Nat) (h:k<T.length),∃pv,w.cell? ⟨g,o+k*3,none⟩=some (.int .i64 T[k].parent)∧w.cell? ⟨g,o+k*3+1,none⟩=some (.string T[k].name)∧
   w.cell? ⟨g,o+k*3+2,none⟩=some pv∧QAa R w pv T[k].props∧T[k].name.size≤9223372036854775807∧-9223372036854775808≤T[k].parent∧T[k].parent≤9223372036854775807)
theorem QAa.shape{R:Nat→Prop}{w:World}{v:Value}{ps:List Qqa}(h:QAa R w v ps):∃a cap,v=.slice a ps.length cap∧ps.length≤cap∧cap≤9223372036854775807:=by
 obtain⟨a,cap,e,h1,h2,_⟩:=h;exact⟨a,cap,e,h1,h2⟩
theorem Qoa.shape{R:Nat→Prop}{w:World}{v:Value}{T:List Qba}(h:Qoa R w v T):∃a cap,v=.slice a T.length cap∧T.length≤cap∧cap≤9223372036854775807:=by
 obtain⟨a,cap,e,h1,h2,_⟩:=h;exact⟨a,cap,e,h1,h2⟩
theorem QAa.at{R:Nat→Prop}{w:World}{a:Option Addr}{n cap:Nat}{ps:List Qqa}(h:QAa R w (.slice a n cap) ps)(k:Nat)(hk:k<ps.length) :
 ∃g o,a=some ⟨g,o,none⟩∧g<w.heap.size∧w.cell? ⟨g,o+k*2,none⟩=some (.string ps[k].name)∧w.cell? ⟨g,o+k*2+1,none⟩=some (.string ps[k].value)∧ps[k].name.size≤9223372036854775807∧ps[k].value.size≤9223372036854775807:=by
 obtain⟨a',cap',e,h1,h2,h3⟩:=h;cases e;obtain⟨g,o,rfl,_,hc⟩:=h3 (by omega);obtain⟨c0,c1,b0,b1⟩:=hc k hk;exact⟨g,o,rfl,World.block_lt_of_cell? w _ c0,c0,c1,b0,b1⟩
theorem Qoa.at{R:Nat→Prop}{w:World}{a:Option Addr}{n cap:Nat}{T:List Qba}(h:Qoa R w (.slice a n cap) T)(k:Nat)(hk:k<T.length) :
 ∃g o pa pc,a=some ⟨g,o,none⟩∧g<w.heap.size∧w.cell? ⟨g,o+k*3,none⟩=some (.int .i64 T[k].parent)∧w.cell? ⟨g,o+k*3+1,none⟩=some (.string T[k].name)∧
  w.cell? ⟨g,o+k*3+2,none⟩=some (.slice pa T[k].props.length pc)∧QAa R w (.slice pa T[k].props.length pc) T[k].props∧T[k].props.length≤pc∧pc≤9223372036854775807∧
  T[k].name.size≤9223372036854775807∧-9223372036854775808≤T[k].parent∧T[k].parent≤9223372036854775807:=by
 obtain⟨a',cap',e,h1,h2,h3⟩:=h;cases e;obtain⟨g,o,rfl,_,hc⟩:=h3 (by omega);obtain⟨pv,c0,c1,c2,hp,b0,b1,b2⟩:=hc k hk;obtain⟨pa,pc,rfl,p1,p2⟩:=hp.shape;exact⟨g,o,pa,pc,rfl,World.block_lt_of_cell? w _ c0,c0,c1,c2,hp,p1,p2,b0,b1,b2⟩
theorem QAa.keeps{R S:Nat→Prop}{w w':World}{v:Value}{ps:List Qqa}(h:QAa R w v ps)(k:Qaa S w w')(hs:∀g,R g→¬S g):QAa R w' v ps:=by
 obtain⟨a,cap,e,h1,h2,h3⟩:=h;refine⟨a,cap,e,h1,h2,fun h0=>?_⟩;obtain⟨g,o,ea,hR,hc⟩:=h3 h0;refine⟨g,o,ea,hR,fun j hj=>?_⟩;obtain⟨c0,c1,b0,b1⟩:=hc j hj;have hg:=World.block_lt_of_cell? w _ c0;exact⟨(k.cell (p:=⟨g,o+j*2,none⟩) hg (hs g hR)).trans c0,(k.cell (p:=⟨g,o+j*2+1,none⟩) hg (hs g hR)).trans c1,b0,b1⟩
theorem Qoa.keeps{R S:Nat→Prop}{w w':World}{v:Value}{T:List Qba}(h:Qoa R w v T)(k:Qaa S w w')(hs:∀g,R g→¬S g):Qoa R w' v T:=by
 obtain⟨a,cap,e,h1,h2,h3⟩:=h;refine⟨a,cap,e,h1,h2,fun h0=>?_⟩;obtain⟨g,o,ea,hR,hc⟩:=h3 h0;refine⟨g,o,ea,hR,fun j hj=>?_⟩;obtain⟨pv,c0,c1,c2,hp,b0,b1,b2⟩:=hc j hj;have hg:=World.block_lt_of_cell? w _ c0;exact⟨pv,(k.cell (p:=⟨g,o+j*3,none⟩) hg (hs g hR)).trans c0,(k.cell (p:=⟨g,o+j*3+1,none⟩) hg (hs g hR)).trans c1,(k.cell (p:=⟨g,o+j*3+2,none⟩) hg (hs g hR)).trans c2,hp.keeps k hs,b0,b1,b2⟩
theorem Qoa.new{R:Nat→Prop}{w w':World}{v:Value}{T:List Qba}(h:Qoa R w v T)(b:Below w.heap.size w w'):Qoa R w' v T:=h.keeps (Qaa.of_fresh b (fun _=>False)) (fun _ _ e=>e)
theorem QAa.new{R:Nat→Prop}{w w':World}{v:Value}{ps:List Qqa}(h:QAa R w v ps)(b:Below w.heap.size w w'):QAa R w' v ps:=h.keeps (Qaa.of_fresh b (fun _=>False)) (fun _ _ e=>e)
theorem Qoa.mono{R R':Nat→Prop}{w:World}{v:Value}{T:List Qba}(h:Qoa R w v T)(hs:∀g,R g→R' g):Qoa R' w v T:=by
 obtain⟨a,cap,e,h1,h2,h3⟩:=h;refine⟨a,cap,e,h1,h2,fun h0=>?_⟩;obtain⟨g,o,ea,hR,hc⟩:=h3 h0;refine⟨g,o,ea,hs g hR,fun j hj=>?_⟩;obtain⟨pv,c0,c1,c2,hp,r⟩:=hc j hj;refine⟨pv,c0,c1,c2,?_,r⟩;obtain⟨a,cap,e,h1,h2,h3⟩:=hp;refine⟨a,cap,e,h1,h2,fun h0=>?_⟩;obtain⟨g,o,ea,hR,hc⟩:=h3 h0;exact⟨g,o,ea,hs g hR,hc⟩
theorem QJa{B:Nat}{a w:World}(h:Below B a w)(n:Nat):Below B a (w.drewN n):=⟨h.os,h.tape,h.output,h.size,h.block⟩
def Qpa:List Qba→List Value→List Value
 | n::T,pv::pvs=>.int .i64 n.parent :: .string n.name::pv::Qpa T pvs
 | _,_=>[]
def Qfa:List Qqa→List Value
 | []=>[]
 | p::ps=>.string p.name :: .string p.value::Qfa ps
theorem QXc:∀(T:List Qba) (pvs:List Value),pvs.length=T.length→(Qpa T pvs).length=T.length*3
 | [],[],_=>rfl
 | n::T,pv::pvs,h=>by simp only[Qpa,List.length_cons];rw[QXc T pvs (by simpa using h)];omega
theorem Q4a:∀ps:List Qqa,(Qfa ps).length=ps.length*2
 | []=>rfl
 | p::ps=>by simp only[Qfa,List.length_cons];rw[Q4a ps];omega
theorem Qmc:∀(T:List Qba) (pvs:List Value) (k:Nat) (hk:k<T.length) (hp:k<pvs.length),pvs.length=T.length→
 (Qpa T pvs)[k*3]? = some (.int .i64 T[k].parent)∧(Qpa T pvs)[k*3+1]? = some (.string T[k].name)∧(Qpa T pvs)[k*3+2]? = some pvs[k]
 | n::T,pv::pvs,0,_,_,_=>⟨rfl,rfl,rfl⟩
 | n::T,pv::pvs,k+1,hk,hp,h=>by
  have:=Qmc T pvs k (by simpa using hk) (by simpa using hp) (by simpa using h);rw[show(k+1)*3=k*3+3 from by omega];exact this
theorem QGe:∀(ps:List Qqa) (k:Nat) (hk:k<ps.length),(Qfa ps)[k*2]? = some (.string ps[k].name)∧(Qfa ps)[k*2+1]? = some (.string ps[k].value)
 | p::ps,0,_=>⟨rfl,rfl⟩
 | p::ps,k+1,hk=>by
  have:=QGe ps k (by simpa using hk);rw[show(k+1)*2=k*2+2 from by omega];exact this
theorem Qdc:∀(T:List Qba) (pvs:List Value) (n:Qba) (pv:Value),pvs.length=T.length→Qpa (T++[n]) (pvs++[pv])=Qpa T pvs++[.int .i64 n.parent,.string n.name,pv]
 | [],[],_,_,_=>rfl
 | n::T,p::pvs,m,pv,h=>by simp only[Qpa,List.cons_append];rw[Qdc T pvs m pv (by simpa using h)]
theorem Qde:∀(a b:List Qqa),Qfa (a++b)=Qfa a++Qfa b
 | [],_=>rfl
 | p::a,b=>by simp only[Qfa,List.cons_append];rw[Qde a b]
theorem QDb:∀ps:List Qqa,∀u∈Qfa ps,u.oneCell'=true
 | [],u,h=>by cases h
 | p::ps,u,h=>by
  rcases List.mem_cons.1 h with rfl|h
  ·rfl
  rcases List.mem_cons.1 h with rfl|h
  ·rfl
  exact QDb ps u h
theorem Qwh(w:World)(g o:Nat)(xs:List Value)(h:∀j,j<xs.length→w.cell? ⟨g,o+j,none⟩=xs[j]?):∀j u,xs[j]? = some u→w.cell? ((⟨g,o,none⟩:Addr).add j)=some u:=by
 intro j u hu;have Gk:(⟨g,o,none⟩:Addr).add j=⟨g,o+j,none⟩:=by unfold Addr.add;split <;> simp_all
 rw[Gk,h j (List.getElem?_eq_some_iff.1 hu).1,hu]
def Qcc(n:Qba):Prop:=n.name.size≤9223372036854775807∧-9223372036854775808≤n.parent∧n.parent≤9223372036854775807
def Qod(p:Qqa):Prop:=p.name.size≤9223372036854775807∧p.value.size≤9223372036854775807
theorem Qqq{R:Nat→Prop}{w:World}{base:Nat}{E:TypeId}{v:Value}{ps:List Qqa}(h:w.ownsRow base E 2 v ps.length (Qfa ps))(hb:∀p∈ps,Qod p)(hR:∀g,base≤g→R g):QAa R w v ps:=by
 rcases h.2 with⟨rfl,h0⟩|⟨g,cap,cur,rfl,Hc,hh,hcap,hmax,_⟩
 ·exact⟨none,0,by rw[h0],by omega,by omega,fun hp=>by omega⟩
 have hm:cap≤9223372036854775807:=by unfold maxLen at hmax;omega
 refine⟨some ⟨g,0,none⟩,cap,rfl,hcap,hm,fun _=>⟨g,0,rfl,hR g Hc,fun k hk=>?_⟩⟩;obtain⟨a0,a1⟩:=QGe ps k hk;have c:=fun j (hj:j<ps.length*2)=>h.cellAt j hj;obtain⟨o1,o2⟩:=hb ps[k] (List.getElem_mem hk);rw[Nat.zero_add];exact⟨(c _ (by omega)).trans a0,(c _ (by omega)).trans a1,o1,o2⟩
theorem QPk{R:Nat→Prop}{w:World}{base:Nat}{E:TypeId}{v:Value}{T:List Qba}{pvs:List Value}(h:w.ownsRow base E 3 v T.length (Qpa T pvs))(hl:pvs.length=T.length)
 (hp:∀k (h:k<T.length) (h2:k<pvs.length),QAa R w pvs[k] T[k].props) (hb:∀n∈T,Qcc n) (hR:∀g,base≤g→R g):Qoa R w v T:=by
 rcases h.2 with⟨rfl,h0⟩|⟨g,cap,cur,rfl,Hc,hh,hcap,hmax,_⟩
 ·exact⟨none,0,by rw[h0],by omega,by omega,fun hp=>by omega⟩
 have hm:cap≤9223372036854775807:=by unfold maxLen at hmax;omega
 refine⟨some ⟨g,0,none⟩,cap,rfl,hcap,hm,fun _=>⟨g,0,rfl,hR g Hc,fun k hk=>?_⟩⟩;obtain⟨a0,a1,a2⟩:=Qmc T pvs k hk (by omega) hl;have c:=fun j (hj:j<T.length*3)=>h.cellAt j hj;obtain⟨o1,o2,o3⟩:=hb T[k] (List.getElem_mem hk);rw[Nat.zero_add];exact⟨_,(c _ (by omega)).trans a0,(c _ (by omega)).trans a1,(c _ (by omega)).trans a2,hp k hk (by omega),o1,o2,o3⟩
theorem Qoa.row{R:Nat→Prop}{w:World}{a:Option Addr}{n cap:Nat}{T:List Qba}(h:Qoa R w (.slice a n cap) T)(h0:0<T.length) :
 ∃g o pvs,a=some ⟨g,o,none⟩∧g<w.heap.size∧R g∧pvs.length=T.length∧(∀k (h:k<T.length) (h2:k<pvs.length),QAa R w pvs[k] T[k].props)∧(∀n∈T,Qcc n)∧
  (∀j u,(Qpa T pvs)[j]? = some u→w.cell? ((⟨g,o,none⟩:Addr).add j)=some u)∧∀u∈Qpa T pvs,u.oneCell'=true:=by
 obtain⟨a',cap',e,h1,h2,h3⟩:=h;cases e;obtain⟨g,o,rfl,hR,hc⟩:=h3 h0;have hl:((List.range T.length).map fun k=>(w.cell? ⟨g,o+k*3+2,none⟩).getD undef).length=T.length:=by simp
 have gj:∀k (h:k<T.length) (h2:k<((List.range T.length).map fun k=>(w.cell? ⟨g,o+k*3+2,none⟩).getD undef).length),w.cell? ⟨g,o+k*3+2,none⟩=some ((List.range T.length).map fun k=>(w.cell? ⟨g,o+k*3+2,none⟩).getD undef)[k]∧QAa R w ((List.range T.length).map fun k=>(w.cell? ⟨g,o+k*3+2,none⟩).getD undef)[k] T[k].props:=by
  intro k hk h2;obtain⟨pv,_,_,c2,hp,_⟩:=hc k hk;simp[c2,hp]
 generalize((List.range T.length).map fun k=>(w.cell? ⟨g,o+k*3+2,none⟩).getD undef)=pvs at hl gj;have hg:=World.block_lt_of_cell? w _ (gj 0 h0 (by omega)).1;have gY:∀j (hj:j<(Qpa T pvs).length),w.cell? ⟨g,o+j,none⟩=(Qpa T pvs)[j]?∧∃u,(Qpa T pvs)[j]? = some u∧u.oneCell'=true:=by
  intro j hj;rw[QXc T pvs hl]at hj;have hk:j / 3<T.length:=by omega
  obtain⟨a0,a1,a2⟩:=Qmc T pvs (j / 3) hk (by omega) hl;obtain⟨pv,c0,c1,_,_⟩:=hc (j / 3) hk;obtain⟨c2,hp⟩:=gj (j / 3) hk (by omega);obtain⟨pa,pc,GC,_⟩:=hp.shape;have:j=j / 3*3∨j=j / 3*3+1∨j=j / 3*3+2:=by omega
  rcases this with e|e|e
  ·rw[e,a0];exact⟨c0,_,rfl,rfl⟩
  ·rw[e,a1];exact⟨by rw[←Nat.add_assoc];exact c1,_,rfl,rfl⟩
  rw[e,a2];exact⟨by rw[←Nat.add_assoc];exact c2,_,rfl,by rw[GC];rfl⟩
 refine⟨g,o,pvs,rfl,hg,hR,hl,fun k h h2=>(gj k h h2).2,?_,Qwh w g o _ (fun j hj=>(gY j hj).1),?_⟩
 ·intro n hn;obtain⟨k,hk,rfl⟩:=List.mem_iff_getElem.1 hn;obtain⟨pv,_,_,_,_,b0,b1,b2⟩:=hc k hk;exact⟨b0,b1,b2⟩
 intro u hu;obtain⟨j,hj,rfl⟩:=List.mem_iff_getElem.1 hu;obtain⟨u,h1,h2⟩:=(gY j hj).2;rw[List.getElem?_eq_getElem hj]at h1;cases h1;exact h2
theorem QAa.row{R:Nat→Prop}{w:World}{a:Option Addr}{n cap:Nat}{ps:List Qqa}(h:QAa R w (.slice a n cap) ps)(h0:0<ps.length) :
 ∃g o,a=some ⟨g,o,none⟩∧g<w.heap.size∧R g∧(∀p∈ps,Qod p)∧(∀j u,(Qfa ps)[j]? = some u→w.cell? ((⟨g,o,none⟩:Addr).add j)=some u)∧∀u∈Qfa ps,u.oneCell'=true:=by
 obtain⟨a',cap',e,h1,h2,h3⟩:=h;cases e;obtain⟨g,o,rfl,hR,hc⟩:=h3 h0;have gY:∀j (hj:j<(Qfa ps).length),w.cell? ⟨g,o+j,none⟩=(Qfa ps)[j]?∧∃u,(Qfa ps)[j]? = some u∧u.oneCell'=true:=by
  intro j hj;rw[Q4a ps]at hj;have hk:j / 2<ps.length:=by omega
  obtain⟨a0,a1⟩:=QGe ps (j / 2) hk;obtain⟨c0,c1,_⟩:=hc (j / 2) hk;have:j=j / 2*2∨j=j / 2*2+1:=by omega
  rcases this with e|e
  ·rw[e,a0];exact⟨c0,_,rfl,rfl⟩
  rw[e,a1];exact⟨by rw[←Nat.add_assoc];exact c1,_,rfl,rfl⟩
 refine⟨g,o,rfl,World.block_lt_of_cell? w _ (hc 0 h0).1,hR,?_,Qwh w g o _ (fun j hj=>(gY j hj).1),?_⟩
 ·intro p hp;obtain⟨k,hk,rfl⟩:=List.mem_iff_getElem.1 hp;obtain⟨_,_,b0,b1⟩:=hc k hk;exact⟨b0,b1⟩
 intro u hu;obtain⟨j,hj,rfl⟩:=List.mem_iff_getElem.1 hu;obtain⟨u,h1,h2⟩:=(gY j hj).2;rw[List.getElem?_eq_getElem hj]at h1;cases h1;exact h2
theorem Qla{w:World}{base:Nat}{e t:TypeId}{size:Nat}{v:Value}{n b:Nat}{xs:List Value}{cs:Array Value}(h:w.ownsRow base e size v n xs)(hH:Holds w b cs t)(Hl:t≠e):v.ownBlock≠some b:=by
 rcases h.2 with⟨rfl,_⟩|⟨g,cap,cur,rfl,_,hh,_⟩
 ·simp[Value.ownBlock]
 intro e2;have e3:g=b:=Option.some.inj e2;subst e3;have h2:w.heap[g]? = some (.cells cs t (0,0)):=hH;rw[h2]at hh;cases hh;exact Hl rfl
theorem QAa.bound{R:Nat→Prop}{w:World}{v:Value}{ps:List Qqa}(h:QAa R w v ps):QAa (fun g=>g<w.heap.size) w v ps:=by
 obtain⟨a,cap,e,h1,h2,h3⟩:=h;refine⟨a,cap,e,h1,h2,fun h0=>?_⟩;obtain⟨g,o,ea,_,hc⟩:=h3 h0;exact⟨g,o,ea,World.block_lt_of_cell? w _ (hc 0 h0).1,hc⟩
theorem Qoa.bound{R:Nat→Prop}{w:World}{v:Value}{T:List Qba}(h:Qoa R w v T):Qoa (fun g=>g<w.heap.size) w v T:=by
 obtain⟨a,cap,e,h1,h2,h3⟩:=h;refine⟨a,cap,e,h1,h2,fun h0=>?_⟩;obtain⟨g,o,ea,_,hc⟩:=h3 h0;refine⟨g,o,ea,?_,fun k hk=>?_⟩
 ·obtain⟨pv,c0,_⟩:=hc 0 h0;exact World.block_lt_of_cell? w _ c0
 obtain⟨pv,c0,c1,c2,hp,r⟩:=hc k hk;exact⟨pv,c0,c1,c2,hp.bound,r⟩
theorem Q5c{w:World}{b1 b2:Nat}{e1 e2:TypeId}{s1 s2:Nat}{v1 v2:Value}{n1 n2:Nat}{x1 x2:List Value}(h1:w.ownsRow b1 e1 s1 v1 n1 x1)(h2:w.ownsRow b2 e2 s2 v2 n2 x2)(Hl:e1≠e2):v1.ownBlock=none∨v1.ownBlock≠v2.ownBlock:=by
 rcases h1.2 with⟨rfl,_⟩|⟨g1,c1,cur1,rfl,_,hh1,_⟩
 ·exact .inl rfl
 rcases h2.2 with⟨rfl,_⟩|⟨g2,c2,cur2,rfl,_,hh2,_⟩
 ·right;simp[Value.ownBlock]
 right;simp only[Value.ownBlock];intro e;simp at e;subst e;rw[hh1]at hh2;simp at hh2;exact Hl hh2.2
theorem Q1b{w:World}{base base':Nat}{e:TypeId}{size:Nat}{v:Value}{n:Nat}{xs:List Value}(h:w.ownsRow base e size v n xs)(hb:base'≤base):w.ownsRow base' e size v n xs:=by
 refine⟨h.1,?_⟩;rcases h.2 with hn|⟨g,cap,cur,hv,hg,rest⟩
 ·exact .inl hn
 exact .inr ⟨g,cap,cur,hv,by omega,rest⟩
theorem Qea{w:World}{base:Nat}{e:TypeId}{size:Nat}{v:Value}{n:Nat}{xs:List Value}(h:w.ownsRow base e size v n xs):∃a cap,v=.slice a n cap:=by
 rcases h.2 with⟨rfl,rfl⟩|⟨g,cap,cur,rfl,_⟩
 ·exact⟨none,0,rfl⟩
 exact⟨_,_,rfl⟩
theorem Qbb{w w':World}{base:Nat}{e:TypeId}{size:Nat}{v:Value}{n:Nat}{xs:List Value}(h:w.ownsRow base e size v n xs)(k:Below w.heap.size w w'):w'.ownsRow base e size v n xs:=Qca h (Qaa.of_fresh k (fun _=>False)) (fun _ _ e=>e)
theorem Qvc{w:World}{base b:Nat}{e t:TypeId}{size:Nat}{v:Value}{n:Nat}{xs:List Value}{cs:Array Value}(h:w.ownsRow base e size v n xs)(hH:Holds w b cs t)(Hl:t≠e)(o:Nat)(x:Value):(w.setCell ⟨b,o,none⟩ x).ownsRow base e size v n xs:=
 Qca h (S:=fun i=>i=b) ((Qaa.refl (fun i=>i=b) w).setCell (p:=⟨b,o,none⟩) (.inr rfl) x) (fun g e1 e2=>Qla h hH Hl (by rw[e1,e2]))
theorem Holds.newAt{w:World}{B:Nat}(hB:w.heap.size=B)(cs:Array Value)(t:TypeId):Holds (w.alloc (.cells cs t)) B cs t:=by
 subst hB;exact Holds.new w cs t
def Qna(w:World)(base:Nat)(v:Value)(ps:List Qqa):Prop:=w.ownsRow base 49 2 v ps.length (Qfa ps)∧∀p∈ps,Qod p
def Qda(w:World)(base:Nat)(v:Value)(T:List Qba):Prop:=
 ∃pvs:List Value,pvs.length=T.length∧w.ownsRow base 46 3 v T.length (Qpa T pvs)∧(∀k (_:k<T.length) (_:k<pvs.length),Qna w base pvs[k] T[k].props)∧∀n∈T,Qcc n
theorem Qna.in{w:World}{base:Nat}{v:Value}{ps:List Qqa}(h:Qna w base v ps):QAa (fun g=>base≤g) w v ps:=Qqq h.1 h.2 (fun _ h=>h)
theorem Qda.in{w:World}{base:Nat}{v:Value}{T:List Qba}(h:Qda w base v T):Qoa (fun g=>base≤g) w v T:=by
 obtain⟨pvs,h1,h2,h3,h4⟩:=h;exact QPk h2 h1 (fun k hk kW=>(h3 k hk kW).in) h4 (fun _ h=>h)
theorem Qna.new{w w':World}{base:Nat}{v:Value}{ps:List Qqa}(h:Qna w base v ps)(k:Below w.heap.size w w'):Qna w' base v ps:=⟨Qbb h.1 k,h.2⟩
theorem Qna.base{w:World}{base base':Nat}{v:Value}{ps:List Qqa}(h:Qna w base v ps)(k:base'≤base):Qna w base' v ps:=⟨Q1b h.1 k,h.2⟩
theorem Qda.new{w w':World}{base:Nat}{v:Value}{T:List Qba}(h:Qda w base v T)(k:Below w.heap.size w w'):Qda w' base v T:=by
 obtain⟨pvs,h1,h2,h3,h4⟩:=h;exact⟨pvs,h1,Qbb h2 k,fun j hj Ge=>(h3 j hj Ge).new k,h4⟩
theorem Qda.base{w:World}{base base':Nat}{v:Value}{T:List Qba}(h:Qda w base v T)(k:base'≤base):Qda w base' v T:=by
 obtain⟨pvs,h1,h2,h3,h4⟩:=h;exact⟨pvs,h1,Q1b h2 k,fun j hj Ge=>(h3 j hj Ge).base k,h4⟩
theorem Qna.set{w:World}{base b:Nat}{t:TypeId}{v:Value}{ps:List Qqa}{cs:Array Value}(h:Qna w base v ps)(hH:Holds w b cs t)(Hl:t≠49)(o:Nat)(x:Value):Qna (w.setCell ⟨b,o,none⟩ x) base v ps:=⟨Qvc h.1 hH Hl o x,h.2⟩
theorem Qda.set{w:World}{base b:Nat}{t:TypeId}{v:Value}{T:List Qba}{cs:Array Value}(h:Qda w base v T)(hH:Holds w b cs t)(Hl:t≠46)(kM:t≠49)(o:Nat)(x:Value):Qda (w.setCell ⟨b,o,none⟩ x) base v T:=by
 obtain⟨pvs,h1,h2,h3,h4⟩:=h;exact⟨pvs,h1,Qvc h2 hH Hl o x,fun j hj Ge=>(h3 j hj Ge).set hH kM o x,h4⟩
theorem Qna.apart{w w':World}{base b2:Nat}{e:TypeId}{s:Nat}{v v2:Value}{ps:List Qqa}{n:Nat}{xs:List Value}(h:Qna w base v ps)(h2:w.ownsRow b2 e s v2 n xs)(hg:w.grownBy w' v2.ownBlock)(Hl:49≠e):Qna w' base v ps:=
 ⟨h.1.kept hg (Q5c h.1 h2 Hl),h.2⟩
theorem Qai{w w':World}{base b:Nat}{e t:TypeId}{size:Nat}{v:Value}{n:Nat}{xs:List Value}{cs:Array Value}(h:w.ownsRow base e size v n xs)(hH:Holds w b cs t)(Hl:t≠e)(k:Qaa (· = b) w w'):w'.ownsRow base e size v n xs:=
 Qca h (S:=fun i=>i=b) k (fun g e1 e2=>Qla h hH Hl (by rw[e1,e2]))
theorem Qda.other{w w':World}{base b:Nat}{t:TypeId}{v:Value}{T:List Qba}{cs:Array Value}(h:Qda w base v T)(hH:Holds w b cs t)(Hl:t≠46)(kM:t≠49)(k:Qaa (· = b) w w'):Qda w' base v T:=by
 obtain⟨pvs,h1,h2,h3,h4⟩:=h;exact⟨pvs,h1,Qai h2 hH Hl k,fun j hj Ge=>⟨Qai (h3 j hj Ge).1 hH kM k,(h3 j hj Ge).2⟩,h4⟩
theorem Qda.nil(w:World)(base:Nat):Qda w base (.slice none 0 0) []:=⟨[],rfl,World.ownsRow_nil _ _ _ _,fun k h=>absurd h (Nat.not_lt_zero k),fun _ h=>by cases h⟩
theorem Qna.nil(w:World)(base:Nat):Qna w base (.slice none 0 0) []:=⟨World.ownsRow_nil _ _ _ _,fun _ h=>by cases h⟩
theorem Qda.more{w w':World}{base:Nat}{v v' pv:Value}{T:List Qba}{pvs:List Value}{n:Qba}(h1:pvs.length=T.length)(h2:w.ownsRow base 46 3 v T.length (Qpa T pvs))
 (h3:∀k (_:k<T.length) (_:k<pvs.length),Qna w base pvs[k] T[k].props) (h4:∀n∈T,Qcc n) (hp:Qna w base pv n.props) (hn:Qcc n)
 (Hi:w'.ownsRow base 46 3 v' (T.length+1) (Qpa T pvs++[.int .i64 n.parent,.string n.name,pv])) (hg:w.grownBy w' v.ownBlock):Qda w' base v' (T++[n]):=by
 refine⟨pvs++[pv],by simp[h1],?_,?_,?_⟩
 ·rw[Qdc T pvs n pv h1,List.length_append];exact Hi
 ·intro k hk kW;by_cases e:k<T.length
  ·have:Qna w' base pvs[k] T[k].props:=(h3 k e (by omega)).apart h2 hg (by decide);simpa[List.getElem_append_left,e,h1]using this
  have e2:k=T.length:=by simp at hk;omega
  subst e2;have:Qna w' base pv n.props:=hp.apart h2 hg (by decide);simpa[List.getElem_append_right,h1]using this
 intro m hm;rcases List.mem_append.1 hm with hm|hm
 ·exact h4 m hm
 simp at hm;subst hm;exact hn
theorem QGc:(Tryz.prog.info? 49).map (fun i=>(i.zero,i.size,i.bytes))=some (some (.agg #[.string ⟨#[]⟩,.string ⟨#[]⟩]),2,32):=by kernel_rfl
theorem QRg:(Tryz.prog.info? 46).map (fun i=>(i.zero,i.size,i.bytes))=some (some (.agg #[.int .i64 0,.string ⟨#[]⟩,.slice none 0 0]),3,48):=by kernel_rfl
theorem QWd{w:World}{B base:Nat}{e:TypeId}{size n:Nat}{cs:Array Value}(hB:w.heap.size=B)(hb:base≤B)(hs:cs.size=n*size)(hn:n≤1000):(w.alloc (.cells cs e)).ownsRow base e size (.slice (some ⟨B,0,none⟩) n n) n cs.toList:=by
 subst hB;refine⟨by simpa using hs,.inr ⟨w.heap.size,n,cs,rfl,hb,heap_alloc_new w _,Nat.le_refl _,by unfold maxLen;omega,hs,?_⟩⟩;rw[List.take_of_length_le (by simp[hs])]
def QOr(x:Qga):List Value:=[.int .i64 x.kind,.string x.path,.string x.name,.string x.value]
def Qha(l:List Qga):List Value:=l.flatMap QOr
def Qie(w:World)(g o:Nat)(x:Qga):Prop:=w.cell? ⟨g,o,none⟩=some (.int .i64 x.kind)∧w.cell? ⟨g,o+1,none⟩=some (.string x.path)∧w.cell? ⟨g,o+2,none⟩=some (.string x.name)∧w.cell? ⟨g,o+3,none⟩=some (.string x.value)
def QFa(w:World)(v:Value)(l:List Qga):Prop:=
 ∃(a:Option Addr) (cap:Nat),v=.slice a l.length cap∧l.length≤cap∧cap≤9223372036854775807∧
  (0<l.length→∃g o,a=some ⟨g,o,none⟩∧g<w.heap.size∧∀(i:Nat) (h:i<l.length),Qie w g (o+i*4) l[i])
theorem Qie.keep{w w':World}{g o:Nat}{x:Qga}(h:Qie w g o x)(k:Below w.heap.size w w')(hg:g<w.heap.size):Qie w' g o x:=
 ⟨(k.cell (p:=⟨g,o,none⟩) hg).trans h.1,(k.cell (p:=⟨g,o+1,none⟩) hg).trans h.2.1,(k.cell (p:=⟨g,o+2,none⟩) hg).trans h.2.2.1,(k.cell (p:=⟨g,o+3,none⟩) hg).trans h.2.2.2⟩
theorem QFa.new{w w':World}{v:Value}{l:List Qga}(h:QFa w v l)(k:Below w.heap.size w w'):QFa w' v l:=by
 obtain⟨a,cap,rfl,h1,h2,h3⟩:=h;refine⟨a,cap,rfl,h1,h2,fun h0=>?_⟩;obtain⟨g,o,rfl,hg,hc⟩:=h3 h0;exact⟨g,o,rfl,Nat.lt_of_lt_of_le hg k.size,fun i hi=>(hc i hi).keep k hg⟩
theorem QFa.slice{w:World}{v:Value}{l:List Qga}(h:QFa w v l):∃a c,v=.slice a l.length c∧l.length≤c∧c≤9223372036854775807:=by
 obtain⟨a,c,e,h1,h2,_⟩:=h;exact⟨a,c,e,h1,h2⟩
theorem Q9b(l:List Qga):(Qha l).length=l.length*4:=by
 induction l with
 | nil=>rfl
 | cons x l ih=>simp only[Qha,List.flatMap_cons,List.length_append,List.length_cons,QOr,List.length_nil]at ih ⊢;omega
theorem Qye:∀(l:List Qga) (i:Nat) (h:i<l.length),(Qha l)[i*4]? = some (.int .i64 l[i].kind)∧(Qha l)[i*4+1]? = some (.string l[i].path)∧(Qha l)[i*4+2]? = some (.string l[i].name)∧(Qha l)[i*4+3]? = some (.string l[i].value)
 | x::l,0,_=>⟨rfl,rfl,rfl,rfl⟩
 | x::l,i+1,h=>by
  have:=Qye l i (by simpa using h);rw[show(i+1)*4=i*4+4 from by omega];exact this
theorem Q3d(l:List Qga):∀u∈Qha l,u.oneCell'=true:=by
 intro u hu;obtain⟨x,_,hx⟩:=List.mem_flatMap.1 hu;simp only[QOr,List.mem_cons,List.not_mem_nil,or_false]at hx;rcases hx with rfl|rfl|rfl|rfl <;> rfl
theorem Q8c{w:World}{base:Nat}{v:Value}{l:List Qga}(h:w.ownsRow base 39 4 v l.length (Qha l)):QFa w v l:=by
 rcases id h.2 with⟨rfl,h0⟩|⟨g,cap,cur,rfl,hb,hh,hcap,hm,hs,ht⟩
 ·exact⟨none,0,by rw[h0],by omega,by omega,fun h1=>by omega⟩
 refine⟨_,cap,rfl,hcap,by unfold maxLen at hm;omega,fun h0=>⟨g,0,rfl,(h.lt g rfl).2,fun i hi=>?_⟩⟩;obtain⟨a,b,c,d⟩:=Qye l i hi;rw[Nat.zero_add];exact⟨by rw[h.cellAt _ (by omega)];exact a,by rw[h.cellAt _ (by omega)];exact b,by rw[h.cellAt _ (by omega)];exact c,by rw[h.cellAt _ (by omega)];exact d⟩
def Dis(L:List Qba):Prop:=∀x y,0<x→x<L.length→0<y→y<L.length→QWa L x=QWa L y→Qya L x=Qya L y→x=y
theorem Q2l{L:List Qba}{p:Nat}(hD:Dis L){ks:List Nat}(hp:ks.Perm (QEa L p))(hs:ks.Pairwise (fun a b=>ltS (Qya L b) (Qya L a)=false)):ks=QEa L p:=by
 have hk:=(QTd L p L.length).2;have kW:(QEa L p).Pairwise (fun a b=>ltS (Qya L b) (Qya L a)=false):=hk.imp (fun {a b} KN=>by
  rcases KN with h|⟨h,_⟩
  ·exact QLk h
  simp only[Qip]at h;rw[h];exact Qqb _)
 refine List.Perm.eq_of_pairwise (le:=fun a b=>ltS (Qya L b) (Qya L a)=false) (fun a b ha hb KN hba=>?_) hs kW hp;have ha':=(QHc L p a).1 (hp.mem_iff.1 ha);have hb':=(QHc L p b).1 hb;refine hD a b ha'.2.1 ha'.1 hb'.2.1 hb'.1 (by rw[ha'.2.2,hb'.2.2]) ?_;rcases Qad hba with e|e
 ·exact e
 rw[e]at KN;cases KN
theorem Qdt{l pre post:List Nat}{x:Nat}(h:l=pre++x::post)(hn:l.Nodup):l.idxOf x=pre.length:=by
 subst h;have:=QDs hn pre.length (by simp);simpa using this
theorem QRn{L:List Qba}(h:Par L){f i k:Nat}(hi:i<L.length)(hk:k∈QEa L i)(hf:L.length≤k+f):i ∉ QZa L f k:=by
 obtain⟨k1,k2,k3⟩:=(QHc L i k).1 hk;intro hm;have:=((QIg h f k k1 hf).1 i).1 hm;have h2:=Qsn h k1 i i (Nat.le_refl _) hi this.2;have h3:=(h k k2 k1).2;rw[k3]at h3;omega
theorem QSd{T:List Qba}(h:Qia T=0):Dis T:=by
 have hn:=Q3b h;have ht:QFi T=false:=by
  unfold Qia at h;rw[QQa h,hn]at h;simp only[Bool.true_eq_false,if_false]at h;split at h
  ·cases h
  split at h
  ·cases h
  rename_i h3;simpa using h3
 rw[QXj hn]at ht;have key:∀x y,0<x→x<y→y<T.length→QWa T x=QWa T y→Qya T x=Qya T y→False:=by
  intro x y hx iN hy hp hm;have:Q5e T=true:=by
   unfold Q5e;rw[List.any_eq_true];exact⟨y,List.mem_range.2 hy,(Qdh T y y).2 ⟨x,hx,iN,hp,hm⟩⟩
  rw[ht]at this;cases this
 intro x y hx MW hy mZ hp hm;rcases Nat.lt_trichotomy x y with h1|h1|h1
 ·exact(key x y hx h1 mZ hp hm).elim
 ·exact h1
 exact(key y x hy h1 MW hp.symm hm.symm).elim
theorem QTm{T:List Qba}(h:Dis T){k:Nat}{name:ByteArray}(_:k<T.length)(ha:T.any (QRa (k:Int) name)=false):Dis (T++[⟨k,name,[]⟩]):=by
 have jS:∀i,i<T.length→QWa (T++[(⟨k,name,[]⟩:Qba)]) i=QWa T i∧Qya (T++[(⟨k,name,[]⟩:Qba)]) i=Qya T i:=by
  intro i hi;unfold QWa Qya;rw[List.getElem?_append_left hi];exact⟨rfl,rfl⟩
 have gz:QWa (T++[(⟨k,name,[]⟩:Qba)]) T.length=k∧Qya (T++[(⟨k,name,[]⟩:Qba)]) T.length=name:=by
  unfold QWa Qya;simp
 have aU:∀i,i<T.length→QWa T i=(k:Int)→Qya T i=name→False:=by
  intro i hi h1 h2;have:=List.any_eq_false.1 ha T[i] (List.getElem_mem hi);apply this;unfold QRa;rw[Qxa hi]at h1;rw[QHa hi]at h2;rw[h1,h2];simp[eqS]
 intro x y hx MW hy mZ hp hm;simp only[List.length_append,List.length_singleton]at MW mZ;by_cases h1:x<T.length
 ·by_cases h2:y<T.length
  ·rw[(jS x h1).1,(jS y h2).1]at hp;rw[(jS x h1).2,(jS y h2).2]at hm;exact h x y hx h1 hy h2 hp hm
  obtain rfl:y=T.length:=by omega
  rw[(jS x h1).1,gz.1]at hp;rw[(jS x h1).2,gz.2]at hm;exact(aU x h1 hp hm).elim
 obtain rfl:x=T.length:=by omega
 by_cases h2:y<T.length
 ·rw[(jS y h2).1,gz.1]at hp;rw[(jS y h2).2,gz.2]at hm;exact(aU y h2 hp.symm hm.symm).elim
 omega
theorem QNi{T:List Qba}(h:Qia T=0)(i:Nat)(hi:i<T.length):Q8b T T.length i≤8:=by
 have hd:QEd T=false:=by
  unfold Qia at h;split at h
  ·cases h
  split at h
  ·cases h
  split at h
  ·cases h
  split at h
  ·cases h
  split at h
  ·cases h
  rename_i h5;simpa using h5
 unfold QEd at hd;have:=List.any_eq_false.1 hd i (List.mem_range.2 hi);unfold Q8s at this;simpa using this
theorem QSa{w:World}{b c:Nat}{xs ys:Array Value}{t u:TypeId}(h:Holds w b xs t)(k:Holds w c ys u)(Hl:t≠u):b≠c:=by
 rintro rfl;have:=h.symm.trans k;injection this with this;injection this with _ this;exact Hl this
theorem Qnc{w:World}{base:Nat}{v:Value}{T:List Qba}(h:Qda w base v T):∃a c,v=.slice a T.length c:=by
 obtain⟨_,_,g2,_⟩:=h;exact Qea g2
theorem Qob{w:World}{base:Nat}{e:TypeId}{size:Nat}{v:Value}{n:Nat}{xs:List Value}(h:w.ownsRow base e size v n xs){g:Nat}(hg:v.ownBlock=some g):base≤g∧∃cur,Holds w g cur e:=by
 rcases h.2 with⟨rfl,_⟩|⟨g',cap,cur,rfl,hb,hh,_⟩
 ·cases hg
 have:g'=g:=Option.some.inj hg;subst this;exact⟨hb,cur,hh⟩
theorem QLd{w:World}{base:Nat}{v:Value}{T:List Qba}(h:Qda w base v T){g:Nat}(hg:v.ownBlock=some g):base≤g∧∃cur,Holds w g cur 46:=by
 obtain⟨_,_,g2,_⟩:=h;exact Qob g2 hg
theorem Qbm{R:Nat→Prop}{w:World}{g o n cap:Nat}{T:List Qba}(h:Qoa R w (.slice (some ⟨g,o,none⟩) n cap) T)(h0:0<T.length):R g:=by
 obtain⟨_,_,e,_,_,h3⟩:=h;cases e;obtain⟨g',o',ea,hR,_⟩:=h3 h0;cases ea;exact hR
def Qvo:List Qba:=[⟨-1,⟨#[]⟩,[]⟩]
theorem Qjs(w:World)(base B:Nat)(hB:w.heap.size=B)(hb:base≤B):Qda (w.alloc (.cells #[.int .i64 (-1),.string ⟨#[]⟩,.slice none 0 0] 46)) base (.slice (some ⟨B,0,none⟩) 1 1) Qvo:=by
 subst hB;refine⟨[.slice none 0 0],rfl,World.ownsRow_lit w #[.int .i64 (-1),.string ⟨#[]⟩,.slice none 0 0] 1 hb (by decide) (by decide),?_,?_⟩
 ·intro k hk kW;obtain rfl:k=0:=by simp[Qvo]at hk;exact hk
  exact Qna.nil _ _
 intro m hm;simp only[Qvo,List.mem_singleton]at hm;subst hm;unfold Qcc;decide
end Go.Proofs.YtgaboghigefgbaaGreatDoor
open Go
namespace Go.Proofs.YtgaboghigefgbaaGreatDoor
theorem QEb{L:List Qba}(h:QUc L){i:Nat}(hi:i<L.length):∃k,(Qgb L)[i]? = some k∧k<L.length∧(Qgb L).idxOf k=i∧Qya (Qta L) i=Qya L k∧QZb (Qta L) i=QZb L k∧(i=0→k=0)∧(0<i→0<k∧QWa (Qta L) i=(((Qgb L).idxOf (QGb L k):Nat):Int)∧(Qgb L).idxOf (QGb L k)<i∧(Qgb L)[(Qgb L).idxOf (QGb L k)]? = some (QGb L k)∧QWa L k=(QGb L k:Int)):=by
 obtain⟨h0,hp,hr⟩:=h;have hl:=QWb hp h0;have KG:=QYc hp h0;obtain⟨h1,h2⟩:=Qec hp h0;have ja:=QMc h2;have mS:i<(Qgb L).length:=by omega
 have uF:i<(Qta L).length:=by omega
 have hk:=(h1 _).1 (List.getElem_mem mS);refine⟨(Qgb L)[i],List.getElem?_eq_getElem mS,hk,QDs ja i mS,?_,?_,?_,?_⟩
 ·rw[QHa uF,QIe i mS];rfl
 ·rw[Qfb uF,QIe i mS];rfl
 ·rintro rfl;exact QLj h0 mS
 intro mf;obtain⟨hz,Hh⟩:=Qcq hp h0 mf mS;have gz:=Qib hp (by omega:0<(Qgb L)[i]) hk;obtain⟨hq,rt⟩:=QEj ((h1 (QGb L (Qgb L)[i])).2 (by omega));refine⟨by omega,?_,Hh,?_,gz.2.symm⟩
 ·rw[Qxa uF,QIe i mS];unfold Q6b;simp only;rw[if_neg hz]
 rw[List.getElem?_eq_getElem hq,rt]
theorem QDo{L:List Qba}(h:QUc L):∀(f i k:Nat),i<L.length→(Qgb L)[i]? = some k→Q8b (Qta L) f i=Q8b L f k:=by
 intro f
 induction f with
 | zero=>intro i k _ _;rfl
 | succ f ih=>
  intro i k hi hk;obtain⟨k',hk',kX,_,_,_,hz,hs⟩:=QEb h hi;rw[hk]at hk';cases hk';unfold Q8b;by_cases mf:i=0
  ·subst mf;rw[hz rfl];simp
  obtain⟨k0,eM,Hh,hg,rp⟩:=hs (by omega);rw[if_pos (by omega),if_pos (by omega)];simp only[Int.toNat_natCast];rw[eM,rp,ih _ _ (by omega) hg]
theorem Q8m:∀(T:List Qba) (i:Nat),(∀k (h:k<T.length),QHd (i+k) T[k]=true∧T[k].props.all (fun p=>Q6a p.name)=true)→Qsd i T=true:=by
 intro T
 induction T with
 | nil=>intro i _;rfl
 | cons n r ih=>
  intro i h;rw[QCf,Bool.and_eq_true,Bool.and_eq_true];refine⟨h 0 (by simp),ih _ (fun k hk=>?_)⟩;have:=h (k+1) (by simpa using hk);rw[show i+1+k=i+(k+1)from by omega];exact this
theorem QYg{L:List Qba}(h:QUc L)(hn:Q3a L=true):Q3a (Qta L)=true:=by
 have hl:=QWb h.2.1 h.1;have jT:=QHe h;refine Q8m _ 0 (fun i hi=>?_);have rh:i<L.length:=by omega
 obtain⟨k,hk,kX,_,Ht,Gm,hz,hs⟩:=QEb h rh;obtain⟨a1,a2⟩:=Qtd L 0 hn k kX;rw[QHa hi,QHa kX]at Ht;rw[Qfb hi,Qfb kX]at Gm;rw[Nat.zero_add]at a1 ⊢;refine⟨?_,by rw[Gm];exact a2⟩;unfold QHd at a1 ⊢;rw[Ht];by_cases mf:i=0
 ·subst mf;obtain rfl:=hz rfl;have:=jT.2.2;rw[Qxa hi]at this;rw[if_pos rfl]at a1 ⊢;rw[this];simp only[Bool.and_eq_true]at a1 ⊢;exact⟨by simp,a1.2⟩
 obtain⟨k0,eM,Hh,_,_⟩:=hs (by omega);rw[if_neg (by omega)]at a1;rw[if_neg mf];simp only[Bool.and_eq_true]at a1 ⊢;rw[Qxa hi]at eM;refine⟨?_,a1.2⟩;rw[eM];simp;omega
theorem Qum{L:List Qba}(h:QUc L)(hn:Q3a L=true)(hD:Dis L):QFi (Qta L)=false:=by
 have hl:=QWb h.2.1 h.1;rw[QXj (QYg h hn)];unfold Q5e;rw[List.any_eq_false];intro i hi hd;rw[List.mem_range]at hi;obtain⟨c,c0,ci,hp,hm⟩:=(Qdh _ i i).1 hd;obtain⟨k,hk,kX,hid,Ht,_,_,hs⟩:=QEb h (show i<L.length by omega);obtain⟨k',hk',iq,uD,u5,_,_,hs'⟩:=QEb h (show c<L.length by omega);obtain⟨k0,eM,Hh,hg,rp⟩:=hs (by omega);obtain⟨k0',vm,dC,hg',vk⟩:=hs' c0;rw[eM,vm]at hp;have e:(Qgb L).idxOf (QGb L k')=(Qgb L).idxOf (QGb L k):=by omega
 rw[e,hg]at hg';have e2:QGb L k'=QGb L k:=(Option.some.inj hg').symm;have:=hD k' k k0' iq k0 kX (by rw[rp,vk,e2]) (by rw[←Ht,←u5,hm]);rw[this,hid]at uD;omega
theorem Qtm{L:List Qba}(h:QUc L)(hd:∀k,k<L.length→Q8b L L.length k≤8):QEd (Qta L)=false:=by
 have hl:=QWb h.2.1 h.1;unfold QEd;rw[List.any_eq_false];intro i hi;rw[List.mem_range]at hi;obtain⟨k,hk,kX,_⟩:=QEb h (show i<L.length by omega);unfold Q8s;rw[hl,QDo h _ i k (by omega) hk];have:=hd k kX;simp;omega
theorem QAg{L:List Qba}(h:QUc L){n:Qba}(hn:n∈Qta L):∃m∈L,n.props=m.props:=by
 unfold Qta at hn;obtain⟨k,hk,rfl⟩:=List.mem_map.1 hn;have hk':=((Qec h.2.1 h.1).1 k).1 hk;exact⟨L[k],List.getElem_mem hk',Qfb hk'⟩
end Go.Proofs.YtgaboghigefgbaaGreatDoor
open Go
namespace Go.Proofs.YtgaboghigefgbaaGreatDoor
theorem QUp(g:Q0e→Q0e):∀(p q:List Q0e),(∀r x y p' q',p=r++x::p'→q=r++y::q'→ltC x y→ltC (g x) (g y))→ltP p q→ltP (p.map g) (q.map g)
 | [],[],_,h=>h.elim
 | [],_::_,_,_=>trivial
 | _::_,[],_,h=>h.elim
 | a::p,b::q,H,h=>by
  rcases h with h|⟨rfl,h⟩
  ·exact .inl (H [] a b p q rfl rfl h)
  exact .inr ⟨rfl,QUp g p q (fun r x y p' q' e1 e2=>H (a::r) x y p' q' (by rw[e1];rfl) (by rw[e2];rfl)) h⟩
theorem Qlq{L:List Qba}(h:Par L):∀(n a:Nat),a≤n→a<L.length→∀(r:List Q0e) (x:Q0e) (p':List Q0e),pc L a=r++x::p'→0<x.2∧x.2<L.length∧x.1=Qya L x.2∧pc L (QGb L x.2)=r:=by
 intro n
 induction n with
 | zero=>intro a ha _ r x p' e;obtain rfl:a=0:=by omega
         rw[Qbe]at e;simp at e
 | succ n ih=>
  intro a ha ma r x p' e;by_cases h0:a=0
  ·subst h0;rw[Qbe]at e;simp at e
  have hp:=Qib h (by omega) ma;rw[Qtb h (by omega) ma]at e;rcases List.eq_nil_or_concat p' with rfl|⟨q,b,rfl⟩
  ·obtain⟨e1,e2⟩:=List.append_inj' e rfl;cases e2;exact⟨by show 0<a;omega,ma,rfl,e1⟩
  rw[show r++x::(q.concat b)=(r++x::q)++[b]from by simp]at e;obtain⟨e1,_⟩:=List.append_inj' e rfl;exact ih _ (by omega) (by omega) r x q e1
theorem Q1h{L:List Qba}(h:QUc L):∀(n i k:Nat),i≤n→i<L.length→(Qgb L)[i]? = some k→pc (Qta L) i=(pc L k).map (fun c=>(c.1,(Qgb L).idxOf c.2)):=by
 have hl:=QWb h.2.1 h.1;have jT:=QHe h;intro n
 induction n with
 | zero=>
  intro i k hi G6 hk;obtain rfl:i=0:=by omega
  obtain⟨k',hk',_,_,_,_,hz,_⟩:=QEb h G6;rw[hk]at hk';cases hk';rw[hz rfl];rfl
 | succ n ih=>
  intro i k hi G6 hk;obtain⟨k',hk',kX,hid,Ht,_,hz,hs⟩:=QEb h G6;rw[hk]at hk';cases hk';by_cases h0:i=0
  ·subst h0;rw[hz rfl];rfl
  obtain⟨k0,eM,Hh,hg,rp⟩:=hs (by omega);rw[Qtb jT.2.1 (by omega) (by omega),Qtb h.2.1 k0 kX,List.map_append];have e:QGb (Qta L) i=(Qgb L).idxOf (QGb L k):=by
   show(QWa (Qta L) i).toNat=_;rw[eM];simp
  rw[e,ih _ _ (by omega) (by omega) hg,Ht];simp[hid]
theorem QCo{L:List Qba}(h:QUc L)(hD:Dis L):Asc (Qta L):=by
 have hl:=QWb h.2.1 h.1;have KG:=QYc h.2.1 h.1;obtain⟨h1,h2⟩:=Qec h.2.1 h.1;intro i h0 hi;have rh:i<L.length:=by omega
 have hp:=(List.pairwise_iff_getElem.1 h2) (i-1) i (by omega) (by omega) (by omega);unfold ltI at hp ⊢;have ha:=(h1 _).1 (List.getElem_mem (show i-1<(Qgb L).length by omega));have hb:=(h1 _).1 (List.getElem_mem (show i<(Qgb L).length by omega));rw[Q1h h _ (i-1) _ (Nat.le_refl _) (by omega) (List.getElem?_eq_getElem (by omega)),Q1h h _ i _ (Nat.le_refl _) rh (List.getElem?_eq_getElem (by omega))];refine QUp _ _ _ (fun r x y p' q' e1 e2 hc=>?_) hp;obtain⟨x0,xl,xn,xp⟩:=Qlq h.2.1 _ _ (Nat.le_refl _) ha r x p' e1;obtain⟨y0,yl,yn,yp⟩:=Qlq h.2.1 _ _ (Nat.le_refl _) hb r y q' e2;rcases hc with hc|⟨hc,gh⟩
 ·exact .inl hc
 exfalso;have px:=Qib h.2.1 x0 xl;have py:=Qib h.2.1 y0 yl;have e:=QLs h.2.1 (show QGb L x.2<L.length by omega) (show QGb L y.2<L.length by omega) (xp.trans yp.symm);have:=hD x.2 y.2 x0 xl y0 yl (by rw[←px.2,←py.2,e]) (by rw[←xn,←yn,hc]);omega
theorem Qgl{L:List Qba}(h:QUc L)(hD:Dis L)(hn:Q3a L=true)(hlen:L.length≤120)(hf:∀m∈L,Qbf m=true)(ha:∀m∈L,Qjd m.props=true)(hd:∀k,k<L.length→Q8b L L.length k≤8):Qia (Qta L)=0:=by
 have hl:=QWb h.2.1 h.1;have h0:=h.1;have jT:=QHe h;refine Qvj ⟨?_,QYg h hn,?_,Qum h hn hD,Qtm h hd⟩
 ·unfold Qza;rw[Bool.and_eq_true,List.all_eq_true];refine⟨by simp;omega,fun n hn=>?_⟩;obtain⟨m,hm,e⟩:=QAg h hn;have:=hf m hm;unfold Qbf at this ⊢;rw[e];exact this
 refine(QJg jT.2.1 jT.2.2).2 ⟨fun j hj=>?_,QCo h hD⟩;rw[Qfb hj];obtain⟨m,hm,e⟩:=QAg h (List.getElem_mem hj);rw[e];exact ha m hm
theorem QSm{T:List Qba}(h:Par T):∀(n i f:Nat),i≤n→i<T.length→i≤f→Q8b T f i=Q8b T i i:=by
 intro n
 induction n with
 | zero=>intro i f hi _ _;obtain rfl:i=0:=by omega
         cases f <;> simp[Q8b]
 | succ n ih=>
  intro i f hi G6 hf;by_cases h0:i=0
  ·subst h0;cases f <;> simp[Q8b]
  obtain⟨i,rfl⟩:∃j,i=j+1:=⟨i-1,by omega⟩;obtain⟨f,rfl⟩:∃j,f=j+1:=⟨f-1,by omega⟩;have hp:=Qib h (by omega) G6;unfold Q8b;rw[if_pos (by omega),if_pos (by omega)];simp only[Int.toNat_natCast];rw[←hp.2,ih _ f (by omega) (by omega) (by omega),ih _ i (by omega) (by omega) (by omega)]
theorem QNr{T:List Qba}(n:Qba):∀(f i:Nat),Par T→i<T.length→Q8b (T++[n]) f i=Q8b T f i:=by
 intro f
 induction f with
 | zero=>intro i _ _;rfl
 | succ f ih=>
  intro i h hi;unfold Q8b;by_cases h0:i=0
  ·subst h0;simp
  have hp:=Qib h (by omega) hi;rw[if_pos (by omega),if_pos (by omega)];simp only[Int.toNat_natCast];have e:QWa (T++[n]) i=QWa T i:=by unfold QWa;rw[List.getElem?_append_left hi]
  rw[e,←hp.2,ih _ h (by omega)]
theorem Q0n{T:List Qba}(hc:Qia T=0){k:Nat}{name:ByteArray}(hk:k<T.length)(hn:QTa name.data.toList=true)(ha:T.any (QRa (k:Int) name)=false)(hd:Q8b T T.length (k:Int)<8)(hl:T.length<120):Qia (Qta (T++[⟨(k:Int),name,[]⟩]))=0:=by
 obtain⟨h1,h2,h3,h4,h5⟩:=QOa hc;have h0:0<T.length:=by omega
 have hp:=QBa h2;have vC:QUc T:=⟨h0,hp,QTb h2 h0⟩;have hs:=QYd vC (n:=⟨(k:Int),name,[]⟩) rfl hk;have hf:∀m∈T,Qbf m=true:=by
  unfold Qza at h1;rw[Bool.and_eq_true,List.all_eq_true]at h1;exact h1.2
 refine Qgl hs (QTm (QSd hc) hk ha) ?_ (by simp;omega) ?_ ?_ ?_
 ·refine Q8m _ 0 (fun i hi=>?_);rw[Nat.zero_add];by_cases hiT:i<T.length
  ·rw[List.getElem_append_left hiT];have:=Qtd T 0 h2 i hiT;rw[Nat.zero_add]at this;exact this
  obtain rfl:i=T.length:=by simp at hi;omega
  rw[List.getElem_append_right (Nat.le_refl _)];simp only[Nat.sub_self,List.getElem_cons_zero,List.all_nil,and_true];unfold QHd;rw[if_neg (by omega)];simp[hn];omega
 ·intro m hm;rcases List.mem_append.1 hm with h|h
  ·exact hf m h
  simp at h;subst h;rfl
 ·intro m hm;rcases List.mem_append.1 hm with h|h
  ·exact Qve hc m h
  simp at h;subst h;rfl
 intro i hi;have hlen:(T++[(⟨(k:Int),name,[]⟩:Qba)]).length=T.length+1:=by simp
 rw[hlen]at hi ⊢;have hT:∀j,j<T.length→∀f,j≤f→Q8b (T++[(⟨(k:Int),name,[]⟩:Qba)]) f j=Q8b T T.length j:=by
  intro j hj f hf;rw[QNr _ _ _ hp hj,QSm hp _ j f (Nat.le_refl _) hj hf,QSm hp _ j T.length (Nat.le_refl _) hj (by omega)]
 by_cases hiT:i<T.length
 ·rw[hT i hiT _ (by omega)];exact QNi hc i hiT
 obtain rfl:i=T.length:=by omega
 have e:QWa (T++[(⟨(k:Int),name,[]⟩:Qba)]) T.length=(k:Int):=by unfold QWa;simp
 unfold Q8b;rw[if_pos (by omega)];simp only[Int.toNat_natCast];rw[e,hT k hk _ (by omega)];omega
theorem Q9j{T:List Qba}{s name:ByteArray}(he:(QQc T s name).2=0):Qia (QQc T s name).1=0∧(QQc T s name).1.length=T.length+1:=by
 unfold QQc at he ⊢;rcases Qkb T s with⟨hb,_⟩|⟨hc,k,hk,hb,_⟩
 ·rw[if_pos hb]at he;exact absurd he hb
 rw[hb]at he ⊢;rw[if_neg (by simp)]at he ⊢;by_cases h1:QTa name.data.toList=false
 ·rw[if_pos h1]at he;simp at he
 rw[if_neg h1]at he ⊢;by_cases h2:T.any (QRa ((k:Int),(0:Int)).1 name)=true
 ·rw[if_pos h2]at he;simp at he
 rw[if_neg h2]at he ⊢;by_cases h3:8≤Q8b T T.length ((k:Int),(0:Int)).1
 ·rw[if_pos h3]at he;simp at he
 rw[if_neg h3]at he ⊢;by_cases h4:120≤T.length
 ·rw[if_pos h4]at he;simp at he
 rw[if_neg h4];have h2':=QTb (QOa hc).2.1 (by omega);refine⟨Q0n hc hk (by simpa using h1) (by simpa using h2) (Nat.lt_of_not_le h3) (by omega),?_⟩;have hs:=QYd (T:=T) ⟨by omega,QBa (QOa hc).2.1,h2'⟩ (n:=⟨(k:Int),name,[]⟩) rfl hk;show(Qta _).length=_;rw[QWb hs.2.1 hs.1];simp
theorem Qwo:Qia Qvo=0:=by kernel_rfl
end Go.Proofs.YtgaboghigefgbaaGreatDoor
namespace Go.Proofs.YtgaboghigefgbaaGreatDoor
open Go.RowKit
def QCr(p:Qqa):Nat:=p.value.size+p.name.size+20
def QDd(l:List Qqa):Nat:=(l.map QCr).sum
def QOd(T:List Qba):Nat:=(T.map fun n=>QDd n.props).sum
theorem Qth(a b:List Qqa):QDd (a++b)=QDd a+QDd b:=by simp[QDd]
theorem QAn(p:Qqa)(b:List Qqa):QDd (p::b)=QCr p+QDd b:=by simp[QDd]
theorem QDr(l:List Qqa)(p:Qqa):QDd (QOc l p)≤QDd l+QCr p:=by
 unfold QOc;obtain⟨h1,_,_⟩:=Qpm l p.name;rw[Qth,QAn];have e1:QDd l=QDd (l.take (Qmb l p.name))+QDd (l.drop (Qmb l p.name)):=by rw[←Qth,List.take_append_drop]
 have e2:QDd (l.drop (QYe l p.name))≤QDd (l.drop (Qmb l p.name)):=by
  obtain⟨d,hd⟩:∃d,QYe l p.name=Qmb l p.name+d:=⟨QYe l p.name-Qmb l p.name,by omega⟩;rw[hd,←List.drop_drop];generalize l.drop (Qmb l p.name)=m;have:QDd m=QDd (m.take d)+QDd (m.drop d):=by rw[←Qth,List.take_append_drop]
  omega
 omega
theorem Q7o:∀(T:List Qba) (k:Nat) (n:Qba) (h:k<T.length),QOd (T.set k n)+QDd T[k].props=QOd T+QDd n.props:=by
 intro T
 induction T with
 | nil=>intro k n h;simp at h
 | cons m T ih=>
  intro k n h;cases k with
  | zero=>simp only[QOd,List.set_cons_zero,List.map_cons,List.sum_cons,List.getElem_cons_zero];omega
  | succ k=>
   have:=ih k n (by simpa using h);simp only[QOd,List.set_cons_succ,List.map_cons,List.sum_cons,List.getElem_cons_succ]at this ⊢;omega
theorem QEr{T:List Qba}{s name value:ByteArray}(he:(Qid T s name value).2=0):QOd (Qid T s name value).1≤QOd T+(value.size+name.size+20):=by
 unfold Qid at he ⊢;split
 ·simp[QOd]
 rename_i h0;rw[if_neg h0]at he;split
 ·simp[QOd]
 rename_i h1;rw[if_neg h1]at he;split
 ·simp[QOd]
 simp only;unfold QJb;split
 ·rename_i n hn;have hk:=(List.getElem?_eq_some_iff.1 hn).1;have h2:=Q7o T (Qua T s).1.toNat (Qge n ⟨name,value⟩) hk;have h3:T[(Qua T s).1.toNat]=n:=(List.getElem?_eq_some_iff.1 hn).2;have h4:=QDr n.props ⟨name,value⟩;rw[h3]at h2;unfold Qge at h2 ⊢;simp only at h2;unfold QCr at h4;simp only at h4;omega
 omega
def Qcr(T:List Qba):Prop:=∀n∈T,n.props=[]
theorem Q4o{T:List Qba}(h:Qcr T):QOd T=0:=by
 unfold QOd;have:(T.map fun n=>QDd n.props)=T.map fun _=>0:=List.map_congr_left fun n hn=>by rw[h n hn];rfl
 rw[this];clear this h
 induction T with
 | nil=>rfl
 | cons n T ih=>rw[List.map_cons,List.sum_cons,ih]
theorem Qrr{T:List Qba}{s name:ByteArray}(h:Qcr T)(he:(QQc T s name).2=0):Qcr (QQc T s name).1:=by
 rcases Qkb T s with⟨h1,_⟩|⟨hc,k,hk,hb,_⟩
 ·unfold QQc at he;rw[if_pos h1]at he;exact absurd he h1
 unfold QQc at he ⊢;rw[hb]at he ⊢;rw[if_neg (by simp)]at he ⊢;split at he
 ·cases he
 rename_i h2;rw[if_neg h2];split at he
 ·cases he
 rename_i h3;rw[if_neg h3];split at he
 ·cases he
 rename_i h4;rw[if_neg h4];split at he
 ·cases he
 rename_i h5;rw[if_neg h5];have hP:=QBa (QOa hc).2.1;have hT:QUc T:=⟨by omega,hP,QTb (QOa hc).2.1 (by omega)⟩;have hS:=QYd hT (n:=⟨(k:Int),name,[]⟩) rfl hk;intro n hn;obtain⟨m,hm,e⟩:=QAg hS hn;rw[e];rcases List.mem_append.1 hm with hm|hm
 ·exact h m hm
 rw[List.mem_singleton.1 hm]
end Go.Proofs.YtgaboghigefgbaaGreatDoor
