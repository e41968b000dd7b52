/- Definitions of several files in memory: rows that grow, and reading them. -/
import Derived.Test.YtofhcgbihonckaaGreatY13
import Derived.Test.YtofhcgbihonckaaGreatY18
import Derived.Deep.AppendSrc
import Derived.Deep.LoopGhost
import Derived.Deep.RegionWith
set_option linter.all false
namespace Go.Proofs.YtofhcgbihonckaaGreat
open Go.RowKit
def QGa:List FdT→List Value→List Value
 | x::xs,v::vs=>.int .i64 x.2.kind :: .string x.2.label :: .string x.2.name::v :: .int .i64 x.1 :: .int .i64 x.2.line :: .int .i64 x.2.col::QGa xs vs
 | _,_=>[]
theorem QTf:∀(l:List FdT) (vs:List Value),vs.length=l.length→(QGa l vs).length=l.length*7
 | [],[],_=>rfl
 | x::xs,v::vs,h=>by simp only[QGa,List.length_cons];rw[QTf xs vs (by simpa using h)];omega
theorem QSf:∀(a b:List FdT) (us vs:List Value),us.length=a.length→QGa (a++b) (us++vs)=QGa a us++QGa b vs
 | [],_,[],_,_=>rfl
 | x::xs,b,u::us,vs,h=>by simp only[QGa,List.cons_append];rw[QSf xs b us vs (by simpa using h)]
theorem QVf(file:Int):∀(D:List Qra) (vs:List Value),vs.length=D.length→QFb file D vs=QGa (Qoc file D) vs
 | [],[],_=>rfl
 | d::D,v::vs,h=>by simp only[QFb,Qoc,List.map_cons,QGa];rw[QVf file D vs (by simpa using h)];rfl
def Qsa(w:World)(base:Nat)(v:Value)(l:List FdT):Prop:=
 ∃vs:List Value,vs.length=l.length∧w.ownsRow base 34 7 v l.length (QGa l vs)∧∀k (h:k<l.length) (h2:k<vs.length),Qia w base vs[k] l[k].2.parts
theorem Q0a.fds{w:World}{base:Nat}{file:Int}{v:Value}{D:List Qra}(h:Q0a w base file v D):Qsa w base v (Qoc file D):=by
 obtain⟨vs,h1,h2,h3⟩:=h
 have hl:(Qoc file D).length=D.length:=by simp[Qoc]
 refine⟨vs,by rw[hl];exact h1,by rw[hl,←QVf file D vs h1];exact h2,fun k hk Ho=>?_⟩
 have:=h3 k (by omega) Ho
 simpa[Qoc]using this
section
variable{w w':World}{base:Nat}{v:Value}{l:List FdT}
theorem Qsa.nil(w:World)(base:Nat):Qsa w base (.slice none 0 0) []:=⟨[],rfl,World.ownsRow_nil _ _ _ _,fun _ h=>by cases h⟩
theorem Qsa.slice(h:Qsa w base v l):∃a c,v = .slice a l.length c:=by obtain⟨_,_,h,_⟩:=h;exact Qma h
theorem Qsa.lower{b2:Nat}(h:Qsa w base v l)(hb:b2≤base):Qsa w b2 v l:=by
 obtain⟨vs,h1,h2,h3⟩:=h
 exact⟨vs,h1,Qpd h2 hb,fun j h h'=>(h3 j h h').lower hb⟩
theorem Qsa.keeps{S:Nat→Prop}(h:Qsa w base v l)(k:Qaa S w w')(hs:∀g,v.ownBlock=some g→¬S g)(ha:∀b,b<w.heap.size→S b→∀cur,¬Qca w b cur 72∧¬Qca w b cur 75):Qsa w' base v l:=by
 obtain⟨vs,h1,h2,h3⟩:=h
 have key:∀{e:TypeId} {size n:Nat} {u:Value} {xs:List Value},w.ownsRow base e size u n xs→(e=72∨e=75)→∀g,u.ownBlock=some g→¬S g:=by
  intro e size n u xs hr he g hg hS
  obtain⟨b1,_,cur,b2⟩:=Qva hr hg
  rcases he with rfl|rfl
  ·exact(ha g b1 hS cur).1 b2
  ·exact(ha g b1 hS cur).2 b2
 refine⟨vs,h1,Qba h2 k hs,fun j hj Gf=>?_⟩
 obtain⟨us,u1,u2,u3⟩:=h3 j hj Gf
 exact⟨us,u1,Qba u2 k (key u2 (.inr rfl)),fun i hi kU=>Qba (u3 i hi kU) k (key (u3 i hi kU) (.inl rfl))⟩
theorem Qsa.new(h:Qsa w base v l)(k:Below w.heap.size w w'):Qsa w' base v l:=
 h.keeps (Qaa.of_fresh k (fun _=>False)) (fun _ _ e=>e) (fun _ _ e=>e.elim)
theorem Q4c:∀(l:List FdT) (vs:List Value) (k:Nat) (h:k<l.length) (h2:k<vs.length),vs.length=l.length→
 (QGa l vs)[k*7]? = some (.int .i64 l[k].2.kind)∧(QGa l vs)[k*7+1]? = some (.string l[k].2.label)∧(QGa l vs)[k*7+2]? = some (.string l[k].2.name)∧(QGa l vs)[k*7+3]? = some vs[k]∧
 (QGa l vs)[k*7+4]? = some (.int .i64 l[k].1)∧(QGa l vs)[k*7+5]? = some (.int .i64 l[k].2.line)∧(QGa l vs)[k*7+6]? = some (.int .i64 l[k].2.col)
 | d::D,v::vs,0,_,_,_=>⟨rfl,rfl,rfl,rfl,rfl,rfl,rfl⟩
 | d::D,v::vs,k+1,h,h2,hl=>by
  have:=Q4c D vs k (by simpa using h) (by simpa using h2) (by simpa using hl)
  rw[show(k+1)*7=k*7+7 from by omega]
  exact this
theorem Qsa.at(h:Qsa w base v l)(k:Nat)(hk:k<l.length):∃g cap pv,v = .slice (some ⟨g,0,none⟩) l.length cap∧g<w.heap.size∧base≤g∧w.cell? ⟨g,k*7,none⟩=some (.int .i64 l[k].2.kind)∧w.cell? ⟨g,k*7+1,none⟩=some (.string l[k].2.label)∧w.cell? ⟨g,k*7+2,none⟩=some (.string l[k].2.name)∧w.cell? ⟨g,k*7+3,none⟩=some pv∧
 w.cell? ⟨g,k*7+4,none⟩=some (.int .i64 l[k].1)∧w.cell? ⟨g,k*7+5,none⟩=some (.int .i64 l[k].2.line)∧w.cell? ⟨g,k*7+6,none⟩=some (.int .i64 l[k].2.col)∧Qia w base pv l[k].2.parts:=by
 obtain⟨vs,hl,hr,hs⟩:=h
 obtain⟨g,cap,rfl,hg,hb,hc⟩:=QWd hr (by omega)
 obtain⟨a0,a1,a2,a3,a4,a5,a6⟩:=Q4c l vs k hk (by omega) hl
 exact⟨g,cap,vs[k]'(by omega),rfl,hg,hb,(hc _ (by omega)).trans a0,(hc _ (by omega)).trans a1,(hc _ (by omega)).trans a2,(hc _ (by omega)).trans a3,(hc _ (by omega)).trans a4,(hc _ (by omega)).trans a5,(hc _ (by omega)).trans a6,hs k hk (by omega)⟩
theorem Qsa.app{w1:World}{v':Value}{l2:List FdT}{us vs:List Value}(h1:us.length=l.length)(h2:vs.length=l2.length)
 (hr:w1.ownsRow base 34 7 v' (l.length+l2.length) (QGa l us++QGa l2 vs))
 (hp:∀k (h:k<l.length) (h2:k<us.length),Qia w1 base us[k] l[k].2.parts) (hq:∀k (h:k<l2.length) (h2:k<vs.length),Qia w1 base vs[k] l2[k].2.parts):Qsa w1 base v' (l++l2):=by
 refine⟨us++vs,by rw[List.length_append,List.length_append,h1,h2],by rw[List.length_append,QSf l l2 us vs h1];exact hr,fun k hk Ho=>?_⟩
 by_cases Hj:k<l.length
 ·rw[List.getElem_append_left (by omega),List.getElem_append_left Hj]
  exact hp k Hj (by omega)
 ·rw[List.getElem_append_right (by omega),List.getElem_append_right (by omega)]
  rw[List.length_append]at hk
  have:=hq (k-l.length) (by omega) (by omega)
  simpa[h1]using this
end
end Go.Proofs.YtofhcgbihonckaaGreat
