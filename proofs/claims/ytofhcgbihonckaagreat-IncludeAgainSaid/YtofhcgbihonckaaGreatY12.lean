/- Trees in memory. | Rows of nodes and of properties, as a call makes them. | Trees that a call has made: rows of nodes, each with a row of properties. -/
import Derived.Test.YtofhcgbihonckaaGreatY1
import Derived.Test.YtofhcgbihonckaaGreatY2
import Derived.Laws.OwnMore
set_option linter.all false
namespace Go.Proofs.YtofhcgbihonckaaGreat
open Go.RowKit
theorem QGb{w:World}{base:Nat}{e t:TypeId}{size:Nat}{v:Value}{n b:Nat}{xs:List Value}{cs:Array Value}(h:w.ownsRow base e size v n xs)(hH:Qca w b cs t)(Hq:t≠e):v.ownBlock≠some b:=by
 rcases h.2 with⟨rfl,_⟩|⟨g,cap,cur,rfl,_,hh,_⟩
 ·simp[Value.ownBlock]
 ·intro e2
  have e3:g=b:=Option.some.inj e2
  subst e3
  have h2:w.heap[g]? = some (.cells cs t (0,0)):=hH
  rw[h2]at hh
  cases hh
  exact Hq rfl
theorem QVg{w:World}{b1 b2:Nat}{e1 e2:TypeId}{s1 s2:Nat}{v1 v2:Value}{n1 n2:Nat}{x1 x2:List Value}(h1:w.ownsRow b1 e1 s1 v1 n1 x1)(h2:w.ownsRow b2 e2 s2 v2 n2 x2)(Hq:e1≠e2):v1.ownBlock=none∨v1.ownBlock≠v2.ownBlock:=by
 rcases h1.2 with⟨rfl,_⟩|⟨g1,c1,cur1,rfl,_,hh1,_⟩
 ·exact .inl rfl
 ·rcases h2.2 with⟨rfl,_⟩|⟨g2,c2,cur2,rfl,_,hh2,_⟩
  ·right;simp[Value.ownBlock]
  ·right
   simp only[Value.ownBlock]
   intro e
   simp at e
   subst e
   rw[hh1]at hh2
   simp at hh2
   exact Hq hh2.2
theorem Qpd{w:World}{base base':Nat}{e:TypeId}{size:Nat}{v:Value}{n:Nat}{xs:List Value}(h:w.ownsRow base e size v n xs)(hb:base'≤base):w.ownsRow base' e size v n xs:=by
 refine⟨h.1,?_⟩
 rcases h.2 with hn|⟨g,cap,cur,hv,hg,rest⟩
 ·exact .inl hn
 ·exact .inr ⟨g,cap,cur,hv,by omega,rest⟩
theorem Qma{w:World}{base:Nat}{e:TypeId}{size:Nat}{v:Value}{n:Nat}{xs:List Value}(h:w.ownsRow base e size v n xs):∃a cap,v = .slice a n cap:=by
 rcases h.2 with⟨rfl,rfl⟩|⟨g,cap,cur,rfl,_⟩
 ·exact⟨none,0,rfl⟩
 ·exact⟨_,_,rfl⟩
theorem Q9l{w:World}{base b:Nat}{e t:TypeId}{size:Nat}{v:Value}{n:Nat}{xs:List Value}{cs:Array Value}(h:w.ownsRow base e size v n xs)(hH:Qca w b cs t)(Hq:t≠e)(o:Nat)(x:Value):(w.setCell ⟨b,o,none⟩ x).ownsRow base e size v n xs:=
 Qba h (S:=fun i=>i=b) ((Qaa.refl (fun i=>i=b) w).setCell (p:=⟨b,o,none⟩) (.inr rfl) x) (fun g e1 e2=>QGb h hH Hq (by rw[e1,e2]))
theorem Qca.newAt{w:World}{B:Nat}(hB:w.heap.size=B)(cs:Array Value)(t:TypeId):Qca (w.alloc (.cells cs t)) B cs t:=by
 subst hB;exact Qca.new w cs t
end Go.Proofs.YtofhcgbihonckaaGreat
