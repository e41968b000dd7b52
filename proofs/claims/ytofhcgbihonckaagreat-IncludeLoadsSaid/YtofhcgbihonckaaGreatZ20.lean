/- Files that came in as an argument lie in memory as some plain files. -/
import Derived.Test.YtofhcgbihonckaaGreatZ19
import Derived.Lib.SmallJoins
import Derived.Deep.Slices
import Derived.Deep.Fields
set_option linter.all false
namespace Go.Proofs.YtofhcgbihonckaaGreat
open Go.RowKit Go.Joins Go.ChangeShapes Go.WideShapes Go.Deep
theorem QCr:Tryz.prog.cellsOf 9=1:=by kernel_rfl
theorem Q8q:Tryz.prog.cellsOf 46=2:=by kernel_rfl
section
variable{H:Type}{enc:TypeId × Value→H}{w:World}{base n:Nat}{spare:Nat→Bool}{held:Bool}{y:DataW H × List MemPlace}
set_option maxRecDepth 100000 in
theorem Qbm{cs:List Value}{x:DataW H × List MemPlace}(h:DataW.trod enc Tryz.prog w base spare held n 46 cs=some x):∃f:Qoa,cs=[.string f.name,.string f.text]∧f.text.size≤maxLen∧f.name.size≤maxLen:=by
 obtain⟨ys,m,_,_,hl,pS,hf⟩:=DataW.trod_struct Tryz.underlying46 h
 rw[Q8q]at hl
 obtain⟨v0,v1,rfl⟩:∃a b,cs=[a,b]:=by
  match cs,hl with
  | [a,b],_=>exact⟨a,b,rfl⟩
 obtain⟨y0,y1,rfl⟩:∃a b,ys=[a,b]:=by
  match ys,pS with
  | [a,b],_=>exact⟨a,b,rfl⟩
 have h0:DataW.trod enc Tryz.prog w base spare held m 9 (([v0,v1].drop 0).take (Tryz.prog.cellsOf 9))=some y0:=hf 0 _ rfl
 have h1:DataW.trod enc Tryz.prog w base spare held m 9 (([v0,v1].drop 1).take (Tryz.prog.cellsOf 9))=some y1:=hf 1 _ rfl
 rw[QCr]at h0 h1
 obtain⟨q,e0,-,b0⟩:=DataW.trod_string Tryz.underlying9 h0
 obtain⟨t,e1,-,b1⟩:=DataW.trod_string Tryz.underlying9 h1
 simp at e0 e1
 exact⟨⟨q,t⟩,by rw[e0,e1],b1,b0⟩
theorem Qcm{v:Value}{d:DataW H}{p:List MemPlace}(hc:v.cells.toList=[v])(h:DataW.Trod enc Tryz.prog w base spare held 42 v d p) :
 ∃F:List Qoa,QZa w v F∧∀f∈F,f.text.size≤maxLen∧f.name.size≤maxLen:=by
 obtain⟨fuel,h⟩:=h
 rw[hc]at h
 rcases open_slice Tryz.underlying42 h with⟨Hx,_⟩|⟨a,len,cap,m,k,D,Pl,Hx,hb,hl,hm,ij,hx,hi⟩
 ·simp at Hx
  exact⟨[],⟨none,0,Hx,Nat.le_refl _,by omega,fun h=>absurd h (Nat.lt_irrefl _)⟩,by simp⟩
 ·simp at Hx
  have hlm:len≤m:=by rw[ij];split <;> omega
  have key:∀i:Fin len,∃f:Qoa,w.cell? (a.add (i.1*2))=some (.string f.name)∧w.cell? (a.add (i.1*2+1))=some (.string f.text)∧f.text.size≤maxLen∧f.name.size≤maxLen:=by
   intro i
   obtain⟨cs',hc,ht'⟩:=hi i.1 (by have:=i.2;omega)
   rw[Q8q]at hc
   obtain⟨c,rfl,r⟩:=Qbm ht'
   obtain⟨_,ke,Gg⟩:=World.cells?_some hc
   have c0:=Gg 0 (by omega)
   have c1:=Gg 1 (by omega)
   rw[Go.Deep.add_add]at c0 c1
   exact⟨c,c0,c1,r⟩
  obtain⟨f,hf⟩:=Classical.skolem.1 key
  refine⟨List.ofFn f,⟨some a,cap,by rw[Hx,List.length_ofFn],by rw[List.length_ofFn];exact hl,by unfold maxLen at hm;omega,fun h0=>?_⟩,fun p hp=>by
   obtain⟨i,rfl⟩:=(List.mem_ofFn ..).1 hp
   obtain⟨_,_,r⟩:=hf i
   exact r⟩
  rw[List.length_ofFn]at h0
  obtain⟨g,o,sp⟩:=a
  obtain⟨c0,_⟩:=hf ⟨0,h0⟩
  have tH:sp=none:=by simpa[Addr.add]using World.cell?_spot c0
  subst tH
  refine⟨g,o,rfl,?_,fun j hj=>?_⟩
  ·rw[Addr.add_lit]at c0;exact World.block_lt_of_cell? w _ c0
  ·have hj':j<len:=by rw[List.length_ofFn]at hj;exact hj
   obtain⟨d0,d1,_⟩:=hf ⟨j,hj'⟩
   rw[Addr.add_lit]at d0 d1
   rw[List.getElem_ofFn]
   exact⟨d0,by rw[Nat.add_assoc];exact d1⟩
end
end Go.Proofs.YtofhcgbihonckaaGreat
