/- Lemmas on the way to the law; no conditions. -/
import Derived.Test.YtgaboghigefgbaaGreatDoorZ2
import Derived.Deep.AppendSrc
import Derived.Deep.AppendLies
import Derived.Maps.AppendAt
set_option linter.all false
namespace Go.Proofs.YtgaboghigefgbaaGreatDoor
open Go.RowKit
section
variable{P:Program}(w:World)
theorem Qzg(base:Nat)(t tx ty e:TypeId)(i:TypeInfo)(z:Value)(size bytes:Nat)(ht:P.underlying t=some (.slice e))(hi:P.info? e=some i)(hz:i.zero=some z)
 (hsize:i.size=size) (hby:i.bytes=bytes) (Jt:z.cells.size=size)
 (v:Value) (n:Nat) (xs:List Value) (Hi:w.ownsRow base e size v n xs) (x:Value) (m:Nat) (news:List Value) (hs:Src P size tx x m news w)
 (h63:n+m≤maxLen) (hbytes:(n+m)*bytes≤140737488355328) (gx:base≤w.heap.size) :
 ∃v' w',(Builtin.append_ #[t,tx] ty #[v,x]).run P w=.ok v' w'∧w'.ownsRow base e size v' (n+m) (xs++news)∧w.grownBy w' v.ownBlock∧
  (v'.ownBlock=v.ownBlock∨v'.ownBlock=some w.heap.size):=by
 subst hsize;subst hby;have hsmall:n+m≤9223372036854775807:=by simp only[maxLen]at h63;omega
 have hl:=hs.newsLen;have hlen:(xs++news).length=(n+m)*i.size:=by rw[List.length_append,Hi.1,hl,Nat.add_mul]
 have grown:∀(old:Nat),old<n+m→∀(row:Option Nat),
  (w.drew.alloc (.cells ((xs++news).toArray++Builtin.zeroCells z.cells (grownCap w (n+m) old e-(n+m))) e)).ownsRow base e i.size
   (.slice (some ⟨w.heap.size,0,none⟩) (n+m) (grownCap w (n+m) old e)) (n+m) (xs++news)∧
  w.grownBy (w.drew.alloc (.cells ((xs++news).toArray++Builtin.zeroCells z.cells (grownCap w (n+m) old e-(n+m))) e)) row:=by
  intro old ho row;have bP:=grownCap_ge w (n+m) old e;have de:grownCap w (n+m) old e≤maxLen:=grownCap_le_maxLen w (n+m) old e h63;refine⟨⟨hlen,.inr ⟨w.heap.size,_,_,rfl,gx,heap_alloc_new w.drew _,bP,de,?_,?_⟩⟩,⟨rfl,rfl,rfl,by simp,fun k hk _=>heap_alloc_old w.drew _ hk⟩⟩
  ·simp only[Array.size_append,List.size_toArray,size_zeroCells,Jt,hlen,←Nat.add_mul]
   congr 1
   omega
  simp only[Array.toList_append];rw[←hlen];exact List.take_left
 rcases Hi.2 with⟨rfl,rfl⟩|⟨g,cap,cur,rfl,Gr,hg,hnc,de,Hw,jU⟩
 ·have hx:xs=[]:=List.eq_nil_of_length_eq_zero (by simpa using Hi.1);subst hx;by_cases hm:m=0
  ·subst hm;have hn:news=[]:=List.eq_nil_of_length_eq_zero (by simpa using hl);subst hn;refine⟨.slice none 0 0,w,?_,World.ownsRow_nil w base e i.size,⟨rfl,rfl,rfl,Nat.le_refl _,fun _ _ _=>rfl⟩,Or.inl rfl⟩;rcases hs.kind with⟨e',hk⟩|hk <;> simp[Builtin.append_,run_underlying ht,run_underlying hk,sizeOf,typeInfo,hi,hs.len,hs.cells]
  have hr:=run_append_grow_src (P:=P) w t tx ty e i z ht hi hz none 0 0 [] (by simpa using run_firstCells_none w.drew i.size 0 0 0) x m news hs (by omega) (by omega) (growslice_fits (by omega) hbytes);have il:=grown 0 (by omega) (Value.ownBlock (.slice none 0 0));exact⟨_,_,hr,il.1,il.2,Or.inr rfl⟩
 by_cases Ko:n+m≤cap
 ·have Ka:n*i.size+news.length≤cur.size:=by rw[hl,Hw,←Nat.add_mul];exact Nat.mul_le_mul_right _ Ko
  have kJ:=run_storeCells_at P g (n*i.size) e news 0 cur w hg (by simpa using Ka) hs.one;simp only[Nat.add_zero]at kJ
  have hr:(Builtin.append_ #[t,tx] ty #[.slice (some ⟨g,0,none⟩) n cap,x]).run P w =
   .ok (.slice (some ⟨g,0,none⟩) (n+m) cap) (w.setRow g (cur.toList.take (n*i.size)++news++cur.toList.drop (n*i.size+news.length)).toArray):=by
   rcases hs.kind with⟨e',hk⟩|hk <;> simp[Builtin.append_,run_underlying ht,run_underlying hk,sizeOf,typeInfo,hi,hs.len,Ko,hs.cells,Addr.add_lit,kJ]
  refine⟨_,_,hr,⟨hlen,.inr ⟨g,cap,_,rfl,Gr,setRow_heap w g cur _ e _ hg,Ko,de,?_,?_⟩⟩,⟨rfl,rfl,rfl,by simp,fun k _ hk=>setRow_other w g k _ (fun e=>hk (by simp[Value.ownBlock,e]))⟩,Or.inl rfl⟩
  ·simp only[List.size_toArray,List.length_append,List.length_take,List.length_drop,Array.length_toList];omega
  rw[jU,←hlen];exact List.take_left
 have holds:∀j u,xs[j]? = some u→w.cell? ((⟨g,0,none⟩:Addr).add j)=some u:=Hi.cells (g:=g) rfl;have hf:=run_firstCells_some (P:=P) w.drew i.size n ⟨g,0,none⟩ n cap xs Hi.1 (by simpa using holds);have hr:=run_append_grow_src (P:=P) w t tx ty e i z ht hi hz (some ⟨g,0,none⟩) n cap xs hf x m news hs (by omega) (by omega) (growslice_fits (by omega) hbytes);have il:=grown cap (by omega) (Value.ownBlock (.slice (some ⟨g,0,none⟩) n cap));exact⟨_,_,hr,il.1,il.2,Or.inr rfl⟩
theorem Q0j{o:Oper}{a:Act}{K:Act→World→Prop}{Q:Exit→Act→World→Prop}(so xo:Operand)(t tx:TypeId)
 (ho:o.op=.call { callee:=.builtin .append,args:=#[so,xo],argTypes:=#[t,tx] })
 (base:Nat) (e:TypeId) (i:TypeInfo) (z:Value) (size bytes:Nat) (ht:P.underlying t=some (.slice e)) (hi:P.info? e=some i) (hz:i.zero=some z)
 (hsize:i.size=size) (hby:i.bytes=bytes) (Jt:z.cells.size=size)
 (v:Value) (n:Nat) (xs:List Value) (hv:a.eval so=v) (Hi:w.ownsRow base e size v n xs) (x:Value) (hx:a.eval xo=x) (m:Nat) (news:List Value) (hs:Src P size tx x m news w)
 (h63:n+m≤maxLen) (hbytes:(n+m)*bytes≤140737488355328) (gx:base≤w.heap.size)
 (h:∀v' w',w'.ownsRow base e size v' (n+m) (xs++news)→w.grownBy w' v.ownBlock→(v'.ownBlock=v.ownBlock∨v'.ownBlock=some w.heap.size)→K (a.put o.dst v') w'):o.wp P a w K Q:=by
 obtain⟨v',w',hr,h2,h3,h4⟩:=Qzg (P:=P) w base t tx o.type e i z size bytes ht hi hz hsize hby Jt v n xs Hi x m news hs h63 hbytes gx;unfold Oper.wp execOp;simp only[ho,resolve,invoke,builtin,Sem.run_bind,Sem.run_pure,Result.andThen_ok,List.map_toArray,List.map_cons,List.map_nil,hv,hx,hr];exact h v' w' h2 h3 h4
theorem Qxc{ops:Array Oper}{o:Oper}{a:Act}{K:Act→World→Prop}{Q:Exit→Act→World→Prop}{E:Prop}(JH:o.guard=none)(so xo:Operand)(t tx:TypeId)
 (ho:o.op=.call { callee:=.builtin .append,args:=#[so,xo],argTypes:=#[t,tx] })
 (base:Nat) (e:TypeId) (i:TypeInfo) (z:Value) (size bytes:Nat) (ht:P.underlying t=some (.slice e)) (hi:P.info? e=some i) (hz:i.zero=some z)
 (hsize:i.size=size) (hby:i.bytes=bytes) (Jt:z.cells.size=size)
 (v:Value) (n:Nat) (xs:List Value) (hv:a.eval so=v) (Hi:w.ownsRow base e size v n xs) (x:Value) (hx:a.eval xo=x) (m:Nat) (news:List Value) (hs:Src P size tx x m news w)
 (h63:n+m≤maxLen) (hbytes:(n+m)*bytes≤140737488355328) (gx:base≤w.heap.size)
 (h:∀v' w',w'.ownsRow base e size v' (n+m) (xs++news)→w.grownBy w' v.ownBlock→(v'.ownBlock=v.ownBlock∨v'.ownBlock=some w.heap.size)→K (a.put o.dst v') w') :
 if Region.wanted o (yielded ops a.tmps)=true then Oper.wp P o a w K Q else E:=by
 have hw:Region.wanted o (yielded ops a.tmps)=true:=by simp[Region.wanted,JH]
 rw[if_pos hw];exact Q0j w so xo t tx ho base e i z size bytes ht hi hz hsize hby Jt v n xs hv Hi x hx m news hs h63 hbytes gx h
end
end Go.Proofs.YtgaboghigefgbaaGreatDoor
