/- Lemmas on the way to the law; no conditions. -/
import Derived.Test.YtgaboghigefgbaaGreatDoorZ2
import Derived.Lib.Strings
import Derived.Lib.Walk
import Derived.Lib.Builder
import Derived.Lib.AppendStr
import Derived.Lib.UnsafeStr
import Derived.Laws.Externs
set_option linter.all false
set_option maxRecDepth 100000
set_option maxHeartbeats 8000000
namespace Go.Proofs.YtgaboghigefgbaaGreatDoor
open Go.Proofs.Tryz
open Go.RowKit
theorem Qci:(prog.info? 231).map (fun i=>i.size)=some 2:=by kernel_rfl
theorem QHp:(prog.info? 5).map (fun i=>(i.zero,i.size,i.bytes))=some (some (.int .u8 0),1,1):=by kernel_rfl
theorem Qri(b:Nat)(w:World)(h0:w.cell? ⟨b,0,none⟩=some (.pointer (some ⟨b,0,none⟩))) :
 Calls prog 223 #[.pointer (some ⟨b,0,none⟩)] w fun e w'=>e=.returned (.tuple #[])∧w=w':=by
 obtain⟨j,hj,_⟩:=Option.map_eq_some_iff.1 Qci;go_enter func223,ntmps223
 go_wp2
 rw[Lib.run_neq_ptr_same w _ underlying229 hj]
 go_wp2
 go_end0
 exact⟨rfl,rfl⟩
theorem QCh(b:Nat)(w:World)(h0:w.cell? ⟨b,0,none⟩=some (.pointer none))(jT:w.shape? b=some (231,2))(lw:w.frozen? ⟨b,0,none⟩=false) :
 Calls prog 223 #[.pointer (some ⟨b,0,none⟩)] w fun e w'=>e=.returned (.tuple #[])∧w'=w.setCell ⟨b,0,none⟩ (.pointer (some ⟨b,0,none⟩)):=by
 obtain⟨j,hj,uJ⟩:=Option.map_eq_some_iff.1 Qci;go_enter func223,ntmps223
 go_wp2
 rw[Lib.run_to_unsafe w ⟨b,0,none⟩ underlying229 underlying246 hj (by rw[uJ];decide) jT (Nat.zero_lt_succ 1)];simp only[Result.andThen];rw[Oper.upon_value]
 go_wp2
 rw[run_callFunc_extern func227 (by kernel_rfl) (by kernel_rfl) (by kernel_rfl) (e:=Extern.AbiNoEscape.same) (by kernel_rfl)];rw[Lib.run_noEscape];simp only[Result.andThen];rw[Oper.upon_value]
 go_wp2
 rw[Lib.run_from_unsafe w ⟨b,0,none⟩ underlying246 underlying229 hj jT (by kernel_rfl)];simp only[Result.andThen];rw[Oper.upon_value]
 go_wp2
 go_end0
 exact⟨rfl,rfl⟩
theorem Qnk(B b:Nat)(bs:List Value)(w:World)(h:Lib.IsBuilder 231 5 B b bs w) :
 Calls prog 223 #[.pointer (some ⟨b,0,none⟩)] w fun e w'=>e=.returned (.tuple #[])∧(Lib.BuilderAt 231 5 B b (.pointer (some ⟨b,0,none⟩)) bs w'∧Below B w w'):=by
 rcases h with h|h
 ·refine(QCh b w h.cell0 h.shape h.frozen0).mono ?_;rintro e w' ⟨rfl,rfl⟩;exact⟨rfl,h.used _,(Below.refl B w).setCell (p:=⟨b,0,none⟩) h.1 _⟩
 refine(Qri b w h.cell0).mono ?_;rintro e w' ⟨rfl,rfl⟩;exact⟨rfl,h,Below.refl B _⟩
theorem Qxl(B b:Nat)(bs:List Value)(c:Int)(w:World)(h:Lib.IsBuilder 231 5 B b bs w)(hlen:bs.length+1≤140737488355328)(fG:B≤w.heap.size) :
 Calls prog 214 #[.pointer (some ⟨b,0,none⟩),.int .u8 c] w fun e w'=>e=.returned .nilIface∧(Lib.BuilderAt 231 5 B b (.pointer (some ⟨b,0,none⟩)) (bs++[.int .u8 c]) w'∧Below B w w'):=by
 obtain⟨i0,hi,Hz,Ho,H4⟩:=info_parts QHp;go_enter func214,ntmps214;go_wp2_with(go_at_call 223;refine(Qnk B b bs _ h).mono ?_);rintro e w1 ⟨rfl,h1,Hb⟩;obtain⟨hB,v,cY,Hi,Hl⟩:=h1;have c0:w1.cell? ⟨b,0,none⟩=some (.pointer (some ⟨b,0,none⟩)):=by rw[Lib.cell_of_heap cY];rfl
 have c1:w1.cell? ⟨b,1,none⟩=some v:=by rw[Lib.cell_of_heap cY];rfl
 go_wp2_with(at_builtin;refine wpList_append_own _ rfl _ _ 88 rfl B 5 i0 (.int .u8 0) 1 1 underlying88 hi Hz Ho H4 rfl (by decide) _ _ _ rfl (Hi.alloc _) ⟨w1.heap.size,0,none⟩ 1 1 [.int .u8 c] rfl rfl ?c1 ?c2 ?c3 ?c4 ?c5 ?_)
 case c1=>
  intro j u hj
  match j,hj with
  | 0,hj=>simp at hj;subst hj;simp[Addr.add]
 case c2=>intro u hu;simp at hu;subst hu;rfl
 case c3=>unfold maxLen;omega
 case c4=>omega
 case c5=>have:=Hb.size;simp;omega
 intro v' w2 Hj Hd _;have Hh:b<w1.heap.size:=lt_of_block cY;have Hc:w2.heap[b]? = some (.cells #[.pointer (some ⟨b,0,none⟩),v] 231 (0,0)):=by
  rw[Hd.block b (by simp;omega) (fun e=>Hl e.symm),heap_alloc_old w1 _ Hh];exact cY
 have d0:w2.cell? ⟨b,0,none⟩=some (.pointer (some ⟨b,0,none⟩)):=by rw[Lib.cell_of_heap Hc];rfl
 have d1:w2.cell? ⟨b,1,none⟩=some v:=by rw[Lib.cell_of_heap Hc];rfl
 have f1:w2.frozen? ⟨b,1,none⟩=false:=Lib.frozen_of_heap Hc 1;obtain⟨g,cap,rfl⟩:∃g cap,v'=.slice (some ⟨g,0,none⟩) (bs.length+1) cap:=by
  rcases Hj.2 with⟨_,h0⟩|⟨g,cap,cur,hv,_⟩
  ·omega
  exact⟨g,cap,hv⟩
 go_wp2
 go_ret;refine⟨rfl,?_,?_⟩
 ·exact Lib.BuilderAt.put (T:=231) (e:=5) hB Hc (bs':=bs++[.int .u8 c]) (by simpa using Hj) (by decide)
 exact((Hb.alloc (by have:=Hb.size;omega) _).grown Hd (by have:=Hb.size;simp;omega) (fun k hk=>(Hi.lt k hk).1)).setCell (p:=⟨b,1,none⟩) hB _
end Go.Proofs.YtgaboghigefgbaaGreatDoor
