/- Lemmas on the way to the law; no conditions. -/
import Derived.Test.YtgaboghigefgbaaGreatDoorZ21
import Derived.Test.YtgaboghigefgbaaGreatDoorZ24
import Derived.Deep.RegionLawGrows
set_option linter.all false
set_option maxRecDepth 100000
set_option maxHeartbeats 8000000
namespace Go.Proofs.YtgaboghigefgbaaGreatDoor
open Go.Proofs.Tryz
open Go.Lib (hid)
open Go.RowKit
noncomputable def Q1e(n:Nat):Array Oper:=(QPa (Tryz.f82.body.getD .skip) n).getD #[]
theorem QAu:Q0b .any (Q1e 12)=true:=by kernel_rfl
theorem Qkc:QRb (Q1e 12)=true:=by kernel_rfl
theorem Q7j:(Q1e 12).size=21:=by kernel_rfl
theorem QKa{l:Array Bool}{i j:Nat}(h:l.getD j false=true):(l.setIfInBounds i true).getD j false=true:=by
 cases e:(l.setIfInBounds i true).getD j false with
 | true=>rfl
 | false=>rw[Qja e]at h;cases h
theorem QYn{l:Array Bool}{i:Nat}(h:i<l.size):(l.setIfInBounds i true).getD i false=true:=by simp[h]
theorem QAa.mono'{R R':Nat→Prop}{w:World}{v:Value}{ps:List Qqa}(h:QAa R w v ps)(hs:∀g,R g→R' g):QAa R' w v ps:=by
 obtain⟨a,cap,e,h1,h2,h3⟩:=h;refine⟨a,cap,e,h1,h2,fun h0=>?_⟩;obtain⟨g,o,ea,hR,hc⟩:=h3 h0;exact⟨g,o,ea,hs g hR,hc⟩
def Qbr(R:Nat→Prop)(base X kB sB g o cap:Nat)(k:Int)(name:ByteArray)(T:List Qba)(W w:World):Prop:=
 Holds w X #[.slice (some ⟨g,o,none⟩) T.length cap] 27∧Holds w kB #[.int .i64 k] 3∧Holds w sB #[.string name] 9∧Qoa R w (.slice (some ⟨g,o,none⟩) T.length cap) T∧Below W.heap.size W w∧base≤w.heap.size
def Qij(base W0 X _ _ g o cap:Nat)(k:Int)(name:ByteArray)(T:List Qba)(M:Nat)(d:Bool)(j:Nat):Value→World→Prop:=match j with
 | 0=>fun u _=>u=.pointer (some ⟨X,0,none⟩)
 | 1=>fun u _=>u=.slice (some ⟨g,o,none⟩) T.length cap
 | 2=>fun u _=>u=.pointer (some ⟨X,0,none⟩)
 | 3=>fun u _=>u=.slice (some ⟨g,o,none⟩) T.length cap
 | 4=>fun u _=>u=.int .i64 T.length
 | 5=>fun u _=>u=.pointer (some ⟨X,0,none⟩)
 | 6=>fun u _=>u=.slice (some ⟨g,o,none⟩) T.length cap
 | 7=>fun u _=>u=.int .i64 T.length
 | 8=>fun u _=>u=.slice (some ⟨g,o,none⟩) T.length T.length
 | 9=>fun u _=>u=.int .i64 k
 | 10=>fun u _=>u=.string name
 | 11=>fun u _=>u=.agg #[.int .i64 k,.string name,.slice none 0 0]
 | 12=>fun u w=>∃N,u=.slice (some ⟨N,0,none⟩) 1 1∧Holds w N #[.int .i64 k,.string name,.slice none 0 0] 46
 | 13=>fun u w=>d=false→∃a' c',u=.slice a' (T.length+1) c'∧Qoa (fun _=>True) w (.slice a' (T.length+1) c') (T++[(⟨k,name,[]⟩:Qba)])
 | 14=>fun u w=>∃tv' gP,u=.tuple #[.agg #[tv'],.slice (some ⟨gP,0,none⟩) (T.length+1) (T.length+1)]∧Qda w base tv' (Qta (T++[(⟨k,name,[]⟩:Qba)]))
 | 15=>fun u w=>∃tv' gP,u=.tuple #[.agg #[tv'],.slice (some ⟨gP,0,none⟩) (T.length+1) (T.length+1)]∧Qda w base tv' (Qta (T++[(⟨k,name,[]⟩:Qba)]))
 | 16=>fun u w=>∃tv',u=.agg #[tv']∧Qda w base tv' (Qta (T++[(⟨k,name,[]⟩:Qba)]))
 | 17=>fun _ _=>True
 | 18=>fun u w=>u=.pointer (some ⟨M,0,none⟩)∧W0≤M∧∃x,Holds w M #[x] 27
 | 19=>fun _ w=>∃tv',Holds w M #[tv'] 27∧Qda w base tv' (Qta (T++[(⟨k,name,[]⟩:Qba)]))
 | 20=>fun _ _=>True
 | _=>fun _ _=>True
section
variable{R:Nat→Prop}{base W0 X kB sB g o cap:Nat}{k:Int}{name:ByteArray}{T:List Qba}{M:Nat}{d:Bool}
theorem Qbr.new{W w w':World}(h:Qbr R base X kB sB g o cap k name T W w)(b:Below w.heap.size w w'):Qbr R base X kB sB g o cap k name T W w':=by
 have kk:=Qaa.of_fresh b (fun _=>False);exact⟨h.1.keeps kk (fun e=>e),h.2.1.keeps kk (fun e=>e),h.2.2.1.keeps kk (fun e=>e),h.2.2.2.1.new b,h.2.2.2.2.1.trans (b.mono h.2.2.2.2.1.size),Nat.le_trans h.2.2.2.2.2 b.size⟩
theorem Qbr.set{W w:World}{x:Value}(h:Qbr R base X kB sB g o cap k name T W w)(hM:W.heap.size≤M)(hH:Holds w M #[x] 27)(v:Value)(hX:X<W.heap.size)(hR:∀q,R q→q<W.heap.size):Qbr R base X kB sB g o cap k name T W (w.setCell ⟨M,0,none⟩ v):=by
 have kk:Qaa (· = M) w (w.setCell ⟨M,0,none⟩ v):=(Qaa.refl (· = M) w).setCell (p:=⟨M,0,none⟩) (Or.inr rfl) v;exact⟨h.1.keeps kk (by omega),h.2.1.keeps kk (QSa h.2.1 hH (by decide)),h.2.2.1.keeps kk (QSa h.2.2.1 hH (by decide)),h.2.2.2.1.keeps kk (fun q hq e=>by have:=hR q hq;omega),h.2.2.2.2.1.setCell (p:=⟨M,0,none⟩) hM v,Nat.le_trans h.2.2.2.2.2 kk.size⟩
theorem Qij.new{w w':World}{j:Nat}{u:Value}(h:Qij base W0 X kB sB g o cap k name T M d j u w)(b:Below w.heap.size w w'):Qij base W0 X kB sB g o cap k name T M d j u w':=by
 unfold Qij at *
 have kk:=Qaa.of_fresh b (fun _=>False);split at h
 all_goals first
  | exact h
  | (obtain⟨N,e,hN⟩:=h;exact⟨N,e,Holds.keeps hN kk (fun e=>e)⟩)
  | exact fun e=>(h e).elim fun a' q=>q.elim fun c' r=>⟨a',c',r.1,Qoa.new r.2 b⟩
  | (obtain⟨a',c',e,hN⟩:=h;exact⟨a',c',e,Qda.new hN b⟩)
  | (obtain⟨a',e,hN⟩:=h;exact⟨a',e,Qda.new hN b⟩)
  | (obtain⟨e,h1,x,hN⟩:=h;exact⟨e,h1,x,hN.keeps kk (fun e=>e)⟩)
  | (obtain⟨a',e,hN⟩:=h;exact⟨a',Holds.keeps e kk (fun e=>e),Qda.new hN b⟩)
theorem Qij.ghost{w:World}{j M':Nat}{u:Value}(h:Qij base W0 X kB sB g o cap k name T M d j u w)(dV:j≠18)(i3:j≠19):Qij base W0 X kB sB g o cap k name T M' d j u w:=by
 unfold Qij at *
 split at h
 all_goals first
  | exact absurd rfl dV
  | exact absurd rfl i3
  | exact h
theorem Qij.done{w:World}{j:Nat}{u:Value}(h:Qij base W0 X kB sB g o cap k name T M d j u w):Qij base W0 X kB sB g o cap k name T M true j u w:=by
 unfold Qij at *
 split at h
 all_goals first
  | exact h
  | exact fun e=>by cases e
theorem Qij.set{w:World}{j:Nat}{u x v:Value}(h:Qij base W0 X kB sB g o cap k name T M true j u w)(hH:Holds w M #[x] 27)(i3:j≠19):Qij base W0 X kB sB g o cap k name T M true j u (w.setCell ⟨M,0,none⟩ v):=by
 unfold Qij at *
 split at h
 all_goals first
  | exact absurd rfl i3
  | exact fun e=>by cases e
  | exact h
  | (obtain⟨N,e,hN⟩:=h;exact⟨N,e,Holds.other hN _ _ (QSa hN hH (by decide))⟩)
  | (obtain⟨a',c',e,hN⟩:=h;exact⟨a',c',e,Qda.set hN hH (by decide) (by decide) 0 v⟩)
  | (obtain⟨a',e,hN⟩:=h;exact⟨a',e,Qda.set hN hH (by decide) (by decide) 0 v⟩)
  | (obtain⟨e,h1,x,hN⟩:=h;exact⟨e,h1,v,hN.set 0 v⟩)
end
theorem Q8j{Q:Exit→Act→World→Prop}(R:Nat→Prop)(base X kB sB g o cap:Nat)(k:Int)(name:ByteArray)(T:List Qba)(W w:World)(A:Act)(hsz:A.tmps.size=60)(Ki:0<T.length)(Jg:T.length≤900)(hcap:T.length≤cap)(hXW:X<W.heap.size)(hRW:∀q,R q→q<W.heap.size)
 (hSh:QUc (T++[(⟨k,name,[]⟩:Qba)])) (hDi:Dis (T++[(⟨k,name,[]⟩:Qba)])) (gz:∀n∈T++[(⟨k,name,[]⟩:Qba)],n.props.length≤1000) (ja:Qcc (⟨k,name,[]⟩:Qba))
 (a3:A.tmps.getD 3 undef=.pointer (some ⟨X,0,none⟩)) (a5:A.tmps.getD 5 undef=.pointer (some ⟨sB,0,none⟩)) (a8:A.tmps.getD 8 undef=.pointer (some ⟨kB,0,none⟩))
 (hS:Qbr R base X kB sB g o cap k name T W w)
 (hQ:∀c w' M tv',Qpb (Q1e 12) A c→c.tmps.getD 10 undef=.pointer (some ⟨M,0,none⟩)→Holds w' M #[tv'] 27→W.heap.size≤M→Qda w' base tv' (Qta (T++[(⟨k,name,[]⟩:Qba)]))→Qbr R base X kB sB g o cap k name T W w'→Q .normal c w') :
 wpAny prog .any (Q1e 12) Q (Q1e 12).size (Array.replicate (Q1e 12).size false) A w:=by
 refine QNa (fun l c wx=>∃M d,QCd (Q1e 12) A (Qij base W.heap.size X kB sB g o cap k name T M d) (Qbr R base X kB sB g o cap k name T W) l c wx∧(d=true→l.getD 19 false=true)) QAu ?hend ?Hk _ _ _ _ (by simp) (by simp) ⟨0,false,QCd.start hS,fun e=>by cases e⟩
 case hend=>
  rintro l c wx ⟨M,d,hI,hd⟩ hl;obtain⟨tv',h1,h2⟩:=hI.2.2.2 19 (by rw[Q7j];decide) (hl 19 (by rw[Q7j];decide));obtain⟨h3,h4,_⟩:c.tmps.getD 10 undef=.pointer (some ⟨M,0,none⟩)∧W.heap.size≤M∧∃x,Holds wx M #[x] 27:=hI.fact 18 10 rfl (hl 18 (by rw[Q7j];decide));exact hQ c wx M tv' hI.1 h3 h1 h4 h2 hI.2.1
 rintro l c wx ⟨M,d,hI,hd⟩ i' op ho hl Ha K' hK';have Jl:i'<21:=by rw[←Q7j];exact(Array.getElem?_eq_some_iff.1 ho).1
 simp only[Q1e,QPa,Tryz.f82,Option.getD_some,reduceIte,Nat.reduceEqDiff]at ho;have hS:=hI.2.1;have s3:=(hI.slot 3 (by kernel_rfl)).trans a3;have s5:=(hI.slot 5 (by kernel_rfl)).trans a5;have s8:=(hI.slot 8 (by kernel_rfl)).trans a8;simp only[Array.getD_eq_getD_getElem?]at s3 s5 s8;have GB:i'=0∨i'=1∨i'=2∨i'=3∨i'=4∨i'=5∨i'=6∨i'=7∨i'=8∨i'=9∨i'=10∨i'=11∨i'=12∨i'=13∨i'=14∨i'=15∨i'=16∨i'=17∨i'=18∨i'=19∨i'=20:=by omega
 rcases GB with rfl|rfl|rfl|rfl|rfl|rfl|rfl|rfl|rfl|rfl|rfl|rfl|rfl|rfl|rfl|rfl|rfl|rfl|rfl|rfl|rfl
 all_goals cases ho
 ·go_simp;exact hK' _ _ ⟨M,d,hI.stepL Qkc 0 42 rfl (by rw[hsz];decide) _ _ rfl Ha hS (fun _ _ _ h=>h) rfl,fun e=>QKa (hd e)⟩
 ·have f0:c.tmps.getD 42 undef=.pointer (some ⟨X,0,none⟩):=hI.fact 0 42 rfl (Qma Ha 0 (by kernel_rfl));have e0:=gE f0;have hX:=hS.1.cell 0;go_simp;exact hK' _ _ ⟨M,d,hI.stepL Qkc 1 43 rfl (by rw[hsz];decide) _ _ rfl Ha hS (fun _ _ _ h=>h) rfl,fun e=>QKa (hd e)⟩
 ·go_simp;exact hK' _ _ ⟨M,d,hI.stepL Qkc 2 44 rfl (by rw[hsz];decide) _ _ rfl Ha hS (fun _ _ _ h=>h) rfl,fun e=>QKa (hd e)⟩
 ·have f2:c.tmps.getD 44 undef=.pointer (some ⟨X,0,none⟩):=hI.fact 2 44 rfl (Qma Ha 2 (by kernel_rfl));have e2:=gE f2;have hX:=hS.1.cell 0;go_simp;exact hK' _ _ ⟨M,d,hI.stepL Qkc 3 45 rfl (by rw[hsz];decide) _ _ rfl Ha hS (fun _ _ _ h=>h) rfl,fun e=>QKa (hd e)⟩
 ·have f3:c.tmps.getD 45 undef=.slice (some ⟨g,o,none⟩) T.length cap:=hI.fact 3 45 rfl (Qma Ha 3 (by kernel_rfl));have e3:=gE f3;go_simp;exact hK' _ _ ⟨M,d,hI.stepL Qkc 4 46 rfl (by rw[hsz];decide) _ _ rfl Ha hS (fun _ _ _ h=>h) rfl,fun e=>QKa (hd e)⟩
 ·go_simp;exact hK' _ _ ⟨M,d,hI.stepL Qkc 5 47 rfl (by rw[hsz];decide) _ _ rfl Ha hS (fun _ _ _ h=>h) rfl,fun e=>QKa (hd e)⟩
 ·have f5:c.tmps.getD 47 undef=.pointer (some ⟨X,0,none⟩):=hI.fact 5 47 rfl (Qma Ha 5 (by kernel_rfl));have e5:=gE f5;have hX:=hS.1.cell 0;go_simp;exact hK' _ _ ⟨M,d,hI.stepL Qkc 6 48 rfl (by rw[hsz];decide) _ _ rfl Ha hS (fun _ _ _ h=>h) rfl,fun e=>QKa (hd e)⟩
 ·have f6:c.tmps.getD 48 undef=.slice (some ⟨g,o,none⟩) T.length cap:=hI.fact 6 48 rfl (Qma Ha 6 (by kernel_rfl));have e6:=gE f6;go_simp;exact hK' _ _ ⟨M,d,hI.stepL Qkc 7 49 rfl (by rw[hsz];decide) _ _ rfl Ha hS (fun _ _ _ h=>h) rfl,fun e=>QKa (hd e)⟩
 ·have f1:c.tmps.getD 43 undef=.slice (some ⟨g,o,none⟩) T.length cap:=hI.fact 1 43 rfl (Qma Ha 1 (by kernel_rfl));have e1:=gE f1;have f4:c.tmps.getD 46 undef=.int .i64 T.length:=hI.fact 4 46 rfl (Qma Ha 4 (by kernel_rfl));have e4:=gE f4;have f7:c.tmps.getD 49 undef=.int .i64 T.length:=hI.fact 7 49 rfl (Qma Ha 7 (by kernel_rfl));have e7:=gE f7;go_simp;exact hK' _ _ ⟨M,d,hI.stepL Qkc 8 50 rfl (by rw[hsz];decide) _ _ rfl Ha hS (fun _ _ _ h=>h) rfl,fun e=>QKa (hd e)⟩
 ·have hX:=hS.2.1.cell 0;go_simp;exact hK' _ _ ⟨M,d,hI.stepL Qkc 9 51 rfl (by rw[hsz];decide) _ _ rfl Ha hS (fun _ _ _ h=>h) rfl,fun e=>QKa (hd e)⟩
 ·have hX:=hS.2.2.1.cell 0;go_simp;exact hK' _ _ ⟨M,d,hI.stepL Qkc 10 52 rfl (by rw[hsz];decide) _ _ rfl Ha hS (fun _ _ _ h=>h) rfl,fun e=>QKa (hd e)⟩
 ·have f9:c.tmps.getD 51 undef=.int .i64 k:=hI.fact 9 51 rfl (Qma Ha 9 (by kernel_rfl));have e9:=gE f9;have f10:c.tmps.getD 52 undef=.string name:=hI.fact 10 52 rfl (Qma Ha 10 (by kernel_rfl));have e10:=gE f10;go_simp;exact hK' _ _ ⟨M,d,hI.stepL Qkc 11 53 rfl (by rw[hsz];decide) _ _ rfl Ha hS (fun _ _ _ h=>h) rfl,fun e=>QKa (hd e)⟩
 ·have f11:c.tmps.getD 53 undef=.agg #[.int .i64 k,.string name,.slice none 0 0]:=hI.fact 11 53 rfl (Qma Ha 11 (by kernel_rfl));have e11:=gE f11;go_simp;have Hc:Below wx.heap.size wx (wx.alloc (.cells #[.int .i64 k,.string name,.slice none 0 0] 46)):=Bq;exact hK' _ _ ⟨M,d,hI.stepL Qkc 12 54 rfl (by rw[hsz];decide) _ _ rfl Ha (hS.new Hc) (fun j _ u h=>h.new Hc) ⟨_,rfl,Holds.new _ _ _⟩,fun e=>QKa (hd e)⟩
 ·have f8:c.tmps.getD 50 undef=.slice (some ⟨g,o,none⟩) T.length T.length:=hI.fact 8 50 rfl (Qma Ha 8 (by kernel_rfl));have e8:=gE f8;obtain⟨N,e12,hN⟩:∃N,c.tmps.getD 54 undef=.slice (some ⟨N,0,none⟩) 1 1∧Holds wx N #[.int .i64 k,.string name,.slice none 0 0] 46:=hI.fact 12 54 rfl (Qma Ha 12 (by kernel_rfl));obtain⟨g0,o0,pvs,aK,GG,-,gz,rs,Aw,gG,-⟩:=hS.2.2.2.1.row Ki;cases aK;obtain⟨i0,hi,Hz,Ho,H4⟩:=info_parts QRg;refine step_append_grows (by rfl) _ _ _ (by rfl) 46 i0 _ 3 48 underlying25 hi Hz Ho H4 rfl (by omega) (some ⟨g,o,none⟩) T.length T.length (Qpa T pvs) (by exact f8) (fun h=>by cases h) (by rw[QXc T pvs gz]) (fun b hb=>by cases hb;exact gG) ⟨N,0,none⟩ 1 1 [.int .i64 k,.string name,.slice none 0 0] (by exact e12) (by rfl) (World.news_of_block (cs:=#[.int .i64 k,.string name,.slice none 0 0]) (t:=46) (fr:=(0,0)) hN) (by simp[Value.oneCell']) (by omega) (by unfold maxLen;omega) (by omega) ?_;intro v' w8 gO Hd;obtain⟨a',c',rfl⟩:=Qea gO;have Hc:Below wx.heap.size wx w8:=(Below.refl _ _).grown Hd (by simp) (fun q hq=>by cases hq);have zR:Qoa (fun _=>True) w8 (.slice a' (T.length+1) c') (T++[(⟨k,name,[]⟩:Qba)]):=by
   have h1:w8.ownsRow wx.heap.size 46 3 (.slice a' (T.length+1) c') (T++[(⟨k,name,[]⟩:Qba)]).length (Qpa (T++[(⟨k,name,[]⟩:Qba)]) (pvs++[.slice none 0 0])):=by
    rw[Qdc T pvs _ _ gz,List.length_append,List.length_singleton];exact gO
   refine QPk h1 (by simp[gz]) (fun j hj Ge=>?_) (fun n hn=>?_) (fun _ _=>trivial)
   ·by_cases e:j<T.length
    ·have:=((rs j e (by omega)).new Hc).mono' (R':=fun _=>True) (fun _ _=>trivial);simpa[List.getElem_append_left,e,gz]using this
    have e2:j=T.length:=by simp at hj;omega
    subst e2;have:QAa (fun _=>True) w8 (.slice none 0 0) []:=⟨none,0,rfl,Nat.le_refl _,by omega,fun h=>absurd h (Nat.not_lt_zero _)⟩;simpa[List.getElem_append_right,gz]using this
   rcases List.mem_append.1 hn with hn|hn
   ·exact Aw n hn
   simp at hn;subst hn;exact ja
  exact hK' _ _ ⟨M,d,hI.stepL Qkc 13 55 rfl (by rw[hsz];decide) _ _ rfl Ha (hS.new Hc) (fun j _ u h=>h.new Hc) (fun _=>⟨a',c',rfl,zR⟩),fun e=>QKa (hd e)⟩
 ·have u19:=hI.2.2.1.2.unlisted (hI.2.2.1.2.unlisted (hI.2.2.1.2.unlisted hl (j:=15) (by kernel_rfl)) (j:=16) (by kernel_rfl)) (j:=19) (by kernel_rfl);have uq:d=false:=by cases d with
   | false=>rfl
   | true=>have:=hd rfl;rw[u19]at this;cases this
  obtain⟨a',c',e13,hN⟩:∃a' c',c.tmps.getD 55 undef=.slice a' (T.length+1) c'∧Qoa (fun _=>True) wx (.slice a' (T.length+1) c') (T++[(⟨k,name,[]⟩:Qba)]):=hI.fact 13 55 rfl (Qma Ha 13 (by kernel_rfl)) uq;simp only[Array.getD_eq_getD_getElem?]at e13;go_simp;refine(Qtl (fun _=>True) _ (T++[(⟨k,name,[]⟩:Qba)]) wx hN hSh hDi (by simp;omega) gz).mono ?_;rintro e w2 ⟨tv',gP,l',rfl,Gz,-,-,-,-,Hc⟩;rw[List.length_append,List.length_singleton];go_simp;exact hK' _ _ ⟨M,d,hI.stepL Qkc 14 56 rfl (by rw[hsz];decide) _ _ rfl Ha (hS.new Hc) (fun j _ u h=>h.new Hc) ⟨tv',gP,rfl,Gz.base hS.2.2.2.2.2⟩,fun e=>QKa (hd e)⟩
 ·obtain⟨tv',gP,e14,hr⟩:∃tv' gP,c.tmps.getD 56 undef=.tuple #[.agg #[tv'],.slice (some ⟨gP,0,none⟩) (T.length+1) (T.length+1)]∧Qda wx base tv' (Qta (T++[(⟨k,name,[]⟩:Qba)])):=hI.fact 14 56 rfl (Qma Ha 14 (by kernel_rfl));simp only[Array.getD_eq_getD_getElem?]at e14;go_simp;exact hK' _ _ ⟨M,d,hI.stepL Qkc 15 41 rfl (by rw[hsz];decide) _ _ rfl Ha hS (fun _ _ _ h=>h) ⟨tv',gP,rfl,hr⟩,fun e=>QKa (hd e)⟩
 ·obtain⟨tv',gP,e14,hr⟩:∃tv' gP,c.tmps.getD 41 undef=.tuple #[.agg #[tv'],.slice (some ⟨gP,0,none⟩) (T.length+1) (T.length+1)]∧Qda wx base tv' (Qta (T++[(⟨k,name,[]⟩:Qba)])):=hI.fact 15 41 rfl (Qma Ha 15 (by kernel_rfl));simp only[Array.getD_eq_getD_getElem?]at e14;go_simp;exact hK' _ _ ⟨M,d,hI.stepL Qkc 16 57 rfl (by rw[hsz];decide) _ _ rfl Ha hS (fun _ _ _ h=>h) ⟨tv',rfl,hr⟩,fun e=>QKa (hd e)⟩
 ·obtain⟨tv',gP,e14,hr⟩:∃tv' gP,c.tmps.getD 41 undef=.tuple #[.agg #[tv'],.slice (some ⟨gP,0,none⟩) (T.length+1) (T.length+1)]∧Qda wx base tv' (Qta (T++[(⟨k,name,[]⟩:Qba)])):=hI.fact 15 41 rfl (Qma Ha 15 (by kernel_rfl));simp only[Array.getD_eq_getD_getElem?]at e14;go_simp;exact hK' _ _ ⟨M,d,hI.stepL Qkc 17 58 rfl (by rw[hsz];decide) _ _ rfl Ha hS (fun _ _ _ h=>h) trivial,fun e=>QKa (hd e)⟩
 ·have u19:=hI.2.2.1.2.unlisted hl (j:=19) (by kernel_rfl);go_simp;have Hc:Below wx.heap.size wx (wx.alloc (.cells #[.slice none 0 0] 27)):=Bq;have hJ:=hI.other (F':=Qij base W.heap.size X kB sB g o cap k name T wx.heap.size d) (fun j hj u h=>h.ghost (Q1a hj hl) (Q1a hj u19));exact hK' _ _ ⟨wx.heap.size,d,hJ.stepL Qkc 18 10 rfl (by rw[hsz];decide) _ _ rfl Ha (hS.new Hc) (fun j _ u h=>h.new Hc) ⟨rfl,hS.2.2.2.2.1.size,_,Holds.new _ _ _⟩,fun e=>QKa (hd e)⟩
 ·obtain⟨e18,hM,x,ld⟩:c.tmps.getD 10 undef=.pointer (some ⟨M,0,none⟩)∧W.heap.size≤M∧∃x,Holds wx M #[x] 27:=hI.fact 18 10 rfl (Qma Ha 18 (by kernel_rfl));obtain⟨tv',e16,hr⟩:∃tv',c.tmps.getD 57 undef=.agg #[tv']∧Qda wx base tv' (Qta (T++[(⟨k,name,[]⟩:Qba)])):=hI.fact 16 57 rfl (Qma Ha 16 (by kernel_rfl));simp only[Array.getD_eq_getD_getElem?]at e18 e16;obtain⟨va,vc,rfl⟩:=Qnc hr;have n0:=ld.cell 0;have n1:=ld.free 0;go_simp;have hJ:=hI.other (F':=Qij base W.heap.size X kB sB g o cap k name T M true) (fun j hj u h=>h.done);exact hK' _ _ ⟨M,true,hJ.stepNL 19 rfl _ rfl Ha (hS.set hM ld _ hXW hRW) (fun j hj u h=>h.set ld (Q1a hj hl)) ⟨_,ld.set 0 _,hr.set ld (by decide) (by decide) 0 _⟩,fun _=>QYn (by rw[hI.2.2.1.1,Q7j];decide)⟩
 go_simp;exact hK' _ _ ⟨M,d,hI.stepL Qkc 20 11 rfl (by rw[hsz];decide) _ _ rfl Ha hS (fun _ _ _ h=>h) trivial,fun e=>QKa (hd e)⟩
theorem Qqs(R:Nat→Prop)(v:Value)(T:List Qba)(s name:ByteArray)(w:World)(hT:Qoa R w v T)(ko:name.size≤9223372036854775807) :
 Calls prog 82 #[.agg #[v],.string s,.string name] w (Qgc (QQc T s name) w):=by
 obtain⟨a,cap,rfl,gy,gh⟩:=hT.shape;have HT:=hid hT.bound;clear hT;have Gr:=fun wx hx=>QGg (fun g=>g<w.heap.size) (.slice a T.length cap) T s wx hx;have He:Below w.heap.size w (((w.alloc (.cells #[.slice a T.length cap] 27)).alloc (.cells #[.string name] 9)).alloc (.cells #[.slice none 0 0] 27)):=((Bq).alloc (by simp) _).alloc (by simp;omega) _;have Gb:=((Holds.new w #[.slice a T.length cap] 27).alloc (.cells #[.string name] 9)).alloc (.cells #[.slice none 0 0] 27);have jH:=(Holds.newAt (w:=w.alloc (.cells #[.slice a T.length cap] 27)) (B:=w.heap.size+1) (by simp) #[.string name] 9).alloc (.cells #[.slice none 0 0] 27);have gX:=Holds.newAt (w:=(w.alloc (.cells #[.slice a T.length cap] 27)).alloc (.cells #[.string name] 9)) (B:=w.heap.size+1+1) (by simp) #[.slice none 0 0] 27;rcases Qkb T s with⟨Hl,gR⟩|⟨gd,k,hk,G0,Gt⟩
 ·have hE:=hid (show QQc T s name=([],(Qua T s).2)from by unfold QQc;rw[if_pos Hl]);have aT:((Qua T s).2 != 0)=true:=by simpa using Hl
  rw[gR]at Gr;have kK:=hid Gr;clear Gr Hl gR;generalize(Qua T s).2=c at *
  go_enter func82,ntmps82;go_wp2_with fail;refine(kK.o _ (by exact HT.o.new He)).mono ?_;rintro e w1 ⟨rfl,Hb⟩;have Hr:=Gb.fr Hb;have Ku:=jH.fr Hb;have Hm:=gX.fr Hb;have Hc:=He.trans (Hb.mono (by simp;omega));have Gx:=Hc.size;have Hx:=Hm.alloc (.cells #[.int .i64 0] 3);have Hg:=Hc.alloc Gx (.cells #[.int .i64 0] 3);have z0:=Hx.cell 0;have zf:=Hx.free 0;have zl:=Hx.lt;go_wp2_with fail;have q0:((w1.alloc (.cells #[.int .i64 0] 3)).setCell ⟨w.heap.size+1+1,0,none⟩ (.slice none 0 0)).cell? ⟨w.heap.size+1+1,0,none⟩=some (.slice none 0 0):=(Hx.set 0 _).cell 0;exact bodyPost_ret (v:=.tuple #[.agg #[.slice none 0 0],.int .i64 c]) (by simp[results,Tryz.results82,go_sem,q0]) rfl ⟨_,by rw[hE.o],by rw[hE.o];exact Qda.nil _ _,Hg.setCell (p:=⟨w.heap.size+1+1,0,none⟩) (by simp;omega) _⟩
 rw[G0]at Gr;have kK:=hid Gr;have hE:=hid (show QQc T s name=if QTa name.data.toList=false then([],1)else if T.any (QRa (k:Int) name)=true then([],5)else if 8≤Q8b T T.length (k:Int)then([],2)else if 120≤T.length then([],3)else(Qta (T++[⟨k,name,[]⟩]),0)from by
  unfold QQc;rw[G0,if_neg (by simp)])
 have Mp:=Qlb (QQa gd);have Ht:=Q3b gd;have j4:=hid (Q4b gd);obtain⟨GO,gS⟩:=Mp;have bQ:=hid (fun wx hx=>Qej (fun g=>g<w.heap.size) (.slice a T.length cap) T k wx hx Ht (by omega) (by omega) (by omega));have Mz:=hid (QBa Ht);have nz:=hid (QTb Ht GO);have rT:=hid (QSd gd);have hdc:=QNi gd k hk;have kh:=fun wx=>Qac name wx (by unfold maxLen;omega);clear Gr G0 gd Ht;cases Kc:QTa name.data.toList with
 | false=>
  have hF:=hid (show QQc T s name=([],1)from by rw[hE.o,if_pos Kc]);rw[Kc]at kh;have mr:=hid kh;clear kh Kc hE;go_enter func82,ntmps82;go_wp2_with fail;refine(kK.o _ (by exact HT.o.new He)).mono ?_;rintro e w1 ⟨rfl,Hb⟩;have Hr:=Gb.fr Hb;have Ku:=jH.fr Hb;have Hm:=gX.fr Hb;have Hc:=He.trans (Hb.mono (by simp;omega));have Gx:=Hc.size;have Hg:=Hc.alloc Gx (.cells #[.int .i64 (k:Int)] 3);have gw:=Hr.alloc (.cells #[.int .i64 (k:Int)] 3);have HJ:=Ku.alloc (.cells #[.int .i64 (k:Int)] 3);have Hx:=Hm.alloc (.cells #[.int .i64 (k:Int)] 3);have H3:=Holds.new w1 #[.int .i64 (k:Int)] 3;have s0:=Ku.cell 0;have sl:=Ku.lt;have x0:=Hr.cell 0;have xl:=Hr.lt;go_wp2_with fail;refine(mr.o _).mono ?_;rintro e w2 ⟨rfl,rfl⟩;have z0:=Hx.cell 0;have zf:=Hx.free 0;have zl:=Hx.lt;go_wp2_with fail;have q0:((w1.alloc (.cells #[.int .i64 (k:Int)] 3)).setCell ⟨w.heap.size+1+1,0,none⟩ (.slice none 0 0)).cell? ⟨w.heap.size+1+1,0,none⟩=some (.slice none 0 0):=(Hx.set 0 _).cell 0;exact bodyPost_ret (v:=.tuple #[.agg #[.slice none 0 0],.int .i64 1]) (by simp[results,Tryz.results82,go_sem,q0]) rfl ⟨_,by rw[hF.o],by rw[hF.o];exact Qda.nil _ _,Hg.setCell (p:=⟨w.heap.size+1+1,0,none⟩) (by simp;omega) _⟩
 | true=>
  rw[Kc]at kh;have mr:=hid kh;have eA:=hid (fun kb wx hx h1 h2=>Q8f (fun g=>g<w.heap.size) (.slice a T.length cap) T k name kb (w.heap.size+1) wx hx (by omega) h1 h2);clear kh;cases Gc:T.any (QRa (k:Int) name)with
  | true=>
   have hF:=hid (show QQc T s name=([],5)from by rw[hE.o,if_neg (by rw[Kc];simp),if_pos Gc]);have jW:=hid (fun kb wx hx h1 h2=>Gc ▸ eA.o kb wx hx h1 h2);clear Kc Gc hE eA;go_enter func82,ntmps82;go_wp2_with fail;refine(kK.o _ (by exact HT.o.new He)).mono ?_;rintro e w1 ⟨rfl,Hb⟩;have Hr:=Gb.fr Hb;have Ku:=jH.fr Hb;have Hm:=gX.fr Hb;have Hc:=He.trans (Hb.mono (by simp;omega));have Gx:=Hc.size;have Hg:=Hc.alloc Gx (.cells #[.int .i64 (k:Int)] 3);have gw:=Hr.alloc (.cells #[.int .i64 (k:Int)] 3);have HJ:=Ku.alloc (.cells #[.int .i64 (k:Int)] 3);have Hx:=Hm.alloc (.cells #[.int .i64 (k:Int)] 3);have H3:=Holds.new w1 #[.int .i64 (k:Int)] 3;have s0:=Ku.cell 0;have sl:=Ku.lt;have x0:=Hr.cell 0;have xl:=Hr.lt;go_wp2_with fail;refine(mr.o _).mono ?_;rintro e w2 ⟨rfl,rfl⟩;go_wp2_with fail;refine(jW.o w1.heap.size _ (by exact HT.o.new Hg) H3 HJ).mono ?_;rintro e w3 ⟨rfl,Hu⟩;have kk:=Qaa.of_fresh Hu (fun _=>False);have GA:=gw.keeps kk (fun e=>e);have Mm:=HJ.keeps kk (fun e=>e);have gf:=Hx.keeps kk (fun e=>e);have H9:=H3.keeps kk (fun e=>e);have H5:=Hg.trans (Hu.mono (by simp;omega));have dG:=H5.size;clear kk Hu gw HJ Hx H3 Hr Ku Hm x0 xl s0 sl;have z0:=gf.cell 0;have zf:=gf.free 0;have zl:=gf.lt;go_wp2_with fail;have q0:(w3.setCell ⟨w.heap.size+1+1,0,none⟩ (.slice none 0 0)).cell? ⟨w.heap.size+1+1,0,none⟩=some (.slice none 0 0):=(gf.set 0 _).cell 0;exact bodyPost_ret (v:=.tuple #[.agg #[.slice none 0 0],.int .i64 5]) (by simp[results,Tryz.results82,go_sem,q0]) rfl ⟨_,by rw[hF.o],by rw[hF.o];exact Qda.nil _ _,H5.setCell (p:=⟨w.heap.size+1+1,0,none⟩) (by simp;omega) _⟩
  | false=>
   have jW:=hid (fun kb wx hx h1 h2=>Gc ▸ eA.o kb wx hx h1 h2);have JO:=hid Gc;by_cases h8:Q8b T T.length (k:Int)=8
   ·have hF:=hid (show QQc T s name=([],2)from by rw[hE.o,if_neg (by rw[Kc];simp),if_neg (by rw[Gc];simp),if_pos (by omega)]);have h8':(((Q8b T T.length (k:Int):Nat):Int)==8)=true:=by rw[h8];rfl
    clear Kc Gc hE eA h8;go_enter func82,ntmps82;go_wp2_with fail;refine(kK.o _ (by exact HT.o.new He)).mono ?_;rintro e w1 ⟨rfl,Hb⟩;have Hr:=Gb.fr Hb;have Ku:=jH.fr Hb;have Hm:=gX.fr Hb;have Hc:=He.trans (Hb.mono (by simp;omega));have Gx:=Hc.size;have Hg:=Hc.alloc Gx (.cells #[.int .i64 (k:Int)] 3);have gw:=Hr.alloc (.cells #[.int .i64 (k:Int)] 3);have HJ:=Ku.alloc (.cells #[.int .i64 (k:Int)] 3);have Hx:=Hm.alloc (.cells #[.int .i64 (k:Int)] 3);have H3:=Holds.new w1 #[.int .i64 (k:Int)] 3;have s0:=Ku.cell 0;have sl:=Ku.lt;have x0:=Hr.cell 0;have xl:=Hr.lt;go_wp2_with fail;refine(mr.o _).mono ?_;rintro e w2 ⟨rfl,rfl⟩;go_wp2_with fail;refine(jW.o w1.heap.size _ (by exact HT.o.new Hg) H3 HJ).mono ?_;rintro e w3 ⟨rfl,Hu⟩;have kk:=Qaa.of_fresh Hu (fun _=>False);have GA:=gw.keeps kk (fun e=>e);have Mm:=HJ.keeps kk (fun e=>e);have gf:=Hx.keeps kk (fun e=>e);have H9:=H3.keeps kk (fun e=>e);have H5:=Hg.trans (Hu.mono (by simp;omega));have dG:=H5.size;clear kk Hu gw HJ Hx H3 Hr Ku Hm x0 xl s0 sl;have x0:=GA.cell 0;have k0:=H9.cell 0;go_wp2_with fail;refine(bQ.o _ (by exact HT.o.new H5)).mono ?_;rintro e w4 ⟨rfl,gn⟩;have kk:=Qaa.of_fresh gn (fun _=>False);have jI:=GA.keeps kk (fun e=>e);have tO:=Mm.keeps kk (fun e=>e);have GY:=gf.keeps kk (fun e=>e);have KA:=H9.keeps kk (fun e=>e);have Gd:=H5.trans (gn.mono dG);have mn:=Gd.size;clear kk gn GA Mm gf H9 x0 k0;have z0:=GY.cell 0;have zf:=GY.free 0;have zl:=GY.lt;go_wp2_with fail;have q0:(w4.setCell ⟨w.heap.size+1+1,0,none⟩ (.slice none 0 0)).cell? ⟨w.heap.size+1+1,0,none⟩=some (.slice none 0 0):=(GY.set 0 _).cell 0
    exact bodyPost_ret (v:=.tuple #[.agg #[.slice none 0 0],.int .i64 2]) (by simp[results,Tryz.results82,go_sem,q0]) rfl ⟨_,by rw[hF.o],by rw[hF.o];exact Qda.nil _ _,Gd.setCell (p:=⟨w.heap.size+1+1,0,none⟩) (by simp;omega) _⟩
   have h8':(((Q8b T T.length (k:Int):Nat):Int)==8)=false:=by rw[beq_eq_false_iff_ne];omega
   by_cases h120:T.length=120
   ·have hF:=hid (show QQc T s name=([],3)from by rw[hE.o,if_neg (by rw[Kc];simp),if_neg (by rw[Gc];simp),if_neg (by omega),if_pos (by omega)]);have jD:((T.length:Int)==120)=true:=by rw[h120];rfl
    clear Kc Gc hE eA h8 h120;go_enter func82,ntmps82;go_wp2_with fail;refine(kK.o _ (by exact HT.o.new He)).mono ?_;rintro e w1 ⟨rfl,Hb⟩;have Hr:=Gb.fr Hb;have Ku:=jH.fr Hb;have Hm:=gX.fr Hb;have Hc:=He.trans (Hb.mono (by simp;omega));have Gx:=Hc.size;have Hg:=Hc.alloc Gx (.cells #[.int .i64 (k:Int)] 3);have gw:=Hr.alloc (.cells #[.int .i64 (k:Int)] 3);have HJ:=Ku.alloc (.cells #[.int .i64 (k:Int)] 3);have Hx:=Hm.alloc (.cells #[.int .i64 (k:Int)] 3);have H3:=Holds.new w1 #[.int .i64 (k:Int)] 3;have s0:=Ku.cell 0;have sl:=Ku.lt;have x0:=Hr.cell 0;have xl:=Hr.lt;go_wp2_with fail;refine(mr.o _).mono ?_;rintro e w2 ⟨rfl,rfl⟩;go_wp2_with fail;refine(jW.o w1.heap.size _ (by exact HT.o.new Hg) H3 HJ).mono ?_;rintro e w3 ⟨rfl,Hu⟩;have kk:=Qaa.of_fresh Hu (fun _=>False);have GA:=gw.keeps kk (fun e=>e);have Mm:=HJ.keeps kk (fun e=>e);have gf:=Hx.keeps kk (fun e=>e);have H9:=H3.keeps kk (fun e=>e);have H5:=Hg.trans (Hu.mono (by simp;omega));have dG:=H5.size;clear kk Hu gw HJ Hx H3 Hr Ku Hm x0 xl s0 sl;have x0:=GA.cell 0;have k0:=H9.cell 0;go_wp2_with fail;refine(bQ.o _ (by exact HT.o.new H5)).mono ?_;rintro e w4 ⟨rfl,gn⟩;have kk:=Qaa.of_fresh gn (fun _=>False);have jI:=GA.keeps kk (fun e=>e);have tO:=Mm.keeps kk (fun e=>e);have GY:=gf.keeps kk (fun e=>e);have KA:=H9.keeps kk (fun e=>e);have Gd:=H5.trans (gn.mono dG);have mn:=Gd.size;clear kk gn GA Mm gf H9 x0 k0;have x0:=jI.cell 0;have z0:=GY.cell 0;have zf:=GY.free 0;have zl:=GY.lt;go_wp2_with fail;have q0:(w4.setCell ⟨w.heap.size+1+1,0,none⟩ (.slice none 0 0)).cell? ⟨w.heap.size+1+1,0,none⟩=some (.slice none 0 0):=(GY.set 0 _).cell 0
    exact bodyPost_ret (v:=.tuple #[.agg #[.slice none 0 0],.int .i64 3]) (by simp[results,Tryz.results82,go_sem,q0]) rfl ⟨_,by rw[hF.o],by rw[hF.o];exact Qda.nil _ _,Gd.setCell (p:=⟨w.heap.size+1+1,0,none⟩) (by simp;omega) _⟩
   have hF:=hid (show QQc T s name=(Qta (T++[⟨k,name,[]⟩]),0)from by rw[hE.o,if_neg (by rw[Kc];simp),if_neg (by rw[Gc];simp),if_neg (by omega),if_neg (by omega)]);have jD:((T.length:Int)==120)=false:=by rw[beq_eq_false_iff_ne];omega
   clear Kc Gc hE eA h8 h120;go_enter func82,ntmps82;go_wp2_with fail;refine(kK.o _ (by exact HT.o.new He)).mono ?_;rintro e w1 ⟨rfl,Hb⟩;have Hr:=Gb.fr Hb;have Ku:=jH.fr Hb;have Hm:=gX.fr Hb;have Hc:=He.trans (Hb.mono (by simp;omega));have Gx:=Hc.size;have Hg:=Hc.alloc Gx (.cells #[.int .i64 (k:Int)] 3);have gw:=Hr.alloc (.cells #[.int .i64 (k:Int)] 3);have HJ:=Ku.alloc (.cells #[.int .i64 (k:Int)] 3);have Hx:=Hm.alloc (.cells #[.int .i64 (k:Int)] 3);have H3:=Holds.new w1 #[.int .i64 (k:Int)] 3;have s0:=Ku.cell 0;have sl:=Ku.lt;have x0:=Hr.cell 0;have xl:=Hr.lt;go_wp2_with fail;refine(mr.o _).mono ?_;rintro e w2 ⟨rfl,rfl⟩;go_wp2_with fail;refine(jW.o w1.heap.size _ (by exact HT.o.new Hg) H3 HJ).mono ?_;rintro e w3 ⟨rfl,Hu⟩;have kk:=Qaa.of_fresh Hu (fun _=>False);have GA:=gw.keeps kk (fun e=>e);have Mm:=HJ.keeps kk (fun e=>e);have gf:=Hx.keeps kk (fun e=>e);have H9:=H3.keeps kk (fun e=>e);have H5:=Hg.trans (Hu.mono (by simp;omega));have dG:=H5.size;clear kk Hu gw HJ Hx H3 Hr Ku Hm x0 xl s0 sl;have x0:=GA.cell 0;have k0:=H9.cell 0;go_wp2_with fail;refine(bQ.o _ (by exact HT.o.new H5)).mono ?_;rintro e w4 ⟨rfl,gn⟩;have kk:=Qaa.of_fresh gn (fun _=>False);have jI:=GA.keeps kk (fun e=>e);have tO:=Mm.keeps kk (fun e=>e);have GY:=gf.keeps kk (fun e=>e);have KA:=H9.keeps kk (fun e=>e);have Gd:=H5.trans (gn.mono dG);have mn:=Gd.size;clear kk gn GA Mm gf H9 x0 k0;have x0:=jI.cell 0;obtain⟨g,o,rfl⟩:∃g o,a=some ⟨g,o,none⟩:=by
    obtain⟨g,o,_,_,e,_⟩:=HT.o.at 0 GO;exact⟨g,o,e⟩
   have jT:=QYd (n:=⟨(k:Int),name,[]⟩) (⟨GO,Mz.o,nz.o⟩:QUc T) rfl hk;have xW:=QTm rT.o hk JO.o;have gz:∀n∈T++[(⟨(k:Int),name,[]⟩:Qba)],n.props.length≤1000:=by
    intro n hn;rcases List.mem_append.1 hn with hn|hn
    ·have:=j4.o n hn;omega
    simp at hn;subst hn;simp
   have zv:=hid jT;have yN:=hid xW;have sE:=hid gz;clear jT xW gz;go_wp2_with fail;refine wp_region_any (by kernel_rfl) ?_;refine QUa (ops':=Q1e 12) (by kernel_rfl) ?_;refine Q8j (fun q=>q<w.heap.size) w.heap.size w.heap.size w1.heap.size (w.heap.size+1) g o cap k name T w4.drew _ _ rfl GO (by omega) gy (by exact jI.lt) (fun q hq=>by show q<w4.heap.size;omega) zv.o yN.o sE.o ⟨ko,by show _≤(k:Int);omega,by show(k:Int)≤_;omega⟩ rfl rfl rfl ⟨jI,KA,tO,(HT.o.new Gd).new (Below.refl _ _).drew,Below.refl _ _,mn⟩ ?_;intro c w5 M tv gI gR hM hWM cU tP;obtain⟨x41,x42,x43,x44,x45,x46,x47,x48,x49,x50,x51,x52,x53,x54,x55,x56,x57,x58,x11,hc⟩:=gI.exAt [41,42,43,44,45,46,47,48,49,50,51,52,53,54,55,56,57,58,11] 10 (by kernel_rfl);rw[gR]at hc;subst hc;simp only[List.setIfInBounds_toArray,List.set_cons_zero,List.set_cons_succ];obtain⟨va,vc,rfl⟩:=Qnc cU;have KB:=Gd.trans (((Below.refl w4.heap.size w4).drew.trans (tP.2.2.2.2.1)).mono mn);have gN:=(GY.drew).fr tP.2.2.2.2.1;have m0:=hM.cell 0;have z0:=gN.cell 0;have zf:=gN.free 0;have zl:=gN.lt;have q0:=(gN.set 0 (.slice va (Qta (T++[(⟨(k:Int),name,[]⟩:Qba)])).length vc)).cell 0;have gV:=hid (And.intro (cU.set gN (by decide) (by decide) 0 (.slice va (Qta (T++[(⟨(k:Int),name,[]⟩:Qba)])).length vc)) (KB.setCell (p:=⟨w.heap.size+1+1,0,none⟩) (by simp;omega) (.slice va (Qta (T++[(⟨(k:Int),name,[]⟩:Qba)])).length vc)));clear gI gR cU tP KB;generalize Qta (T++[(⟨(k:Int),name,[]⟩:Qba)])=TT at *
   go_wp2_with fail;exact bodyPost_ret (v:=.tuple #[.agg #[.slice va TT.length vc],.int .i64 0]) (by simp[results,Tryz.results82,go_sem,q0]) rfl ⟨_,by rw[hF.o],by rw[hF.o];exact gV.o.1,gV.o.2⟩
end Go.Proofs.YtgaboghigefgbaaGreatDoor
