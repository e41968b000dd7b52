/- Contracts of package tree: the walk of one node more (region 12 of Add; printed by gadd.py). | Contracts of package tree: Add. | Contracts of bringuplaw03: root, awake; of package tree: Children. -/
import Derived.Test.YtgaboghigefgbaaGreatDoorZ33
import Derived.Test.YtgaboghigefgbaaGreatDoorZ37
import Derived.Deep.RegionLawGrows
import Derived.Test.YtgaboghigefgbaaGreatDoorZ20
import Derived.Test.YtgaboghigefgbaaGreatDoorZ13
set_option linter.all false
set_option maxHeartbeats 8000000
namespace Go.Proofs.YtgaboghigefgbaaGreatDoor
open Go.Lib (hid)
open Go.RowKit
noncomputable def Qhf(n:Nat):Array Oper:=(QXa (Tryz.f82.body.getD .skip) n).getD #[]
theorem Qou:Qjc .any (Qhf 12)=true:=by kernel_rfl
theorem Quc:Qbc (Qhf 12)=true:=by kernel_rfl
theorem QZj:(Qhf 12).size=21:=by kernel_rfl
theorem QJa{l:Array Bool}{i j:Nat}(h:l.getD j false=true):(l.setIfInBounds i true).getD j false=true:=by
 cases e:(l.setIfInBounds i true).getD j false with
 | true=>rfl
 | false=>rw[Qia e]at h;cases h
theorem QOn{l:Array Bool}{i:Nat}(h:i<l.size):(l.setIfInBounds i true).getD i false=true:=by simp[h]
theorem QGa.mono'{R R':Nat→Prop}{w:World}{v:Value}{ps:List Qla}(h:QGa R w v ps)(hs:∀g,R g→R' g):QGa R' w v ps:=by
 obtain⟨a,cap,e,h1,h2,h3⟩:=h
 refine⟨a,cap,e,h1,h2,fun h0=>?_⟩
 obtain⟨g,o,ea,hR,hc⟩:=h3 h0
 exact⟨g,o,ea,hs g hR,hc⟩
def QKq(R:Nat→Prop)(base X kB sB g o cap:Nat)(k:Int)(name:ByteArray)(T:List Qba)(W w:World):Prop:=
 Holds w X #[.slice (some ⟨g,o,none⟩) T.length cap] 27∧Holds w kB #[.int .i64 k] 3∧Holds w sB #[.string name] 9∧Qpa R w (.slice (some ⟨g,o,none⟩) T.length cap) T∧Below W.heap.size W w∧base≤w.heap.size
def Qcj(base W0 X _ _ g o cap:Nat)(k:Int)(name:ByteArray)(T:List Qba)(M:Nat)(d:Bool)(j:Nat):Value→World→Prop:=match j with
 | 0=>fun u _=>u = .pointer (some ⟨X,0,none⟩)
 | 1=>fun u _=>u = .slice (some ⟨g,o,none⟩) T.length cap
 | 2=>fun u _=>u = .pointer (some ⟨X,0,none⟩)
 | 3=>fun u _=>u = .slice (some ⟨g,o,none⟩) T.length cap
 | 4=>fun u _=>u = .int .i64 T.length
 | 5=>fun u _=>u = .pointer (some ⟨X,0,none⟩)
 | 6=>fun u _=>u = .slice (some ⟨g,o,none⟩) T.length cap
 | 7=>fun u _=>u = .int .i64 T.length
 | 8=>fun u _=>u = .slice (some ⟨g,o,none⟩) T.length T.length
 | 9=>fun u _=>u = .int .i64 k
 | 10=>fun u _=>u = .string name
 | 11=>fun u _=>u = .agg #[.int .i64 k,.string name,.slice none 0 0]
 | 12=>fun u w=>∃N,u = .slice (some ⟨N,0,none⟩) 1 1∧Holds w N #[.int .i64 k,.string name,.slice none 0 0] 46
 | 13=>fun u w=>d=false→∃a' c',u = .slice a' (T.length+1) c'∧Qpa (fun _=>True) w (.slice a' (T.length+1) c') (T++[(⟨k,name,[]⟩:Qba)])
 | 14=>fun u w=>∃tv' gP,u = .tuple #[.agg #[tv'],.slice (some ⟨gP,0,none⟩) (T.length+1) (T.length+1)]∧Qda w base tv' (Qoa (T++[(⟨k,name,[]⟩:Qba)]))
 | 15=>fun u w=>∃tv' gP,u = .tuple #[.agg #[tv'],.slice (some ⟨gP,0,none⟩) (T.length+1) (T.length+1)]∧Qda w base tv' (Qoa (T++[(⟨k,name,[]⟩:Qba)]))
 | 16=>fun u w=>∃tv',u = .agg #[tv']∧Qda w base tv' (Qoa (T++[(⟨k,name,[]⟩:Qba)]))
 | 17=>fun _ _=>True
 | 18=>fun u w=>u = .pointer (some ⟨M,0,none⟩)∧W0≤M∧∃x,Holds w M #[x] 27
 | 19=>fun _ w=>∃tv',Holds w M #[tv'] 27∧Qda w base tv' (Qoa (T++[(⟨k,name,[]⟩:Qba)]))
 | 20=>fun _ _=>True
 | _=>fun _ _=>True
section
variable{R:Nat→Prop}{base W0 X kB sB g o cap:Nat}{k:Int}{name:ByteArray}{T:List Qba}{M:Nat}{d:Bool}
theorem QKq.new{W w w':World}(h:QKq R base X kB sB g o cap k name T W w)(b:Below w.heap.size w w'):QKq R base X kB sB g o cap k name T W w':=by
 have kk:=Qaa.of_fresh b (fun _=>False)
 exact⟨h.1.keeps kk (fun e=>e),h.2.1.keeps kk (fun e=>e),h.2.2.1.keeps kk (fun e=>e),h.2.2.2.1.new b,h.2.2.2.2.1.trans (b.mono h.2.2.2.2.1.size),Nat.le_trans h.2.2.2.2.2 b.size⟩
theorem QKq.set{W w:World}{x:Value}(h:QKq R base X kB sB g o cap k name T W w)(hM:W.heap.size≤M)(hH:Holds w M #[x] 27)(v:Value)(hX:X<W.heap.size)(hR:∀q,R q→q<W.heap.size):QKq R base X kB sB g o cap k name T W (w.setCell ⟨M,0,none⟩ v):=by
 have kk:Qaa (· = M) w (w.setCell ⟨M,0,none⟩ v):=(Qaa.refl (· = M) w).setCell (p:=⟨M,0,none⟩) (Or.inr rfl) v
 exact⟨h.1.keeps kk (by omega),h.2.1.keeps kk (Q8a h.2.1 hH (by decide)),h.2.2.1.keeps kk (Q8a h.2.2.1 hH (by decide)),h.2.2.2.1.keeps kk (fun q hq e=>by have:=hR q hq;omega),h.2.2.2.2.1.setCell (p:=⟨M,0,none⟩) hM v,Nat.le_trans h.2.2.2.2.2 kk.size⟩
theorem Qcj.new{w w':World}{j:Nat}{u:Value}(h:Qcj base W0 X kB sB g o cap k name T M d j u w)(b:Below w.heap.size w w'):Qcj base W0 X kB sB g o cap k name T M d j u w':=by
 unfold Qcj at *
 have kk:=Qaa.of_fresh b (fun _=>False)
 split at h
 all_goals first
  | exact h
  | (obtain⟨N,e,hN⟩:=h;exact⟨N,e,Holds.keeps hN kk (fun e=>e)⟩)
  | exact fun e=>(h e).elim fun a' q=>q.elim fun c' r=>⟨a',c',r.1,Qpa.new r.2 b⟩
  | (obtain⟨a',c',e,hN⟩:=h;exact⟨a',c',e,Qda.new hN b⟩)
  | (obtain⟨a',e,hN⟩:=h;exact⟨a',e,Qda.new hN b⟩)
  | (obtain⟨e,h1,x,hN⟩:=h;exact⟨e,h1,x,hN.keeps kk (fun e=>e)⟩)
  | (obtain⟨a',e,hN⟩:=h;exact⟨a',Holds.keeps e kk (fun e=>e),Qda.new hN b⟩)
theorem Qcj.ghost{w:World}{j M':Nat}{u:Value}(h:Qcj base W0 X kB sB g o cap k name T M d j u w)(fS:j≠18)(oS:j≠19):Qcj base W0 X kB sB g o cap k name T M' d j u w:=by
 unfold Qcj at *
 split at h
 all_goals first
  | exact absurd rfl fS
  | exact absurd rfl oS
  | exact h
theorem Qcj.done{w:World}{j:Nat}{u:Value}(h:Qcj base W0 X kB sB g o cap k name T M d j u w):Qcj base W0 X kB sB g o cap k name T M true j u w:=by
 unfold Qcj at *
 split at h
 all_goals first
  | exact h
  | exact fun e=>by cases e
theorem Qcj.set{w:World}{j:Nat}{u x v:Value}(h:Qcj base W0 X kB sB g o cap k name T M true j u w)(hH:Holds w M #[x] 27)(oS:j≠19):Qcj base W0 X kB sB g o cap k name T M true j u (w.setCell ⟨M,0,none⟩ v):=by
 unfold Qcj at *
 split at h
 all_goals first
  | exact absurd rfl oS
  | exact fun e=>by cases e
  | exact h
  | (obtain⟨N,e,hN⟩:=h;exact⟨N,e,Holds.other hN _ _ (Q8a hN hH (by decide))⟩)
  | (obtain⟨a',c',e,hN⟩:=h;exact⟨a',c',e,Qda.set hN hH (by decide) (by decide) 0 v⟩)
  | (obtain⟨a',e,hN⟩:=h;exact⟨a',e,Qda.set hN hH (by decide) (by decide) 0 v⟩)
  | (obtain⟨e,h1,x,hN⟩:=h;exact⟨e,h1,v,hN.set 0 v⟩)
end
set_option maxRecDepth 100000 in
theorem Q0j{Q:Exit→Act→World→Prop}(R:Nat→Prop)(base X kB sB g o cap:Nat)(k:Int)(name:ByteArray)(T:List Qba)(W w:World)(A:Act)(hsz:A.tmps.size=60)(My:0<T.length)(lY:T.length≤900)(hcap:T.length≤cap)(hXW:X<W.heap.size)(hRW:∀q,R q→q<W.heap.size)
 (hSh:Q2c (T++[(⟨k,name,[]⟩:Qba)])) (hDi:Dis (T++[(⟨k,name,[]⟩:Qba)])) (gU:∀n∈T++[(⟨k,name,[]⟩:Qba)],n.props.length≤1000) (mi:QIc (⟨k,name,[]⟩:Qba))
 (a3:A.tmps.getD 3 undef = .pointer (some ⟨X,0,none⟩)) (a5:A.tmps.getD 5 undef = .pointer (some ⟨sB,0,none⟩)) (a8:A.tmps.getD 8 undef = .pointer (some ⟨kB,0,none⟩))
 (hS:QKq R base X kB sB g o cap k name T W w)
 (hQ:∀c w' M tv',Qrb (Qhf 12) A c→c.tmps.getD 10 undef = .pointer (some ⟨M,0,none⟩)→Holds w' M #[tv'] 27→W.heap.size≤M→Qda w' base tv' (Qoa (T++[(⟨k,name,[]⟩:Qba)]))→QKq R base X kB sB g o cap k name T W w'→Q .normal c w') :
 wpAny Tryz.prog .any (Qhf 12) Q (Qhf 12).size (Array.replicate (Qhf 12).size false) A w:=by
 refine QVa (fun l c wx=>∃M d,Qde (Qhf 12) A (Qcj base W.heap.size X kB sB g o cap k name T M d) (QKq R base X kB sB g o cap k name T W) l c wx∧(d=true→l.getD 19 false=true)) Qou ?hend ?Hk _ _ _ _ (by simp) (by simp) ⟨0,false,Qde.start hS,fun e=>by cases e⟩
 case hend=>
  rintro l c wx ⟨M,d,hI,hd⟩ hl
  obtain⟨tv',h1,h2⟩:=hI.2.2.2 19 (by rw[QZj];decide) (hl 19 (by rw[QZj];decide))
  obtain⟨h3,h4,_⟩:c.tmps.getD 10 undef = .pointer (some ⟨M,0,none⟩)∧W.heap.size≤M∧∃x,Holds wx M #[x] 27:=hI.fact 18 10 rfl (hl 18 (by rw[QZj];decide))
  exact hQ c wx M tv' hI.1 h3 h1 h4 h2 hI.2.1
 rintro l c wx ⟨M,d,hI,hd⟩ i' op ho hl Ha K' hK'
 have J9:i'<21:=by rw[←QZj];exact(Array.getElem?_eq_some_iff.1 ho).1
 simp only[Qhf,QXa,Tryz.f82,Option.getD_some,reduceIte,Nat.reduceEqDiff]at ho
 have hS:=hI.2.1
 have s3:=(hI.slot 3 (by kernel_rfl)).trans a3
 have s5:=(hI.slot 5 (by kernel_rfl)).trans a5
 have s8:=(hI.slot 8 (by kernel_rfl)).trans a8
 simp only[Array.getD_eq_getD_getElem?]at s3 s5 s8
 have GV:i'=0∨i'=1∨i'=2∨i'=3∨i'=4∨i'=5∨i'=6∨i'=7∨i'=8∨i'=9∨i'=10∨i'=11∨i'=12∨i'=13∨i'=14∨i'=15∨i'=16∨i'=17∨i'=18∨i'=19∨i'=20:=by omega
 rcases GV with rfl|rfl|rfl|rfl|rfl|rfl|rfl|rfl|rfl|rfl|rfl|rfl|rfl|rfl|rfl|rfl|rfl|rfl|rfl|rfl|rfl
 all_goals cases ho
 ·go_simp
  exact hK' _ _ ⟨M,d,hI.stepL Quc 0 42 rfl (by rw[hsz];decide) _ _ rfl Ha hS (fun _ _ _ h=>h) rfl,fun e=>QJa (hd e)⟩
 ·have e0:c.tmps.getD 42 undef = .pointer (some ⟨X,0,none⟩):=hI.fact 0 42 rfl (Qka Ha 0 (by kernel_rfl))
  have f0:=e0
  simp only[Array.getD_eq_getD_getElem?]at e0
  have hX:=hS.1.cell 0
  go_simp
  exact hK' _ _ ⟨M,d,hI.stepL Quc 1 43 rfl (by rw[hsz];decide) _ _ rfl Ha hS (fun _ _ _ h=>h) rfl,fun e=>QJa (hd e)⟩
 ·go_simp
  exact hK' _ _ ⟨M,d,hI.stepL Quc 2 44 rfl (by rw[hsz];decide) _ _ rfl Ha hS (fun _ _ _ h=>h) rfl,fun e=>QJa (hd e)⟩
 ·have e2:c.tmps.getD 44 undef = .pointer (some ⟨X,0,none⟩):=hI.fact 2 44 rfl (Qka Ha 2 (by kernel_rfl))
  have f2:=e2
  simp only[Array.getD_eq_getD_getElem?]at e2
  have hX:=hS.1.cell 0
  go_simp
  exact hK' _ _ ⟨M,d,hI.stepL Quc 3 45 rfl (by rw[hsz];decide) _ _ rfl Ha hS (fun _ _ _ h=>h) rfl,fun e=>QJa (hd e)⟩
 ·have e3:c.tmps.getD 45 undef = .slice (some ⟨g,o,none⟩) T.length cap:=hI.fact 3 45 rfl (Qka Ha 3 (by kernel_rfl))
  have f3:=e3
  simp only[Array.getD_eq_getD_getElem?]at e3
  go_simp
  exact hK' _ _ ⟨M,d,hI.stepL Quc 4 46 rfl (by rw[hsz];decide) _ _ rfl Ha hS (fun _ _ _ h=>h) rfl,fun e=>QJa (hd e)⟩
 ·go_simp
  exact hK' _ _ ⟨M,d,hI.stepL Quc 5 47 rfl (by rw[hsz];decide) _ _ rfl Ha hS (fun _ _ _ h=>h) rfl,fun e=>QJa (hd e)⟩
 ·have e5:c.tmps.getD 47 undef = .pointer (some ⟨X,0,none⟩):=hI.fact 5 47 rfl (Qka Ha 5 (by kernel_rfl))
  have f5:=e5
  simp only[Array.getD_eq_getD_getElem?]at e5
  have hX:=hS.1.cell 0
  go_simp
  exact hK' _ _ ⟨M,d,hI.stepL Quc 6 48 rfl (by rw[hsz];decide) _ _ rfl Ha hS (fun _ _ _ h=>h) rfl,fun e=>QJa (hd e)⟩
 ·have e6:c.tmps.getD 48 undef = .slice (some ⟨g,o,none⟩) T.length cap:=hI.fact 6 48 rfl (Qka Ha 6 (by kernel_rfl))
  have f6:=e6
  simp only[Array.getD_eq_getD_getElem?]at e6
  go_simp
  exact hK' _ _ ⟨M,d,hI.stepL Quc 7 49 rfl (by rw[hsz];decide) _ _ rfl Ha hS (fun _ _ _ h=>h) rfl,fun e=>QJa (hd e)⟩
 ·have e1:c.tmps.getD 43 undef = .slice (some ⟨g,o,none⟩) T.length cap:=hI.fact 1 43 rfl (Qka Ha 1 (by kernel_rfl))
  have f1:=e1
  simp only[Array.getD_eq_getD_getElem?]at e1
  have e4:c.tmps.getD 46 undef = .int .i64 T.length:=hI.fact 4 46 rfl (Qka Ha 4 (by kernel_rfl))
  have f4:=e4
  simp only[Array.getD_eq_getD_getElem?]at e4
  have e7:c.tmps.getD 49 undef = .int .i64 T.length:=hI.fact 7 49 rfl (Qka Ha 7 (by kernel_rfl))
  have f7:=e7
  simp only[Array.getD_eq_getD_getElem?]at e7
  go_simp
  exact hK' _ _ ⟨M,d,hI.stepL Quc 8 50 rfl (by rw[hsz];decide) _ _ rfl Ha hS (fun _ _ _ h=>h) rfl,fun e=>QJa (hd e)⟩
 ·have hX:=hS.2.1.cell 0
  go_simp
  exact hK' _ _ ⟨M,d,hI.stepL Quc 9 51 rfl (by rw[hsz];decide) _ _ rfl Ha hS (fun _ _ _ h=>h) rfl,fun e=>QJa (hd e)⟩
 ·have hX:=hS.2.2.1.cell 0
  go_simp
  exact hK' _ _ ⟨M,d,hI.stepL Quc 10 52 rfl (by rw[hsz];decide) _ _ rfl Ha hS (fun _ _ _ h=>h) rfl,fun e=>QJa (hd e)⟩
 ·have e9:c.tmps.getD 51 undef = .int .i64 k:=hI.fact 9 51 rfl (Qka Ha 9 (by kernel_rfl))
  have f9:=e9
  simp only[Array.getD_eq_getD_getElem?]at e9
  have e10:c.tmps.getD 52 undef = .string name:=hI.fact 10 52 rfl (Qka Ha 10 (by kernel_rfl))
  have f10:=e10
  simp only[Array.getD_eq_getD_getElem?]at e10
  go_simp
  exact hK' _ _ ⟨M,d,hI.stepL Quc 11 53 rfl (by rw[hsz];decide) _ _ rfl Ha hS (fun _ _ _ h=>h) rfl,fun e=>QJa (hd e)⟩
 ·have e11:c.tmps.getD 53 undef = .agg #[.int .i64 k,.string name,.slice none 0 0]:=hI.fact 11 53 rfl (Qka Ha 11 (by kernel_rfl))
  have f11:=e11
  simp only[Array.getD_eq_getD_getElem?]at e11
  go_simp
  have Hc:Below wx.heap.size wx (wx.alloc (.cells #[.int .i64 k,.string name,.slice none 0 0] 46)):=(Below.refl _ _).alloc (Nat.le_refl _) _
  exact hK' _ _ ⟨M,d,hI.stepL Quc 12 54 rfl (by rw[hsz];decide) _ _ rfl Ha (hS.new Hc) (fun j _ u h=>h.new Hc) ⟨_,rfl,Holds.new _ _ _⟩,fun e=>QJa (hd e)⟩
 ·have e8:c.tmps.getD 50 undef = .slice (some ⟨g,o,none⟩) T.length T.length:=hI.fact 8 50 rfl (Qka Ha 8 (by kernel_rfl))
  have f8:=e8
  simp only[Array.getD_eq_getD_getElem?]at e8
  obtain⟨N,e12,hN⟩:∃N,c.tmps.getD 54 undef = .slice (some ⟨N,0,none⟩) 1 1∧Holds wx N #[.int .i64 k,.string name,.slice none 0 0] 46:=hI.fact 12 54 rfl (Qka Ha 12 (by kernel_rfl))
  obtain⟨g0,o0,pvs,eO,jj,-,gU,pM,Dc,gN,-⟩:=hS.2.2.2.1.row My
  cases eO
  obtain⟨i0,hi,H4,Hp,gj⟩:=info_parts Qqk
  refine step_append_grows (by rfl) _ _ _ (by rfl) 46 i0 _ 3 48 Tryz.underlying25 hi H4 Hp gj rfl (by omega) (some ⟨g,o,none⟩) T.length T.length (QAa T pvs) (by exact f8) (fun h=>by cases h) (by rw[Qme T pvs gU]) (fun b hb=>by cases hb;exact gN) ⟨N,0,none⟩ 1 1 [.int .i64 k,.string name,.slice none 0 0] (by exact e12) (by rfl) (World.news_of_block (cs:=#[.int .i64 k,.string name,.slice none 0 0]) (t:=46) (fr:=(0,0)) hN) (by simp[Value.oneCell']) (by omega) (by unfold maxLen;omega) (by omega) ?_
  intro v' w8 kD Hd
  obtain⟨a',c',rfl⟩:=Qea kD
  have Hc:Below wx.heap.size wx w8:=(Below.refl _ _).grown Hd (by simp) (fun q hq=>by cases hq)
  have CM:Qpa (fun _=>True) w8 (.slice a' (T.length+1) c') (T++[(⟨k,name,[]⟩:Qba)]):=by
   have h1:w8.ownsRow wx.heap.size 46 3 (.slice a' (T.length+1) c') (T++[(⟨k,name,[]⟩:Qba)]).length (QAa (T++[(⟨k,name,[]⟩:Qba)]) (pvs++[.slice none 0 0])):=by
    rw[Qkc T pvs _ _ gU,List.length_append,List.length_singleton];exact kD
   refine QFk h1 (by simp[gU]) (fun j hj Gu=>?_) (fun n hn=>?_) (fun _ _=>trivial)
   ·by_cases e:j<T.length
    ·have:=((pM j e (by omega)).new Hc).mono' (R':=fun _=>True) (fun _ _=>trivial)
     simpa[List.getElem_append_left,e,gU]using this
    ·have e2:j=T.length:=by simp at hj;omega
     subst e2
     have:QGa (fun _=>True) w8 (.slice none 0 0) []:=⟨none,0,rfl,Nat.le_refl _,by omega,fun h=>absurd h (Nat.not_lt_zero _)⟩
     simpa[List.getElem_append_right,gU]using this
   ·rcases List.mem_append.1 hn with hn|hn
    ·exact Dc n hn
    ·simp at hn;subst hn;exact mi
  exact hK' _ _ ⟨M,d,hI.stepL Quc 13 55 rfl (by rw[hsz];decide) _ _ rfl Ha (hS.new Hc) (fun j _ u h=>h.new Hc) (fun _=>⟨a',c',rfl,CM⟩),fun e=>QJa (hd e)⟩
 ·have u19:=hI.2.2.1.2.unlisted (hI.2.2.1.2.unlisted (hI.2.2.1.2.unlisted hl (j:=15) (by kernel_rfl)) (j:=16) (by kernel_rfl)) (j:=19) (by kernel_rfl)
  have xX:d=false:=by cases d with
   | false=>rfl
   | true=>have:=hd rfl;rw[u19]at this;cases this
  obtain⟨a',c',e13,hN⟩:∃a' c',c.tmps.getD 55 undef = .slice a' (T.length+1) c'∧Qpa (fun _=>True) wx (.slice a' (T.length+1) c') (T++[(⟨k,name,[]⟩:Qba)]):=hI.fact 13 55 rfl (Qka Ha 13 (by kernel_rfl)) xX
  simp only[Array.getD_eq_getD_getElem?]at e13
  go_simp
  refine(Qhl (fun _=>True) _ (T++[(⟨k,name,[]⟩:Qba)]) wx hN hSh hDi (by simp;omega) gU).mono ?_
  rintro e w2 ⟨tv',gP,l',rfl,gd,-,-,-,-,Hc⟩
  rw[List.length_append,List.length_singleton]
  go_simp
  exact hK' _ _ ⟨M,d,hI.stepL Quc 14 56 rfl (by rw[hsz];decide) _ _ rfl Ha (hS.new Hc) (fun j _ u h=>h.new Hc) ⟨tv',gP,rfl,gd.base hS.2.2.2.2.2⟩,fun e=>QJa (hd e)⟩
 ·obtain⟨tv',gP,e14,hr⟩:∃tv' gP,c.tmps.getD 56 undef = .tuple #[.agg #[tv'],.slice (some ⟨gP,0,none⟩) (T.length+1) (T.length+1)]∧Qda wx base tv' (Qoa (T++[(⟨k,name,[]⟩:Qba)])):=hI.fact 14 56 rfl (Qka Ha 14 (by kernel_rfl))
  simp only[Array.getD_eq_getD_getElem?]at e14
  go_simp
  exact hK' _ _ ⟨M,d,hI.stepL Quc 15 41 rfl (by rw[hsz];decide) _ _ rfl Ha hS (fun _ _ _ h=>h) ⟨tv',gP,rfl,hr⟩,fun e=>QJa (hd e)⟩
 ·obtain⟨tv',gP,e14,hr⟩:∃tv' gP,c.tmps.getD 41 undef = .tuple #[.agg #[tv'],.slice (some ⟨gP,0,none⟩) (T.length+1) (T.length+1)]∧Qda wx base tv' (Qoa (T++[(⟨k,name,[]⟩:Qba)])):=hI.fact 15 41 rfl (Qka Ha 15 (by kernel_rfl))
  simp only[Array.getD_eq_getD_getElem?]at e14
  go_simp
  exact hK' _ _ ⟨M,d,hI.stepL Quc 16 57 rfl (by rw[hsz];decide) _ _ rfl Ha hS (fun _ _ _ h=>h) ⟨tv',rfl,hr⟩,fun e=>QJa (hd e)⟩
 ·obtain⟨tv',gP,e14,hr⟩:∃tv' gP,c.tmps.getD 41 undef = .tuple #[.agg #[tv'],.slice (some ⟨gP,0,none⟩) (T.length+1) (T.length+1)]∧Qda wx base tv' (Qoa (T++[(⟨k,name,[]⟩:Qba)])):=hI.fact 15 41 rfl (Qka Ha 15 (by kernel_rfl))
  simp only[Array.getD_eq_getD_getElem?]at e14
  go_simp
  exact hK' _ _ ⟨M,d,hI.stepL Quc 17 58 rfl (by rw[hsz];decide) _ _ rfl Ha hS (fun _ _ _ h=>h) trivial,fun e=>QJa (hd e)⟩
 ·have u19:=hI.2.2.1.2.unlisted hl (j:=19) (by kernel_rfl)
  go_simp
  have Hc:Below wx.heap.size wx (wx.alloc (.cells #[.slice none 0 0] 27)):=(Below.refl _ _).alloc (Nat.le_refl _) _
  have hJ:=hI.other (F':=Qcj base W.heap.size X kB sB g o cap k name T wx.heap.size d) (fun j hj u h=>h.ghost (Qbb hj hl) (Qbb hj u19))
  exact hK' _ _ ⟨wx.heap.size,d,hJ.stepL Quc 18 10 rfl (by rw[hsz];decide) _ _ rfl Ha (hS.new Hc) (fun j _ u h=>h.new Hc) ⟨rfl,hS.2.2.2.2.1.size,_,Holds.new _ _ _⟩,fun e=>QJa (hd e)⟩
 ·obtain⟨e18,hM,x,oY⟩:c.tmps.getD 10 undef = .pointer (some ⟨M,0,none⟩)∧W.heap.size≤M∧∃x,Holds wx M #[x] 27:=hI.fact 18 10 rfl (Qka Ha 18 (by kernel_rfl))
  obtain⟨tv',e16,hr⟩:∃tv',c.tmps.getD 57 undef = .agg #[tv']∧Qda wx base tv' (Qoa (T++[(⟨k,name,[]⟩:Qba)])):=hI.fact 16 57 rfl (Qka Ha 16 (by kernel_rfl))
  simp only[Array.getD_eq_getD_getElem?]at e18 e16
  obtain⟨va,vc,rfl⟩:=QNc hr
  have n0:=oY.cell 0
  have n1:=oY.free 0
  go_simp
  have hJ:=hI.other (F':=Qcj base W.heap.size X kB sB g o cap k name T M true) (fun j hj u h=>h.done)
  exact hK' _ _ ⟨M,true,hJ.stepNL 19 rfl _ rfl Ha (hS.set hM oY _ hXW hRW) (fun j hj u h=>h.set oY (Qbb hj hl)) ⟨_,oY.set 0 _,hr.set oY (by decide) (by decide) 0 _⟩,fun _=>QOn (by rw[hI.2.2.1.1,QZj];decide)⟩
 ·go_simp
  exact hK' _ _ ⟨M,d,hI.stepL Quc 20 11 rfl (by rw[hsz];decide) _ _ rfl Ha hS (fun _ _ _ h=>h) trivial,fun e=>QJa (hd e)⟩
set_option maxRecDepth 100000 in
theorem QXr(R:Nat→Prop)(v:Value)(T:List Qba)(s name:ByteArray)(w:World)(hT:Qpa R w v T)(KQ:name.size≤9223372036854775807) :
 Calls Tryz.prog 82 #[.agg #[v],.string s,.string name] w (Qyd (Q3c T s name) w):=by
 obtain⟨a,cap,rfl,gM,gB⟩:=hT.shape
 have HT:=hid hT.bound;clear hT
 have G0:=fun wx hx=>QMg (fun g=>g<w.heap.size) (.slice a T.length cap) T s wx hx
 have He:Below w.heap.size w (((w.alloc (.cells #[.slice a T.length cap] 27)).alloc (.cells #[.string name] 9)).alloc (.cells #[.slice none 0 0] 27)):=(((Below.refl _ _).alloc (Nat.le_refl _) _).alloc (by simp) _).alloc (by simp;omega) _
 have kJ:=((Holds.new w #[.slice a T.length cap] 27).alloc (.cells #[.string name] 9)).alloc (.cells #[.slice none 0 0] 27)
 have Jr:=(Holds.newAt (w:=w.alloc (.cells #[.slice a T.length cap] 27)) (B:=w.heap.size+1) (by simp) #[.string name] 9).alloc (.cells #[.slice none 0 0] 27)
 have GH:=Holds.newAt (w:=(w.alloc (.cells #[.slice a T.length cap] 27)).alloc (.cells #[.string name] 9)) (B:=w.heap.size+1+1) (by simp) #[.slice none 0 0] 27
 rcases Qsb T s with⟨Hm,Gk⟩|⟨gy,k,hk,Gs,kR⟩
 ·have hE:=hid (show Q3c T s name=([],(QBa T s).2)from by unfold Q3c;rw[if_pos Hm])
  have eX:((QBa T s).2 != 0)=true:=by simpa using Hm
  rw[Gk]at G0
  have Kx:=hid G0
  clear G0 Hm Gk
  generalize (QBa T s).2=c at *
  go_enter Tryz.func82,Tryz.ntmps82
  go_wp2_with fail
  refine(Kx.out _ (by exact HT.out.new He)).mono ?_
  rintro e w1 ⟨rfl,Hb⟩
  have H5:=kJ.keeps (Qaa.of_fresh Hb (fun _=>False)) (fun e=>e)
  have KA:=Jr.keeps (Qaa.of_fresh Hb (fun _=>False)) (fun e=>e)
  have Hs:=GH.keeps (Qaa.of_fresh Hb (fun _=>False)) (fun e=>e)
  have Hc:=He.trans (Hb.mono (by simp;omega))
  have GB:=Hc.size
  have Hw:=Hs.alloc (.cells #[.int .i64 0] 3)
  have Hi:=Hc.alloc GB (.cells #[.int .i64 0] 3)
  have z0:=Hw.cell 0
  have zf:=Hw.free 0
  have zl:=Hw.lt
  go_wp2_with fail
  have q0:((w1.alloc (.cells #[.int .i64 0] 3)).setCell ⟨w.heap.size+1+1,0,none⟩ (.slice none 0 0)).cell? ⟨w.heap.size+1+1,0,none⟩=some (.slice none 0 0):=(Hw.set 0 _).cell 0
  exact bodyPost_ret (v:=.tuple #[.agg #[.slice none 0 0],.int .i64 c]) (by simp[results,Tryz.results82,go_sem,q0]) rfl ⟨_,by rw[hE.out],by rw[hE.out];exact Qda.nil _ _,Hi.setCell (p:=⟨w.heap.size+1+1,0,none⟩) (by simp;omega) _⟩
 ·rw[Gs]at G0
  have Kx:=hid G0
  have hE:=hid (show Q3c T s name=if Q0a name.data.toList=false then([],1)else if T.any (QNa (k:Int) name)=true then([],5)else if 8≤Q6b T T.length (k:Int)then([],2)else if 120≤T.length then([],3)else(Qoa (T++[⟨k,name,[]⟩]),0)from by
   unfold Q3c;rw[Gs,if_neg (by simp)])
  have jl:=Qeb (QPa gy)
  have Hv:=Q0b gy
  have fL:=hid (Qrc gy)
  obtain⟨GO,Ge⟩:=jl
  have ag:=hid (fun wx hx=>Q8i (fun g=>g<w.heap.size) (.slice a T.length cap) T k wx hx Hv (by omega) (by omega) (by omega))
  have jb:=hid (Qua Hv)
  have qB:=hid (Qqb Hv GO)
  have vL:=hid (QAc gy)
  have hdc:=QMi gy k hk
  have G8:=fun wx=>Qac name wx (by unfold maxLen;omega)
  clear G0 Gs gy Hv
  cases k9:Q0a name.data.toList with
  | false=>
   have hF:=hid (show Q3c T s name=([],1)from by rw[hE.out,if_pos k9])
   rw[k9]at G8
   have Mh:=hid G8
   clear G8 k9 hE
   go_enter Tryz.func82,Tryz.ntmps82
   go_wp2_with fail
   refine(Kx.out _ (by exact HT.out.new He)).mono ?_
   rintro e w1 ⟨rfl,Hb⟩
   have H5:=kJ.keeps (Qaa.of_fresh Hb (fun _=>False)) (fun e=>e)
   have KA:=Jr.keeps (Qaa.of_fresh Hb (fun _=>False)) (fun e=>e)
   have Hs:=GH.keeps (Qaa.of_fresh Hb (fun _=>False)) (fun e=>e)
   have Hc:=He.trans (Hb.mono (by simp;omega))
   have GB:=Hc.size
   have Hi:=Hc.alloc GB (.cells #[.int .i64 (k:Int)] 3)
   have GK:=H5.alloc (.cells #[.int .i64 (k:Int)] 3)
   have gh:=KA.alloc (.cells #[.int .i64 (k:Int)] 3)
   have Hw:=Hs.alloc (.cells #[.int .i64 (k:Int)] 3)
   have gf:=Holds.new w1 #[.int .i64 (k:Int)] 3
   have s0:=KA.cell 0
   have sl:=KA.lt
   have x0:=H5.cell 0
   have xl:=H5.lt
   go_wp2_with fail
   refine(Mh.out _).mono ?_
   rintro e w2 ⟨rfl,rfl⟩
   have z0:=Hw.cell 0
   have zf:=Hw.free 0
   have zl:=Hw.lt
   go_wp2_with fail
   have q0:((w1.alloc (.cells #[.int .i64 (k:Int)] 3)).setCell ⟨w.heap.size+1+1,0,none⟩ (.slice none 0 0)).cell? ⟨w.heap.size+1+1,0,none⟩=some (.slice none 0 0):=(Hw.set 0 _).cell 0
   exact bodyPost_ret (v:=.tuple #[.agg #[.slice none 0 0],.int .i64 1]) (by simp[results,Tryz.results82,go_sem,q0]) rfl ⟨_,by rw[hF.out],by rw[hF.out];exact Qda.nil _ _,Hi.setCell (p:=⟨w.heap.size+1+1,0,none⟩) (by simp;omega) _⟩
  | true=>
   rw[k9]at G8
   have Mh:=hid G8
   have eH:=hid (fun kb wx hx h1 h2=>Qeg (fun g=>g<w.heap.size) (.slice a T.length cap) T k name kb (w.heap.size+1) wx hx (by omega) h1 h2)
   clear G8
   cases Gh:T.any (QNa (k:Int) name)with
   | true=>
    have hF:=hid (show Q3c T s name=([],5)from by rw[hE.out,if_neg (by rw[k9];simp),if_pos Gh])
    have JM:=hid (fun kb wx hx h1 h2=>Gh ▸ eH.out kb wx hx h1 h2)
    clear k9 Gh hE eH
    go_enter Tryz.func82,Tryz.ntmps82
    go_wp2_with fail
    refine(Kx.out _ (by exact HT.out.new He)).mono ?_
    rintro e w1 ⟨rfl,Hb⟩
    have H5:=kJ.keeps (Qaa.of_fresh Hb (fun _=>False)) (fun e=>e)
    have KA:=Jr.keeps (Qaa.of_fresh Hb (fun _=>False)) (fun e=>e)
    have Hs:=GH.keeps (Qaa.of_fresh Hb (fun _=>False)) (fun e=>e)
    have Hc:=He.trans (Hb.mono (by simp;omega))
    have GB:=Hc.size
    have Hi:=Hc.alloc GB (.cells #[.int .i64 (k:Int)] 3)
    have GK:=H5.alloc (.cells #[.int .i64 (k:Int)] 3)
    have gh:=KA.alloc (.cells #[.int .i64 (k:Int)] 3)
    have Hw:=Hs.alloc (.cells #[.int .i64 (k:Int)] 3)
    have gf:=Holds.new w1 #[.int .i64 (k:Int)] 3
    have s0:=KA.cell 0
    have sl:=KA.lt
    have x0:=H5.cell 0
    have xl:=H5.lt
    go_wp2_with fail
    refine(Mh.out _).mono ?_
    rintro e w2 ⟨rfl,rfl⟩
    go_wp2_with fail
    refine(JM.out w1.heap.size _ (by exact HT.out.new Hi) gf gh).mono ?_
    rintro e w3 ⟨rfl,Hu⟩
    have kk:=Qaa.of_fresh Hu (fun _=>False)
    have ki:=GK.keeps kk (fun e=>e)
    have MT:=gh.keeps kk (fun e=>e)
    have Hz:=Hw.keeps kk (fun e=>e)
    have gu:=gf.keeps kk (fun e=>e)
    have H9:=Hi.trans (Hu.mono (by simp;omega))
    have iS:=H9.size
    clear kk Hu GK gh Hw gf H5 KA Hs x0 xl s0 sl
    have z0:=Hz.cell 0
    have zf:=Hz.free 0
    have zl:=Hz.lt
    go_wp2_with fail
    have q0:(w3.setCell ⟨w.heap.size+1+1,0,none⟩ (.slice none 0 0)).cell? ⟨w.heap.size+1+1,0,none⟩=some (.slice none 0 0):=(Hz.set 0 _).cell 0
    exact bodyPost_ret (v:=.tuple #[.agg #[.slice none 0 0],.int .i64 5]) (by simp[results,Tryz.results82,go_sem,q0]) rfl ⟨_,by rw[hF.out],by rw[hF.out];exact Qda.nil _ _,H9.setCell (p:=⟨w.heap.size+1+1,0,none⟩) (by simp;omega) _⟩
   | false=>
    have JM:=hid (fun kb wx hx h1 h2=>Gh ▸ eH.out kb wx hx h1 h2)
    have aM:=hid Gh
    by_cases h8:Q6b T T.length (k:Int)=8
    ·have hF:=hid (show Q3c T s name=([],2)from by rw[hE.out,if_neg (by rw[k9];simp),if_neg (by rw[Gh];simp),if_pos (by omega)])
     have h8':(((Q6b T T.length (k:Int):Nat):Int) == 8)=true:=by rw[h8];rfl
     clear k9 Gh hE eH h8
     go_enter Tryz.func82,Tryz.ntmps82
     go_wp2_with fail
     refine(Kx.out _ (by exact HT.out.new He)).mono ?_
     rintro e w1 ⟨rfl,Hb⟩
     have H5:=kJ.keeps (Qaa.of_fresh Hb (fun _=>False)) (fun e=>e)
     have KA:=Jr.keeps (Qaa.of_fresh Hb (fun _=>False)) (fun e=>e)
     have Hs:=GH.keeps (Qaa.of_fresh Hb (fun _=>False)) (fun e=>e)
     have Hc:=He.trans (Hb.mono (by simp;omega))
     have GB:=Hc.size
     have Hi:=Hc.alloc GB (.cells #[.int .i64 (k:Int)] 3)
     have GK:=H5.alloc (.cells #[.int .i64 (k:Int)] 3)
     have gh:=KA.alloc (.cells #[.int .i64 (k:Int)] 3)
     have Hw:=Hs.alloc (.cells #[.int .i64 (k:Int)] 3)
     have gf:=Holds.new w1 #[.int .i64 (k:Int)] 3
     have s0:=KA.cell 0
     have sl:=KA.lt
     have x0:=H5.cell 0
     have xl:=H5.lt
     go_wp2_with fail
     refine(Mh.out _).mono ?_
     rintro e w2 ⟨rfl,rfl⟩
     go_wp2_with fail
     refine(JM.out w1.heap.size _ (by exact HT.out.new Hi) gf gh).mono ?_
     rintro e w3 ⟨rfl,Hu⟩
     have kk:=Qaa.of_fresh Hu (fun _=>False)
     have ki:=GK.keeps kk (fun e=>e)
     have MT:=gh.keeps kk (fun e=>e)
     have Hz:=Hw.keeps kk (fun e=>e)
     have gu:=gf.keeps kk (fun e=>e)
     have H9:=Hi.trans (Hu.mono (by simp;omega))
     have iS:=H9.size
     clear kk Hu GK gh Hw gf H5 KA Hs x0 xl s0 sl
     have x0:=ki.cell 0
     have k0:=gu.cell 0
     go_wp2_with fail
     refine(ag.out _ (by exact HT.out.new H9)).mono ?_
     rintro e w4 ⟨rfl,gG⟩
     have kk:=Qaa.of_fresh gG (fun _=>False)
     have bD:=ki.keeps kk (fun e=>e)
     have xu:=MT.keeps kk (fun e=>e)
     have gY:=Hz.keeps kk (fun e=>e)
     have kW:=gu.keeps kk (fun e=>e)
     have gZ:=H9.trans (gG.mono iS)
     have MH:=gZ.size
     clear kk gG ki MT Hz gu x0 k0
     have z0:=gY.cell 0
     have zf:=gY.free 0
     have zl:=gY.lt
     go_wp2_with fail
     have q0:(w4.setCell ⟨w.heap.size+1+1,0,none⟩ (.slice none 0 0)).cell? ⟨w.heap.size+1+1,0,none⟩=some (.slice none 0 0):=(gY.set 0 _).cell 0
     exact bodyPost_ret (v:=.tuple #[.agg #[.slice none 0 0],.int .i64 2]) (by simp[results,Tryz.results82,go_sem,q0]) rfl ⟨_,by rw[hF.out],by rw[hF.out];exact Qda.nil _ _,gZ.setCell (p:=⟨w.heap.size+1+1,0,none⟩) (by simp;omega) _⟩
    ·have h8':(((Q6b T T.length (k:Int):Nat):Int) == 8)=false:=by rw[beq_eq_false_iff_ne];omega
     by_cases h120:T.length=120
     ·have hF:=hid (show Q3c T s name=([],3)from by rw[hE.out,if_neg (by rw[k9];simp),if_neg (by rw[Gh];simp),if_neg (by omega),if_pos (by omega)])
      have Jm:((T.length:Int) == 120)=true:=by rw[h120];rfl
      clear k9 Gh hE eH h8 h120
      go_enter Tryz.func82,Tryz.ntmps82
      go_wp2_with fail
      refine(Kx.out _ (by exact HT.out.new He)).mono ?_
      rintro e w1 ⟨rfl,Hb⟩
      have H5:=kJ.keeps (Qaa.of_fresh Hb (fun _=>False)) (fun e=>e)
      have KA:=Jr.keeps (Qaa.of_fresh Hb (fun _=>False)) (fun e=>e)
      have Hs:=GH.keeps (Qaa.of_fresh Hb (fun _=>False)) (fun e=>e)
      have Hc:=He.trans (Hb.mono (by simp;omega))
      have GB:=Hc.size
      have Hi:=Hc.alloc GB (.cells #[.int .i64 (k:Int)] 3)
      have GK:=H5.alloc (.cells #[.int .i64 (k:Int)] 3)
      have gh:=KA.alloc (.cells #[.int .i64 (k:Int)] 3)
      have Hw:=Hs.alloc (.cells #[.int .i64 (k:Int)] 3)
      have gf:=Holds.new w1 #[.int .i64 (k:Int)] 3
      have s0:=KA.cell 0
      have sl:=KA.lt
      have x0:=H5.cell 0
      have xl:=H5.lt
      go_wp2_with fail
      refine(Mh.out _).mono ?_
      rintro e w2 ⟨rfl,rfl⟩
      go_wp2_with fail
      refine(JM.out w1.heap.size _ (by exact HT.out.new Hi) gf gh).mono ?_
      rintro e w3 ⟨rfl,Hu⟩
      have kk:=Qaa.of_fresh Hu (fun _=>False)
      have ki:=GK.keeps kk (fun e=>e)
      have MT:=gh.keeps kk (fun e=>e)
      have Hz:=Hw.keeps kk (fun e=>e)
      have gu:=gf.keeps kk (fun e=>e)
      have H9:=Hi.trans (Hu.mono (by simp;omega))
      have iS:=H9.size
      clear kk Hu GK gh Hw gf H5 KA Hs x0 xl s0 sl
      have x0:=ki.cell 0
      have k0:=gu.cell 0
      go_wp2_with fail
      refine(ag.out _ (by exact HT.out.new H9)).mono ?_
      rintro e w4 ⟨rfl,gG⟩
      have kk:=Qaa.of_fresh gG (fun _=>False)
      have bD:=ki.keeps kk (fun e=>e)
      have xu:=MT.keeps kk (fun e=>e)
      have gY:=Hz.keeps kk (fun e=>e)
      have kW:=gu.keeps kk (fun e=>e)
      have gZ:=H9.trans (gG.mono iS)
      have MH:=gZ.size
      clear kk gG ki MT Hz gu x0 k0
      have x0:=bD.cell 0
      have z0:=gY.cell 0
      have zf:=gY.free 0
      have zl:=gY.lt
      go_wp2_with fail
      have q0:(w4.setCell ⟨w.heap.size+1+1,0,none⟩ (.slice none 0 0)).cell? ⟨w.heap.size+1+1,0,none⟩=some (.slice none 0 0):=(gY.set 0 _).cell 0
      exact bodyPost_ret (v:=.tuple #[.agg #[.slice none 0 0],.int .i64 3]) (by simp[results,Tryz.results82,go_sem,q0]) rfl ⟨_,by rw[hF.out],by rw[hF.out];exact Qda.nil _ _,gZ.setCell (p:=⟨w.heap.size+1+1,0,none⟩) (by simp;omega) _⟩
     ·have hF:=hid (show Q3c T s name=(Qoa (T++[⟨k,name,[]⟩]),0)from by rw[hE.out,if_neg (by rw[k9];simp),if_neg (by rw[Gh];simp),if_neg (by omega),if_neg (by omega)])
      have Jm:((T.length:Int) == 120)=false:=by rw[beq_eq_false_iff_ne];omega
      clear k9 Gh hE eH h8 h120
      go_enter Tryz.func82,Tryz.ntmps82
      go_wp2_with fail
      refine(Kx.out _ (by exact HT.out.new He)).mono ?_
      rintro e w1 ⟨rfl,Hb⟩
      have H5:=kJ.keeps (Qaa.of_fresh Hb (fun _=>False)) (fun e=>e)
      have KA:=Jr.keeps (Qaa.of_fresh Hb (fun _=>False)) (fun e=>e)
      have Hs:=GH.keeps (Qaa.of_fresh Hb (fun _=>False)) (fun e=>e)
      have Hc:=He.trans (Hb.mono (by simp;omega))
      have GB:=Hc.size
      have Hi:=Hc.alloc GB (.cells #[.int .i64 (k:Int)] 3)
      have GK:=H5.alloc (.cells #[.int .i64 (k:Int)] 3)
      have gh:=KA.alloc (.cells #[.int .i64 (k:Int)] 3)
      have Hw:=Hs.alloc (.cells #[.int .i64 (k:Int)] 3)
      have gf:=Holds.new w1 #[.int .i64 (k:Int)] 3
      have s0:=KA.cell 0
      have sl:=KA.lt
      have x0:=H5.cell 0
      have xl:=H5.lt
      go_wp2_with fail
      refine(Mh.out _).mono ?_
      rintro e w2 ⟨rfl,rfl⟩
      go_wp2_with fail
      refine(JM.out w1.heap.size _ (by exact HT.out.new Hi) gf gh).mono ?_
      rintro e w3 ⟨rfl,Hu⟩
      have kk:=Qaa.of_fresh Hu (fun _=>False)
      have ki:=GK.keeps kk (fun e=>e)
      have MT:=gh.keeps kk (fun e=>e)
      have Hz:=Hw.keeps kk (fun e=>e)
      have gu:=gf.keeps kk (fun e=>e)
      have H9:=Hi.trans (Hu.mono (by simp;omega))
      have iS:=H9.size
      clear kk Hu GK gh Hw gf H5 KA Hs x0 xl s0 sl
      have x0:=ki.cell 0
      have k0:=gu.cell 0
      go_wp2_with fail
      refine(ag.out _ (by exact HT.out.new H9)).mono ?_
      rintro e w4 ⟨rfl,gG⟩
      have kk:=Qaa.of_fresh gG (fun _=>False)
      have bD:=ki.keeps kk (fun e=>e)
      have xu:=MT.keeps kk (fun e=>e)
      have gY:=Hz.keeps kk (fun e=>e)
      have kW:=gu.keeps kk (fun e=>e)
      have gZ:=H9.trans (gG.mono iS)
      have MH:=gZ.size
      clear kk gG ki MT Hz gu x0 k0
      have x0:=bD.cell 0
      obtain⟨g,o,rfl⟩:∃g o,a=some ⟨g,o,none⟩:=by
       obtain⟨g,o,_,_,e,_⟩:=HT.out.at 0 GO
       exact⟨g,o,e⟩
      have M2:=Qae (n:=⟨(k:Int),name,[]⟩) (⟨GO,jb.out,qB.out⟩:Q2c T) rfl hk
      have pz:=QHm vL.out hk aM.out
      have gU:∀n∈T++[(⟨(k:Int),name,[]⟩:Qba)],n.props.length≤1000:=by
       intro n hn
       rcases List.mem_append.1 hn with hn|hn
       ·have:=fL.out n hn;omega
       ·simp at hn;subst hn;simp
      have Cs:=hid M2;have BW:=hid pz;have Co:=hid gU
      clear M2 pz gU
      go_wp2_with fail
      refine wp_region_any (by kernel_rfl) ?_
      refine Q5a (ops':=Qhf 12) (by kernel_rfl) ?_
      refine Q0j (fun q=>q<w.heap.size) w.heap.size w.heap.size w1.heap.size (w.heap.size+1) g o cap k name T w4.drew _ _ rfl GO (by omega) gM (by exact bD.lt) (fun q hq=>by show q<w4.heap.size;omega) Cs.out BW.out Co.out ⟨KQ,by show _≤(k:Int);omega,by show(k:Int)≤_;omega⟩ rfl rfl rfl ⟨bD,kW,xu,(HT.out.new gZ).new (Below.refl _ _).drew,Below.refl _ _,MH⟩ ?_
      intro c w5 M tv Ga Gk hM hWM MU xw
      obtain⟨x41,x42,x43,x44,x45,x46,x47,x48,x49,x50,x51,x52,x53,x54,x55,x56,x57,x58,x11,hc⟩:=Ga.exAt [41,42,43,44,45,46,47,48,49,50,51,52,53,54,55,56,57,58,11] 10 (by kernel_rfl)
      rw[Gk]at hc
      subst hc
      simp only[List.setIfInBounds_toArray,List.set_cons_zero,List.set_cons_succ]
      obtain⟨va,vc,rfl⟩:=QNc MU
      have kK:=gZ.trans (((Below.refl w4.heap.size w4).drew.trans (xw.2.2.2.2.1)).mono MH)
      have gK:=(gY.drew).keeps (Qaa.of_fresh xw.2.2.2.2.1 (fun _=>False)) (fun e=>e)
      have m0:=hM.cell 0
      have z0:=gK.cell 0
      have zf:=gK.free 0
      have zl:=gK.lt
      have q0:=(gK.set 0 (.slice va (Qoa (T++[(⟨(k:Int),name,[]⟩:Qba)])).length vc)).cell 0
      have gX:=hid (And.intro (MU.set gK (by decide) (by decide) 0 (.slice va (Qoa (T++[(⟨(k:Int),name,[]⟩:Qba)])).length vc)) (kK.setCell (p:=⟨w.heap.size+1+1,0,none⟩) (by simp;omega) (.slice va (Qoa (T++[(⟨(k:Int),name,[]⟩:Qba)])).length vc)))
      clear Ga Gk MU xw kK
      generalize Qoa (T++[(⟨(k:Int),name,[]⟩:Qba)])=TT at *
      go_wp2_with fail
      exact bodyPost_ret (v:=.tuple #[.agg #[.slice va TT.length vc],.int .i64 0]) (by simp[results,Tryz.results82,go_sem,q0]) rfl ⟨_,by rw[hF.out],by rw[hF.out];exact gX.out.1,gX.out.2⟩
end Go.Proofs.YtgaboghigefgbaaGreatDoor
