/- Contracts of package walk: one node more (region 2 of the visit; printed by gvis.py). | Contracts of package walk: siblings as numbers; the order of a walk, in plain Lean. | Contracts of package walk: the visit of a node and of what is below it. | Contracts of package walk: the visit. | Contracts of package walk: a child more in the row of its parent (region 6 of Tree; printed by gkid.py). -/
import Derived.Test.YtgaboghigefgbaaGreatDoorZ34
import Derived.Test.YtgaboghigefgbaaGreatDoorZ20
import Derived.Test.YtgaboghigefgbaaGreatDoorZ35
import Derived.Test.YtgaboghigefgbaaGreatDoorZ2
import Derived.Test.YtgaboghigefgbaaGreatDoorZ13
import Derived.Deep.LoopGhost
set_option linter.all false
set_option maxHeartbeats 8000000
namespace Go.Proofs.YtgaboghigefgbaaGreatDoor
open Go.Lib (hid)
open Go.RowKit
noncomputable def Qyf(n:Nat):Array Oper:=(QXa (Tryz.f75.body.getD .skip) n).getD #[]
theorem QQu:Qjc .any (Qyf 2)=true:=by kernel_rfl
theorem QEe:Qbc (Qyf 2)=true:=by kernel_rfl
theorem QGq:(Qyf 2).size=19:=by kernel_rfl
theorem Qli{w:World}{base:Nat}{v:Value}{T:List Qba}(h:Qda w base v T){g:Nat}(e:v.ownBlock=some g):g<w.heap.size:=by
 obtain⟨_,_,g2,_⟩:=h
 exact(g2.lt g e).2
def QBf(base _ tB lB g o n cap i:Nat)(_:Int)(nm:ByteArray)(ps:List Qla)(pa:Option Addr)(pc:Nat)(tv:Value)(_:List Qba)(W w:World):Prop:=
 Holds w lB #[.slice (some ⟨g,o,none⟩) n cap] 25∧w.cell? ⟨g,o+i*3+1,none⟩=some (.string nm)∧w.cell? ⟨g,o+i*3+2,none⟩=some (.slice pa ps.length pc)∧QGa (fun q=>q<base) w (.slice pa ps.length pc) ps∧g<base∧Qaa (fun b=>b=tB∨tv.ownBlock=some b) W w∧base≤w.heap.size
def QSq(tB H base:Nat)(tv:Value)(T:List Qba)(l:Array Bool)(w:World):Prop:=
 (l.getD 16 false=false→QOb H w base tv T)∧(l.getD 18 false=false→Holds w tB #[tv] 27)
theorem QSq.keep{tB H base:Nat}{tv:Value}{T:List Qba}{l:Array Bool}{w w':World}(h:QSq tB H base tv T l w)(i:Nat)(h1:QOb H w base tv T→QOb H w' base tv T)(h2:Holds w tB #[tv] 27→Holds w' tB #[tv] 27):QSq tB H base tv T (l.setIfInBounds i true) w':=
 ⟨fun e=>h1 (h.1 (Qia e)),fun e=>h2 (h.2 (Qia e))⟩
def Qrg(base H tB _ g o n cap i:Nat)(par:Int)(nm:ByteArray)(ps:List Qla)(pa:Option Addr)(pc:Nat)(tv:Value)(T:List Qba)(j:Nat):Value→World→Prop:=match j with
 | 0=>fun u _=>u = .pointer (some ⟨tB,0,none⟩)
 | 1=>fun u _=>u=tv
 | 2=>fun u _=>u = .int .i64 par
 | 3=>fun u _=>u = .slice (some ⟨g,o,none⟩) n cap
 | 4=>fun u _=>u = .int .i64 i
 | 5=>fun u _=>u = .pointer (some ⟨g,o+i*3,none⟩)
 | 6=>fun u _=>u = .pointer (some ⟨g,o+i*3+1,none⟩)
 | 7=>fun u _=>u = .string nm
 | 8=>fun u _=>u = .slice (some ⟨g,o,none⟩) n cap
 | 9=>fun u _=>u = .int .i64 i
 | 10=>fun u _=>u = .pointer (some ⟨g,o+i*3,none⟩)
 | 11=>fun u _=>u = .pointer (some ⟨g,o+i*3+2,none⟩)
 | 12=>fun u _=>u = .slice pa ps.length pc
 | 13=>fun u w=>Qma w H u ps
 | 14=>fun u w=>∃pv,u = .agg #[.int .i64 par,.string nm,pv]∧Qma w H pv ps
 | 15=>fun u w=>∃N pv,u = .slice (some ⟨N,0,none⟩) 1 1∧Holds w N #[.int .i64 par,.string nm,pv] 46∧Qma w H pv ps∧N≠tB∧tv.ownBlock≠some N
 | 16=>fun u w=>∃g' c',u = .slice (some ⟨g',0,none⟩) (T.length+1) c'∧QUc w base (.slice (some ⟨g',0,none⟩) (T.length+1) c') (T++[(⟨par,nm,ps⟩:Qba)])
 | 17=>fun u _=>u = .pointer (some ⟨tB,0,none⟩)
 | 18=>fun _ w=>∃v',Holds w tB #[v'] 27∧QUc w base v' (T++[(⟨par,nm,ps⟩:Qba)])
 | _=>fun _ _=>True
section
variable{base H tB lB g o n cap i:Nat}{par:Int}{nm:ByteArray}{ps:List Qla}{pa:Option Addr}{pc:Nat}{tv:Value}{T:List Qba}
theorem QBf.keeps{W w w':World}{S:Nat→Prop}(h:QBf base H tB lB g o n cap i par nm ps pa pc tv T W w)(k:Qaa S w w')(hS:∀b,S b→base≤b∧b≠lB)(gh:∀b,b<W.heap.size→S b→b=tB∨tv.ownBlock=some b):QBf base H tB lB g o n cap i par nm ps pa pc tv T W w':=by
 obtain⟨h1,h2,h3,h4,h5,h6,h7⟩:=h
 have hg:∀q,q<base→¬S q:=fun q hq e=>by have:=(hS q e).1;omega
 exact⟨h1.keeps k (fun e=>(hS _ e).2 rfl),(k.cell (p:=⟨g,o+i*3+1,none⟩) (by show g<w.heap.size;omega) (hg g h5)).trans h2,(k.cell (p:=⟨g,o+i*3+2,none⟩) (by show g<w.heap.size;omega) (hg g h5)).trans h3,h4.keeps k hg,h5,h6.trans k gh,Nat.le_trans h7 k.size⟩
theorem QBf.new{W w w':World}(h:QBf base H tB lB g o n cap i par nm ps pa pc tv T W w)(k:Below w.heap.size w w')(_:base≤tB):QBf base H tB lB g o n cap i par nm ps pa pc tv T W w':=h.keeps (Qaa.of_fresh k (fun _=>False)) (fun _ e=>e.elim) (fun _ _ e=>e.elim)
theorem QBf.grow{W w w':World}(h:QBf base H tB lB g o n cap i par nm ps pa pc tv T W w)(k:w.grownBy w' tv.ownBlock)(_:base≤tB)(h1:∀q,tv.ownBlock=some q→base≤q)(h2:tv.ownBlock≠some lB)(_:tv.ownBlock≠some tB):QBf base H tB lB g o n cap i par nm ps pa pc tv T W w':=
 h.keeps (S:=fun b=>tv.ownBlock=some b) (Qaa.of_grown k (fun _ e=>e)) (fun b e=>⟨h1 b e,fun x=>h2 (by rw[←x];exact e)⟩) (fun _ _ e=>Or.inr e)
theorem QBf.set{W w:World}{x:Value}(h:QBf base H tB lB g o n cap i par nm ps pa pc tv T W w)(hz:Holds w tB #[x] 27)(hb:base≤tB)(v:Value):QBf base H tB lB g o n cap i par nm ps pa pc tv T W (w.setCell ⟨tB,0,none⟩ v):=
 h.keeps (S:=fun b=>b=tB) ((Qaa.refl (· = tB) w).setCell (p:=⟨tB,0,none⟩) (Or.inr rfl) v) (fun b e=>⟨by omega,fun e2=>by
  subst e e2
  have:=hz.symm.trans h.1
  injection this with this;injection this with _ this;exact absurd this (by decide)⟩) (fun _ _ e=>Or.inl e)
theorem Qrg.new{w w':World}{j:Nat}{u:Value}(h:Qrg base H tB lB g o n cap i par nm ps pa pc tv T j u w)(k:Below w.heap.size w w'):Qrg base H tB lB g o n cap i par nm ps pa pc tv T j u w':=by
 unfold Qrg at *
 have kk:=Qaa.of_fresh k (fun _=>False)
 split at h
 all_goals first
  | exact h
  | exact Qma.new h k
  | (obtain⟨pv,e,hp⟩:=h;exact⟨pv,e,hp.new k⟩)
  | (obtain⟨N,pv,e,hN,hp,r⟩:=h;exact⟨N,pv,e,hN.keeps kk (fun e=>e),hp.new k,r⟩)
  | (obtain⟨g',c',e,hr⟩:=h;exact⟨g',c',e,hr.new k⟩)
  | (obtain⟨v',hz,hr⟩:=h;exact⟨v',hz.keeps kk (fun e=>e),hr.new k⟩)
theorem Qrg.grow{w w':World}{j:Nat}{u:Value}{xs:List Value}(h:Qrg base H tB lB g o n cap i par nm ps pa pc tv T j u w)(k:w.grownBy w' tv.ownBlock)(jB:j≠16)(fS:j≠18)(_:∀N,tv.ownBlock≠some N→tv.ownBlock≠some N)(g2:w.ownsRow base 46 3 tv T.length xs):Qrg base H tB lB g o n cap i par nm ps pa pc tv T j u w':=by
 unfold Qrg at *
 split at h
 all_goals first
  | exact absurd rfl jB
  | exact absurd rfl fS
  | exact h
  | exact Qma.apart h g2 k (by decide)
  | (obtain⟨pv,e,hp⟩:=h;exact⟨pv,e,hp.apart g2 k (by decide)⟩)
  | (obtain⟨N,pv,e,hN,hp,r1,r2⟩:=h;exact⟨N,pv,e,hN.grown k r2,hp.apart g2 k (by decide),r1,r2⟩)
theorem Qrg.set{w:World}{j:Nat}{u x v:Value}(h:Qrg base H tB lB g o n cap i par nm ps pa pc tv T j u w)(hz:Holds w tB #[x] 27)(fS:j≠18):Qrg base H tB lB g o n cap i par nm ps pa pc tv T j u (w.setCell ⟨tB,0,none⟩ v):=by
 unfold Qrg at *
 split at h
 all_goals first
  | exact absurd rfl fS
  | exact h
  | exact Qma.set h hz (by decide) 0 v
  | (obtain⟨pv,e,hp⟩:=h;exact⟨pv,e,hp.set hz (by decide) 0 v⟩)
  | (obtain⟨N,pv,e,hN,hp,r1,r2⟩:=h;exact⟨N,pv,e,hN.other _ _ r1,hp.set hz (by decide) 0 v,r1,r2⟩)
  | (obtain⟨g',c',e,hr⟩:=h;exact⟨g',c',e,hr.set hz (by decide) (by decide) 0 v⟩)
end
set_option maxRecDepth 100000 in
theorem QAm{Q:Exit→Act→World→Prop}(base H tB lB g o n cap i:Nat)(par:Int)(nm:ByteArray)(ps:List Qla)(pa:Option Addr)(pc:Nat)(tv:Value)(T:List Qba)(W w:World)(A:Act)(hsz:A.tmps.size=57)(KO:base≤tB)(hi:i<n)(_:n≤1000)(lY:T.length≤1000)(kR:ps.length≤1000)(Ja:QIc ⟨par,nm,ps⟩)
 (a0:A.tmps.getD 0 undef = .int .i64 i) (a1:A.tmps.getD 1 undef = .int .i64 par) (a2:A.tmps.getD 2 undef = .pointer (some ⟨tB,0,none⟩)) (a4:A.tmps.getD 4 undef = .pointer (some ⟨lB,0,none⟩))
 (hS:QBf base H tB lB g o n cap i par nm ps pa pc tv T W w) (hZ:Holds w tB #[tv] 27) (hR:QOb H w base tv T) (hbH:base≤H) (hHW:H≤W.heap.size)
 (hQ:∀c w' v',Qrb (Qyf 2) A c→QBf base H tB lB g o n cap i par nm ps pa pc tv T W w'→Holds w' tB #[v'] 27→QUc w' base v' (T++[(⟨par,nm,ps⟩:Qba)])→Q .normal c w') :
 wpAny Tryz.prog .any (Qyf 2) Q (Qyf 2).size (Array.replicate (Qyf 2).size false) A w:=by
 refine QVa (fun l c wx=>Qde (Qyf 2) A (Qrg base H tB lB g o n cap i par nm ps pa pc tv T) (QBf base H tB lB g o n cap i par nm ps pa pc tv T W) l c wx∧QSq tB H base tv T l wx) QQu ?hend ?Hk _ _ _ _ (by simp) (by simp) ⟨Qde.start hS,fun _=>hR,fun _=>hZ⟩
 case hend=>
  intro l c wx hI hl
  obtain⟨v',h1,h2⟩:=hI.1.2.2.2 18 (by rw[QGq];decide) (hl 18 (by rw[QGq];decide))
  exact hQ c wx v' hI.1.1 hI.1.2.1 h1 h2
 intro l c wx hI i' op ho hl Ha K' hK'
 have J9:i'<19:=by rw[←QGq];exact(Array.getElem?_eq_some_iff.1 ho).1
 simp only[Qyf,QXa,Tryz.f75,Option.getD_some,reduceIte,Nat.reduceEqDiff]at ho
 have hS:=hI.1.2.1
 have pG:(i:Int)<n:=by omega
 have nG:(0:Int)≤i:=by omega
 have s0:=(hI.1.slot 0 (by kernel_rfl)).trans a0
 have s1:=(hI.1.slot 1 (by kernel_rfl)).trans a1
 have s2:=(hI.1.slot 2 (by kernel_rfl)).trans a2
 have s4:=(hI.1.slot 4 (by kernel_rfl)).trans a4
 simp only[Array.getD_eq_getD_getElem?]at s0 s1 s2 s4
 have GV:i'=0∨i'=1∨i'=2∨i'=3∨i'=4∨i'=5∨i'=6∨i'=7∨i'=8∨i'=9∨i'=10∨i'=11∨i'=12∨i'=13∨i'=14∨i'=15∨i'=16∨i'=17∨i'=18:=by omega
 rcases GV with rfl|rfl|rfl|rfl|rfl|rfl|rfl|rfl|rfl|rfl|rfl|rfl|rfl|rfl|rfl|rfl|rfl|rfl|rfl
 all_goals cases ho
 ·go_simp
  exact hK' _ _ ⟨hI.1.stepL QEe 0 19 rfl (by rw[hsz];decide) _ _ rfl Ha hS (fun _ _ _ h=>h) rfl,hI.2.keep 0 (fun h=>h) (fun h=>h)⟩
 ·have e0:c.tmps.getD 19 undef = .pointer (some ⟨tB,0,none⟩):=hI.1.fact 0 19 rfl (Qka Ha 0 (by kernel_rfl))
  simp only[Array.getD_eq_getD_getElem?]at e0
  have u16:=hI.1.2.2.1.2.unlisted hl (j:=16) (by kernel_rfl)
  have u18:=hI.1.2.2.1.2.unlisted u16 (j:=18) (by kernel_rfl)
  have hX:=(hI.2.2 u18).cell 0
  go_simp
  exact hK' _ _ ⟨hI.1.stepL QEe 1 20 rfl (by rw[hsz];decide) _ _ rfl Ha hS (fun _ _ _ h=>h) rfl,hI.2.keep 1 (fun h=>h) (fun h=>h)⟩
 ·go_simp
  exact hK' _ _ ⟨hI.1.stepL QEe 2 21 rfl (by rw[hsz];decide) _ _ rfl Ha hS (fun _ _ _ h=>h) rfl,hI.2.keep 2 (fun h=>h) (fun h=>h)⟩
 ·have hX:=hS.1.cell 0
  go_simp
  exact hK' _ _ ⟨hI.1.stepL QEe 3 22 rfl (by rw[hsz];decide) _ _ rfl Ha hS (fun _ _ _ h=>h) rfl,hI.2.keep 3 (fun h=>h) (fun h=>h)⟩
 ·go_simp
  exact hK' _ _ ⟨hI.1.stepL QEe 4 23 rfl (by rw[hsz];decide) _ _ rfl Ha hS (fun _ _ _ h=>h) rfl,hI.2.keep 4 (fun h=>h) (fun h=>h)⟩
 ·have e3:c.tmps.getD 22 undef = .slice (some ⟨g,o,none⟩) n cap:=hI.1.fact 3 22 rfl (Qka Ha 3 (by kernel_rfl))
  simp only[Array.getD_eq_getD_getElem?]at e3
  have e4:c.tmps.getD 23 undef = .int .i64 i:=hI.1.fact 4 23 rfl (Qka Ha 4 (by kernel_rfl))
  simp only[Array.getD_eq_getD_getElem?]at e4
  go_simp
  exact hK' _ _ ⟨hI.1.stepL QEe 5 24 rfl (by rw[hsz];decide) _ _ rfl Ha hS (fun _ _ _ h=>h) rfl,hI.2.keep 5 (fun h=>h) (fun h=>h)⟩
 ·have e5:c.tmps.getD 24 undef = .pointer (some ⟨g,o+i*3,none⟩):=hI.1.fact 5 24 rfl (Qka Ha 5 (by kernel_rfl))
  simp only[Array.getD_eq_getD_getElem?]at e5
  go_simp
  exact hK' _ _ ⟨hI.1.stepL QEe 6 25 rfl (by rw[hsz];decide) _ _ rfl Ha hS (fun _ _ _ h=>h) rfl,hI.2.keep 6 (fun h=>h) (fun h=>h)⟩
 ·have e6:c.tmps.getD 25 undef = .pointer (some ⟨g,o+i*3+1,none⟩):=hI.1.fact 6 25 rfl (Qka Ha 6 (by kernel_rfl))
  simp only[Array.getD_eq_getD_getElem?]at e6
  have hX:=hS.2.1
  go_simp
  exact hK' _ _ ⟨hI.1.stepL QEe 7 26 rfl (by rw[hsz];decide) _ _ rfl Ha hS (fun _ _ _ h=>h) rfl,hI.2.keep 7 (fun h=>h) (fun h=>h)⟩
 ·have hX:=hS.1.cell 0
  go_simp
  exact hK' _ _ ⟨hI.1.stepL QEe 8 27 rfl (by rw[hsz];decide) _ _ rfl Ha hS (fun _ _ _ h=>h) rfl,hI.2.keep 8 (fun h=>h) (fun h=>h)⟩
 ·go_simp
  exact hK' _ _ ⟨hI.1.stepL QEe 9 28 rfl (by rw[hsz];decide) _ _ rfl Ha hS (fun _ _ _ h=>h) rfl,hI.2.keep 9 (fun h=>h) (fun h=>h)⟩
 ·have e8:c.tmps.getD 27 undef = .slice (some ⟨g,o,none⟩) n cap:=hI.1.fact 8 27 rfl (Qka Ha 8 (by kernel_rfl))
  simp only[Array.getD_eq_getD_getElem?]at e8
  have e9:c.tmps.getD 28 undef = .int .i64 i:=hI.1.fact 9 28 rfl (Qka Ha 9 (by kernel_rfl))
  simp only[Array.getD_eq_getD_getElem?]at e9
  go_simp
  exact hK' _ _ ⟨hI.1.stepL QEe 10 29 rfl (by rw[hsz];decide) _ _ rfl Ha hS (fun _ _ _ h=>h) rfl,hI.2.keep 10 (fun h=>h) (fun h=>h)⟩
 ·have e10:c.tmps.getD 29 undef = .pointer (some ⟨g,o+i*3,none⟩):=hI.1.fact 10 29 rfl (Qka Ha 10 (by kernel_rfl))
  simp only[Array.getD_eq_getD_getElem?]at e10
  go_simp
  exact hK' _ _ ⟨hI.1.stepL QEe 11 30 rfl (by rw[hsz];decide) _ _ rfl Ha hS (fun _ _ _ h=>h) rfl,hI.2.keep 11 (fun h=>h) (fun h=>h)⟩
 ·have e11:c.tmps.getD 30 undef = .pointer (some ⟨g,o+i*3+2,none⟩):=hI.1.fact 11 30 rfl (Qka Ha 11 (by kernel_rfl))
  simp only[Array.getD_eq_getD_getElem?]at e11
  have hX:=hS.2.2.1
  go_simp
  exact hK' _ _ ⟨hI.1.stepL QEe 12 31 rfl (by rw[hsz];decide) _ _ rfl Ha hS (fun _ _ _ h=>h) rfl,hI.2.keep 12 (fun h=>h) (fun h=>h)⟩
 ·have e12:c.tmps.getD 31 undef = .slice pa ps.length pc:=hI.1.fact 12 31 rfl (Qka Ha 12 (by kernel_rfl))
  simp only[Array.getD_eq_getD_getElem?]at e12
  have u16:=hI.1.2.2.1.2.unlisted hl (j:=16) (by kernel_rfl)
  go_simp
  refine(Qam (fun q=>q<base) _ ps wx hS.2.2.2.1 kR).mono ?_
  rintro e w2 ⟨v2,rfl,gd,Hc⟩
  go_simp
  have gh:=hS.new Hc KO
  exact hK' _ _ ⟨hI.1.stepL QEe 13 32 rfl (by rw[hsz];decide) _ _ rfl Ha gh (fun j _ u h=>h.new Hc) (gd.base (Nat.le_trans hHW hS.2.2.2.2.2.1.size)),hI.2.keep 13 (fun h=>h.new Hc) (fun h=>h.keeps (Qaa.of_fresh Hc (fun _=>False)) (fun e=>e))⟩
 ·have e2:c.tmps.getD 21 undef = .int .i64 par:=hI.1.fact 2 21 rfl (Qka Ha 2 (by kernel_rfl))
  simp only[Array.getD_eq_getD_getElem?]at e2
  have e7:c.tmps.getD 26 undef = .string nm:=hI.1.fact 7 26 rfl (Qka Ha 7 (by kernel_rfl))
  simp only[Array.getD_eq_getD_getElem?]at e7
  have hp:Qma wx H (c.tmps.getD 32 undef) ps:=hI.1.fact 13 32 rfl (Qka Ha 13 (by kernel_rfl))
  generalize hc32:c.tmps.getD 32 undef=pv at hp
  obtain⟨a2,c2,KR⟩:=Qea hp.1
  subst KR
  simp only[Array.getD_eq_getD_getElem?]at hc32
  go_simp
  exact hK' _ _ ⟨hI.1.stepL QEe 14 33 rfl (by rw[hsz];decide) _ _ rfl Ha hS (fun _ _ _ h=>h) ⟨_,rfl,hp⟩,hI.2.keep 14 (fun h=>h) (fun h=>h)⟩
 ·obtain⟨pv,e14,hp⟩:∃pv,c.tmps.getD 33 undef = .agg #[.int .i64 par,.string nm,pv]∧Qma wx H pv ps:=hI.1.fact 14 33 rfl (Qka Ha 14 (by kernel_rfl))
  simp only[Array.getD_eq_getD_getElem?]at e14
  have u16:=hI.1.2.2.1.2.unlisted hl (j:=16) (by kernel_rfl)
  have xy:=hI.2.1 u16
  have u18:=hI.1.2.2.1.2.unlisted u16 (j:=18) (by kernel_rfl)
  have mz:=hI.2.2 u18
  have fy:=mz.lt
  obtain⟨a2,c2,KR⟩:=Qea hp.1
  subst KR
  go_simp
  have Hc:Below wx.heap.size wx (wx.alloc (.cells #[.int .i64 par,.string nm,.slice a2 ps.length c2] 46)):=(Below.refl _ _).alloc (Nat.le_refl _) _
  have gh:=hS.new Hc KO
  exact hK' _ _ ⟨hI.1.stepL QEe 15 34 rfl (by rw[hsz];decide) _ _ rfl Ha gh (fun j _ u h=>h.new Hc) ⟨_,_,rfl,Holds.new _ _ _,hp.new Hc,by omega,fun e=>Nat.lt_irrefl _ (Qli xy.row e)⟩,hI.2.keep 15 (fun h=>h.new Hc) (fun h=>h.keeps (Qaa.of_fresh Hc (fun _=>False)) (fun e=>e))⟩
 ·have e1:c.tmps.getD 20 undef=tv:=hI.1.fact 1 20 rfl (Qka Ha 1 (by kernel_rfl))
  simp only[Array.getD_eq_getD_getElem?]at e1
  have f1:c.tmps.getD 20 undef=tv:=hI.1.fact 1 20 rfl (Qka Ha 1 (by kernel_rfl))
  obtain⟨N,pv,e15,hN,hp,hNt,mP⟩:∃N pv,c.tmps.getD 34 undef = .slice (some ⟨N,0,none⟩) 1 1∧Holds wx N #[.int .i64 par,.string nm,pv] 46∧Qma wx H pv ps∧N≠tB∧tv.ownBlock≠some N:=hI.1.fact 15 34 rfl (Qka Ha 15 (by kernel_rfl))
  obtain⟨pvs,g1,g2,g3,g4,g5⟩:=hI.2.1 hl
  have u18:=hI.1.2.2.1.2.unlisted hl (j:=18) (by kernel_rfl)
  have mz:=hI.2.2 u18
  obtain⟨a2,c2,KR⟩:=Qea hp.1
  subst KR
  obtain⟨i0,hi,H4,Hp,gj⟩:=info_parts Qqk
  obtain⟨xa,xc,hxv⟩:=Qea g2
  refine step_append_lies _ (by rfl) _ _ _ (by rfl) base 46 i0 _ 3 48 Tryz.underlying25 hi H4 Hp gj rfl (by omega) tv T.length (QAa T pvs) (by exact f1) g2 ⟨N,0,none⟩ 1 1 [.int .i64 par,.string nm,.slice a2 ps.length c2] (by exact e15) (by rfl) (World.news_of_block (cs:=#[.int .i64 par,.string nm,.slice a2 ps.length c2]) (t:=46) (fr:=(0,0)) hN) (by simp[Value.oneCell']) (by omega) (by unfold maxLen;omega) (by omega) hS.2.2.2.2.2.2 wx.heap.size rfl ?_
  intro gg cap2 w8 kD Hd Gp th
  have uO:=QOb.more (n:=⟨par,nm,ps⟩) g1 g2 g3 g4 g5 hbH hp Ja kD Hd
  have gh:=hS.grow Hd KO (fun q hq=>(g2.lt q hq).1) (Qva g2 hS.1 (by decide)) (Qva g2 mz (by decide))
  exact hK' _ _ ⟨hI.1.stepL QEe 16 35 rfl (by rw[hsz];decide) _ _ rfl Ha gh (fun j hj u h=>h.grow Hd (Qbb hj hl) (Qbb hj u18) (fun N' hN'=>hN') g2) ⟨_,_,rfl,uO⟩,⟨(fun h=>absurd rfl (Q3d h (by rw[hI.1.2.2.1.1,QGq];decide))),fun h=>(hI.2.2 (Qia h)).grown Hd (Qva g2 mz (by decide))⟩⟩
 ·go_simp
  exact hK' _ _ ⟨hI.1.stepL QEe 17 36 rfl (by rw[hsz];decide) _ _ rfl Ha hS (fun _ _ _ h=>h) rfl,hI.2.keep 17 (fun h=>h) (fun h=>h)⟩
 ·have e17:c.tmps.getD 36 undef = .pointer (some ⟨tB,0,none⟩):=hI.1.fact 17 36 rfl (Qka Ha 17 (by kernel_rfl))
  simp only[Array.getD_eq_getD_getElem?]at e17
  obtain⟨g',c',e16,hr⟩:∃g' c',c.tmps.getD 35 undef = .slice (some ⟨g',0,none⟩) (T.length+1) c'∧QUc wx base (.slice (some ⟨g',0,none⟩) (T.length+1) c') (T++[(⟨par,nm,ps⟩:Qba)]):=hI.1.fact 16 35 rfl (Qka Ha 16 (by kernel_rfl))
  simp only[Array.getD_eq_getD_getElem?]at e16
  have mz:=hI.2.2 hl
  have n0:=mz.cell 0
  have n1:=mz.free 0
  go_simp
  have gh:=hS.set mz KO (.slice (some ⟨g',0,none⟩) (T.length+1) c')
  exact hK' _ _ ⟨hI.1.stepNL 18 rfl _ rfl Ha gh (fun j hj u h=>h.set mz (Qbb hj hl)) ⟨_,mz.set 0 _,hr.set mz (by decide) (by decide) 0 _⟩,⟨(fun h=>absurd ((Qia h).symm.trans (Qka Ha 16 (by kernel_rfl))) (by decide)),(fun h=>absurd rfl (Q3d h (by rw[hI.1.2.2.1.1,QGq];decide)))⟩⟩
theorem QEo(R:Nat→Prop)(lb base:Nat)(v kv:Value)(L:List Qba)(ks:List Nat)(w:World)(h0:0<L.length)(sK:∀k∈ks,k<L.length)(hB:Holds w lb #[v] 25)(hL:Qpa R w v L)
 (Ho:w.ownsRow base 3 1 kv ks.length (Qna ks)) (hR:∀g,kv.ownBlock=some g→¬R g∧g≠lb) (hlen:ks.length≤1000) :
 Calls Tryz.prog 77 #[kv,.func (.func 78) #[] #[.pointer (some ⟨lb,0,none⟩)]] w fun e w'=>
  e = .returned (.tuple #[])∧∃ks':List Nat,ks'.Perm ks∧ks'.Pairwise (fun a b=>ltS (Qwa L b) (Qwa L a)=false)∧w'.ownsRow base 3 1 kv ks.length (Qna ks')∧Qaa (fun i=>kv.ownBlock=some i) w w':=by
 obtain⟨fs,rfl⟩:∃fs:List (Fin L.length),fs.map Fin.val=ks:=⟨ks.pmap (fun k h=>⟨k,h⟩) sK,by simp[List.map_pmap]⟩
 have hc:∀l:List (Fin L.length),Qna (l.map Fin.val)=l.map (QHq L.length):=fun l=>by simp[Qna,QHq,Function.comp_def]
 rw[hc,List.length_map]at Ho
 refine(QRj R lb base v kv L fs w h0 hB hL Ho hR (by simpa using hlen)).mono ?_
 rintro e w' ⟨he,ks',h1,h2,h3,h4⟩
 refine⟨he,ks'.map Fin.val,h1.map _,?_,?_,h4⟩
 ·rw[List.pairwise_map];exact h2
 ·rw[hc,List.length_map];exact h3
def fnV(tB pB lB cB vB:Nat):Value:=.func (.func 75) #[] #[.pointer (some ⟨tB,0,none⟩),.pointer (some ⟨pB,0,none⟩),.pointer (some ⟨lB,0,none⟩),.pointer (some ⟨cB,0,none⟩),.pointer (some ⟨vB,0,none⟩)]
def KOk(L:List Qba)(K:Nat→List Nat):Prop:=∀p,p<L.length→(K p).Perm (QDa L p)
def Qol(base:Nat)(cs:Array Value)(n:Nat)(K:Nat→List Nat)(w:World):Prop:=∀p,p<n→w.ownsRow base 3 1 (cs.getD p undef) (K p).length (Qna (K p))
def QJu(cs:Array Value)(n gP:Nat):Prop:=cs.size=n∧(∀p q,p<n→q<n→p≠q→∀g,(cs.getD p undef).ownBlock=some g→(cs.getD q undef).ownBlock≠some g)∧∀p g,p<n→(cs.getD p undef).ownBlock=some g→g≠gP
def Qiu(L:List Qba)(base tB pB lB cB vB gP gC:Nat)(lv:Value)(cs:Array Value)(w:World):Prop:=
 base≤w.heap.size∧Holds w lB #[lv] 25∧Qpa (fun g=>g<base) w lv L∧Holds w pB #[.slice (some ⟨gP,0,none⟩) L.length L.length] 22∧
  Holds w cB #[.slice (some ⟨gC,0,none⟩) L.length L.length] 108∧Holds w gC cs 22∧Holds w vB #[fnV tB pB lB cB vB] 109
def QAf(gP n:Nat)(pre:List Nat)(w:World):Prop:=∃l:List Nat,l.length=n∧Holds w gP (QFd l) 3∧∀q (h:q<pre.length),l.getD pre[q] 0=q
def Qyt(L:List Qba)(base tB pB lB cB vB gP gC:Nat)(lv:Value)(cs:Array Value)(pre:List Nat)(K:Nat→List Nat)(w:World):Prop:=
 Qiu L base tB pB lB cB vB gP gC lv cs w∧(∃tv,Holds w tB #[tv] 27∧QUc w base tv (pre.map (Q4b L)))∧QAf gP L.length pre w∧Qol base cs L.length K w
section
variable{L:List Qba}{base tB pB lB cB vB gP gC:Nat}{lv:Value}{cs:Array Value}{w w':World}{S:Nat→Prop}
theorem Qiu.keeps(h:Qiu L base tB pB lB cB vB gP gC lv cs w)(k:Qaa S w w')(hS:∀b,S b→base≤b∧(w.heap.size≤b∨∃xs t,Holds w b xs t∧t≠25∧t≠22∧t≠108∧t≠109)):Qiu L base tB pB lB cB vB gP gC lv cs w':=by
 obtain⟨h0,h1,h2,h3,h4,h5,h6⟩:=h
 have key:∀{b:Nat} {xs:Array Value} {t:TypeId},Holds w b xs t→(t=25∨t=22∨t=108∨t=109)→Holds w' b xs t:=by
  intro b xs t hb ht
  refine hb.keeps k (fun e=>?_)
  rcases (hS b e).2 with h|⟨ys,u,hu,n1,n2,n3,n4⟩
  ·have:=hb.lt;omega
  ·have:t=u:=by
    have:=hb.symm.trans hu
    injection this with this;injection this with _ this
   subst this
   rcases ht with rfl|rfl|rfl|rfl
   ·exact n1 rfl
   ·exact n2 rfl
   ·exact n3 rfl
   ·exact n4 rfl
 exact⟨Nat.le_trans h0 k.size,key h1 (.inl rfl),h2.keeps k (fun q hq e=>by have:=(hS q e).1;omega),key h3 (.inr (.inl rfl)),key h4 (.inr (.inr (.inl rfl))),key h5 (.inr (.inl rfl)),key h6 (.inr (.inr (.inr rfl)))⟩
theorem QAf.keeps{n:Nat}{pre:List Nat}(h:QAf gP n pre w)(k:Qaa S w w')(hS:¬S gP):QAf gP n pre w':=by
 obtain⟨l,h1,h2,h3⟩:=h
 exact⟨l,h1,h2.keeps k hS,h3⟩
theorem Qol.keeps{n:Nat}{K:Nat→List Nat}(h:Qol base cs n K w)(k:Qaa S w w')(hS:∀p g,p<n→(cs.getD p undef).ownBlock=some g→¬S g):Qol base cs n K w':=fun p hp=>
 Qca (h p hp) k (fun g hg=>hS p g hp hg)
theorem QAf.put{n:Nat}{pre:List Nat}{i:Nat}(h:QAf gP n pre w)(hi:i<n)(hn:i ∉ pre):(∃x:Int,w.cell? ⟨gP,i,none⟩=some (.int .i64 x))∧w.frozen? ⟨gP,i,none⟩=false∧QAf gP n (pre++[i]) (w.setCell ⟨gP,i,none⟩ (.int .i64 (pre.length:Int))):=by
 obtain⟨l,h1,h2,h3⟩:=h
 refine⟨⟨_,(h2.cell i).trans (QZh l i (by omega))⟩,h2.free i,l.set i pre.length,by simpa using h1,?_,?_⟩
 ·rw[←QXi];exact h2.set i _
 ·intro q hq
  by_cases e:q<pre.length
  ·rw[List.getElem_append_left e]
   have Hm:i≠pre[q]:=fun x=>hn (by rw[x];exact List.getElem_mem e)
   have:=h3 q e
   simp only[List.getD_eq_getElem?_getD,List.getElem?_set_ne Hm]at this ⊢
   exact this
  ·have kT:q=pre.length:=by simp at hq;omega
   subst kT
   simp[List.getD_eq_getElem?_getD,h1,hi]
end
def Qrs(L:List Qba)(base tB pB lB cB vB gP gC:Nat)(lv:Value)(cs:Array Value)(f:Nat):Prop:=
 ∀(i:Nat) (pre post:List Nat) (par:Int) (K:Nat→List Nat) (w:World),i<L.length→L.length≤i+f→Qab L=pre++QYa L f i++post→par=(Q4b L i).parent→KOk L K→Qyt L base tB pB lB cB vB gP gC lv cs pre K w→
  Calls Tryz.prog 75 #[.int .i64 i,.int .i64 par,.pointer (some ⟨tB,0,none⟩),.pointer (some ⟨pB,0,none⟩),.pointer (some ⟨lB,0,none⟩),.pointer (some ⟨cB,0,none⟩),.pointer (some ⟨vB,0,none⟩)] w
   fun e w'=>e = .returned (.tuple #[])∧∃K',KOk L K'∧(∀q,q ∉ QYa L f i→K' q=K q)∧Qyt L base tB pB lB cB vB gP gC lv cs (pre++QYa L f i) K' w'∧Below base w w'
set_option maxRecDepth 100000 in
theorem QGo(L:List Qba)(base tB pB lB cB vB gP gC:Nat)(lv:Value)(cs:Array Value)(hS:Q2c L)(hD:Dis L)(hn:L.length≤1000)(gU:∀n∈L,n.props.length≤1000)(H7:QJu cs L.length gP)
 (ht:base≤tB) (hp:base≤gP):∀f,Qrs L base tB pB lB cB vB gP gC lv cs f:=by
 intro f
 induction f with
 | zero=>intro i pre post par K w hi hf;omega
 | succ f ih=>
  intro i pre post par K w hi hf ah Gv hK hV
  have IH:=hid ih
  clear ih
  obtain⟨hR,⟨tv,hZ,hT⟩,hP,dQ⟩:=hV
  obtain⟨JZ,uL⟩:=Qlc hS.2.1 hS.1
  have mi:=QWc uL
  have mD:i ∉ pre:=by
   intro hm
   rw[ah,List.append_assoc]at mi
   exact(List.nodup_append.1 mi).2.2 i hm i (by simp[QYa]) rfl
  have hlen:pre.length<L.length:=by
   have h1:=Q5c hS.2.1 hS.1
   rw[ah]at h1
   simp[QYa]at h1;omega
  obtain⟨⟨xq,q0⟩,qf,Kf⟩:=hP.put hi mD
  obtain⟨H3,cW,ay,J1,fT,fU,CW⟩:=id hR
  obtain⟨la,lc,rfl,-,-⟩:=ay.shape
  obtain⟨g,o,pa,pc,rfl,hg,c0,c1,c2,tN,-,-,nb0,-,-⟩:=ay.at i hi
  obtain⟨ta,tc,rfl⟩:=QNc hT.row
  have Cu:=hid (show(pre.map (Q4b L)).length=pre.length by simp)
  have p0:=J1.cell 0
  have t0:=hZ.cell 0
  have hi':(i:Int)<L.length:=by omega
  have sm:g<base:=Q2l (R:=fun g=>g<base) ay hS.1
  obtain⟨lp,yH,eU,-⟩:=id hP
  have k1:Qaa (· = gP) w (w.setCell ⟨gP,i,none⟩ (.int .i64 (pre.length:Int))):=(Qaa.refl (· = gP) w).setCell (p:=⟨gP,i,none⟩) (Or.inr rfl) _
  have J2:=hR.keeps k1 (fun b e=>by subst e;exact⟨hp,Or.inr ⟨_,_,eU,by decide,by decide,by decide,by decide⟩⟩)
  have Hs:=hZ.keeps k1 (fun e=>Q8a hZ eU (by decide) e)
  have GE:=hT.keeps k1 (fun b e=>by subst e;exact Or.inr ⟨_,_,eU,by decide,by decide⟩)
  have Gg:=dQ.keeps k1 (fun p q hp hq e=>H7.2.2 p q hp hq e)
  have c1':=(k1.cell (p:=⟨g,o+i*3+1,none⟩) (by show g<w.heap.size;omega) (by show ¬g=gP;omega)).trans c1
  have c2':=(k1.cell (p:=⟨g,o+i*3+2,none⟩) (by show g<w.heap.size;omega) (by show ¬g=gP;omega)).trans c2
  have tO:=tN.keeps k1 (fun q hq e=>by subst e;omega)
  have Hb:Below base w (w.setCell ⟨gP,i,none⟩ (.int .i64 (pre.length:Int))):=k1.below H3 (fun q hq e=>by subst e;omega)
  have kR:=gU L[i] (List.getElem_mem hi)
  have KC:-1≤par∧par≤1000:=by
   rw[Gv];unfold Q4b
   split
   ·rw[hS.2.2];exact⟨by show(-1:Int)≤-1;omega,by show(-1:Int)≤1000;omega⟩
   ·have h1:=List.idxOf_le_length (a:=Qwb L i) (l:=Qab L)
    have h2:=Q5c hS.2.1 hS.1
    show -1≤(((Qab L).idxOf (Qwb L i):Nat):Int)∧(((Qab L).idxOf (Qwb L i):Nat):Int)≤1000
    omega
  have Ja:QIc ⟨par,L[i].name,L[i].props⟩:=⟨nb0,by show _≤par;omega,by show par≤_;omega⟩
  have BB:Q4b L i=⟨par,L[i].name,L[i].props⟩:=by rw[Gv];unfold Q4b;rw[QEa hi,QOa hi]
  have Cg:=hid BB
  have jb:=hid Gv
  clear BB Gv hP dQ hT hZ hR ay tN c1 c2 eU yH J1 fT fU CW cW
  go_enter Tryz.func75,Tryz.ntmps75
  go_wp2_with fail
  generalize jv:w.setCell ⟨gP,i,none⟩ (.int .i64 (pre.length:Int))=w1 at *
  have nh:=J2.1
  refine wp_region_any (by kernel_rfl) ?_
  refine Q5a (ops':=Qyf 2) (by kernel_rfl) ?_
  refine QAm base w1.heap.size tB lB g o L.length lc i par L[i].name L[i].props pa pc _ (pre.map (Q4b L)) w1.drew _ _ rfl ht hi hn (by rw[Cu.out];omega) kR Ja rfl rfl rfl rfl ?_ (by exact Hs) (by exact GE.low.new (Below.refl _ _).drew) nh (Nat.le_refl _) ?_
  ·exact⟨J2.2.1,c1',c2',tO.keeps ((Qaa.refl (fun _=>False) w1).drew) (fun _ _ e=>e),sm,Qaa.refl _ _,nh⟩
  intro c w2 v2 Ga gh Hw Gx
  obtain⟨x19,x20,x21,x22,x23,x24,x25,x26,x27,x28,x29,x30,x31,x32,x33,x34,x35,x36,hc⟩:=Ga.ex [19,20,21,22,23,24,25,26,27,28,29,30,31,32,33,34,35,36] (by kernel_rfl)
  subst hc
  simp only[List.setIfInBounds_toArray,List.set_cons_zero,List.set_cons_succ]
  have k2:Qaa (fun b=>b=tB∨(Value.slice ta (pre.map (Q4b L)).length tc).ownBlock=some b) w1 w2:=((Qaa.refl _ w1).drew).trans gh.2.2.2.2.2.1 (fun _ _ e=>e)
  have Hj:∀b,(b=tB∨(Value.slice ta (pre.map (Q4b L)).length tc).ownBlock=some b)→base≤b∧∃xs t,Holds w1 b xs t∧(t=27∨t=46):=by
   rintro b (rfl|e)
   ·exact⟨ht,_,_,Hs,.inl rfl⟩
   ·obtain⟨q1,cur,q2⟩:=QTd GE.row e
    exact⟨q1,_,_,q2,.inr rfl⟩
  have mW:=J2.keeps k2 (fun b e=>by
   obtain⟨q1,xs,t,q2,q3⟩:=Hj b e
   exact⟨q1,Or.inr ⟨xs,t,q2,by rcases q3 with rfl|rfl <;> decide,by rcases q3 with rfl|rfl <;> decide,by rcases q3 with rfl|rfl <;> decide,by rcases q3 with rfl|rfl <;> decide⟩⟩)
  have KZ:=Kf.keeps k2 (fun e=>by
   obtain⟨_,xs,t,q2,q3⟩:=Hj gP e
   obtain⟨l,_,q4,_⟩:=Kf
   exact Q8a q2 q4 (by rcases q3 with rfl|rfl <;> decide) rfl)
  have gf:=Gg.keeps k2 (fun p b aI hb e=>by
   obtain⟨_,xs,t,q2,q3⟩:=Hj b e
   obtain⟨_,cur,q4⟩:=Qnb (Gg p aI) hb
   exact Q8a q2 q4 (by rcases q3 with rfl|rfl <;> decide) rfl)
  have Kj:QUc w2 base v2 ((pre++[i]).map (Q4b L)):=by rw[List.map_append,List.map_singleton,Cg.out];exact Gx
  have Hc:Below base w w2:=Hb.trans (k2.below nh (fun b hb e=>by have:=(Hj b e).1;omega))
  clear Ga gh Gx J2 Hs GE Kf Gg k2 Hj Hb k1 c1' c2' tO kR Ja p0 t0 q0 qf KC
  obtain⟨xN,JY,dS,dV,JV,JW,xF⟩:=id mW
  have d0:=JV.cell 0
  have Ho:=gf i hi
  obtain⟨ka,kc,vh⟩:=Qea Ho
  have c8:w2.cell? ⟨gC,i,none⟩=some (cs.getD i undef):=(JW.cell i).trans (by simp[Array.getD_eq_getD_getElem?,H7.1,hi])
  rw[vh]at c8
  have oH:=hid vh
  have sK:∀k∈K i,k<L.length:=fun k hk=>((QQc L i k).1 ((hK i hi).mem_iff.1 hk)).1
  have KP:(K i).length≤1000:=by
   rw[(hK i hi).length_eq]
   have:=QSh L i L.length
   unfold QDa;omega
  have Hl:∀q,(cs.getD i undef).ownBlock=some q→¬q<base∧q≠lB:=fun q hq=>by
   obtain⟨q1,cur,q2⟩:=Qnb Ho hq
   exact⟨by omega,Q8a q2 JY (by decide)⟩
  have cy:=QEo (fun q=>q<base) lB base _ _ L (K i) w2 hS.1 sK JY dS Ho Hl KP
  rw[vh]at cy
  have fN:=hid cy
  clear vh sK cy
  go_wp2_with fail
  refine(fN.out).mono ?_
  rintro e w3 ⟨rfl,ks,aI,mE,iQ,Hy⟩
  have yB:=QTl hD (aI.trans (hK i hi)) mE
  subst yB
  have bS:∀b,(Value.slice ka (K i).length kc).ownBlock=some b→base≤b∧∃cur,Holds w2 b cur 3:=fun b e=>Qnb (gf i hi) (by rw[oH.out];exact e)
  have K0:=mW.keeps Hy (fun b e=>by
   obtain⟨q1,cur,q2⟩:=bS b e
   exact⟨q1,Or.inr ⟨_,_,q2,by decide,by decide,by decide,by decide⟩⟩)
  have Hz:=Hw.keeps Hy (fun e=>by
   obtain⟨_,cur,q2⟩:=bS tB e
   exact Q8a q2 Hw (by decide) rfl)
  have Mz:=Kj.keeps Hy (fun b e=>by
   obtain⟨_,cur,q2⟩:=bS b e
   exact Or.inr ⟨_,_,q2,by decide,by decide⟩)
  have jW:=KZ.keeps Hy (fun e=>H7.2.2 i gP hi (by rw[oH.out];exact e) rfl)
  have gu:Qol base cs L.length (fun q=>if q=i then QDa L i else K q) w3:=by
   intro p hp'
   by_cases e:p=i
   ·subst e
    dsimp only
    rw[if_pos rfl]
    have hl:=aI.length_eq
    rw[oH.out,hl];exact iQ
   ·dsimp only
    rw[if_neg e]
    exact Qca (gf p hp') Hy (fun b hb Hc=>H7.2.1 p i hp' hi e b hb (by rw[oH.out];exact Hc))
  have oZ:KOk L (fun q=>if q=i then QDa L i else K q):=by
   intro p hp'
   by_cases e:p=i
   ·subst e;simp
   ·simp only[if_neg e];exact hK p hp'
  have Hi:Below base w w3:=Hc.trans (Hy.below xN (fun b hb e=>by have:=(bS b e).1;omega))
  have vm:(QDa L i).length=(K i).length:=aI.length_eq
  clear iQ Hy bS mW Hw Kj KZ gf Hc aI mE JY dS dV JV JW xF c8 d0 Hl Ho fN
  obtain⟨mZ,xe,xg,xr,qX,qY,xG⟩:=id K0
  have d0:=qX.cell 0
  have c8:w3.cell? ⟨gC,i,none⟩=some (cs.getD i undef):=(qY.cell i).trans (by simp[Array.getD_eq_getD_getElem?,H7.1,hi])
  rw[oH.out]at c8
  have Ac:=hid vm
  generalize hm:(K i).length=m at *
  have HM:=hid hm
  clear hm vm
  clear xe xg xr qX qY xG
  go_wp2_with fail
  go_loopg [48] m (fun z x wr=>∃(j:Nat) (K2:Nat→List Nat),x = .int .i64 j∧j≤m∧m≤j+z∧KOk L K2∧K2 i=QDa L i∧(∀q,q ∉ QYa L (f+1) i→K2 q=K q)∧Qyt L base tB pB lB cB vB gP gC (.slice (some ⟨g,o,none⟩) L.length lc) cs (pre++[i]++((QDa L i).take j).flatMap (QYa L f)) K2 wr∧Below base w wr)
  case atStart=>
   refine⟨0,_,rfl,by omega,by omega,oZ,by simp,fun q hq=>?_,?_,Hi⟩
   ·rw[if_neg (fun e=>hq (by subst e;simp[QYa]))]
   ·simp only[List.take_zero,List.flatMap_nil,List.append_nil]
    exact⟨K0,⟨_,Hz,Mz⟩,jW,gu⟩
  case round=>
   clear oZ K0 Hz Mz jW gu Hi c8 d0
   obtain⟨j,K2,rfl,yy,hjz,oZ,AV,xd,l5,mB⟩:=hrel
   by_cases hj:j<m
   ·have hj':(j:Int)<m:=by omega
    have kH:j<(QDa L i).length:=by rw[Ac.out];exact hj
    obtain⟨km1,km2,km3⟩:=(QQc L i _).1 (List.getElem_mem kH)
    have cC:(QDa L i)=(QDa L i).take j++(QDa L i)[j]::(QDa L i).drop (j+1):=by
     rw[List.getElem_cons_drop,List.take_append_drop]
    have JG:(QDa L i).take (j+1)=(QDa L i).take j++[(QDa L i)[j]]:=List.take_succ_eq_append_getElem kH
    have mR:L.length≤(QDa L i)[j]+f:=by
     have h1:=(hS.2.1 _ km2 km1).2
     rw[km3]at h1;omega
    have Db:=QKn hS.2.1 hi (List.getElem_mem kH) mR
    obtain⟨A8,-,-,AW⟩:=id l5
    have jr:=AW i hi
    rw[AV]at jr
    obtain⟨og,oc,MZ,-,-⟩:=jr.form (by omega)
    rw[MZ]at jr
    have uX:=jr.cellAt j (by omega)
    rw[show(Qna (QDa L i))[j]? = some (.int .i64 ((QDa L i)[j]:Int))from by simp[Qna,kH]]at uX
    have aH:=oH.out.symm.trans MZ
    simp only[Value.slice.injEq]at aH
    obtain⟨rfl,-,-⟩:=aH
    have n7:=A8.2.2.2.2.2.2.cell 0
    have iF:Qab L=(pre++[i]++((QDa L i).take j).flatMap (QYa L f))++QYa L f (QDa L i)[j]++(((QDa L i).drop (j+1)).flatMap (QYa L f)++post):=by
     rw[ah]
     have Br:(QDa L i).flatMap (QYa L f)=((QDa L i).take j).flatMap (QYa L f)++(QYa L f (QDa L i)[j]++((QDa L i).drop (j+1)).flatMap (QYa L f)):=by
      rw[←List.flatMap_cons,←List.flatMap_append,←cC]
     show pre++(i::(QDa L i).flatMap (QYa L f))++post=_
     rw[Br]
     simp only[List.append_assoc,List.cons_append,List.nil_append]
    have iH:(pre.length:Int)=(Q4b L (QDa L i)[j]).parent:=by
     unfold Q4b
     rw[if_neg (by omega),Qvj km3,QQs (pre:=pre) (post:=(QDa L i).flatMap (QYa L f)++post) (by rw[ah];simp[QYa]) mi]
    have gD:=IH.out (QDa L i)[j] _ _ (pre.length:Int) K2 wr km1 mR iF iH oZ l5
    have HC:=hid gD
    have uh:pre++[i]++((QDa L i).take (j+1)).flatMap (QYa L f)=(pre++[i]++((QDa L i).take j).flatMap (QYa L f))++QYa L f (QDa L i)[j]:=by
     rw[JG,List.flatMap_append];simp[List.append_assoc]
    have iB:∀q,q ∉ QYa L (f+1) i→q ∉ QYa L f (QDa L i)[j]:=fun q hq kT=>hq (by
     show q∈i::(QDa L i).flatMap (QYa L f)
     exact List.mem_cons_of_mem _ (List.mem_flatMap.2 ⟨_,List.getElem_mem kH,kT⟩))
    have wj:=hid uh
    have M8:=hid iB
    clear gD uh iB iF iH cC JG AW A8 jr MZ
    generalize (QDa L i)[j]=kk at *
    unfold fnV at n7
    go_wp2_with fail
    refine HC.out.mono ?_
    rintro e w5 ⟨rfl,K3,ri,lQ,rB,H9⟩
    have Hn:Qyt L base tB pB lB cB vB gP gC (.slice (some ⟨g,o,none⟩) L.length lc) cs (pre++[i]++((QDa L i).take (j+1)).flatMap (QYa L f)) K3 w5∧Below base w w5∧K3 i=QDa L i∧∀q,q ∉ QYa L (f+1) i→K3 q=K q:=
     ⟨by rw[wj.out];exact rB,mB.trans H9,(lQ i Db).trans AV,fun q hq=>(lQ q (M8.out q hq)).trans (xd q hq)⟩
    have HF:=hid Hn
    have vS:=hid ri
    clear Hn rB lQ ri H9 n7 HC uX
    go_wp2_with fail
    go_roundg (m-j-1)
    case measure=>omega
    case rel=>exact⟨j+1,K3,by go_num,by omega,by omega,vS.out,HF.out.2.2.1,HF.out.2.2.2,HF.out.1,HF.out.2.1⟩
   ·have sE:j=m:=by omega
    have Ha:pre++[i]++((QDa L i).take j).flatMap (QYa L f)=pre++QYa L (f+1) i:=by
     rw[sE,←Ac.out,List.take_length]
     show _=pre++(i::(QDa L i).flatMap (QYa L f))
     simp[List.append_assoc]
    rw[Ha]at l5
    have Cv:=hid l5
    have Cc:=hid xd
    have Cb:=hid oZ
    clear l5 Ha xd oZ sE
    go_wp2_with fail
    go_end0
    exact⟨rfl,K2,Cb.out,Cc.out,Cv.out,mB⟩
noncomputable def Qwf(n:Nat):Array Oper:=(QXa (Tryz.f38.body.getD .skip) n).getD #[]
theorem QOu:Qjc .any (Qwf 6)=true:=by kernel_rfl
theorem Q7g:Qbc (Qwf 6)=true:=by kernel_rfl
theorem Qxp:(Qwf 6).size=13:=by kernel_rfl
theorem Qpu:(Tryz.prog.info? 3).map (fun i=>(i.zero,i.size,i.bytes))=some (some (.int .i64 0),1,8):=by kernel_rfl
def QHo(base cB nB gC n p _ _:Nat)(nm:ByteArray)(pv kv:Value)(_:Array Value)(_:List Nat)(W w:World):Prop:=
 Holds w cB #[.slice (some ⟨gC,0,none⟩) n n] 108∧Holds w nB #[.int .i64 p,.string nm,pv] 46∧Qaa (fun b=>b=gC∨kv.ownBlock=some b) W w∧base≤w.heap.size
def Qgu(base gC:Nat)(kv:Value)(cs:Array Value)(xs:List Nat)(l:Array Bool)(w:World):Prop:=
 (l.getD 10 false=false→w.ownsRow base 3 1 kv xs.length (Qna xs))∧(l.getD 12 false=false→Holds w gC cs 22)
theorem Qgu.keep{base gC:Nat}{kv:Value}{cs:Array Value}{xs:List Nat}{l:Array Bool}{w w':World}(h:Qgu base gC kv cs xs l w)(i:Nat)(h1:w.ownsRow base 3 1 kv xs.length (Qna xs)→w'.ownsRow base 3 1 kv xs.length (Qna xs))(h2:Holds w gC cs 22→Holds w' gC cs 22):Qgu base gC kv cs xs (l.setIfInBounds i true) w':=
 ⟨fun e=>h1 (h.1 (Qia e)),fun e=>h2 (h.2 (Qia e))⟩
def Qin(base _ nB gC n p i H:Nat)(_:ByteArray)(_ kv:Value)(cs:Array Value)(xs:List Nat)(j:Nat):Value→World→Prop:=match j with
 | 0=>fun u _=>u = .slice (some ⟨gC,0,none⟩) n n
 | 1=>fun u _=>u = .pointer (some ⟨nB,0,none⟩)
 | 2=>fun u _=>u = .int .i64 p
 | 3=>fun u _=>u = .slice (some ⟨gC,0,none⟩) n n
 | 4=>fun u _=>u = .pointer (some ⟨nB,0,none⟩)
 | 5=>fun u _=>u = .int .i64 p
 | 6=>fun u _=>u = .pointer (some ⟨gC,p,none⟩)
 | 7=>fun u _=>u=kv
 | 8=>fun u _=>u = .int .i64 i
 | 9=>fun u w=>∃N,u = .slice (some ⟨N,0,none⟩) 1 1∧Holds w N #[.int .i64 i] 3∧kv.ownBlock≠some N
 | 10=>fun u w=>∃g' c',u=(.slice (some ⟨g',0,none⟩) (xs.length+1) c')∧w.ownsRow base 3 1 (.slice (some ⟨g',0,none⟩) (xs.length+1) c') (xs.length+1) (Qna (xs++[i]))∧(kv.ownBlock=some g'∨H≤g')
 | 11=>fun u _=>u = .pointer (some ⟨gC,p,none⟩)
 | 12=>fun _ w=>∃g' c',Holds w gC (cs.setIfInBounds p (.slice (some ⟨g',0,none⟩) (xs.length+1) c')) 22∧w.ownsRow base 3 1 (.slice (some ⟨g',0,none⟩) (xs.length+1) c') (xs.length+1) (Qna (xs++[i]))∧(kv.ownBlock=some g'∨H≤g')
 | _=>fun _ _=>True
section
variable{base cB nB gC n p i H:Nat}{nm:ByteArray}{pv kv:Value}{cs:Array Value}{xs:List Nat}
theorem QHo.new{W w w':World}(h:QHo base cB nB gC n p i H nm pv kv cs xs W w)(k:Below w.heap.size w w'):QHo base cB nB gC n p i H nm pv kv cs xs W w':=by
 have kk:=Qaa.of_fresh k (fun _=>False)
 exact⟨h.1.keeps kk (fun e=>e),h.2.1.keeps kk (fun e=>e),h.2.2.1.trans kk (fun _ _ e=>e.elim),Nat.le_trans h.2.2.2 k.size⟩
theorem QHo.grow{W w w':World}(h:QHo base cB nB gC n p i H nm pv kv cs xs W w)(k:w.grownBy w' kv.ownBlock)(h1:kv.ownBlock≠some cB)(h2:kv.ownBlock≠some nB):QHo base cB nB gC n p i H nm pv kv cs xs W w':=by
 have kk:Qaa (fun b=>kv.ownBlock=some b) w w':=Qaa.of_grown k (fun _ e=>e)
 exact⟨h.1.keeps kk h1,h.2.1.keeps kk h2,h.2.2.1.trans kk (fun _ _ e=>Or.inr e),Nat.le_trans h.2.2.2 kk.size⟩
theorem QHo.set{W w:World}(h:QHo base cB nB gC n p i H nm pv kv cs xs W w)(hz:Holds w gC cs 22)(v:Value):QHo base cB nB gC n p i H nm pv kv cs xs W (w.setCell ⟨gC,p,none⟩ v):=by
 have kk:Qaa (· = gC) w (w.setCell ⟨gC,p,none⟩ v):=(Qaa.refl (· = gC) w).setCell (p:=⟨gC,p,none⟩) (Or.inr rfl) v
 exact⟨h.1.keeps kk (Q8a h.1 hz (by decide)),h.2.1.keeps kk (Q8a h.2.1 hz (by decide)),h.2.2.1.trans kk (fun _ _ e=>Or.inl e),Nat.le_trans h.2.2.2 kk.size⟩
theorem Qin.new{w w':World}{j:Nat}{u:Value}(h:Qin base cB nB gC n p i H nm pv kv cs xs j u w)(k:Below w.heap.size w w'):Qin base cB nB gC n p i H nm pv kv cs xs j u w':=by
 unfold Qin at *
 have kk:=Qaa.of_fresh k (fun _=>False)
 split at h
 all_goals first
  | exact h
  | (obtain⟨N,e,hN,r⟩:=h;exact⟨N,e,hN.keeps kk (fun e=>e),r⟩)
  | (obtain⟨g',c',e,hr,r⟩:=h;exact⟨g',c',e,Qhb hr k,r⟩)
  | (obtain⟨g',c',hz,hr,r⟩:=h;exact⟨g',c',hz.keeps kk (fun e=>e),Qhb hr k,r⟩)
theorem Qin.grow{w w':World}{j:Nat}{u:Value}(h:Qin base cB nB gC n p i H nm pv kv cs xs j u w)(k:w.grownBy w' kv.ownBlock)(Gk:j≠10)(jd:j≠12):Qin base cB nB gC n p i H nm pv kv cs xs j u w':=by
 unfold Qin at *
 split at h
 all_goals first
  | exact absurd rfl Gk
  | exact absurd rfl jd
  | exact h
  | (obtain⟨N,e,hN,r⟩:=h;exact⟨N,e,hN.grown k r,r⟩)
theorem Qin.set{w:World}{j:Nat}{u v:Value}(h:Qin base cB nB gC n p i H nm pv kv cs xs j u w)(hz:Holds w gC cs 22)(jd:j≠12):Qin base cB nB gC n p i H nm pv kv cs xs j u (w.setCell ⟨gC,p,none⟩ v):=by
 unfold Qin at *
 split at h
 all_goals first
  | exact absurd rfl jd
  | exact h
  | (obtain⟨N,e,hN,r⟩:=h;exact⟨N,e,hN.other _ _ (Q8a hN hz (by decide)),r⟩)
  | (obtain⟨g',c',e,hr,r⟩:=h;exact⟨g',c',e,QNf hr hz (by decide) p v,r⟩)
end
set_option maxRecDepth 100000 in
theorem QSl{Q:Exit→Act→World→Prop}(base cB nB gC n p i H:Nat)(nm:ByteArray)(pv kv:Value)(cs:Array Value)(xs:List Nat)(W w:World)(A:Act)(hsz:A.tmps.size=41)(MF:p<n)(jw:xs.length≤1000)(hH:H≤W.heap.size)(Kn:cs[p]? = some kv)
 (a4:A.tmps.getD 4 undef = .pointer (some ⟨cB,0,none⟩)) (a5:A.tmps.getD 5 undef = .int .i64 i) (a6:A.tmps.getD 6 undef = .pointer (some ⟨nB,0,none⟩))
 (hS:QHo base cB nB gC n p i H nm pv kv cs xs W w) (hZ:Holds w gC cs 22) (hR:w.ownsRow base 3 1 kv xs.length (Qna xs))
 (hQ:∀c w' g' c',Qrb (Qwf 6) A c→QHo base cB nB gC n p i H nm pv kv cs xs W w'→Holds w' gC (cs.setIfInBounds p (.slice (some ⟨g',0,none⟩) (xs.length+1) c')) 22→w'.ownsRow base 3 1 (.slice (some ⟨g',0,none⟩) (xs.length+1) c') (xs.length+1) (Qna (xs++[i]))→(kv.ownBlock=some g'∨H≤g')→Q .normal c w') :
 wpAny Tryz.prog .any (Qwf 6) Q (Qwf 6).size (Array.replicate (Qwf 6).size false) A w:=by
 refine QVa (fun l c wx=>Qde (Qwf 6) A (Qin base cB nB gC n p i H nm pv kv cs xs) (QHo base cB nB gC n p i H nm pv kv cs xs W) l c wx∧Qgu base gC kv cs xs l wx) QOu ?hend ?Hk _ _ _ _ (by simp) (by simp) ⟨Qde.start hS,fun _=>hR,fun _=>hZ⟩
 case hend=>
  intro l c wx hI hl
  obtain⟨g',c',h1,h2,h3⟩:=hI.1.2.2.2 12 (by rw[Qxp];decide) (hl 12 (by rw[Qxp];decide))
  exact hQ c wx g' c' hI.1.1 hI.1.2.1 h1 h2 h3
 intro l c wx hI i' op ho hl Ha K' hK'
 have J9:i'<13:=by rw[←Qxp];exact(Array.getElem?_eq_some_iff.1 ho).1
 simp only[Qwf,QXa,Tryz.f38,Option.getD_some,reduceIte,Nat.reduceEqDiff]at ho
 have hS:=hI.1.2.1
 have pG:(p:Int)<n:=by omega
 have nG:(0:Int)≤p:=by omega
 have s4:=(hI.1.slot 4 (by kernel_rfl)).trans a4
 have s5:=(hI.1.slot 5 (by kernel_rfl)).trans a5
 have s6:=(hI.1.slot 6 (by kernel_rfl)).trans a6
 simp only[Array.getD_eq_getD_getElem?]at s4 s5 s6
 have GV:i'=0∨i'=1∨i'=2∨i'=3∨i'=4∨i'=5∨i'=6∨i'=7∨i'=8∨i'=9∨i'=10∨i'=11∨i'=12:=by omega
 rcases GV with rfl|rfl|rfl|rfl|rfl|rfl|rfl|rfl|rfl|rfl|rfl|rfl|rfl
 all_goals cases ho
 ·have hX:=hS.1.cell 0
  go_simp
  exact hK' _ _ ⟨hI.1.stepL Q7g 0 20 rfl (by rw[hsz];decide) _ _ rfl Ha hS (fun _ _ _ h=>h) rfl,hI.2.keep 0 (fun h=>h) (fun h=>h)⟩
 ·go_simp
  exact hK' _ _ ⟨hI.1.stepL Q7g 1 21 rfl (by rw[hsz];decide) _ _ rfl Ha hS (fun _ _ _ h=>h) rfl,hI.2.keep 1 (fun h=>h) (fun h=>h)⟩
 ·have e1:c.tmps.getD 21 undef = .pointer (some ⟨nB,0,none⟩):=hI.1.fact 1 21 rfl (Qka Ha 1 (by kernel_rfl))
  have f1:=e1
  simp only[Array.getD_eq_getD_getElem?]at e1
  have hX:=hS.2.1.cell 0
  go_simp
  exact hK' _ _ ⟨hI.1.stepL Q7g 2 22 rfl (by rw[hsz];decide) _ _ rfl Ha hS (fun _ _ _ h=>h) rfl,hI.2.keep 2 (fun h=>h) (fun h=>h)⟩
 ·have hX:=hS.1.cell 0
  go_simp
  exact hK' _ _ ⟨hI.1.stepL Q7g 3 23 rfl (by rw[hsz];decide) _ _ rfl Ha hS (fun _ _ _ h=>h) rfl,hI.2.keep 3 (fun h=>h) (fun h=>h)⟩
 ·go_simp
  exact hK' _ _ ⟨hI.1.stepL Q7g 4 24 rfl (by rw[hsz];decide) _ _ rfl Ha hS (fun _ _ _ h=>h) rfl,hI.2.keep 4 (fun h=>h) (fun h=>h)⟩
 ·have e4:c.tmps.getD 24 undef = .pointer (some ⟨nB,0,none⟩):=hI.1.fact 4 24 rfl (Qka Ha 4 (by kernel_rfl))
  have f4:=e4
  simp only[Array.getD_eq_getD_getElem?]at e4
  have hX:=hS.2.1.cell 0
  go_simp
  exact hK' _ _ ⟨hI.1.stepL Q7g 5 25 rfl (by rw[hsz];decide) _ _ rfl Ha hS (fun _ _ _ h=>h) rfl,hI.2.keep 5 (fun h=>h) (fun h=>h)⟩
 ·have e3:c.tmps.getD 23 undef = .slice (some ⟨gC,0,none⟩) n n:=hI.1.fact 3 23 rfl (Qka Ha 3 (by kernel_rfl))
  have f3:=e3
  simp only[Array.getD_eq_getD_getElem?]at e3
  have e5:c.tmps.getD 25 undef = .int .i64 p:=hI.1.fact 5 25 rfl (Qka Ha 5 (by kernel_rfl))
  have f5:=e5
  simp only[Array.getD_eq_getD_getElem?]at e5
  go_simp
  exact hK' _ _ ⟨hI.1.stepL Q7g 6 26 rfl (by rw[hsz];decide) _ _ rfl Ha hS (fun _ _ _ h=>h) rfl,hI.2.keep 6 (fun h=>h) (fun h=>h)⟩
 ·have e6:c.tmps.getD 26 undef = .pointer (some ⟨gC,p,none⟩):=hI.1.fact 6 26 rfl (Qka Ha 6 (by kernel_rfl))
  have f6:=e6
  simp only[Array.getD_eq_getD_getElem?]at e6
  have u10:=hI.1.2.2.1.2.unlisted hl (j:=10) (by kernel_rfl)
  have u12:=hI.1.2.2.1.2.unlisted u10 (j:=12) (by kernel_rfl)
  have hX:=(hI.2.2 u12).cell p
  rw[Kn]at hX
  go_simp
  exact hK' _ _ ⟨hI.1.stepL Q7g 7 27 rfl (by rw[hsz];decide) _ _ rfl Ha hS (fun _ _ _ h=>h) rfl,hI.2.keep 7 (fun h=>h) (fun h=>h)⟩
 ·go_simp
  exact hK' _ _ ⟨hI.1.stepL Q7g 8 28 rfl (by rw[hsz];decide) _ _ rfl Ha hS (fun _ _ _ h=>h) rfl,hI.2.keep 8 (fun h=>h) (fun h=>h)⟩
 ·have e8:c.tmps.getD 28 undef = .int .i64 i:=hI.1.fact 8 28 rfl (Qka Ha 8 (by kernel_rfl))
  have f8:=e8
  simp only[Array.getD_eq_getD_getElem?]at e8
  have u10:=hI.1.2.2.1.2.unlisted hl (j:=10) (by kernel_rfl)
  have bA:=hI.2.1 u10
  go_simp
  have Hc:Below wx.heap.size wx (wx.alloc (.cells #[.int .i64 i] 3)):=(Below.refl _ _).alloc (Nat.le_refl _) _
  have gh:=hS.new Hc
  exact hK' _ _ ⟨hI.1.stepL Q7g 9 29 rfl (by rw[hsz];decide) _ _ rfl Ha gh (fun j _ u h=>h.new Hc) ⟨_,rfl,Holds.new _ _ _,fun e=>Nat.lt_irrefl _ (bA.lt _ e).2⟩,hI.2.keep 9 (fun h=>Qhb h Hc) (fun h=>h.keeps (Qaa.of_fresh Hc (fun _=>False)) (fun e=>e))⟩
 ·have e7:c.tmps.getD 27 undef=kv:=hI.1.fact 7 27 rfl (Qka Ha 7 (by kernel_rfl))
  have f7:=e7
  simp only[Array.getD_eq_getD_getElem?]at e7
  obtain⟨N,e9,hN,mP⟩:∃N,c.tmps.getD 29 undef = .slice (some ⟨N,0,none⟩) 1 1∧Holds wx N #[.int .i64 i] 3∧kv.ownBlock≠some N:=hI.1.fact 9 29 rfl (Qka Ha 9 (by kernel_rfl))
  have g2:=hI.2.1 hl
  have u12:=hI.1.2.2.1.2.unlisted hl (j:=12) (by kernel_rfl)
  have hZ:=hI.2.2 u12
  obtain⟨i0,hi,H4,Hp,gj⟩:=info_parts Qpu
  have hHs:=hS.2.2.1.size
  refine step_append_lies _ (by rfl) _ _ _ (by rfl) base 3 i0 _ 1 8 Tryz.underlying22 hi H4 Hp gj rfl (by omega) kv xs.length (Qna xs) (by exact f7) g2 ⟨N,0,none⟩ 1 1 [.int .i64 i] (by exact e9) (by rfl) (World.news_of_block (cs:=#[.int .i64 i]) (t:=3) (fr:=(0,0)) hN) (by simp[Value.oneCell']) (by omega) (by unfold maxLen;omega) (by omega) hS.2.2.2 wx.heap.size rfl ?_
  intro gg cap2 w8 kD Hd Gp th
  have gh:=hS.grow Hd (Qva g2 hS.1 (by decide)) (Qva g2 hS.2.1 (by decide))
  exact hK' _ _ ⟨hI.1.stepL Q7g 10 30 rfl (by rw[hsz];decide) _ _ rfl Ha gh (fun j hj u h=>h.grow Hd (Qbb hj hl) (Qbb hj u12)) ⟨gg,cap2,rfl,(by simpa[Qna]using kD),Gp.imp id (fun e=>by omega)⟩,⟨(fun h=>absurd rfl (Q3d h (by rw[hI.1.2.2.1.1,Qxp];decide))),fun h=>(hI.2.2 (Qia h)).grown Hd (Qva g2 hZ (by decide))⟩⟩
 ·have e0:c.tmps.getD 20 undef = .slice (some ⟨gC,0,none⟩) n n:=hI.1.fact 0 20 rfl (Qka Ha 0 (by kernel_rfl))
  have f0:=e0
  simp only[Array.getD_eq_getD_getElem?]at e0
  have e2:c.tmps.getD 22 undef = .int .i64 p:=hI.1.fact 2 22 rfl (Qka Ha 2 (by kernel_rfl))
  have f2:=e2
  simp only[Array.getD_eq_getD_getElem?]at e2
  go_simp
  exact hK' _ _ ⟨hI.1.stepL Q7g 11 31 rfl (by rw[hsz];decide) _ _ rfl Ha hS (fun _ _ _ h=>h) rfl,hI.2.keep 11 (fun h=>h) (fun h=>h)⟩
 ·have e11:c.tmps.getD 31 undef = .pointer (some ⟨gC,p,none⟩):=hI.1.fact 11 31 rfl (Qka Ha 11 (by kernel_rfl))
  have f11:=e11
  simp only[Array.getD_eq_getD_getElem?]at e11
  obtain⟨g',c',e10,hr,Gp⟩:∃g' c',c.tmps.getD 30 undef=(.slice (some ⟨g',0,none⟩) (xs.length+1) c')∧wx.ownsRow base 3 1 (.slice (some ⟨g',0,none⟩) (xs.length+1) c') (xs.length+1) (Qna (xs++[i]))∧(kv.ownBlock=some g'∨H≤g'):=hI.1.fact 10 30 rfl (Qka Ha 10 (by kernel_rfl))
  simp only[Array.getD_eq_getD_getElem?]at e10
  have hZ:=hI.2.2 hl
  have n0:=hZ.cell p
  rw[Kn]at n0
  have n1:=hZ.free p
  go_simp
  have gh:=hS.set hZ (.slice (some ⟨g',0,none⟩) (xs.length+1) c')
  exact hK' _ _ ⟨hI.1.stepNL 12 rfl _ rfl Ha gh (fun j hj u h=>h.set hZ (Qbb hj hl)) ⟨g',c',hZ.set p _,QNf hr hZ (by decide) p _,Gp⟩,⟨(fun h=>absurd ((Qia h).symm.trans (Qka Ha 10 (by kernel_rfl))) (by decide)),(fun h=>absurd rfl (Q3d h (by rw[hI.1.2.2.1.1,Qxp];decide)))⟩⟩
end Go.Proofs.YtgaboghigefgbaaGreatDoor
