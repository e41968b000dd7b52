/- Lemmas on the way to the law; no conditions. -/
import Derived.Test.YtgaboghigefgbaaGreatDoorZ22
import Derived.Test.YtgaboghigefgbaaGreatDoorZ19
set_option linter.all false
set_option maxRecDepth 100000
set_option maxHeartbeats 8000000
namespace Go.Proofs.YtgaboghigefgbaaGreatDoor
open Go.Proofs.Tryz
open Go.Lib (hid)
open Go.RowKit
noncomputable def Qsf(n:Nat):Array Oper:=(QPa (Tryz.f75.body.getD .skip) n).getD #[]
theorem Qhv:Q0b .any (Qsf 2)=true:=by kernel_rfl
theorem Qqe:QRb (Qsf 2)=true:=by kernel_rfl
theorem Q6q:(Qsf 2).size=19:=by kernel_rfl
theorem Qhi{w:World}{base:Nat}{v:Value}{T:List Qba}(h:Qda w base v T){g:Nat}(e:v.ownBlock=some g):g<w.heap.size:=by
 obtain⟨_,_,g2,_⟩:=h;exact(g2.lt g e).2
def Qwf(base _ tB lB g o n cap i:Nat)(_:Int)(nm:ByteArray)(ps:List Qqa)(pa:Option Addr)(pc:Nat)(tv:Value)(_:List Qba)(W w:World):Prop:=
 Holds w lB #[.slice (some ⟨g,o,none⟩) n cap] 25∧w.cell? ⟨g,o+i*3+1,none⟩=some (.string nm)∧w.cell? ⟨g,o+i*3+2,none⟩=some (.slice pa ps.length pc)∧QAa (fun q=>q<base) w (.slice pa ps.length pc) ps∧g<base∧Qaa (fun b=>b=tB∨tv.ownBlock=some b) W w∧base≤w.heap.size
def Qlr(tB H base:Nat)(tv:Value)(T:List Qba)(l:Array Bool)(w:World):Prop:=
 (l.getD 16 false=false→QIb H w base tv T)∧(l.getD 18 false=false→Holds w tB #[tv] 27)
theorem Qlr.keep{tB H base:Nat}{tv:Value}{T:List Qba}{l:Array Bool}{w w':World}(h:Qlr tB H base tv T l w)(i:Nat)(h1:QIb H w base tv T→QIb H w' base tv T)(h2:Holds w tB #[tv] 27→Holds w' tB #[tv] 27):Qlr tB H base tv T (l.setIfInBounds i true) w':=
 ⟨fun e=>h1 (h.1 (Qja e)),fun e=>h2 (h.2 (Qja e))⟩
def Qlg(base H tB _ g o n cap i:Nat)(par:Int)(nm:ByteArray)(ps:List Qqa)(pa:Option Addr)(pc:Nat)(tv:Value)(T:List Qba)(j:Nat):Value→World→Prop:=match j with
 | 0=>fun u _=>u=.pointer (some ⟨tB,0,none⟩)
 | 1=>fun u _=>u=tv
 | 2=>fun u _=>u=.int .i64 par
 | 3=>fun u _=>u=.slice (some ⟨g,o,none⟩) n cap
 | 4=>fun u _=>u=.int .i64 i
 | 5=>fun u _=>u=.pointer (some ⟨g,o+i*3,none⟩)
 | 6=>fun u _=>u=.pointer (some ⟨g,o+i*3+1,none⟩)
 | 7=>fun u _=>u=.string nm
 | 8=>fun u _=>u=.slice (some ⟨g,o,none⟩) n cap
 | 9=>fun u _=>u=.int .i64 i
 | 10=>fun u _=>u=.pointer (some ⟨g,o+i*3,none⟩)
 | 11=>fun u _=>u=.pointer (some ⟨g,o+i*3+2,none⟩)
 | 12=>fun u _=>u=.slice pa ps.length pc
 | 13=>fun u w=>Qna w H u ps
 | 14=>fun u w=>∃pv,u=.agg #[.int .i64 par,.string nm,pv]∧Qna w H pv ps
 | 15=>fun u w=>∃N pv,u=.slice (some ⟨N,0,none⟩) 1 1∧Holds w N #[.int .i64 par,.string nm,pv] 46∧Qna w H pv ps∧N≠tB∧tv.ownBlock≠some N
 | 16=>fun u w=>∃g' c',u=.slice (some ⟨g',0,none⟩) (T.length+1) c'∧Qoc w base (.slice (some ⟨g',0,none⟩) (T.length+1) c') (T++[(⟨par,nm,ps⟩:Qba)])
 | 17=>fun u _=>u=.pointer (some ⟨tB,0,none⟩)
 | 18=>fun _ w=>∃v',Holds w tB #[v'] 27∧Qoc w base v' (T++[(⟨par,nm,ps⟩:Qba)])
 | _=>fun _ _=>True
section
variable{base H tB lB g o n cap i:Nat}{par:Int}{nm:ByteArray}{ps:List Qqa}{pa:Option Addr}{pc:Nat}{tv:Value}{T:List Qba}
theorem Qwf.keeps{W w w':World}{S:Nat→Prop}(h:Qwf base H tB lB g o n cap i par nm ps pa pc tv T W w)(k:Qaa S w w')(hS:∀b,S b→base≤b∧b≠lB)(HJ:∀b,b<W.heap.size→S b→b=tB∨tv.ownBlock=some b):Qwf base H tB lB g o n cap i par nm ps pa pc tv T W w':=by
 obtain⟨h1,h2,h3,h4,h5,h6,h7⟩:=h;have hg:∀q,q<base→¬S q:=fun q hq e=>by have:=(hS q e).1;omega
 exact⟨h1.keeps k (fun e=>(hS _ e).2 rfl),(k.cell (p:=⟨g,o+i*3+1,none⟩) (by show g<w.heap.size;omega) (hg g h5)).trans h2,(k.cell (p:=⟨g,o+i*3+2,none⟩) (by show g<w.heap.size;omega) (hg g h5)).trans h3,h4.keeps k hg,h5,h6.trans k HJ,Nat.le_trans h7 k.size⟩
theorem Qwf.new{W w w':World}(h:Qwf base H tB lB g o n cap i par nm ps pa pc tv T W w)(k:Below w.heap.size w w')(_:base≤tB):Qwf base H tB lB g o n cap i par nm ps pa pc tv T W w':=h.keeps (Qaa.of_fresh k (fun _=>False)) (fun _ e=>e.elim) (fun _ _ e=>e.elim)
theorem Qwf.grow{W w w':World}(h:Qwf base H tB lB g o n cap i par nm ps pa pc tv T W w)(k:w.grownBy w' tv.ownBlock)(_:base≤tB)(h1:∀q,tv.ownBlock=some q→base≤q)(h2:tv.ownBlock≠some lB)(_:tv.ownBlock≠some tB):Qwf base H tB lB g o n cap i par nm ps pa pc tv T W w':=
 h.keeps (S:=fun b=>tv.ownBlock=some b) (Qaa.of_grown k (fun _ e=>e)) (fun b e=>⟨h1 b e,fun x=>h2 (by rw[←x];exact e)⟩) (fun _ _ e=>Or.inr e)
theorem Qwf.set{W w:World}{x:Value}(h:Qwf base H tB lB g o n cap i par nm ps pa pc tv T W w)(hz:Holds w tB #[x] 27)(hb:base≤tB)(v:Value):Qwf base H tB lB g o n cap i par nm ps pa pc tv T W (w.setCell ⟨tB,0,none⟩ v):=
 h.keeps (S:=fun b=>b=tB) ((Qaa.refl (· = tB) w).setCell (p:=⟨tB,0,none⟩) (Or.inr rfl) v) (fun b e=>⟨by omega,fun e2=>by
  subst e e2;have:=hz.symm.trans h.1;injection this with this;injection this with _ this;exact absurd this (by decide)⟩) (fun _ _ e=>Or.inl e)
theorem Qlg.new{w w':World}{j:Nat}{u:Value}(h:Qlg base H tB lB g o n cap i par nm ps pa pc tv T j u w)(k:Below w.heap.size w w'):Qlg base H tB lB g o n cap i par nm ps pa pc tv T j u w':=by
 unfold Qlg at *
 have kk:=Qaa.of_fresh k (fun _=>False);split at h
 all_goals first
  | exact h
  | exact Qna.new h k
  | (obtain⟨pv,e,hp⟩:=h;exact⟨pv,e,hp.new k⟩)
  | (obtain⟨N,pv,e,hN,hp,r⟩:=h;exact⟨N,pv,e,hN.keeps kk (fun e=>e),hp.new k,r⟩)
  | (obtain⟨g',c',e,hr⟩:=h;exact⟨g',c',e,hr.new k⟩)
  | (obtain⟨v',hz,hr⟩:=h;exact⟨v',hz.keeps kk (fun e=>e),hr.new k⟩)
theorem Qlg.grow{w w':World}{j:Nat}{u:Value}{xs:List Value}(h:Qlg base H tB lB g o n cap i par nm ps pa pc tv T j u w)(k:w.grownBy w' tv.ownBlock)(Jv:j≠16)(dV:j≠18)(_:∀N,tv.ownBlock≠some N→tv.ownBlock≠some N)(g2:w.ownsRow base 46 3 tv T.length xs):Qlg base H tB lB g o n cap i par nm ps pa pc tv T j u w':=by
 unfold Qlg at *
 split at h
 all_goals first
  | exact absurd rfl Jv
  | exact absurd rfl dV
  | exact h
  | exact Qna.apart h g2 k (by decide)
  | (obtain⟨pv,e,hp⟩:=h;exact⟨pv,e,hp.apart g2 k (by decide)⟩)
  | (obtain⟨N,pv,e,hN,hp,r1,r2⟩:=h;exact⟨N,pv,e,hN.grown k r2,hp.apart g2 k (by decide),r1,r2⟩)
theorem Qlg.set{w:World}{j:Nat}{u x v:Value}(h:Qlg base H tB lB g o n cap i par nm ps pa pc tv T j u w)(hz:Holds w tB #[x] 27)(dV:j≠18):Qlg base H tB lB g o n cap i par nm ps pa pc tv T j u (w.setCell ⟨tB,0,none⟩ v):=by
 unfold Qlg at *
 split at h
 all_goals first
  | exact absurd rfl dV
  | exact h
  | exact Qna.set h hz (by decide) 0 v
  | (obtain⟨pv,e,hp⟩:=h;exact⟨pv,e,hp.set hz (by decide) 0 v⟩)
  | (obtain⟨N,pv,e,hN,hp,r1,r2⟩:=h;exact⟨N,pv,e,hN.other _ _ r1,hp.set hz (by decide) 0 v,r1,r2⟩)
  | (obtain⟨g',c',e,hr⟩:=h;exact⟨g',c',e,hr.set hz (by decide) (by decide) 0 v⟩)
end
theorem QGm{Q:Exit→Act→World→Prop}(base H tB lB g o n cap i:Nat)(par:Int)(nm:ByteArray)(ps:List Qqa)(pa:Option Addr)(pc:Nat)(tv:Value)(T:List Qba)(W w:World)(A:Act)(hsz:A.tmps.size=57)(bO:base≤tB)(hi:i<n)(_:n≤1000)(Jg:T.length≤1000)(Gt:ps.length≤1000)(mK:Qcc ⟨par,nm,ps⟩)
 (a0:A.tmps.getD 0 undef=.int .i64 i) (a1:A.tmps.getD 1 undef=.int .i64 par) (a2:A.tmps.getD 2 undef=.pointer (some ⟨tB,0,none⟩)) (a4:A.tmps.getD 4 undef=.pointer (some ⟨lB,0,none⟩))
 (hS:Qwf base H tB lB g o n cap i par nm ps pa pc tv T W w) (hZ:Holds w tB #[tv] 27) (hR:QIb H w base tv T) (hbH:base≤H) (hHW:H≤W.heap.size)
 (hQ:∀c w' v',Qpb (Qsf 2) A c→Qwf base H tB lB g o n cap i par nm ps pa pc tv T W w'→Holds w' tB #[v'] 27→Qoc w' base v' (T++[(⟨par,nm,ps⟩:Qba)])→Q .normal c w') :
 wpAny prog .any (Qsf 2) Q (Qsf 2).size (Array.replicate (Qsf 2).size false) A w:=by
 refine QNa (fun l c wx=>QCd (Qsf 2) A (Qlg base H tB lB g o n cap i par nm ps pa pc tv T) (Qwf base H tB lB g o n cap i par nm ps pa pc tv T W) l c wx∧Qlr tB H base tv T l wx) Qhv ?hend ?Hk _ _ _ _ (by simp) (by simp) ⟨QCd.start hS,fun _=>hR,fun _=>hZ⟩
 case hend=>
  intro l c wx hI hl;obtain⟨v',h1,h2⟩:=hI.1.2.2.2 18 (by rw[Q6q];decide) (hl 18 (by rw[Q6q];decide));exact hQ c wx v' hI.1.1 hI.1.2.1 h1 h2
 intro l c wx hI i' op ho hl Ha K' hK';have Jl:i'<19:=by rw[←Q6q];exact(Array.getElem?_eq_some_iff.1 ho).1
 simp only[Qsf,QPa,Tryz.f75,Option.getD_some,reduceIte,Nat.reduceEqDiff]at ho;have hS:=hI.1.2.1;have uE:(i:Int)<n:=by omega
 have im:(0:Int)≤i:=by omega
 have s0:=(hI.1.slot 0 (by kernel_rfl)).trans a0;have s1:=(hI.1.slot 1 (by kernel_rfl)).trans a1;have s2:=(hI.1.slot 2 (by kernel_rfl)).trans a2;have s4:=(hI.1.slot 4 (by kernel_rfl)).trans a4;simp only[Array.getD_eq_getD_getElem?]at s0 s1 s2 s4;have GB:i'=0∨i'=1∨i'=2∨i'=3∨i'=4∨i'=5∨i'=6∨i'=7∨i'=8∨i'=9∨i'=10∨i'=11∨i'=12∨i'=13∨i'=14∨i'=15∨i'=16∨i'=17∨i'=18:=by omega
 rcases GB with rfl|rfl|rfl|rfl|rfl|rfl|rfl|rfl|rfl|rfl|rfl|rfl|rfl|rfl|rfl|rfl|rfl|rfl|rfl
 all_goals cases ho
 ·go_simp;exact hK' _ _ ⟨hI.1.stepL Qqe 0 19 rfl (by rw[hsz];decide) _ _ rfl Ha hS (fun _ _ _ h=>h) rfl,hI.2.keep 0 (fun h=>h) (fun h=>h)⟩
 ·have e0:c.tmps.getD 19 undef=.pointer (some ⟨tB,0,none⟩):=hI.1.fact 0 19 rfl (Qma Ha 0 (by kernel_rfl));simp only[Array.getD_eq_getD_getElem?]at e0;have u16:=hI.1.2.2.1.2.unlisted hl (j:=16) (by kernel_rfl);have u18:=hI.1.2.2.1.2.unlisted u16 (j:=18) (by kernel_rfl);have hX:=(hI.2.2 u18).cell 0;go_simp;exact hK' _ _ ⟨hI.1.stepL Qqe 1 20 rfl (by rw[hsz];decide) _ _ rfl Ha hS (fun _ _ _ h=>h) rfl,hI.2.keep 1 (fun h=>h) (fun h=>h)⟩
 ·go_simp;exact hK' _ _ ⟨hI.1.stepL Qqe 2 21 rfl (by rw[hsz];decide) _ _ rfl Ha hS (fun _ _ _ h=>h) rfl,hI.2.keep 2 (fun h=>h) (fun h=>h)⟩
 ·have hX:=hS.1.cell 0;go_simp;exact hK' _ _ ⟨hI.1.stepL Qqe 3 22 rfl (by rw[hsz];decide) _ _ rfl Ha hS (fun _ _ _ h=>h) rfl,hI.2.keep 3 (fun h=>h) (fun h=>h)⟩
 ·go_simp;exact hK' _ _ ⟨hI.1.stepL Qqe 4 23 rfl (by rw[hsz];decide) _ _ rfl Ha hS (fun _ _ _ h=>h) rfl,hI.2.keep 4 (fun h=>h) (fun h=>h)⟩
 ·have e3:c.tmps.getD 22 undef=.slice (some ⟨g,o,none⟩) n cap:=hI.1.fact 3 22 rfl (Qma Ha 3 (by kernel_rfl));simp only[Array.getD_eq_getD_getElem?]at e3;have e4:c.tmps.getD 23 undef=.int .i64 i:=hI.1.fact 4 23 rfl (Qma Ha 4 (by kernel_rfl));simp only[Array.getD_eq_getD_getElem?]at e4;go_simp;exact hK' _ _ ⟨hI.1.stepL Qqe 5 24 rfl (by rw[hsz];decide) _ _ rfl Ha hS (fun _ _ _ h=>h) rfl,hI.2.keep 5 (fun h=>h) (fun h=>h)⟩
 ·have e5:c.tmps.getD 24 undef=.pointer (some ⟨g,o+i*3,none⟩):=hI.1.fact 5 24 rfl (Qma Ha 5 (by kernel_rfl));simp only[Array.getD_eq_getD_getElem?]at e5;go_simp;exact hK' _ _ ⟨hI.1.stepL Qqe 6 25 rfl (by rw[hsz];decide) _ _ rfl Ha hS (fun _ _ _ h=>h) rfl,hI.2.keep 6 (fun h=>h) (fun h=>h)⟩
 ·have e6:c.tmps.getD 25 undef=.pointer (some ⟨g,o+i*3+1,none⟩):=hI.1.fact 6 25 rfl (Qma Ha 6 (by kernel_rfl));simp only[Array.getD_eq_getD_getElem?]at e6;have hX:=hS.2.1;go_simp;exact hK' _ _ ⟨hI.1.stepL Qqe 7 26 rfl (by rw[hsz];decide) _ _ rfl Ha hS (fun _ _ _ h=>h) rfl,hI.2.keep 7 (fun h=>h) (fun h=>h)⟩
 ·have hX:=hS.1.cell 0;go_simp;exact hK' _ _ ⟨hI.1.stepL Qqe 8 27 rfl (by rw[hsz];decide) _ _ rfl Ha hS (fun _ _ _ h=>h) rfl,hI.2.keep 8 (fun h=>h) (fun h=>h)⟩
 ·go_simp;exact hK' _ _ ⟨hI.1.stepL Qqe 9 28 rfl (by rw[hsz];decide) _ _ rfl Ha hS (fun _ _ _ h=>h) rfl,hI.2.keep 9 (fun h=>h) (fun h=>h)⟩
 ·have e8:c.tmps.getD 27 undef=.slice (some ⟨g,o,none⟩) n cap:=hI.1.fact 8 27 rfl (Qma Ha 8 (by kernel_rfl));simp only[Array.getD_eq_getD_getElem?]at e8;have e9:c.tmps.getD 28 undef=.int .i64 i:=hI.1.fact 9 28 rfl (Qma Ha 9 (by kernel_rfl));simp only[Array.getD_eq_getD_getElem?]at e9;go_simp;exact hK' _ _ ⟨hI.1.stepL Qqe 10 29 rfl (by rw[hsz];decide) _ _ rfl Ha hS (fun _ _ _ h=>h) rfl,hI.2.keep 10 (fun h=>h) (fun h=>h)⟩
 ·have e10:c.tmps.getD 29 undef=.pointer (some ⟨g,o+i*3,none⟩):=hI.1.fact 10 29 rfl (Qma Ha 10 (by kernel_rfl));simp only[Array.getD_eq_getD_getElem?]at e10;go_simp;exact hK' _ _ ⟨hI.1.stepL Qqe 11 30 rfl (by rw[hsz];decide) _ _ rfl Ha hS (fun _ _ _ h=>h) rfl,hI.2.keep 11 (fun h=>h) (fun h=>h)⟩
 ·have e11:c.tmps.getD 30 undef=.pointer (some ⟨g,o+i*3+2,none⟩):=hI.1.fact 11 30 rfl (Qma Ha 11 (by kernel_rfl));simp only[Array.getD_eq_getD_getElem?]at e11;have hX:=hS.2.2.1;go_simp;exact hK' _ _ ⟨hI.1.stepL Qqe 12 31 rfl (by rw[hsz];decide) _ _ rfl Ha hS (fun _ _ _ h=>h) rfl,hI.2.keep 12 (fun h=>h) (fun h=>h)⟩
 ·have e12:c.tmps.getD 31 undef=.slice pa ps.length pc:=hI.1.fact 12 31 rfl (Qma Ha 12 (by kernel_rfl));simp only[Array.getD_eq_getD_getElem?]at e12;have u16:=hI.1.2.2.1.2.unlisted hl (j:=16) (by kernel_rfl);go_simp;refine(Qjm (fun q=>q<base) _ ps wx hS.2.2.2.1 Gt).mono ?_;rintro e w2 ⟨v2,rfl,Gz,Hc⟩;go_simp;have HJ:=hS.new Hc bO;exact hK' _ _ ⟨hI.1.stepL Qqe 13 32 rfl (by rw[hsz];decide) _ _ rfl Ha HJ (fun j _ u h=>h.new Hc) (Gz.base (Nat.le_trans hHW hS.2.2.2.2.2.1.size)),hI.2.keep 13 (fun h=>h.new Hc) (fun h=>h.fr Hc)⟩
 ·have e2:c.tmps.getD 21 undef=.int .i64 par:=hI.1.fact 2 21 rfl (Qma Ha 2 (by kernel_rfl));simp only[Array.getD_eq_getD_getElem?]at e2;have e7:c.tmps.getD 26 undef=.string nm:=hI.1.fact 7 26 rfl (Qma Ha 7 (by kernel_rfl));simp only[Array.getD_eq_getD_getElem?]at e7;have hp:Qna wx H (c.tmps.getD 32 undef) ps:=hI.1.fact 13 32 rfl (Qma Ha 13 (by kernel_rfl));generalize hc32:c.tmps.getD 32 undef=pv at hp;obtain⟨a2,c2,Kf⟩:=Qea hp.1;subst Kf;simp only[Array.getD_eq_getD_getElem?]at hc32;go_simp;exact hK' _ _ ⟨hI.1.stepL Qqe 14 33 rfl (by rw[hsz];decide) _ _ rfl Ha hS (fun _ _ _ h=>h) ⟨_,rfl,hp⟩,hI.2.keep 14 (fun h=>h) (fun h=>h)⟩
 ·obtain⟨pv,e14,hp⟩:∃pv,c.tmps.getD 33 undef=.agg #[.int .i64 par,.string nm,pv]∧Qna wx H pv ps:=hI.1.fact 14 33 rfl (Qma Ha 14 (by kernel_rfl));simp only[Array.getD_eq_getD_getElem?]at e14;have u16:=hI.1.2.2.1.2.unlisted hl (j:=16) (by kernel_rfl);have tQ:=hI.2.1 u16;have u18:=hI.1.2.2.1.2.unlisted u16 (j:=18) (by kernel_rfl);have K9:=hI.2.2 u18;have dJ:=K9.lt;obtain⟨a2,c2,Kf⟩:=Qea hp.1;subst Kf;go_simp;have Hc:Below wx.heap.size wx (wx.alloc (.cells #[.int .i64 par,.string nm,.slice a2 ps.length c2] 46)):=Bq;have HJ:=hS.new Hc bO;exact hK' _ _ ⟨hI.1.stepL Qqe 15 34 rfl (by rw[hsz];decide) _ _ rfl Ha HJ (fun j _ u h=>h.new Hc) ⟨_,_,rfl,Holds.new _ _ _,hp.new Hc,by omega,fun e=>Nat.lt_irrefl _ (Qhi tQ.row e)⟩,hI.2.keep 15 (fun h=>h.new Hc) (fun h=>h.fr Hc)⟩
 ·have e1:c.tmps.getD 20 undef=tv:=hI.1.fact 1 20 rfl (Qma Ha 1 (by kernel_rfl));simp only[Array.getD_eq_getD_getElem?]at e1;have f1:c.tmps.getD 20 undef=tv:=hI.1.fact 1 20 rfl (Qma Ha 1 (by kernel_rfl));obtain⟨N,pv,e15,hN,hp,hNt,mz⟩:∃N pv,c.tmps.getD 34 undef=.slice (some ⟨N,0,none⟩) 1 1∧Holds wx N #[.int .i64 par,.string nm,pv] 46∧Qna wx H pv ps∧N≠tB∧tv.ownBlock≠some N:=hI.1.fact 15 34 rfl (Qma Ha 15 (by kernel_rfl));obtain⟨pvs,g1,g2,g3,g4,g5⟩:=hI.2.1 hl;have u18:=hI.1.2.2.1.2.unlisted hl (j:=18) (by kernel_rfl);have K9:=hI.2.2 u18;obtain⟨a2,c2,Kf⟩:=Qea hp.1;subst Kf;obtain⟨i0,hi,Hz,Ho,H4⟩:=info_parts QRg;obtain⟨xa,xc,hxv⟩:=Qea g2;refine step_append_lies _ (by rfl) _ _ _ (by rfl) base 46 i0 _ 3 48 underlying25 hi Hz Ho H4 rfl (by omega) tv T.length (Qpa T pvs) (by exact f1) g2 ⟨N,0,none⟩ 1 1 [.int .i64 par,.string nm,.slice a2 ps.length c2] (by exact e15) (by rfl) (World.news_of_block (cs:=#[.int .i64 par,.string nm,.slice a2 ps.length c2]) (t:=46) (fr:=(0,0)) hN) (by simp[Value.oneCell']) (by omega) (by unfold maxLen;omega) (by omega) hS.2.2.2.2.2.2 wx.heap.size rfl ?_;intro gg cap2 w8 gO Hd gj jw;have qQ:=QIb.more (n:=⟨par,nm,ps⟩) g1 g2 g3 g4 g5 hbH hp mK gO Hd;have HJ:=hS.grow Hd bO (fun q hq=>(g2.lt q hq).1) (Qla g2 hS.1 (by decide)) (Qla g2 K9 (by decide));exact hK' _ _ ⟨hI.1.stepL Qqe 16 35 rfl (by rw[hsz];decide) _ _ rfl Ha HJ (fun j hj u h=>h.grow Hd (Q1a hj hl) (Q1a hj u18) (fun N' hN'=>hN') g2) ⟨_,_,rfl,qQ⟩,⟨(fun h=>absurd rfl (QUd h (by rw[hI.1.2.2.1.1,Q6q];decide))),fun h=>(hI.2.2 (Qja h)).grown Hd (Qla g2 K9 (by decide))⟩⟩
 ·go_simp;exact hK' _ _ ⟨hI.1.stepL Qqe 17 36 rfl (by rw[hsz];decide) _ _ rfl Ha hS (fun _ _ _ h=>h) rfl,hI.2.keep 17 (fun h=>h) (fun h=>h)⟩
 have e17:c.tmps.getD 36 undef=.pointer (some ⟨tB,0,none⟩):=hI.1.fact 17 36 rfl (Qma Ha 17 (by kernel_rfl));simp only[Array.getD_eq_getD_getElem?]at e17;obtain⟨g',c',e16,hr⟩:∃g' c',c.tmps.getD 35 undef=.slice (some ⟨g',0,none⟩) (T.length+1) c'∧Qoc wx base (.slice (some ⟨g',0,none⟩) (T.length+1) c') (T++[(⟨par,nm,ps⟩:Qba)]):=hI.1.fact 16 35 rfl (Qma Ha 16 (by kernel_rfl));simp only[Array.getD_eq_getD_getElem?]at e16;have K9:=hI.2.2 hl;have n0:=K9.cell 0;have n1:=K9.free 0;go_simp;have HJ:=hS.set K9 bO (.slice (some ⟨g',0,none⟩) (T.length+1) c');exact hK' _ _ ⟨hI.1.stepNL 18 rfl _ rfl Ha HJ (fun j hj u h=>h.set K9 (Q1a hj hl)) ⟨_,K9.set 0 _,hr.set K9 (by decide) (by decide) 0 _⟩,⟨(fun h=>absurd ((Qja h).symm.trans (Qma Ha 16 (by kernel_rfl))) (by decide)),(fun h=>absurd rfl (QUd h (by rw[hI.1.2.2.1.1,Q6q];decide)))⟩⟩
theorem QIo(R:Nat→Prop)(lb base:Nat)(v kv:Value)(L:List Qba)(ks:List Nat)(w:World)(h0:0<L.length)(pm:∀k∈ks,k<L.length)(hB:Holds w lb #[v] 25)(hL:Qoa R w v L)
 (Hn:w.ownsRow base 3 1 kv ks.length (Qra ks)) (hR:∀g,kv.ownBlock=some g→¬R g∧g≠lb) (hlen:ks.length≤1000) :
 Calls prog 77 #[kv,.func (.func 78) #[] #[.pointer (some ⟨lb,0,none⟩)]] w fun e w'=>
  e=.returned (.tuple #[])∧∃ks':List Nat,ks'.Perm ks∧ks'.Pairwise (fun a b=>ltS (Qya L b) (Qya L a)=false)∧w'.ownsRow base 3 1 kv ks.length (Qra ks')∧Qaa (fun i=>kv.ownBlock=some i) w w':=by
 obtain⟨fs,rfl⟩:∃fs:List (Fin L.length),fs.map Fin.val=ks:=⟨ks.pmap (fun k h=>⟨k,h⟩) pm,by simp[List.map_pmap]⟩;have hc:∀l:List (Fin L.length),Qra (l.map Fin.val)=l.map (Q8q L.length):=fun l=>by simp[Qra,Q8q,Function.comp_def]
 rw[hc,List.length_map]at Hn;refine(QZj R lb base v kv L fs w h0 hB hL Hn hR (by simpa using hlen)).mono ?_;rintro e w' ⟨he,ks',h1,h2,h3,h4⟩;refine⟨he,ks'.map Fin.val,h1.map _,?_,?_,h4⟩
 ·rw[List.pairwise_map];exact h2
 rw[hc,List.length_map];exact h3
def fnV(tB pB lB cB vB:Nat):Value:=.func (.func 75) #[] #[.pointer (some ⟨tB,0,none⟩),.pointer (some ⟨pB,0,none⟩),.pointer (some ⟨lB,0,none⟩),.pointer (some ⟨cB,0,none⟩),.pointer (some ⟨vB,0,none⟩)]
def KOk(L:List Qba)(K:Nat→List Nat):Prop:=∀p,p<L.length→(K p).Perm (QEa L p)
def Qyl(base:Nat)(cs:Array Value)(n:Nat)(K:Nat→List Nat)(w:World):Prop:=∀p,p<n→w.ownsRow base 3 1 (cs.getD p undef) (K p).length (Qra (K p))
def QXu(cs:Array Value)(n gP:Nat):Prop:=cs.size=n∧(∀p q,p<n→q<n→p≠q→∀g,(cs.getD p undef).ownBlock=some g→(cs.getD q undef).ownBlock≠some g)∧∀p g,p<n→(cs.getD p undef).ownBlock=some g→g≠gP
def Qru(L:List Qba)(base tB pB lB cB vB gP gC:Nat)(lv:Value)(cs:Array Value)(w:World):Prop:=
 base≤w.heap.size∧Holds w lB #[lv] 25∧Qoa (fun g=>g<base) w lv L∧Holds w pB #[.slice (some ⟨gP,0,none⟩) L.length L.length] 22∧
  Holds w cB #[.slice (some ⟨gC,0,none⟩) L.length L.length] 108∧Holds w gC cs 22∧Holds w vB #[fnV tB pB lB cB vB] 109
def Quf(gP n:Nat)(pre:List Nat)(w:World):Prop:=∃l:List Nat,l.length=n∧Holds w gP (Qud l) 3∧∀q (h:q<pre.length),l.getD pre[q] 0=q
def QTt(L:List Qba)(base tB pB lB cB vB gP gC:Nat)(lv:Value)(cs:Array Value)(pre:List Nat)(K:Nat→List Nat)(w:World):Prop:=
 Qru L base tB pB lB cB vB gP gC lv cs w∧(∃tv,Holds w tB #[tv] 27∧Qoc w base tv (pre.map (Q6b L)))∧Quf gP L.length pre w∧Qyl base cs L.length K w
section
variable{L:List Qba}{base tB pB lB cB vB gP gC:Nat}{lv:Value}{cs:Array Value}{w w':World}{S:Nat→Prop}
theorem Qru.keeps(h:Qru L base tB pB lB cB vB gP gC lv cs w)(k:Qaa S w w')(hS:∀b,S b→base≤b∧(w.heap.size≤b∨∃xs t,Holds w b xs t∧t≠25∧t≠22∧t≠108∧t≠109)):Qru L base tB pB lB cB vB gP gC lv cs w':=by
 obtain⟨h0,h1,h2,h3,h4,h5,h6⟩:=h;have key:∀{b:Nat} {xs:Array Value} {t:TypeId},Holds w b xs t→(t=25∨t=22∨t=108∨t=109)→Holds w' b xs t:=by
  intro b xs t hb ht;refine hb.keeps k (fun e=>?_);rcases(hS b e).2 with h|⟨ys,u,hu,n1,n2,n3,n4⟩
  ·have:=hb.lt;omega
  have:t=u:=by
   have:=hb.symm.trans hu;injection this with this;injection this with _ this
  subst this;rcases ht with rfl|rfl|rfl|rfl
  ·exact n1 rfl
  ·exact n2 rfl
  ·exact n3 rfl
  exact n4 rfl
 exact⟨Nat.le_trans h0 k.size,key h1 (.inl rfl),h2.keeps k (fun q hq e=>by have:=(hS q e).1;omega),key h3 (.inr (.inl rfl)),key h4 (.inr (.inr (.inl rfl))),key h5 (.inr (.inl rfl)),key h6 (.inr (.inr (.inr rfl)))⟩
theorem Quf.keeps{n:Nat}{pre:List Nat}(h:Quf gP n pre w)(k:Qaa S w w')(hS:¬S gP):Quf gP n pre w':=by
 obtain⟨l,h1,h2,h3⟩:=h;exact⟨l,h1,h2.keeps k hS,h3⟩
theorem Qyl.keeps{n:Nat}{K:Nat→List Nat}(h:Qyl base cs n K w)(k:Qaa S w w')(hS:∀p g,p<n→(cs.getD p undef).ownBlock=some g→¬S g):Qyl base cs n K w':=fun p hp=>
 Qca (h p hp) k (fun g hg=>hS p g hp hg)
theorem Quf.put{n:Nat}{pre:List Nat}{i:Nat}(h:Quf gP n pre w)(hi:i<n)(hn:i ∉ pre):(∃x:Int,w.cell? ⟨gP,i,none⟩=some (.int .i64 x))∧w.frozen? ⟨gP,i,none⟩=false∧Quf gP n (pre++[i]) (w.setCell ⟨gP,i,none⟩ (.int .i64 (pre.length:Int))):=by
 obtain⟨l,h1,h2,h3⟩:=h;refine⟨⟨_,(h2.cell i).trans (QUh l i (by omega))⟩,h2.free i,l.set i pre.length,by simpa using h1,?_,?_⟩
 ·rw[←Q0i];exact h2.set i _
 intro q hq;by_cases e:q<pre.length
 ·rw[List.getElem_append_left e];have Hl:i≠pre[q]:=fun x=>hn (by rw[x];exact List.getElem_mem e);have:=h3 q e;simp only[List.getD_eq_getElem?_getD,List.getElem?_set_ne Hl]at this ⊢;exact this
 have KI:q=pre.length:=by simp at hq;omega
 subst KI;simp[List.getD_eq_getElem?_getD,h1,hi]
end
def QYs(L:List Qba)(base tB pB lB cB vB gP gC:Nat)(lv:Value)(cs:Array Value)(f:Nat):Prop:=
 ∀(i:Nat) (pre post:List Nat) (par:Int) (K:Nat→List Nat) (w:World),i<L.length→L.length≤i+f→Qgb L=pre++QZa L f i++post→par=(Q6b L i).parent→KOk L K→QTt L base tB pB lB cB vB gP gC lv cs pre K w→
  Calls prog 75 #[.int .i64 i,.int .i64 par,.pointer (some ⟨tB,0,none⟩),.pointer (some ⟨pB,0,none⟩),.pointer (some ⟨lB,0,none⟩),.pointer (some ⟨cB,0,none⟩),.pointer (some ⟨vB,0,none⟩)] w
   fun e w'=>e=.returned (.tuple #[])∧∃K',KOk L K'∧(∀q,q ∉ QZa L f i→K' q=K q)∧QTt L base tB pB lB cB vB gP gC lv cs (pre++QZa L f i) K' w'∧Below base w w'
theorem QKo(L:List Qba)(base tB pB lB cB vB gP gC:Nat)(lv:Value)(cs:Array Value)(hS:QUc L)(hD:Dis L)(hn:L.length≤1000)(gz:∀n∈L,n.props.length≤1000)(Hw:QXu cs L.length gP)
 (ht:base≤tB) (hp:base≤gP):∀f,QYs L base tB pB lB cB vB gP gC lv cs f:=by
 intro f
 induction f with
 | zero=>intro i pre post par K w hi hf;omega
 | succ f ih=>
  intro i pre post par K w hi hf Jr Gv hK hV;have IH:=hid ih;clear ih;obtain⟨hR,⟨tv,hZ,hT⟩,hP,cJ⟩:=hV;obtain⟨Jc,lh⟩:=Qec hS.2.1 hS.1;have ja:=QMc lh;have KF:i ∉ pre:=by
   intro hm;rw[Jr,List.append_assoc]at ja;exact(List.nodup_append.1 ja).2.2 i hm i (by simp[QZa]) rfl
  have hlen:pre.length<L.length:=by
   have h1:=QYc hS.2.1 hS.1;rw[Jr]at h1;simp[QZa]at h1;omega
  obtain⟨⟨xq,q0⟩,qf,mF⟩:=hP.put hi KF;obtain⟨Hy,bG,Jy,Jd,dY,dZ,zZ⟩:=id hR;obtain⟨la,lc,rfl,-,-⟩:=Jy.shape;obtain⟨g,o,pa,pc,rfl,hg,c0,c1,c2,aY,-,-,nb0,-,-⟩:=Jy.at i hi;obtain⟨ta,tc,rfl⟩:=Qnc hT.row;have zy:=hid (show(pre.map (Q6b L)).length=pre.length by simp);have p0:=Jd.cell 0;have t0:=hZ.cell 0;have hi':(i:Int)<L.length:=by omega
  have aJ:g<base:=Qbm (R:=fun g=>g<base) Jy hS.1;obtain⟨lp,uU,dB,-⟩:=id hP;have k1:Qaa (· = gP) w (w.setCell ⟨gP,i,none⟩ (.int .i64 (pre.length:Int))):=(Qaa.refl (· = gP) w).setCell (p:=⟨gP,i,none⟩) (Or.inr rfl) _;have Je:=hR.keeps k1 (fun b e=>by subst e;exact⟨hp,Or.inr ⟨_,_,dB,by decide,by decide,by decide,by decide⟩⟩);have Hm:=hZ.keeps k1 (fun e=>QSa hZ dB (by decide) e);have GU:=hT.keeps k1 (fun b e=>by subst e;exact Or.inr ⟨_,_,dB,by decide,by decide⟩);have Gh:=cJ.keeps k1 (fun p q hp hq e=>Hw.2.2 p q hp hq e);have c1':=(k1.cell (p:=⟨g,o+i*3+1,none⟩) (by show g<w.heap.size;omega) (by show ¬g=gP;omega)).trans c1;have c2':=(k1.cell (p:=⟨g,o+i*3+2,none⟩) (by show g<w.heap.size;omega) (by show ¬g=gP;omega)).trans c2;have pN:=aY.keeps k1 (fun q hq e=>by subst e;omega);have Hb:Below base w (w.setCell ⟨gP,i,none⟩ (.int .i64 (pre.length:Int))):=k1.below Hy (fun q hq e=>by subst e;omega);have Gt:=gz L[i] (List.getElem_mem hi);have Kv:-1≤par∧par≤1000:=by
   rw[Gv];unfold Q6b;split
   ·rw[hS.2.2];exact⟨by show(-1:Int)≤-1;omega,by show(-1:Int)≤1000;omega⟩
   have h1:=List.idxOf_le_length (a:=QGb L i) (l:=Qgb L);have h2:=QYc hS.2.1 hS.1;show -1≤(((Qgb L).idxOf (QGb L i):Nat):Int)∧(((Qgb L).idxOf (QGb L i):Nat):Int)≤1000;omega
  have mK:Qcc ⟨par,L[i].name,L[i].props⟩:=⟨nb0,by show _≤par;omega,by show par≤_;omega⟩;have yq:Q6b L i=⟨par,L[i].name,L[i].props⟩:=by rw[Gv];unfold Q6b;rw[QHa hi,Qfb hi]
  have ze:=hid yq;have Mz:=hid Gv;clear yq Gv hP cJ hT hZ hR Jy aY c1 c2 dB uU Jd dY dZ zZ bG;go_enter func75,ntmps75;go_wp2_with fail;generalize bu:w.setCell ⟨gP,i,none⟩ (.int .i64 (pre.length:Int))=w1 at *
  have fZ:=Je.1;refine wp_region_any (by kernel_rfl) ?_;refine QUa (ops':=Qsf 2) (by kernel_rfl) ?_;refine QGm base w1.heap.size tB lB g o L.length lc i par L[i].name L[i].props pa pc _ (pre.map (Q6b L)) w1.drew _ _ rfl ht hi hn (by rw[zy.o];omega) Gt mK rfl rfl rfl rfl ?_ (by exact Hm) (by exact GU.low.new (Below.refl _ _).drew) fZ (Nat.le_refl _) ?_
  ·exact⟨Je.2.1,c1',c2',pN.keeps ((Qaa.refl (fun _=>False) w1).drew) (fun _ _ e=>e),aJ,Qaa.refl _ _,fZ⟩
  intro c w2 v2 gI HJ Hx g8;obtain⟨x19,x20,x21,x22,x23,x24,x25,x26,x27,x28,x29,x30,x31,x32,x33,x34,x35,x36,hc⟩:=gI.ex [19,20,21,22,23,24,25,26,27,28,29,30,31,32,33,34,35,36] (by kernel_rfl);subst hc;simp only[List.setIfInBounds_toArray,List.set_cons_zero,List.set_cons_succ];have k2:Qaa (fun b=>b=tB∨(Value.slice ta (pre.map (Q6b L)).length tc).ownBlock=some b) w1 w2:=((Qaa.refl _ w1).drew).trans HJ.2.2.2.2.2.1 (fun _ _ e=>e);have Hi:∀b,(b=tB∨(Value.slice ta (pre.map (Q6b L)).length tc).ownBlock=some b)→base≤b∧∃xs t,Holds w1 b xs t∧(t=27∨t=46):=by
   rintro b (rfl|e)
   ·exact⟨ht,_,_,Hm,.inl rfl⟩
   obtain⟨q1,cur,q2⟩:=QLd GU.row e;exact⟨q1,_,_,q2,.inr rfl⟩
  have kZ:=Je.keeps k2 (fun b e=>by
   obtain⟨q1,xs,t,q2,q3⟩:=Hi b e;exact⟨q1,Or.inr ⟨xs,t,q2,by rcases q3 with rfl|rfl <;> decide,by rcases q3 with rfl|rfl <;> decide,by rcases q3 with rfl|rfl <;> decide,by rcases q3 with rfl|rfl <;> decide⟩⟩)
  have bI:=mF.keeps k2 (fun e=>by
   obtain⟨_,xs,t,q2,q3⟩:=Hi gP e;obtain⟨l,_,q4,_⟩:=mF;exact QSa q2 q4 (by rcases q3 with rfl|rfl <;> decide) rfl)
  have H3:=Gh.keeps k2 (fun p b bU hb e=>by
   obtain⟨_,xs,t,q2,q3⟩:=Hi b e;obtain⟨_,cur,q4⟩:=Qob (Gh p bU) hb;exact QSa q2 q4 (by rcases q3 with rfl|rfl <;> decide) rfl)
  have Gj:Qoc w2 base v2 ((pre++[i]).map (Q6b L)):=by rw[List.map_append,List.map_singleton,ze.o];exact g8
  have Hc:Below base w w2:=Hb.trans (k2.below fZ (fun b hb e=>by have:=(Hi b e).1;omega));clear gI HJ g8 Je Hm GU mF Gh k2 Hi Hb k1 c1' c2' pN Gt mK p0 t0 q0 qf Kv;obtain⟨ia,Jb,cM,cQ,j9,Ja,tW⟩:=id kZ;have d0:=j9.cell 0;have Hn:=H3 i hi;obtain⟨ka,kc,ri⟩:=Qea Hn;have KY:w2.cell? ⟨gC,i,none⟩=some (cs.getD i undef):=(Ja.cell i).trans (by simp[Array.getD_eq_getD_getElem?,Hw.1,hi]);rw[ri]at KY;have iW:=hid ri;have pm:∀k∈K i,k<L.length:=fun k hk=>((QHc L i k).1 ((hK i hi).mem_iff.1 hk)).1;have KP:(K i).length≤1000:=by
   rw[(hK i hi).length_eq];have:=QNh L i L.length;unfold QEa;omega
  have Hv:∀q,(cs.getD i undef).ownBlock=some q→¬q<base∧q≠lB:=fun q hq=>by
   obtain⟨q1,cur,q2⟩:=Qob Hn hq;exact⟨by omega,QSa q2 Jb (by decide)⟩
  have bm:=QIo (fun q=>q<base) lB base _ _ L (K i) w2 hS.1 pm Jb cM Hn Hv KP;rw[ri]at bm;have dU:=hid bm;clear ri pm bm;go_wp2_with fail;refine(dU.o).mono ?_;rintro e w3 ⟨rfl,ks,bU,Kj,kH,GH⟩;have uM:=Q2l hD (bU.trans (hK i hi)) Kj;subst uM;have aP:∀b,(Value.slice ka (K i).length kc).ownBlock=some b→base≤b∧∃cur,Holds w2 b cur 3:=fun b e=>Qob (H3 i hi) (by rw[iW.o];exact e);have Jf:=kZ.keeps GH (fun b e=>by
   obtain⟨q1,cur,q2⟩:=aP b e;exact⟨q1,Or.inr ⟨_,_,q2,by decide,by decide,by decide,by decide⟩⟩)
  have gf:=Hx.keeps GH (fun e=>by
   obtain⟨_,cur,q2⟩:=aP tB e;exact QSa q2 Hx (by decide) rfl)
  have Mn:=Gj.keeps GH (fun b e=>by
   obtain⟨_,cur,q2⟩:=aP b e;exact Or.inr ⟨_,_,q2,by decide,by decide⟩)
  have bJ:=bI.keeps GH (fun e=>Hw.2.2 i gP hi (by rw[iW.o];exact e) rfl);have H9:Qyl base cs L.length (fun q=>if q=i then QEa L i else K q) w3:=by
   intro p hp';by_cases e:p=i
   ·subst e
    dsimp only
    rw[if_pos rfl];have hl:=bU.length_eq;rw[iW.o,hl];exact kH
   dsimp only
   rw[if_neg e];exact Qca (H3 p hp') GH (fun b hb Hc=>Hw.2.1 p i hp' hi e b hb (by rw[iW.o];exact Hc))
  have lf:KOk L (fun q=>if q=i then QEa L i else K q):=by
   intro p hp';by_cases e:p=i
   ·subst e;simp
   simp only[if_neg e];exact hK p hp'
  have Hg:Below base w w3:=Hc.trans (GH.below ia (fun b hb e=>by have:=(aP b e).1;omega));have ro:(QEa L i).length=(K i).length:=bU.length_eq;clear kH GH aP kZ Hx Gj bI H3 Hc bU Kj Jb cM cQ j9 Ja tW KY d0 Hv Hn dU;obtain⟨mI,tH,tI,tM,nQ,nR,tX⟩:=id Jf;have d0:=nQ.cell 0;have KY:w3.cell? ⟨gC,i,none⟩=some (cs.getD i undef):=(nR.cell i).trans (by simp[Array.getD_eq_getD_getElem?,Hw.1,hi]);rw[iW.o]at KY;have wu:=hid ro;generalize hm:(K i).length=m at *
  have HM:=hid hm;clear hm ro;clear tH tI tM nQ nR tX;go_wp2_with fail;go_loopg [48] m (fun z x wr=>∃(j:Nat) (K2:Nat→List Nat),x=.int .i64 j∧j≤m∧m≤j+z∧KOk L K2∧K2 i=QEa L i∧(∀q,q ∉ QZa L (f+1) i→K2 q=K q)∧QTt L base tB pB lB cB vB gP gC (.slice (some ⟨g,o,none⟩) L.length lc) cs (pre++[i]++((QEa L i).take j).flatMap (QZa L f)) K2 wr∧Below base w wr)
  case atStart=>
   refine⟨0,_,rfl,by omega,by omega,lf,by simp,fun q hq=>?_,?_,Hg⟩
   ·rw[if_neg (fun e=>hq (by subst e;simp[QZa]))]
   simp only[List.take_zero,List.flatMap_nil,List.append_nil];exact⟨Jf,⟨_,gf,Mn⟩,bJ,H9⟩
  case round=>
   clear lf Jf gf Mn bJ H9 Hg KY d0;obtain⟨j,K2,rfl,uI,hjz,lf,xB,tG,fS,mQ⟩:=hrel;by_cases hj:j<m
   ·have hj':(j:Int)<m:=by omega
    have kX:j<(QEa L i).length:=by rw[wu.o];exact hj
    obtain⟨km1,km2,km3⟩:=(QHc L i _).1 (List.getElem_mem kX);have br:(QEa L i)=(QEa L i).take j++(QEa L i)[j]::(QEa L i).drop (j+1):=by
     rw[List.getElem_cons_drop,List.take_append_drop]
    have jU:(QEa L i).take (j+1)=(QEa L i).take j++[(QEa L i)[j]]:=List.take_succ_eq_append_getElem kX;have mC:L.length≤(QEa L i)[j]+f:=by
     have h1:=(hS.2.1 _ km2 km1).2;rw[km3]at h1;omega
    have Av:=QRn hS.2.1 hi (List.getElem_mem kX) mC;obtain⟨xJ,-,-,xC⟩:=id fS;have MO:=xC i hi;rw[xB]at MO;obtain⟨og,oc,eK,-,-⟩:=MO.form (by omega);rw[eK]at MO;have q9:=MO.cellAt j (by omega);rw[show(Qra (QEa L i))[j]? = some (.int .i64 ((QEa L i)[j]:Int))from by simp[Qra,kX]]at q9;have jv:=iW.o.symm.trans eK;simp only[Value.slice.injEq]at jv;obtain⟨rfl,-,-⟩:=jv;have lP:=xJ.2.2.2.2.2.2.cell 0;have eL:Qgb L=(pre++[i]++((QEa L i).take j).flatMap (QZa L f))++QZa L f (QEa L i)[j]++(((QEa L i).drop (j+1)).flatMap (QZa L f)++post):=by
     rw[Jr];have Ak:(QEa L i).flatMap (QZa L f)=((QEa L i).take j).flatMap (QZa L f)++(QZa L f (QEa L i)[j]++((QEa L i).drop (j+1)).flatMap (QZa L f)):=by
      rw[←List.flatMap_cons,←List.flatMap_append,←br]
     show pre++(i::(QEa L i).flatMap (QZa L f))++post=_;rw[Ak];simp only[List.append_assoc,List.cons_append,List.nil_append]
    have eN:(pre.length:Int)=(Q6b L (QEa L i)[j]).parent:=by
     unfold Q6b;rw[if_neg (by omega),QGj km3,Qdt (pre:=pre) (post:=(QEa L i).flatMap (QZa L f)++post) (by rw[Jr];simp[QZa]) ja]
    have gA:=IH.o (QEa L i)[j] _ _ (pre.length:Int) K2 wr km1 mC eL eN lf fS;have HC:=hid gA;have pZ:pre++[i]++((QEa L i).take (j+1)).flatMap (QZa L f)=(pre++[i]++((QEa L i).take j).flatMap (QZa L f))++QZa L f (QEa L i)[j]:=by
     rw[jU,List.flatMap_append];simp[List.append_assoc]
    have eH:∀q,q ∉ QZa L (f+1) i→q ∉ QZa L f (QEa L i)[j]:=fun q hq KI=>hq (by
     show q∈i::(QEa L i).flatMap (QZa L f);exact List.mem_cons_of_mem _ (List.mem_flatMap.2 ⟨_,List.getElem_mem kX,KI⟩))
    have sI:=hid pZ;have Ju:=hid eH;clear gA pZ eH eL eN br jU xC xJ MO eK;generalize(QEa L i)[j]=kk at *
    unfold fnV at lP;go_wp2_with fail;refine HC.o.mono ?_;rintro e w5 ⟨rfl,K3,nY,fM,oA,H5⟩;have Hp:QTt L base tB pB lB cB vB gP gC (.slice (some ⟨g,o,none⟩) L.length lc) cs (pre++[i]++((QEa L i).take (j+1)).flatMap (QZa L f)) K3 w5∧Below base w w5∧K3 i=QEa L i∧∀q,q ∉ QZa L (f+1) i→K3 q=K q:=
     ⟨by rw[sI.o];exact oA,mQ.trans H5,(fM i Av).trans xB,fun q hq=>(fM q (Ju.o q hq)).trans (tG q hq)⟩
    have HF:=hid Hp;have sd:=hid nY;clear Hp oA fM nY H5 lP HC q9;go_wp2_with fail;go_roundg (m-j-1)
    case measure=>omega
    case rel=>exact⟨j+1,K3,by go_num,by omega,by omega,sd.o,HF.o.2.2.1,HF.o.2.2.2,HF.o.1,HF.o.2.1⟩
   have o8:j=m:=by omega
   have Ha:pre++[i]++((QEa L i).take j).flatMap (QZa L f)=pre++QZa L (f+1) i:=by
    rw[o8,←wu.o,List.take_length];show _=pre++(i::(QEa L i).flatMap (QZa L f));simp[List.append_assoc]
   rw[Ha]at fS;have zz:=hid fS;have yW:=hid tG;have yV:=hid lf;clear fS Ha tG lf o8;go_wp2_with fail
   go_end0
   exact⟨rfl,K2,yV.o,yW.o,zz.o,mQ⟩
noncomputable def Qqf(n:Nat):Array Oper:=(QPa (Tryz.f38.body.getD .skip) n).getD #[]
theorem Qav:Q0b .any (Qqf 6)=true:=by kernel_rfl
theorem Q6g:QRb (Qqf 6)=true:=by kernel_rfl
theorem QNp:(Qqf 6).size=13:=by kernel_rfl
theorem QBu:(prog.info? 3).map (fun i=>(i.zero,i.size,i.bytes))=some (some (.int .i64 0),1,8):=by kernel_rfl
def QMo(base cB nB gC n p _ _:Nat)(nm:ByteArray)(pv kv:Value)(_:Array Value)(_:List Nat)(W w:World):Prop:=
 Holds w cB #[.slice (some ⟨gC,0,none⟩) n n] 108∧Holds w nB #[.int .i64 p,.string nm,pv] 46∧Qaa (fun b=>b=gC∨kv.ownBlock=some b) W w∧base≤w.heap.size
def Qpu(base gC:Nat)(kv:Value)(cs:Array Value)(xs:List Nat)(l:Array Bool)(w:World):Prop:=
 (l.getD 10 false=false→w.ownsRow base 3 1 kv xs.length (Qra xs))∧(l.getD 12 false=false→Holds w gC cs 22)
theorem Qpu.keep{base gC:Nat}{kv:Value}{cs:Array Value}{xs:List Nat}{l:Array Bool}{w w':World}(h:Qpu base gC kv cs xs l w)(i:Nat)(h1:w.ownsRow base 3 1 kv xs.length (Qra xs)→w'.ownsRow base 3 1 kv xs.length (Qra xs))(h2:Holds w gC cs 22→Holds w' gC cs 22):Qpu base gC kv cs xs (l.setIfInBounds i true) w':=
 ⟨fun e=>h1 (h.1 (Qja e)),fun e=>h2 (h.2 (Qja e))⟩
def Qvn(base _ nB gC n p i H:Nat)(_:ByteArray)(_ kv:Value)(cs:Array Value)(xs:List Nat)(j:Nat):Value→World→Prop:=match j with
 | 0=>fun u _=>u=.slice (some ⟨gC,0,none⟩) n n
 | 1=>fun u _=>u=.pointer (some ⟨nB,0,none⟩)
 | 2=>fun u _=>u=.int .i64 p
 | 3=>fun u _=>u=.slice (some ⟨gC,0,none⟩) n n
 | 4=>fun u _=>u=.pointer (some ⟨nB,0,none⟩)
 | 5=>fun u _=>u=.int .i64 p
 | 6=>fun u _=>u=.pointer (some ⟨gC,p,none⟩)
 | 7=>fun u _=>u=kv
 | 8=>fun u _=>u=.int .i64 i
 | 9=>fun u w=>∃N,u=.slice (some ⟨N,0,none⟩) 1 1∧Holds w N #[.int .i64 i] 3∧kv.ownBlock≠some N
 | 10=>fun u w=>∃g' c',u=(.slice (some ⟨g',0,none⟩) (xs.length+1) c')∧w.ownsRow base 3 1 (.slice (some ⟨g',0,none⟩) (xs.length+1) c') (xs.length+1) (Qra (xs++[i]))∧(kv.ownBlock=some g'∨H≤g')
 | 11=>fun u _=>u=.pointer (some ⟨gC,p,none⟩)
 | 12=>fun _ w=>∃g' c',Holds w gC (cs.setIfInBounds p (.slice (some ⟨g',0,none⟩) (xs.length+1) c')) 22∧w.ownsRow base 3 1 (.slice (some ⟨g',0,none⟩) (xs.length+1) c') (xs.length+1) (Qra (xs++[i]))∧(kv.ownBlock=some g'∨H≤g')
 | _=>fun _ _=>True
section
variable{base cB nB gC n p i H:Nat}{nm:ByteArray}{pv kv:Value}{cs:Array Value}{xs:List Nat}
theorem QMo.new{W w w':World}(h:QMo base cB nB gC n p i H nm pv kv cs xs W w)(k:Below w.heap.size w w'):QMo base cB nB gC n p i H nm pv kv cs xs W w':=by
 have kk:=Qaa.of_fresh k (fun _=>False);exact⟨h.1.keeps kk (fun e=>e),h.2.1.keeps kk (fun e=>e),h.2.2.1.trans kk (fun _ _ e=>e.elim),Nat.le_trans h.2.2.2 k.size⟩
theorem QMo.grow{W w w':World}(h:QMo base cB nB gC n p i H nm pv kv cs xs W w)(k:w.grownBy w' kv.ownBlock)(h1:kv.ownBlock≠some cB)(h2:kv.ownBlock≠some nB):QMo base cB nB gC n p i H nm pv kv cs xs W w':=by
 have kk:Qaa (fun b=>kv.ownBlock=some b) w w':=Qaa.of_grown k (fun _ e=>e);exact⟨h.1.keeps kk h1,h.2.1.keeps kk h2,h.2.2.1.trans kk (fun _ _ e=>Or.inr e),Nat.le_trans h.2.2.2 kk.size⟩
theorem QMo.set{W w:World}(h:QMo base cB nB gC n p i H nm pv kv cs xs W w)(hz:Holds w gC cs 22)(v:Value):QMo base cB nB gC n p i H nm pv kv cs xs W (w.setCell ⟨gC,p,none⟩ v):=by
 have kk:Qaa (· = gC) w (w.setCell ⟨gC,p,none⟩ v):=(Qaa.refl (· = gC) w).setCell (p:=⟨gC,p,none⟩) (Or.inr rfl) v;exact⟨h.1.keeps kk (QSa h.1 hz (by decide)),h.2.1.keeps kk (QSa h.2.1 hz (by decide)),h.2.2.1.trans kk (fun _ _ e=>Or.inl e),Nat.le_trans h.2.2.2 kk.size⟩
theorem Qvn.new{w w':World}{j:Nat}{u:Value}(h:Qvn base cB nB gC n p i H nm pv kv cs xs j u w)(k:Below w.heap.size w w'):Qvn base cB nB gC n p i H nm pv kv cs xs j u w':=by
 unfold Qvn at *
 have kk:=Qaa.of_fresh k (fun _=>False);split at h
 all_goals first
  | exact h
  | (obtain⟨N,e,hN,r⟩:=h;exact⟨N,e,hN.keeps kk (fun e=>e),r⟩)
  | (obtain⟨g',c',e,hr,r⟩:=h;exact⟨g',c',e,Qbb hr k,r⟩)
  | (obtain⟨g',c',hz,hr,r⟩:=h;exact⟨g',c',hz.keeps kk (fun e=>e),Qbb hr k,r⟩)
theorem Qvn.grow{w w':World}{j:Nat}{u:Value}(h:Qvn base cB nB gC n p i H nm pv kv cs xs j u w)(k:w.grownBy w' kv.ownBlock)(gR:j≠10)(MC:j≠12):Qvn base cB nB gC n p i H nm pv kv cs xs j u w':=by
 unfold Qvn at *
 split at h
 all_goals first
  | exact absurd rfl gR
  | exact absurd rfl MC
  | exact h
  | (obtain⟨N,e,hN,r⟩:=h;exact⟨N,e,hN.grown k r,r⟩)
theorem Qvn.set{w:World}{j:Nat}{u v:Value}(h:Qvn base cB nB gC n p i H nm pv kv cs xs j u w)(hz:Holds w gC cs 22)(MC:j≠12):Qvn base cB nB gC n p i H nm pv kv cs xs j u (w.setCell ⟨gC,p,none⟩ v):=by
 unfold Qvn at *
 split at h
 all_goals first
  | exact absurd rfl MC
  | exact h
  | (obtain⟨N,e,hN,r⟩:=h;exact⟨N,e,hN.other _ _ (QSa hN hz (by decide)),r⟩)
  | (obtain⟨g',c',e,hr,r⟩:=h;exact⟨g',c',e,Qvc hr hz (by decide) p v,r⟩)
end
theorem Q1l{Q:Exit→Act→World→Prop}(base cB nB gC n p i H:Nat)(nm:ByteArray)(pv kv:Value)(cs:Array Value)(xs:List Nat)(W w:World)(A:Act)(hsz:A.tmps.size=41)(mD:p<n)(MW:xs.length≤1000)(hH:H≤W.heap.size)(kU:cs[p]? = some kv)
 (a4:A.tmps.getD 4 undef=.pointer (some ⟨cB,0,none⟩)) (a5:A.tmps.getD 5 undef=.int .i64 i) (a6:A.tmps.getD 6 undef=.pointer (some ⟨nB,0,none⟩))
 (hS:QMo base cB nB gC n p i H nm pv kv cs xs W w) (hZ:Holds w gC cs 22) (hR:w.ownsRow base 3 1 kv xs.length (Qra xs))
 (hQ:∀c w' g' c',Qpb (Qqf 6) A c→QMo base cB nB gC n p i H nm pv kv cs xs W w'→Holds w' gC (cs.setIfInBounds p (.slice (some ⟨g',0,none⟩) (xs.length+1) c')) 22→w'.ownsRow base 3 1 (.slice (some ⟨g',0,none⟩) (xs.length+1) c') (xs.length+1) (Qra (xs++[i]))→(kv.ownBlock=some g'∨H≤g')→Q .normal c w') :
 wpAny prog .any (Qqf 6) Q (Qqf 6).size (Array.replicate (Qqf 6).size false) A w:=by
 refine QNa (fun l c wx=>QCd (Qqf 6) A (Qvn base cB nB gC n p i H nm pv kv cs xs) (QMo base cB nB gC n p i H nm pv kv cs xs W) l c wx∧Qpu base gC kv cs xs l wx) Qav ?hend ?Hk _ _ _ _ (by simp) (by simp) ⟨QCd.start hS,fun _=>hR,fun _=>hZ⟩
 case hend=>
  intro l c wx hI hl;obtain⟨g',c',h1,h2,h3⟩:=hI.1.2.2.2 12 (by rw[QNp];decide) (hl 12 (by rw[QNp];decide));exact hQ c wx g' c' hI.1.1 hI.1.2.1 h1 h2 h3
 intro l c wx hI i' op ho hl Ha K' hK';have Jl:i'<13:=by rw[←QNp];exact(Array.getElem?_eq_some_iff.1 ho).1
 simp only[Qqf,QPa,Tryz.f38,Option.getD_some,reduceIte,Nat.reduceEqDiff]at ho;have hS:=hI.1.2.1;have uE:(p:Int)<n:=by omega
 have im:(0:Int)≤p:=by omega
 have s4:=(hI.1.slot 4 (by kernel_rfl)).trans a4;have s5:=(hI.1.slot 5 (by kernel_rfl)).trans a5;have s6:=(hI.1.slot 6 (by kernel_rfl)).trans a6;simp only[Array.getD_eq_getD_getElem?]at s4 s5 s6;have GB:i'=0∨i'=1∨i'=2∨i'=3∨i'=4∨i'=5∨i'=6∨i'=7∨i'=8∨i'=9∨i'=10∨i'=11∨i'=12:=by omega
 rcases GB with rfl|rfl|rfl|rfl|rfl|rfl|rfl|rfl|rfl|rfl|rfl|rfl|rfl
 all_goals cases ho
 ·have hX:=hS.1.cell 0;go_simp;exact hK' _ _ ⟨hI.1.stepL Q6g 0 20 rfl (by rw[hsz];decide) _ _ rfl Ha hS (fun _ _ _ h=>h) rfl,hI.2.keep 0 (fun h=>h) (fun h=>h)⟩
 ·go_simp;exact hK' _ _ ⟨hI.1.stepL Q6g 1 21 rfl (by rw[hsz];decide) _ _ rfl Ha hS (fun _ _ _ h=>h) rfl,hI.2.keep 1 (fun h=>h) (fun h=>h)⟩
 ·have f1:c.tmps.getD 21 undef=.pointer (some ⟨nB,0,none⟩):=hI.1.fact 1 21 rfl (Qma Ha 1 (by kernel_rfl));have e1:=gE f1;have hX:=hS.2.1.cell 0;go_simp;exact hK' _ _ ⟨hI.1.stepL Q6g 2 22 rfl (by rw[hsz];decide) _ _ rfl Ha hS (fun _ _ _ h=>h) rfl,hI.2.keep 2 (fun h=>h) (fun h=>h)⟩
 ·have hX:=hS.1.cell 0;go_simp;exact hK' _ _ ⟨hI.1.stepL Q6g 3 23 rfl (by rw[hsz];decide) _ _ rfl Ha hS (fun _ _ _ h=>h) rfl,hI.2.keep 3 (fun h=>h) (fun h=>h)⟩
 ·go_simp;exact hK' _ _ ⟨hI.1.stepL Q6g 4 24 rfl (by rw[hsz];decide) _ _ rfl Ha hS (fun _ _ _ h=>h) rfl,hI.2.keep 4 (fun h=>h) (fun h=>h)⟩
 ·have f4:c.tmps.getD 24 undef=.pointer (some ⟨nB,0,none⟩):=hI.1.fact 4 24 rfl (Qma Ha 4 (by kernel_rfl));have e4:=gE f4;have hX:=hS.2.1.cell 0;go_simp;exact hK' _ _ ⟨hI.1.stepL Q6g 5 25 rfl (by rw[hsz];decide) _ _ rfl Ha hS (fun _ _ _ h=>h) rfl,hI.2.keep 5 (fun h=>h) (fun h=>h)⟩
 ·have f3:c.tmps.getD 23 undef=.slice (some ⟨gC,0,none⟩) n n:=hI.1.fact 3 23 rfl (Qma Ha 3 (by kernel_rfl));have e3:=gE f3;have f5:c.tmps.getD 25 undef=.int .i64 p:=hI.1.fact 5 25 rfl (Qma Ha 5 (by kernel_rfl));have e5:=gE f5;go_simp;exact hK' _ _ ⟨hI.1.stepL Q6g 6 26 rfl (by rw[hsz];decide) _ _ rfl Ha hS (fun _ _ _ h=>h) rfl,hI.2.keep 6 (fun h=>h) (fun h=>h)⟩
 ·have f6:c.tmps.getD 26 undef=.pointer (some ⟨gC,p,none⟩):=hI.1.fact 6 26 rfl (Qma Ha 6 (by kernel_rfl));have e6:=gE f6;have u10:=hI.1.2.2.1.2.unlisted hl (j:=10) (by kernel_rfl);have u12:=hI.1.2.2.1.2.unlisted u10 (j:=12) (by kernel_rfl);have hX:=(hI.2.2 u12).cell p;rw[kU]at hX;go_simp;exact hK' _ _ ⟨hI.1.stepL Q6g 7 27 rfl (by rw[hsz];decide) _ _ rfl Ha hS (fun _ _ _ h=>h) rfl,hI.2.keep 7 (fun h=>h) (fun h=>h)⟩
 ·go_simp;exact hK' _ _ ⟨hI.1.stepL Q6g 8 28 rfl (by rw[hsz];decide) _ _ rfl Ha hS (fun _ _ _ h=>h) rfl,hI.2.keep 8 (fun h=>h) (fun h=>h)⟩
 ·have f8:c.tmps.getD 28 undef=.int .i64 i:=hI.1.fact 8 28 rfl (Qma Ha 8 (by kernel_rfl));have e8:=gE f8;have u10:=hI.1.2.2.1.2.unlisted hl (j:=10) (by kernel_rfl);have MF:=hI.2.1 u10;go_simp;have Hc:Below wx.heap.size wx (wx.alloc (.cells #[.int .i64 i] 3)):=Bq;have HJ:=hS.new Hc;exact hK' _ _ ⟨hI.1.stepL Q6g 9 29 rfl (by rw[hsz];decide) _ _ rfl Ha HJ (fun j _ u h=>h.new Hc) ⟨_,rfl,Holds.new _ _ _,fun e=>Nat.lt_irrefl _ (MF.lt _ e).2⟩,hI.2.keep 9 (fun h=>Qbb h Hc) (fun h=>h.fr Hc)⟩
 ·have f7:c.tmps.getD 27 undef=kv:=hI.1.fact 7 27 rfl (Qma Ha 7 (by kernel_rfl));have e7:=gE f7;obtain⟨N,e9,hN,mz⟩:∃N,c.tmps.getD 29 undef=.slice (some ⟨N,0,none⟩) 1 1∧Holds wx N #[.int .i64 i] 3∧kv.ownBlock≠some N:=hI.1.fact 9 29 rfl (Qma Ha 9 (by kernel_rfl));have g2:=hI.2.1 hl;have u12:=hI.1.2.2.1.2.unlisted hl (j:=12) (by kernel_rfl);have hZ:=hI.2.2 u12;obtain⟨i0,hi,Hz,Ho,H4⟩:=info_parts QBu;have hHs:=hS.2.2.1.size;refine step_append_lies _ (by rfl) _ _ _ (by rfl) base 3 i0 _ 1 8 underlying22 hi Hz Ho H4 rfl (by omega) kv xs.length (Qra xs) (by exact f7) g2 ⟨N,0,none⟩ 1 1 [.int .i64 i] (by exact e9) (by rfl) (World.news_of_block (cs:=#[.int .i64 i]) (t:=3) (fr:=(0,0)) hN) (by simp[Value.oneCell']) (by omega) (by unfold maxLen;omega) (by omega) hS.2.2.2 wx.heap.size rfl ?_;intro gg cap2 w8 gO Hd gj jw;have HJ:=hS.grow Hd (Qla g2 hS.1 (by decide)) (Qla g2 hS.2.1 (by decide));exact hK' _ _ ⟨hI.1.stepL Q6g 10 30 rfl (by rw[hsz];decide) _ _ rfl Ha HJ (fun j hj u h=>h.grow Hd (Q1a hj hl) (Q1a hj u12)) ⟨gg,cap2,rfl,(by simpa[Qra]using gO),gj.imp id (fun e=>by omega)⟩,⟨(fun h=>absurd rfl (QUd h (by rw[hI.1.2.2.1.1,QNp];decide))),fun h=>(hI.2.2 (Qja h)).grown Hd (Qla g2 hZ (by decide))⟩⟩
 ·have f0:c.tmps.getD 20 undef=.slice (some ⟨gC,0,none⟩) n n:=hI.1.fact 0 20 rfl (Qma Ha 0 (by kernel_rfl));have e0:=gE f0;have f2:c.tmps.getD 22 undef=.int .i64 p:=hI.1.fact 2 22 rfl (Qma Ha 2 (by kernel_rfl));have e2:=gE f2;go_simp;exact hK' _ _ ⟨hI.1.stepL Q6g 11 31 rfl (by rw[hsz];decide) _ _ rfl Ha hS (fun _ _ _ h=>h) rfl,hI.2.keep 11 (fun h=>h) (fun h=>h)⟩
 have f11:c.tmps.getD 31 undef=.pointer (some ⟨gC,p,none⟩):=hI.1.fact 11 31 rfl (Qma Ha 11 (by kernel_rfl));have e11:=gE f11;obtain⟨g',c',e10,hr,gj⟩:∃g' c',c.tmps.getD 30 undef=(.slice (some ⟨g',0,none⟩) (xs.length+1) c')∧wx.ownsRow base 3 1 (.slice (some ⟨g',0,none⟩) (xs.length+1) c') (xs.length+1) (Qra (xs++[i]))∧(kv.ownBlock=some g'∨H≤g'):=hI.1.fact 10 30 rfl (Qma Ha 10 (by kernel_rfl));simp only[Array.getD_eq_getD_getElem?]at e10;have hZ:=hI.2.2 hl;have n0:=hZ.cell p;rw[kU]at n0;have n1:=hZ.free p;go_simp;have HJ:=hS.set hZ (.slice (some ⟨g',0,none⟩) (xs.length+1) c');exact hK' _ _ ⟨hI.1.stepNL 12 rfl _ rfl Ha HJ (fun j hj u h=>h.set hZ (Q1a hj hl)) ⟨g',c',hZ.set p _,Qvc hr hZ (by decide) p _,gj⟩,⟨(fun h=>absurd ((Qja h).symm.trans (Qma Ha 10 (by kernel_rfl))) (by decide)),(fun h=>absurd rfl (QUd h (by rw[hI.1.2.2.1.1,QNp];decide)))⟩⟩
end Go.Proofs.YtgaboghigefgbaaGreatDoor
