/- The value of a property is what Of finds, in plain Lean. | Contracts of package tree: region 2 of changed (printed by gchg.py). | Contracts of package tree: changed, and the closure of Set. | Contracts of package tree: the region of Set that looks a property up (printed by gtse.py). | Contracts of package tree: Set. | What Of and Delete of trees compute, in plain Lean. | Overlays, in plain Lean: what Apply computes. | Some of a valid tree's nodes, closed under parents, are a valid tree again (plain; for Remove). | What Remove keeps, in plain Lean. | The plain law of TreeRemoves: paths of a valid tree, and where they are found behind Remove. | A valid tree is known by the names and properties of its nodes (plain). | Contracts of package tree: Remove. | Remove undoes Add (plain). | Taking away what was put (plain; moved out of LocB). | Delete undoes Set (plain). | Trees as sets of paths with properties (plain), and what edits do to them. -/
import Derived.Test.YtgaboghigefgbaaGreatDoorZ35
import Derived.Test.YtgaboghigefgbaaGreatDoorZ1
import Derived.Test.YtgaboghigefgbaaGreatDoorZ25
import Derived.Test.YtgaboghigefgbaaGreatDoorZ38
import Derived.Test.YtgaboghigefgbaaGreatDoorZ39
import Derived.Test.YtgaboghigefgbaaGreatDoorZ13
import Derived.Test.YtgaboghigefgbaaGreatDoorZ33
import Derived.Deep.LoopGhost
open Go
set_option linter.all false
set_option maxHeartbeats 8000000
namespace Go.Proofs.YtgaboghigefgbaaGreatDoor
open Go.Lib (hid)
theorem QMm{a b:ByteArray}(h:ltS a b=true):eqS a b=false:=by
 cases e:eqS a b with
 | false=>rfl
 | true=>rw[(Qxa a b).1 e,Q4a]at h;cases h
theorem QLm{a b:ByteArray}(h:ltS b a=true):eqS a b=false:=by
 cases e:eqS a b with
 | false=>rfl
 | true=>rw[(Qxa a b).1 e,Q4a]at h;cases h
theorem Qyk(x:ByteArray):∀ps:List Qla,(∀j (hj:j<ps.length),j<Qfb ps x→ltS ps[j].name x=true)∧(∀h:Qfb ps x<ps.length,ltS ps[Qfb ps x].name x=false):=by
 intro ps
 induction ps with
 | nil=>exact⟨fun j hj=>absurd hj (Nat.not_lt_zero j),fun h=>absurd h (Nat.not_lt_zero _)⟩
 | cons a l ih=>
  by_cases e:ltS a.name x=true
  ·have hl:Qfb (a::l) x=Qfb l x+1:=by unfold Qfb;rw[List.takeWhile_cons,if_pos e];rfl
   refine⟨fun j hj h=>?_,fun h=>?_⟩
   ·cases j with
    | zero=>exact e
    | succ j=>exact ih.1 j (by simpa using hj) (by omega)
   ·have h2:Qfb l x<l.length:=by rw[hl]at h;simpa using h
    have:=ih.2 h2
    simp only[hl,List.getElem_cons_succ]
    exact this
  ·have hl:Qfb (a::l) x=0:=by unfold Qfb;rw[List.takeWhile_cons,if_neg e];rfl
   refine⟨fun j hj h=>by omega,fun h=>?_⟩
   simp only[hl,List.getElem_cons_zero]
   simpa using e
theorem Qih{ps:List Qla}{x:ByteArray}(ha:Qtd ps=true)(j:Nat)(hj:j<ps.length)(Hm:j≠Qfb ps x∨QKc ps x=false):eqS ps[j].name x=false:=by
 obtain⟨h1,h2⟩:=Qyk x ps
 rcases Nat.lt_trichotomy j (Qfb ps x)with e|e|e
 ·exact QMm (h1 j hj e)
 ·rcases Hm with h|h
  ·exact absurd e h
  ·subst e;rw[Qnk hj]at h;exact h
 ·have hl:Qfb ps x<ps.length:=by omega
  have h3:=QEm ps ha _ j hl hj e
  have h4:=h2 hl
  rcases Qjd h4 with h5|h5
  ·rw[h5]at h3;exact QLm h3
  ·exact QLm (Q3b h5 h3)
theorem Q0t{ps:List Qla}{x:ByteArray}(ha:Qtd ps=true):ofT ps x=if QKc ps x=true then(match ps[Qfb ps x]? with|some p=>p.value|none=>ByteArray.empty,true)else(ByteArray.empty,false):=by
 cases hh:QKc ps x with
 | false=>rw[if_neg (by decide)];exact Q1t (fun j hj _=>Qih ha j hj (.inr hh))
 | true=>
  have hl:Qfb ps x<ps.length:=by
   by_cases e:Qfb ps x<ps.length
   ·exact e
   ·rw[Q2f (by omega)]at hh;cases hh
  rw[if_pos rfl,List.getElem?_eq_getElem hl]
  exact QQp hl (by rw[←Qnk hl];exact hh) (fun j hj h=>Qih ha j hj (.inl (by omega)))
end Go.Proofs.YtgaboghigefgbaaGreatDoor
namespace Go.Proofs.YtgaboghigefgbaaGreatDoor
open Go.Lib (hid)
open Go.RowKit
noncomputable def Qkf(n:Nat):Array Oper:=(QXa (Tryz.f115.body.getD .skip) n).getD #[]
theorem QMu:Qjc .any (Qkf 2)=true:=by kernel_rfl
theorem Qsg:Qbc (Qkf 2)=true:=by kernel_rfl
theorem Q4o:(Qkf 2).size=14:=by kernel_rfl
def QNq(Z gT n cap:Nat)(pv:Value)(W w:World):Prop:=Holds w Z #[.slice (some ⟨gT,0,none⟩) n cap] 27∧Qaa (fun b=>pv.ownBlock=some b∨b=gT) W w
def Qfu(pv:Value)(W:World)(l:Array Bool)(w:World):Prop:=
 (l.getD 10 false=false→Qaa (fun _=>False) W w)∧(l.getD 13 false=false→Qaa (fun b=>pv.ownBlock=some b) W w)
theorem Qfu.keep{pv:Value}{W w w':World}{l:Array Bool}(h:Qfu pv W l w)(i:Nat)(h1:Qaa (fun _=>False) W w→Qaa (fun _=>False) W w')(h2:Qaa (fun b=>pv.ownBlock=some b) W w→Qaa (fun b=>pv.ownBlock=some b) W w'):Qfu pv W (l.setIfInBounds i true) w':=
 ⟨fun e=>h1 (h.1 (Qia e)),fun e=>h2 (h.2 (Qia e))⟩
def Q5r(base Z gT n cap at_ fn:Nat)(caps:Array Value)(pv:Value)(ps2:List Qla)(T2:List Qba)(j:Nat):Value→World→Prop:=match j with
 | 0=>fun u _=>u = .pointer (some ⟨Z,0,none⟩)
 | 1=>fun u _=>u = .slice (some ⟨gT,0,none⟩) n cap
 | 2=>fun u _=>u = .int .i64 at_
 | 3=>fun u _=>u = .func (.func fn) #[] caps
 | 4=>fun u _=>u = .pointer (some ⟨Z,0,none⟩)
 | 5=>fun u _=>u = .slice (some ⟨gT,0,none⟩) n cap
 | 6=>fun u _=>u = .int .i64 at_
 | 7=>fun u _=>u = .pointer (some ⟨gT,at_*3,none⟩)
 | 8=>fun u _=>u = .pointer (some ⟨gT,at_*3+2,none⟩)
 | 9=>fun u _=>u=pv
 | 10=>fun u w=>Qma w base u ps2
 | 11=>fun u _=>u = .pointer (some ⟨gT,at_*3,none⟩)
 | 12=>fun u _=>u = .pointer (some ⟨gT,at_*3+2,none⟩)
 | 13=>fun _ w=>Qda w base (.slice (some ⟨gT,0,none⟩) n cap) T2
 | _=>fun _ _=>True
section
variable{base Z gT n cap at_ fn:Nat}{caps:Array Value}{pv:Value}{ps2:List Qla}{T2:List Qba}
theorem QNq.call{W w w':World}(h:QNq Z gT n cap pv W w)(hZ:pv.ownBlock≠some Z)(k:Qaa (fun b=>pv.ownBlock=some b) w w'):QNq Z gT n cap pv W w':=⟨h.1.keeps k hZ,h.2.trans k (fun _ _ e=>Or.inl e)⟩
theorem QNq.put{W w:World}(h:QNq Z gT n cap pv W w)(hZ:Z≠gT)(v:Value):QNq Z gT n cap pv W (w.setCell ⟨gT,at_*3+2,none⟩ v):=
 ⟨h.1.other _ _ hZ,h.2.trans ((Qaa.refl (fun b=>pv.ownBlock=some b∨b=gT) w).setCell (p:=⟨gT,at_*3+2,none⟩) (Or.inr (Or.inr rfl)) v) (fun _ _ e=>e)⟩
theorem Q5r.call{w w':World}{j:Nat}{u:Value}(h:Q5r base Z gT n cap at_ fn caps pv ps2 T2 j u w)(Gk:j≠10)(jA:j≠13):Q5r base Z gT n cap at_ fn caps pv ps2 T2 j u w':=by
 unfold Q5r at *
 split at h
 all_goals first
  | exact absurd rfl Gk
  | exact absurd rfl jA
  | exact h
theorem Q5r.put{w w':World}{j:Nat}{u:Value}(h:Q5r base Z gT n cap at_ fn caps pv ps2 T2 j u w)(jA:j≠13)(Gk:j≠10):Q5r base Z gT n cap at_ fn caps pv ps2 T2 j u w':=h.call Gk jA
end
set_option maxRecDepth 100000 in
theorem QAl{Q:Exit→Act→World→Prop}(base Z gT n cap at_ fn:Nat)(caps:Array Value)(pv:Value)(ps2:List Qla)(T2:List Qba)(W w:World)(A:Act)(hsz:A.tmps.size=29)(Gp:at_<n)(xJ:pv.ownBlock≠some Z)(hZg:Z≠gT)(iJ:pv.ownBlock≠some gT)(mi:∃cs,Holds W gT cs 46)
 (a1:A.tmps.getD 1 undef = .int .i64 at_) (a2:A.tmps.getD 2 undef = .func (.func fn) #[] caps) (a7:A.tmps.getD 7 undef = .pointer (some ⟨Z,0,none⟩))
 (gE:∀wx,Qaa (fun b=>pv.ownBlock=some b) W wx→wx.cell? ⟨gT,at_*3+2,none⟩=some pv∧wx.frozen? ⟨gT,at_*3+2,none⟩=false)
 (aC:∀args w,(callFunc fn args).run Tryz.prog w = .ok (.enter fn args) w) (gN:Hid (∀wx,Qaa (fun _=>False) W wx→Calls Tryz.prog fn (#[pv]++caps) wx fun e w'=>∃rv,e = .returned rv∧Qma w' base rv ps2∧Qaa (fun b=>pv.ownBlock=some b) wx w'))
 (Kt:∀wx rv,Qma wx base rv ps2→Qaa (fun b=>pv.ownBlock=some b) W wx→Qda (wx.setCell ⟨gT,at_*3+2,none⟩ rv) base (.slice (some ⟨gT,0,none⟩) n cap) T2)
 (hS:QNq Z gT n cap pv W w) (hX:Qaa (fun _=>False) W w)
 (hQ:∀c w',Qrb (Qkf 2) A c→QNq Z gT n cap pv W w'→Qda w' base (.slice (some ⟨gT,0,none⟩) n cap) T2→Q .normal c w') :
 wpAny Tryz.prog .any (Qkf 2) Q (Qkf 2).size (Array.replicate (Qkf 2).size false) A w:=by
 refine QVa (fun l c wx=>Qde (Qkf 2) A (Q5r base Z gT n cap at_ fn caps pv ps2 T2) (QNq Z gT n cap pv W) l c wx∧Qfu pv W l wx) QMu ?hend ?Hk _ _ _ _ (by simp) (by simp) ⟨Qde.start hS,fun _=>hX,fun _=>hX.mono (fun _ _ e=>e.elim)⟩
 case hend=>
  intro l c wx hI hl
  have h1:Qda wx base (.slice (some ⟨gT,0,none⟩) n cap) T2:=hI.1.2.2.2 13 (by rw[Q4o];decide) (hl 13 (by rw[Q4o];decide))
  exact hQ c wx hI.1.1 hI.1.2.1 h1
 clear hX
 intro l c wx hI i' op ho hl Ha K' hK'
 have J9:i'<14:=by rw[←Q4o];exact(Array.getElem?_eq_some_iff.1 ho).1
 simp only[Qkf,QXa,Tryz.f115,Option.getD_some,reduceIte,Nat.reduceEqDiff]at ho
 have hS:=hI.1.2.1
 have pG:(at_:Int)<n:=by omega
 have nG:(0:Int)≤at_:=by omega
 have s1:=(hI.1.slot 1 (by kernel_rfl)).trans a1
 have s2:=(hI.1.slot 2 (by kernel_rfl)).trans a2
 have s7:=(hI.1.slot 7 (by kernel_rfl)).trans a7
 simp only[Array.getD_eq_getD_getElem?]at s1 s2 s7
 have GV:i'=0∨i'=1∨i'=2∨i'=3∨i'=4∨i'=5∨i'=6∨i'=7∨i'=8∨i'=9∨i'=10∨i'=11∨i'=12∨i'=13:=by omega
 rcases GV with rfl|rfl|rfl|rfl|rfl|rfl|rfl|rfl|rfl|rfl|rfl|rfl|rfl|rfl
 all_goals cases ho
 ·go_simp
  exact hK' _ _ ⟨hI.1.stepL Qsg 0 15 rfl (by rw[hsz];decide) _ _ rfl Ha hS (fun _ _ _ h=>h) rfl,hI.2.keep 0 (fun h=>h) (fun h=>h)⟩
 ·have e0:c.tmps.getD 15 undef = .pointer (some ⟨Z,0,none⟩):=hI.1.fact 0 15 rfl (Qka Ha 0 (by kernel_rfl))
  simp only[Array.getD_eq_getD_getElem?]at e0
  have hX:=hS.1.cell 0
  go_simp
  exact hK' _ _ ⟨hI.1.stepL Qsg 1 16 rfl (by rw[hsz];decide) _ _ rfl Ha hS (fun _ _ _ h=>h) rfl,hI.2.keep 1 (fun h=>h) (fun h=>h)⟩
 ·go_simp
  exact hK' _ _ ⟨hI.1.stepL Qsg 2 17 rfl (by rw[hsz];decide) _ _ rfl Ha hS (fun _ _ _ h=>h) rfl,hI.2.keep 2 (fun h=>h) (fun h=>h)⟩
 ·go_simp
  exact hK' _ _ ⟨hI.1.stepL Qsg 3 18 rfl (by rw[hsz];decide) _ _ rfl Ha hS (fun _ _ _ h=>h) rfl,hI.2.keep 3 (fun h=>h) (fun h=>h)⟩
 ·go_simp
  exact hK' _ _ ⟨hI.1.stepL Qsg 4 19 rfl (by rw[hsz];decide) _ _ rfl Ha hS (fun _ _ _ h=>h) rfl,hI.2.keep 4 (fun h=>h) (fun h=>h)⟩
 ·have e4:c.tmps.getD 19 undef = .pointer (some ⟨Z,0,none⟩):=hI.1.fact 4 19 rfl (Qka Ha 4 (by kernel_rfl))
  simp only[Array.getD_eq_getD_getElem?]at e4
  have hX:=hS.1.cell 0
  go_simp
  exact hK' _ _ ⟨hI.1.stepL Qsg 5 20 rfl (by rw[hsz];decide) _ _ rfl Ha hS (fun _ _ _ h=>h) rfl,hI.2.keep 5 (fun h=>h) (fun h=>h)⟩
 ·go_simp
  exact hK' _ _ ⟨hI.1.stepL Qsg 6 21 rfl (by rw[hsz];decide) _ _ rfl Ha hS (fun _ _ _ h=>h) rfl,hI.2.keep 6 (fun h=>h) (fun h=>h)⟩
 ·have e5:c.tmps.getD 20 undef = .slice (some ⟨gT,0,none⟩) n cap:=hI.1.fact 5 20 rfl (Qka Ha 5 (by kernel_rfl))
  simp only[Array.getD_eq_getD_getElem?]at e5
  have e6:c.tmps.getD 21 undef = .int .i64 at_:=hI.1.fact 6 21 rfl (Qka Ha 6 (by kernel_rfl))
  simp only[Array.getD_eq_getD_getElem?]at e6
  go_simp
  exact hK' _ _ ⟨hI.1.stepL Qsg 7 22 rfl (by rw[hsz];decide) _ _ rfl Ha hS (fun _ _ _ h=>h) rfl,hI.2.keep 7 (fun h=>h) (fun h=>h)⟩
 ·have e7:c.tmps.getD 22 undef = .pointer (some ⟨gT,at_*3,none⟩):=hI.1.fact 7 22 rfl (Qka Ha 7 (by kernel_rfl))
  simp only[Array.getD_eq_getD_getElem?]at e7
  go_simp
  exact hK' _ _ ⟨hI.1.stepL Qsg 8 23 rfl (by rw[hsz];decide) _ _ rfl Ha hS (fun _ _ _ h=>h) rfl,hI.2.keep 8 (fun h=>h) (fun h=>h)⟩
 ·have e8:c.tmps.getD 23 undef = .pointer (some ⟨gT,at_*3+2,none⟩):=hI.1.fact 8 23 rfl (Qka Ha 8 (by kernel_rfl))
  simp only[Array.getD_eq_getD_getElem?]at e8
  have u10:=hI.1.2.2.1.2.unlisted hl (j:=10) (by kernel_rfl)
  have hX:=(gE wx ((hI.2.1 u10).mono (fun _ _ e=>e.elim))).1
  go_simp
  exact hK' _ _ ⟨hI.1.stepL Qsg 9 24 rfl (by rw[hsz];decide) _ _ rfl Ha hS (fun _ _ _ h=>h) rfl,hI.2.keep 9 (fun h=>h) (fun h=>h)⟩
 ·have e3:c.tmps.getD 18 undef = .func (.func fn) #[] caps:=hI.1.fact 3 18 rfl (Qka Ha 3 (by kernel_rfl))
  simp only[Array.getD_eq_getD_getElem?]at e3
  have e9:c.tmps.getD 24 undef=pv:=hI.1.fact 9 24 rfl (Qka Ha 9 (by kernel_rfl))
  simp only[Array.getD_eq_getD_getElem?]at e9
  have u13:=hI.1.2.2.1.2.unlisted hl (j:=13) (by kernel_rfl)
  have kq:=hI.2.1 hl
  go_simp
  refine(gN.out wx kq).mono ?_
  rintro e w2 ⟨rv,rfl,hr,k2⟩
  go_simp
  exact hK' _ _ ⟨hI.1.stepL Qsg 10 25 rfl (by rw[hsz];decide) _ _ rfl Ha (hS.call xJ k2) (fun j hj _ h=>h.call (Qbb hj hl) (Qbb hj u13)) hr,⟨(fun h=>absurd rfl (Q3d h (by rw[hI.1.2.2.1.1,Q4o];decide))),fun h=>(kq.mono (fun _ _ e=>e.elim)).trans k2 (fun _ _ e=>e)⟩⟩
 ·have e1:c.tmps.getD 16 undef = .slice (some ⟨gT,0,none⟩) n cap:=hI.1.fact 1 16 rfl (Qka Ha 1 (by kernel_rfl))
  simp only[Array.getD_eq_getD_getElem?]at e1
  have e2:c.tmps.getD 17 undef = .int .i64 at_:=hI.1.fact 2 17 rfl (Qka Ha 2 (by kernel_rfl))
  simp only[Array.getD_eq_getD_getElem?]at e2
  go_simp
  exact hK' _ _ ⟨hI.1.stepL Qsg 11 26 rfl (by rw[hsz];decide) _ _ rfl Ha hS (fun _ _ _ h=>h) rfl,hI.2.keep 11 (fun h=>h) (fun h=>h)⟩
 ·have e11:c.tmps.getD 26 undef = .pointer (some ⟨gT,at_*3,none⟩):=hI.1.fact 11 26 rfl (Qka Ha 11 (by kernel_rfl))
  simp only[Array.getD_eq_getD_getElem?]at e11
  go_simp
  exact hK' _ _ ⟨hI.1.stepL Qsg 12 27 rfl (by rw[hsz];decide) _ _ rfl Ha hS (fun _ _ _ h=>h) rfl,hI.2.keep 12 (fun h=>h) (fun h=>h)⟩
 ·have e12:c.tmps.getD 27 undef = .pointer (some ⟨gT,at_*3+2,none⟩):=hI.1.fact 12 27 rfl (Qka Ha 12 (by kernel_rfl))
  simp only[Array.getD_eq_getD_getElem?]at e12
  have hr:Qma wx base (c.tmps.getD 25 undef) ps2:=hI.1.fact 10 25 rfl (Qka Ha 10 (by kernel_rfl))
  generalize hc25:c.tmps.getD 25 undef=rv at hr
  obtain⟨a2,c2,zr⟩:=Qea hr.1
  subst zr
  simp only[Array.getD_eq_getD_getElem?]at hc25
  have kq:=hI.2.2 hl
  obtain⟨n0,n1⟩:=gE wx kq
  obtain⟨ncs,hH⟩:=mi
  have jC:=hH.keeps kq iJ
  go_simp
  exact hK' _ _ ⟨hI.1.stepNL 13 rfl _ rfl Ha (hS.put hZg _) (fun j hj _ h=>by
   by_cases e:j=10
   ·subst e;exact Qma.set h jC (by decide) _ _
   ·exact h.put (Qbb hj hl) e) (Kt wx _ hr kq),⟨(fun h=>absurd ((Qia h).symm.trans (Qka Ha 10 (by kernel_rfl))) (by decide)),(fun h=>absurd rfl (Q3d h (by rw[hI.1.2.2.1.1,Q4o];decide)))⟩⟩
theorem Qnp(n i:Nat)(h:i<n):(List.range n).idxOf i=i:=by
 induction n with
 | zero=>omega
 | succ n ih=>
  rw[List.range_succ]
  by_cases e:i<n
  ·rw[List.idxOf_append,if_pos (by simpa using e),ih e]
  ·have:i=n:=by omega
   subst this
   rw[List.idxOf_append,if_neg (by simp)]
   simp
theorem Qii{T:List Qba}(hc:Qfa T=0)(h0:0<T.length):Qoa T=T:=by
 have hp:=Qya hc
 have hw:=Qbj hp.2.1 h0
 rw[hp.2.2.1]at hw
 have ho:Qab T=List.range T.length:=by
  have:=hw.symm
  rw[Bool.and_eq_true]at this
  exact of_decide_eq_true this.1
 have Gv:=Qua hp.2.1
 have hr:=Qqb hp.2.1 h0
 unfold Qoa
 rw[ho]
 apply List.ext_getElem
 ·simp
 ·intro i h1 h2
  have hi:i<T.length:=h2
  rw[List.getElem_map,List.getElem_range]
  unfold Q4b
  rw[QEa hi,QOa hi]
  by_cases e:i=0
  ·subst e
   rw[Qsa hi];rfl
  ·have e0:0<i:=by omega
   obtain⟨Hh,GP⟩:=Q3a Gv e0 hi
   rw[if_neg e,ho,Qnp _ _ (by omega),GP,Qsa hi]
theorem Qsf:∀(ps:List Qla) (k:Nat) (hk:k<ps.length) (x:ByteArray),Qga (ps.set k ⟨ps[k].name,x⟩)=(Qga ps).set (k*2+1) (.string x)
 | p::ps,0,_,_=>rfl
 | p::ps,k+1,hk,x=>by
  have:=Qsf ps k (by simpa using hk) x
  rw[show(k+1)*2+1=k*2+1+1+1 from by omega]
  simp only[List.set_cons_succ,Qga,List.getElem_cons_succ]
  rw[this]
theorem Qwq(base bo bk bn bv:Nat)(v:Value)(ps:List Qla)(name value:ByteArray)(w:World)(hr:Qma w base v ps)(hl:ps.length≤1000)(hp:QFe ⟨name,value⟩)(gi:base≤w.heap.size)
 (ho:Holds w bo #[.bool (QKc ps name)] 4) (hk:Holds w bk #[.int .i64 (Qfb ps name)] 3) (hn:Holds w bn #[.string name] 9) (hv:Holds w bv #[.string value] 9) :
 Calls Tryz.prog 116 #[v,.pointer (some ⟨bo,0,none⟩),.pointer (some ⟨bk,0,none⟩),.pointer (some ⟨bn,0,none⟩),.pointer (some ⟨bv,0,none⟩)] w fun e w'=>∃v',e = .returned v'∧Qma w' base v' (QSc ps ⟨name,value⟩)∧Qaa (fun b=>v.ownBlock=some b) w w':=by
 have x0:=ho.cell 0
 have x1:=hk.cell 0
 have x2:=hn.cell 0
 have x3:=hv.cell 0
 have Jw:=Qzk ps name
 cases hh:QKc ps name with
 | false=>
  rw[hh]at x0
  have GP:=hid (show QSc ps ⟨name,value⟩=QJo ps (Qfb ps name) ⟨name,value⟩from by unfold QSc QJo Qff;simp only[hh];rfl)
  have Hb:Below w.heap.size w (w.alloc (.cells #[.string name,.string value] 49)):=(Below.refl _ _).alloc (Nat.le_refl _) _
  have eP:=hid (QOk base w.heap.size v ps (Qfb ps name) ⟨name,value⟩ _ (hr.new Hb) Jw hl (Holds.new w #[.string name,.string value] 49) (fun e=>Nat.lt_irrefl _ (hr.1.lt _ e).2) hp (by simp;omega))
  have HR:=hid hr
  obtain⟨va,vc,rfl⟩:=Qea hr.1
  clear hr ho hk hn hv hh
  generalize Qfb ps name=k at *
  go_enter Tryz.func116,Tryz.ntmps116
  go_wp2_with fail
  refine eP.out.mono ?_
  rintro e w2 ⟨v2,rfl,gd,k2⟩
  go_wp2_with fail
  go_ret
  exact⟨_,rfl,by rw[GP.out];exact gd,(Qaa.of_fresh Hb (fun b=>(Value.slice va ps.length vc).ownBlock=some b)).trans k2 (fun _ _ e=>e)⟩
 | true=>
  rw[hh]at x0
  have Hh:Qfb ps name<ps.length:=by
   by_cases e:Qfb ps name<ps.length
   ·exact e
   ·rw[Q2f (by omega)]at hh;cases hh
  have Hv:ps[Qfb ps name].name=name:=by
   rw[Qnk Hh]at hh
   exact(Qxa _ _).1 hh
  have GP:QSc ps ⟨name,value⟩=ps.set (Qfb ps name) ⟨ps[Qfb ps name].name,value⟩:=by
   unfold QSc Qff
   simp only[hh,if_true]
   rw[List.set_eq_take_append_cons_drop,if_pos Hh,Hv]
  obtain⟨g,cap',ev,-,hg⟩:=hr.1.form (by omega)
  subst ev
  obtain⟨_,cur,hH⟩:=Qse hr.1 (g:=g) rfl
  have hlen:=Q9a ps
  have c0:w.cell? ⟨g,Qfb ps name*2+1,none⟩=some ((Qga ps)[Qfb ps name*2+1]'(by omega)):=(hr.1.cellAt _ (by omega)).trans (List.getElem?_eq_getElem (by omega))
  have cf:=hH.free (Qfb ps name*2+1)
  obtain⟨s1,s2⟩:=hr.1.stored (Qfb ps name*2+1) (.string value)
  have HF:=hid (show Qma (w.setCell ⟨g,Qfb ps name*2+1,none⟩ (.string value)) base (.slice (some ⟨g,0,none⟩) ps.length cap') (QSc ps ⟨name,value⟩)from by
   rw[GP]
   refine⟨?_,fun q hq=>?_⟩
   ·rw[Qsf ps _ Hh,List.length_set];exact s1
   ·rcases List.mem_or_eq_of_mem_set hq with h|h
    ·exact hr.2 q h
    ·rw[h,Hv];exact hp)
  have gJ:((Qfb ps name:Nat):Int)<(ps.length:Int):=by omega
  have hK:=hid (show Qaa (fun b=>(Value.slice (some ⟨g,0,none⟩) ps.length cap').ownBlock=some b) w (w.setCell ⟨g,Qfb ps name*2+1,none⟩ (.string value))from(Qaa.refl (fun b=>(Value.slice (some ⟨g,0,none⟩) ps.length cap').ownBlock=some b) w).setCell (p:=⟨g,Qfb ps name*2+1,none⟩) (Or.inr (show some g=some g from rfl)) _)
  generalize (Qga ps)[Qfb ps name*2+1]'(by omega)=ov at c0
  clear hr ho hk hn hv hh GP s1 s2 hH Hv hlen
  generalize QSc ps ⟨name,value⟩=qs at HF ⊢
  generalize Qfb ps name=k at *
  go_enter Tryz.func116,Tryz.ntmps116
  go_wp2_with fail
  go_ret
  exact⟨_,rfl,HF.out,hK.out⟩
set_option maxRecDepth 100000 in
theorem Q3g(R:Nat→Prop)(v:Value)(T:List Qba)(at_ fn:Nat)(caps:Array Value)(qs:List Qla)(w:World)(hT:Qpa R w v T)(hc:Qfa T=0)(Gp:at_<T.length)(aC:∀args w,(callFunc fn args).run Tryz.prog w = .ok (.enter fn args) w)
 (gN:∀base u wx,Below w.heap.size w wx→w.heap.size≤base→base≤wx.heap.size→Qma wx base u T[at_].props→Calls Tryz.prog fn (#[u]++caps) wx fun e w'=>∃v',e = .returned v'∧Qma w' base v' qs∧Qaa (fun b=>u.ownBlock=some b) wx w') :
 Calls Tryz.prog 115 #[.agg #[v],.int .i64 at_,.func (.func fn) #[] caps] w fun e w'=>∃v',e = .returned (.agg #[v'])∧Qda w' w.heap.size v' (T.set at_ ⟨T[at_].parent,T[at_].name,qs⟩)∧Below w.heap.size w w':=by
 obtain⟨a,cap,rfl,gM,gB⟩:=hT.shape
 have h0:0<T.length:=by omega
 have Ge:=(Qeb (QPa hc)).2
 have hp:=Qya hc
 have hS:Q2c T:=⟨h0,Qua hp.2.1,Qqb hp.2.1 h0⟩
 have BL:=hid (fun wx hx=>Qaj R (.slice a T.length cap) T wx hx hS (QAc hc) (by omega) (Qrc hc))
 have Do:=Qii hc h0
 have HT:=hid hT
 have ma:=hid gN
 have He:Below w.heap.size w ((w.alloc (.cells #[.slice a T.length cap] 27)).alloc (.cells #[.slice none 0 0] 27)):=((Below.refl _ _).alloc (Nat.le_refl _) _).alloc (by simp) _
 have A7:=Holds.newAt (w:=w.alloc (.cells #[.slice a T.length cap] 27)) (B:=w.heap.size+1) (by simp) #[.slice none 0 0] 27
 have CU:=(Holds.new w #[.slice a T.length cap] 27).alloc (.cells #[.slice none 0 0] 27)
 have AZ:=HT.out.new He
 clear hT gN hp hS hc
 go_enter Tryz.func115,Tryz.ntmps115
 go_wp2_with fail
 refine(BL.out _ (by exact AZ)).mono ?_
 rintro e w1 ⟨tv,gP,l,rfl,hr,hgP,cY,j8,-,Hb⟩
 rw[Do]at hr
 obtain⟨gT,tc,rfl⟩:∃gT tc,tv = .slice (some ⟨gT,0,none⟩) T.length tc:=by
  obtain⟨_,_,g2,_⟩:=hr.row
  obtain⟨g,c,e,_⟩:=g2.form h0
  exact⟨g,c,e⟩
 have eN:gT<w1.heap.size:=Qli hr.row rfl
 have KB:Below w1.heap.size w1 (w1.alloc (.cells #[.slice (some ⟨gT,0,none⟩) T.length tc] 27)):=(Below.refl _ _).alloc (Nat.le_refl _) _
 have Hx:=hr.new KB
 have hZ:=Holds.new w1 #[.slice (some ⟨gT,0,none⟩) T.length tc] 27
 obtain⟨pv,p0,ku,iJ,jj,gE,Kt⟩:=Hx.put at_ Gp
 have mi:∃cs,Holds (w1.alloc (.cells #[.slice (some ⟨gT,0,none⟩) T.length tc] 27)) gT cs 46:=(QTd Hx.row rfl).2
 have xJ:pv.ownBlock≠some w1.heap.size:=fun e=>Qva ku.1 hZ (by decide) e
 have Hc:Below w.heap.size w w1:=He.trans (Hb.mono (by simp;omega))
 have Hi:=Hc.trans (KB.mono Hc.size)
 have dX:=((A7.keeps (Qaa.of_fresh Hb (fun _=>False)) (fun e=>e)).keeps (Qaa.of_fresh KB (fun _=>False)) (fun e=>e))
 have im:w.heap.size≤((w.alloc (.cells #[.slice a T.length cap] 27)).alloc (.cells #[.slice none 0 0] 27)).heap.size:=by simp;omega
 have jH:((w.alloc (.cells #[.slice a T.length cap] 27)).alloc (.cells #[.slice none 0 0] 27)).heap.size≤w1.heap.size:=Hb.size
 generalize ((w.alloc (.cells #[.slice a T.length cap] 27)).alloc (.cells #[.slice none 0 0] 27)).heap.size=b2 at *
 have K7:Hid (∀wx,Qaa (fun _=>False) (w1.alloc (.cells #[.slice (some ⟨gT,0,none⟩) T.length tc] 27)) wx→Calls Tryz.prog fn (#[pv]++caps) wx fun e w'=>∃rv,e = .returned rv∧Qma w' b2 rv qs∧Qaa (fun b=>pv.ownBlock=some b) wx w'):=
  hid (fun wx k=>ma.out b2 pv wx (Hi.trans (k.below Hi.size (fun _ _ e=>e))) im (Nat.le_trans jH (Nat.le_trans (by simp) k.size)) ⟨Qca ku.1 k (fun _ _ e=>e),ku.2⟩)
 have Hj:∀b,pv.ownBlock=some b→w.heap.size≤b∧∃cur,Holds (w1.alloc (.cells #[.slice (some ⟨gT,0,none⟩) T.length tc] 27)) b cur 49:=fun b e=>by
  obtain⟨q1,q2⟩:=Qse ku.1 e
  exact⟨by omega,q2⟩
 have sm:w.heap.size≤gT:=by have:=(QTd Hx.row (g:=gT) rfl).1;omega
 have Hs:w1.heap.size≠gT:=by omega
 have CT:pv.ownBlock≠some (w.heap.size+1):=fun e=>by
  obtain⟨_,cur,q⟩:=Hj _ e
  exact Q8a q dX (by decide) rfl
 have CR:w.heap.size+1≠gT:=fun e=>by
  obtain⟨cs,q⟩:=mi
  exact Q8a dX q (by decide) e
 clear hr AZ cY He A7 CU ma j8 Hx Hc ku BL
 go_wp2_with fail
 generalize hWe:w1.alloc (.cells #[.slice (some ⟨gT,0,none⟩) T.length tc] 27)=W at *
 refine wp_region_any (by kernel_rfl) ?_
 refine Q5a (ops':=Qkf 2) (by kernel_rfl) ?_
 refine QAl b2 w1.heap.size gT T.length tc at_ fn caps pv qs (T.set at_ ⟨T[at_].parent,T[at_].name,qs⟩) W _ _ rfl Gp xJ Hs iJ mi rfl rfl rfl gE aC K7 (fun wx rv h k=>Kt wx rv qs h k) ⟨hZ,(Qaa.refl _ _).drew⟩ ((Qaa.refl _ _).drew) ?_
 intro c w2 Ga gh Gx
 obtain⟨y15,y16,y17,y18,y19,y20,y21,y22,y23,y24,y25,y26,y27,hc⟩:=Ga.ex [15,16,17,18,19,20,21,22,23,24,25,26,27] (by kernel_rfl)
 subst hc
 simp only[List.setIfInBounds_toArray,List.set_cons_zero,List.set_cons_succ]
 have gJ:=gh.2
 have bB:=dX.keeps gJ (fun e=>by rcases e with e|e;exact CT e;exact CR e)
 have Hu:Below w.heap.size w w2:=Hi.trans (gJ.below Hi.size (fun i hi e=>by
  rcases e with e|e
  ·have:=(Hj i e).1;omega
  ·omega))
 have z0:=gh.1.cell 0
 have r0:=bB.cell 0
 have rf:=bB.free 0
 have Hn:=(Gx.base im).set bB (by decide) (by decide) 0 (.slice (some ⟨gT,0,none⟩) T.length tc)
 have q0:=(bB.set 0 (.slice (some ⟨gT,0,none⟩) T.length tc)).cell 0
 have H9:=Hu.setCell (p:=⟨w.heap.size+1,0,none⟩) (by simp) (.slice (some ⟨gT,0,none⟩) T.length tc)
 have HF:=hid (And.intro Hn H9)
 clear Hn H9 gh Gx gJ bB dX hZ Hi Hu K7 gE Kt mi Hj Ga HT
 go_wp2_with fail
 exact bodyPost_ret (v:=.agg #[.slice (some ⟨gT,0,none⟩) T.length tc]) (by simp[results,Tryz.results115,go_sem,q0]) rfl ⟨_,rfl,HF.out⟩
noncomputable def Quf(n:Nat):Array Oper:=(QXa (Tryz.f83.body.getD .skip) n).getD #[]
theorem QPu:Qjc .any (Quf 6)=true:=by kernel_rfl
theorem Qah:Qbc (Quf 6)=true:=by kernel_rfl
theorem QQr:(Quf 6).size=14:=by kernel_rfl
def QPg(X g o n cap at_ _:Nat)(nd:Qba)(pa:Option Addr)(pc:Nat)(name:ByteArray)(Nk No:Nat)(j:Nat):Value→World→Prop:=match j with
 | 0=>fun u _=>u = .pointer (some ⟨X,0,none⟩)
 | 1=>fun u _=>u = .slice (some ⟨g,o,none⟩) n cap
 | 2=>fun u _=>u = .int .i64 at_
 | 3=>fun u _=>u = .pointer (some ⟨g,o+at_*3,none⟩)
 | 4=>fun u _=>u = .agg #[.int .i64 nd.parent,.string nd.name,.slice pa nd.props.length pc]
 | 5=>fun u _=>u = .string name
 | 6=>fun u _=>u = .tuple #[.int .i64 (Qfb nd.props name),.bool (QKc nd.props name)]
 | 7=>fun u _=>u = .tuple #[.int .i64 (Qfb nd.props name),.bool (QKc nd.props name)]
 | 8=>fun u _=>u = .int .i64 (Qfb nd.props name)
 | 9=>fun u _=>u = .bool (QKc nd.props name)
 | 10=>fun u w=>u = .pointer (some ⟨Nk,0,none⟩)∧∃x,Holds w Nk #[x] 3
 | 11=>fun u w=>u = .pointer (some ⟨No,0,none⟩)∧∃x,Holds w No #[x] 4
 | 12=>fun _ w=>Holds w Nk #[.int .i64 (Qfb nd.props name)] 3
 | 13=>fun _ w=>Holds w No #[.bool (QKc nd.props name)] 4
 | _=>fun _ _=>True
section
variable{X g o n cap at_ bn:Nat}{nd:Qba}{pa:Option Addr}{pc:Nat}{name:ByteArray}{Nk No:Nat}{w w':World}{j:Nat}{u:Value}
theorem QPg.new(h:QPg X g o n cap at_ bn nd pa pc name Nk No j u w)(k:Below w.heap.size w w'):QPg X g o n cap at_ bn nd pa pc name Nk No j u w':=by
 unfold QPg at *
 have kk:=Qaa.of_fresh k (fun _=>False)
 split at h
 all_goals first
  | exact h
  | exact⟨h.1,h.2.choose,h.2.choose_spec.keeps kk (fun e=>e)⟩
  | exact Holds.keeps h kk (fun e=>e)
theorem QPg.ghostNk{N2:Nat}(h:QPg X g o n cap at_ bn nd pa pc name Nk No j u w)(Gk:j≠10)(jd:j≠12):QPg X g o n cap at_ bn nd pa pc name N2 No j u w:=by
 unfold QPg at *
 split at h
 all_goals first
  | exact absurd rfl Gk
  | exact absurd rfl jd
  | exact h
theorem QPg.ghostNo{N2:Nat}(h:QPg X g o n cap at_ bn nd pa pc name Nk No j u w)(oQ:j≠11)(jA:j≠13):QPg X g o n cap at_ bn nd pa pc name Nk N2 j u w:=by
 unfold QPg at *
 split at h
 all_goals first
  | exact absurd rfl oQ
  | exact absurd rfl jA
  | exact h
theorem QPg.putNk{x:Value}(h:QPg X g o n cap at_ bn nd pa pc name Nk No j u w)(hH:Holds w Nk #[x] 3):QPg X g o n cap at_ bn nd pa pc name Nk No j u (w.setCell ⟨Nk,0,none⟩ (.int .i64 (Qfb nd.props name))):=by
 unfold QPg at *
 split at h
 all_goals first
  | exact h
  | exact⟨h.1,_,hH.set 0 _⟩
  | exact hH.set 0 _
  | exact⟨h.1,h.2.choose,h.2.choose_spec.other _ _ (Q8a h.2.choose_spec hH (by decide))⟩
  | exact Holds.other h _ _ (Q8a h hH (by decide))
theorem QPg.putNo{x:Value}(h:QPg X g o n cap at_ bn nd pa pc name Nk No j u w)(hH:Holds w No #[x] 4):QPg X g o n cap at_ bn nd pa pc name Nk No j u (w.setCell ⟨No,0,none⟩ (.bool (QKc nd.props name))):=by
 unfold QPg at *
 split at h
 all_goals first
  | exact h
  | exact⟨h.1,_,hH.set 0 _⟩
  | exact hH.set 0 _
  | exact⟨h.1,h.2.choose,h.2.choose_spec.other _ _ (Q8a h.2.choose_spec hH (by decide))⟩
  | exact Holds.other h _ _ (Q8a h hH (by decide))
end
set_option maxRecDepth 100000 in
theorem Qqo{Q:Exit→Act→World→Prop}(X g o n cap at_ bn:Nat)(nd:Qba)(pa:Option Addr)(pc:Nat)(name:ByteArray)(W w:World)(A:Act)(hsz:A.tmps.size=60)(Gp:at_<n)(jj:g<W.heap.size)
 (hXW:Holds W X #[.slice (some ⟨g,o,none⟩) n cap] 27) (hnW:Holds W bn #[.string name] 9)
 (q0:W.cell? ⟨g,o+at_*3,none⟩=some (.int .i64 nd.parent)) (q1:W.cell? ⟨g,o+at_*3+1,none⟩=some (.string nd.name)) (q2:W.cell? ⟨g,o+at_*3+2,none⟩=some (.slice pa nd.props.length pc))
 (ax:A.tmps.getD 4 undef = .pointer (some ⟨X,0,none⟩)) (aa:A.tmps.getD 10 undef = .int .i64 at_) (an:A.tmps.getD 6 undef = .pointer (some ⟨bn,0,none⟩))
 (ku:Hid (∀wx,Below W.heap.size W wx→Calls Tryz.prog 114 #[.agg #[.int .i64 nd.parent,.string nd.name,.slice pa nd.props.length pc],.string name] wx fun e w'=>e = .returned (.tuple #[.int .i64 (Qfb nd.props name),.bool (QKc nd.props name)])∧Below wx.heap.size wx w'))
 (hS:Below W.heap.size W w)
 (hQ:∀c w' Nk No,Qrb (Quf 6) A c→Below W.heap.size W w'→c.tmps.getD 12 undef = .pointer (some ⟨Nk,0,none⟩)→Holds w' Nk #[.int .i64 (Qfb nd.props name)] 3→c.tmps.getD 13 undef = .pointer (some ⟨No,0,none⟩)→Holds w' No #[.bool (QKc nd.props name)] 4→W.heap.size≤Nk→W.heap.size≤No→Q .normal c w') :
 wpAny Tryz.prog .any (Quf 6) Q (Quf 6).size (Array.replicate (Quf 6).size false) A w:=by
 refine QVa (fun l c wx=>∃Nk No,Qde (Quf 6) A (QPg X g o n cap at_ bn nd pa pc name Nk No) (fun wx=>Below W.heap.size W wx) l c wx∧W.heap.size≤Nk∧W.heap.size≤No) QPu ?hend ?Hk _ _ _ _ (by simp) (by simp) ⟨W.heap.size,W.heap.size,Qde.start hS,Nat.le_refl _,Nat.le_refl _⟩
 case hend=>
  rintro l c wx ⟨Nk,No,hI,Mw,mP⟩ hl
  have hh:∀k,k<14→l.getD k false=true:=fun k hk=>hl k (by rw[QQr];exact hk)
  obtain⟨e10,_⟩:c.tmps.getD 12 undef = .pointer (some ⟨Nk,0,none⟩)∧∃x,Holds wx Nk #[x] 3:=hI.fact 10 12 rfl (hh 10 (by decide))
  obtain⟨e11,_⟩:c.tmps.getD 13 undef = .pointer (some ⟨No,0,none⟩)∧∃x,Holds wx No #[x] 4:=hI.fact 11 13 rfl (hh 11 (by decide))
  have jd:Holds wx Nk #[.int .i64 (Qfb nd.props name)] 3:=hI.2.2.2 12 (by rw[QQr];decide) (hh 12 (by decide))
  have jA:Holds wx No #[.bool (QKc nd.props name)] 4:=hI.2.2.2 13 (by rw[QQr];decide) (hh 13 (by decide))
  exact hQ c wx Nk No hI.1 hI.2.1 e10 jd e11 jA Mw mP
 intro l c wx hI i' op ho hl Ha K' hK'
 obtain⟨Nk,No,hI,Mw,mP⟩:=hI
 have J9:i'<14:=by rw[←QQr];exact(Array.getElem?_eq_some_iff.1 ho).1
 simp only[Quf,QXa,Tryz.f83,Option.getD_some,reduceIte,Nat.reduceEqDiff]at ho
 have hS:=hI.2.1
 have pG:(at_:Int)<n:=by omega
 have nG:(0:Int)≤at_:=by omega
 have sx:=(hI.slot 4 (by kernel_rfl)).trans ax
 have sa:=(hI.slot 10 (by kernel_rfl)).trans aa
 have sn:=(hI.slot 6 (by kernel_rfl)).trans an
 simp only[Array.getD_eq_getD_getElem?]at sx sa sn
 have GV:i'=0∨i'=1∨i'=2∨i'=3∨i'=4∨i'=5∨i'=6∨i'=7∨i'=8∨i'=9∨i'=10∨i'=11∨i'=12∨i'=13:=by omega
 rcases GV with rfl|rfl|rfl|rfl|rfl|rfl|rfl|rfl|rfl|rfl|rfl|rfl|rfl|rfl
 all_goals cases ho
 ·go_simp
  exact hK' _ _ ⟨Nk,No,hI.step Qah 0 29 rfl (by rw[hsz];decide) _ _ rfl Ha hS (fun _ _ h=>h) rfl,Mw,mP⟩
 ·have e0:c.tmps.getD 29 undef = .pointer (some ⟨X,0,none⟩):=hI.fact 0 29 rfl (Qka Ha 0 (by kernel_rfl))
  simp only[Array.getD_eq_getD_getElem?]at e0
  have hX:=(hXW.keeps (Qaa.of_fresh hS (fun _=>False)) (fun e=>e)).cell 0
  go_simp
  exact hK' _ _ ⟨Nk,No,hI.step Qah 1 30 rfl (by rw[hsz];decide) _ _ rfl Ha hS (fun _ _ h=>h) rfl,Mw,mP⟩
 ·go_simp
  exact hK' _ _ ⟨Nk,No,hI.step Qah 2 31 rfl (by rw[hsz];decide) _ _ rfl Ha hS (fun _ _ h=>h) rfl,Mw,mP⟩
 ·have e1:c.tmps.getD 30 undef = .slice (some ⟨g,o,none⟩) n cap:=hI.fact 1 30 rfl (Qka Ha 1 (by kernel_rfl))
  simp only[Array.getD_eq_getD_getElem?]at e1
  have e2:c.tmps.getD 31 undef = .int .i64 at_:=hI.fact 2 31 rfl (Qka Ha 2 (by kernel_rfl))
  simp only[Array.getD_eq_getD_getElem?]at e2
  go_simp
  exact hK' _ _ ⟨Nk,No,hI.step Qah 3 32 rfl (by rw[hsz];decide) _ _ rfl Ha hS (fun _ _ h=>h) rfl,Mw,mP⟩
 ·have e3:c.tmps.getD 32 undef = .pointer (some ⟨g,o+at_*3,none⟩):=hI.fact 3 32 rfl (Qka Ha 3 (by kernel_rfl))
  simp only[Array.getD_eq_getD_getElem?]at e3
  have c0:=(hS.cell (p:=⟨g,o+at_*3,none⟩) jj).trans q0
  have c1:=(hS.cell (p:=⟨g,o+at_*3+1,none⟩) jj).trans q1
  have c2:=(hS.cell (p:=⟨g,o+at_*3+2,none⟩) jj).trans q2
  go_simp
  exact hK' _ _ ⟨Nk,No,hI.step Qah 4 33 rfl (by rw[hsz];decide) _ _ rfl Ha hS (fun _ _ h=>h) rfl,Mw,mP⟩
 ·have hX:=(hnW.keeps (Qaa.of_fresh hS (fun _=>False)) (fun e=>e)).cell 0
  go_simp
  exact hK' _ _ ⟨Nk,No,hI.step Qah 5 34 rfl (by rw[hsz];decide) _ _ rfl Ha hS (fun _ _ h=>h) rfl,Mw,mP⟩
 ·have e4:c.tmps.getD 33 undef = .agg #[.int .i64 nd.parent,.string nd.name,.slice pa nd.props.length pc]:=hI.fact 4 33 rfl (Qka Ha 4 (by kernel_rfl))
  simp only[Array.getD_eq_getD_getElem?]at e4
  have e5:c.tmps.getD 34 undef = .string name:=hI.fact 5 34 rfl (Qka Ha 5 (by kernel_rfl))
  simp only[Array.getD_eq_getD_getElem?]at e5
  go_simp
  refine(ku.out wx hS).mono ?_
  rintro e w2 ⟨rfl,Hc⟩
  go_simp
  have gh:Below W.heap.size W w2:=hS.trans (Hc.mono hS.size)
  exact hK' _ _ ⟨Nk,No,hI.step Qah 6 35 rfl (by rw[hsz];decide) _ _ rfl Ha gh (fun _ _ h=>QPg.new h Hc) rfl,Mw,mP⟩
 ·have e6:c.tmps.getD 35 undef = .tuple #[.int .i64 (Qfb nd.props name),.bool (QKc nd.props name)]:=hI.fact 6 35 rfl (Qka Ha 6 (by kernel_rfl))
  simp only[Array.getD_eq_getD_getElem?]at e6
  go_simp
  exact hK' _ _ ⟨Nk,No,hI.step Qah 7 28 rfl (by rw[hsz];decide) _ _ rfl Ha hS (fun _ _ h=>h) rfl,Mw,mP⟩
 ·have e7:c.tmps.getD 28 undef = .tuple #[.int .i64 (Qfb nd.props name),.bool (QKc nd.props name)]:=hI.fact 7 28 rfl (Qka Ha 7 (by kernel_rfl))
  simp only[Array.getD_eq_getD_getElem?]at e7
  go_simp
  exact hK' _ _ ⟨Nk,No,hI.step Qah 8 36 rfl (by rw[hsz];decide) _ _ rfl Ha hS (fun _ _ h=>h) rfl,Mw,mP⟩
 ·have e7:c.tmps.getD 28 undef = .tuple #[.int .i64 (Qfb nd.props name),.bool (QKc nd.props name)]:=hI.fact 7 28 rfl (Qka Ha 7 (by kernel_rfl))
  simp only[Array.getD_eq_getD_getElem?]at e7
  go_simp
  exact hK' _ _ ⟨Nk,No,hI.step Qah 9 37 rfl (by rw[hsz];decide) _ _ rfl Ha hS (fun _ _ h=>h) rfl,Mw,mP⟩
 ·go_simp
  have Hc:Below wx.heap.size wx (wx.alloc (.cells #[.int .i64 0] 3)):=(Below.refl _ _).alloc (Nat.le_refl _) _
  have gh:=hS.trans (Hc.mono hS.size)
  have us:=hI.2.2.1.2.unlisted hl (j:=12) (by kernel_rfl)
  have aA:W.heap.size≤wx.heap.size:=hS.size
  have hJ:=hI.other (F':=QPg X g o n cap at_ bn nd pa pc name wx.heap.size No) (fun j hj u hF=>hF.ghostNk (Qbb hj hl) (Qbb hj us))
  exact hK' _ _ ⟨wx.heap.size,No,hJ.step Qah 10 12 rfl (by rw[hsz];decide) _ _ rfl Ha gh (fun _ _ h=>QPg.new h Hc) ⟨rfl,_,Holds.new _ _ _⟩,aA,mP⟩
 ·go_simp
  have Hc:Below wx.heap.size wx (wx.alloc (.cells #[.bool false] 4)):=(Below.refl _ _).alloc (Nat.le_refl _) _
  have gh:=hS.trans (Hc.mono hS.size)
  have us:=hI.2.2.1.2.unlisted hl (j:=13) (by kernel_rfl)
  have aA:W.heap.size≤wx.heap.size:=hS.size
  have hJ:=hI.other (F':=QPg X g o n cap at_ bn nd pa pc name Nk wx.heap.size) (fun j hj u hF=>hF.ghostNo (Qbb hj hl) (Qbb hj us))
  exact hK' _ _ ⟨Nk,wx.heap.size,hJ.step Qah 11 13 rfl (by rw[hsz];decide) _ _ rfl Ha gh (fun _ _ h=>QPg.new h Hc) ⟨rfl,_,Holds.new _ _ _⟩,Mw,aA⟩
 ·obtain⟨ep,x,mO⟩:c.tmps.getD 12 undef = .pointer (some ⟨Nk,0,none⟩)∧∃x,Holds wx Nk #[x] 3:=hI.fact 10 12 rfl (Qka Ha 10 (by kernel_rfl))
  simp only[Array.getD_eq_getD_getElem?]at ep
  have e8:c.tmps.getD 36 undef = .int .i64 (Qfb nd.props name):=hI.fact 8 36 rfl (Qka Ha 8 (by kernel_rfl))
  simp only[Array.getD_eq_getD_getElem?]at e8
  have n0:wx.cell? ⟨Nk,0,none⟩=some x:=mO.cell 0
  have n1:wx.frozen? ⟨Nk,0,none⟩=false:=mO.free 0
  go_simp
  have gh:Below W.heap.size W (wx.setCell ⟨Nk,0,none⟩ (.int .i64 (Qfb nd.props name))):=hS.setCell (p:=⟨Nk,0,none⟩) Mw _
  exact hK' _ _ ⟨Nk,No,hI.stepN 12 rfl _ rfl Ha gh (fun _ _ h=>h.putNk mO) (mO.set 0 _),Mw,mP⟩
 ·obtain⟨ep,x,mO⟩:c.tmps.getD 13 undef = .pointer (some ⟨No,0,none⟩)∧∃x,Holds wx No #[x] 4:=hI.fact 11 13 rfl (Qka Ha 11 (by kernel_rfl))
  simp only[Array.getD_eq_getD_getElem?]at ep
  have e9:c.tmps.getD 37 undef = .bool (QKc nd.props name):=hI.fact 9 37 rfl (Qka Ha 9 (by kernel_rfl))
  simp only[Array.getD_eq_getD_getElem?]at e9
  have n0:wx.cell? ⟨No,0,none⟩=some x:=mO.cell 0
  have n1:wx.frozen? ⟨No,0,none⟩=false:=mO.free 0
  go_simp
  have gh:Below W.heap.size W (wx.setCell ⟨No,0,none⟩ (.bool (QKc nd.props name))):=hS.setCell (p:=⟨No,0,none⟩) mP _
  exact hK' _ _ ⟨Nk,No,hI.stepN 13 rfl _ rfl Ha gh (fun _ _ h=>h.putNo mO) (mO.set 0 _),Mw,mP⟩
theorem Q7p(l:List Qla)(p:Qla):(QSc l p).length=l.length+1-(if QKc l p.name=true then 1 else 0):=by
 have h1:=Qzk l p.name
 have h2:=Qhm l p.name
 have h3:Qff l p.name=Qfb l p.name+if QKc l p.name=true then 1 else 0:=rfl
 unfold QSc
 simp only[List.length_append,List.length_take,List.length_cons,List.length_drop]
 cases h:QKc l p.name with
 | true=>rw[h,if_pos rfl]at h3;simp only[if_true];omega
 | false=>rw[h,if_neg (by decide)]at h3;rw[if_neg (by decide)];omega
theorem QQg{T:List Qba}(hc:Qfa T=0)(k:Nat)(hk:k<T.length):Qtd T[k].props=true:=by
 have hp:=Qya hc
 have h:=((Qbf (Qua hp.2.1) (Qqb hp.2.1 (by omega))).1 hp.2.2.1).1 k hk
 rw[QOa hk]at h;exact h
theorem Qit{n:Qba}(h:QGf n=true)(p:Qla):QGf (Qod n p)=(decide ((QSc n.props p).length≤24) && decide (p.value.size≤256)):=by
 unfold QGf at *
 rw[Bool.and_eq_true]at h
 have ha:=List.all_eq_true.1 h.2
 show(decide ((QSc n.props p).length≤24) && (QSc n.props p).all fun p=>decide (p.value.size≤256))=_
 congr 1
 unfold QSc
 rw[List.all_append,List.all_cons]
 rw[List.all_eq_true.2 (fun q hq=>ha q (List.mem_of_mem_take hq)),List.all_eq_true.2 (fun q hq=>ha q (List.mem_of_mem_drop hq))]
 simp
theorem Qiq{T:List Qba}(hl:Qza T=true){k:Nat}(hk:k<T.length)(p:Qla):Qza (QIb T k p)=(decide ((QSc T[k].props p).length≤24) && decide (p.value.size≤256)):=by
 have hs:QIb T k p=T.set k (Qod T[k] p):=by unfold QIb;rw[List.getElem?_eq_getElem hk]
 rw[hs]
 unfold Qza at *
 rw[Bool.and_eq_true]at hl
 have ha:=List.all_eq_true.1 hl.2
 rw[List.length_set,hl.1,Bool.true_and,←Qit (ha _ (List.getElem_mem hk))]
 cases hf:QGf (Qod T[k] p)with
 | true=>
  rw[List.all_eq_true]
  intro q hq
  rcases List.mem_or_eq_of_mem_set hq with h|h
  ·exact ha q h
  ·rw[h];exact hf
 | false=>
  rw[List.all_eq_false]
  exact⟨_,List.mem_set hk _,by simp[hf]⟩
theorem Qkm{T:List Qba}{s name value:ByteArray}{k:Nat}(hb:QBa T s=((k:Int),0)):QSd T s name value=if Q6a name=false then([],1)else if Qza (QIb T k ⟨name,value⟩)=false then([],3)else(QIb T k ⟨name,value⟩,0):=by
 unfold QSd;rw[hb,if_neg (by simp)];rfl
theorem QFl:∀args w,(callFunc 116 args).run Tryz.prog w = .ok (.enter 116 args) w:=enters_of Tryz.func116 (by kernel_rfl) rfl
set_option maxRecDepth 100000 in
theorem QYr(R:Nat→Prop)(v:Value)(T:List Qba)(s name value:ByteArray)(w:World)(hT:Qpa R w v T)(KQ:name.size≤9223372036854775807)(cI:value.size≤9223372036854775807) :
 Calls Tryz.prog 83 #[.agg #[v],.string s,.string name,.string value] w (Qyd (QSd T s name value) w):=by
 obtain⟨a,cap,rfl,gM,gB⟩:=hT.shape
 have HT:=hid hT.bound;clear hT
 have G0:=fun wx hx=>QMg (fun g=>g<w.heap.size) (.slice a T.length cap) T s wx hx
 obtain⟨W0,GT⟩:∃W0,W0=(((w.alloc (.cells #[.slice a T.length cap] 27)).alloc (.cells #[.string name] 9)).alloc (.cells #[.string value] 9)).alloc (.cells #[.slice none 0 0] 27):=⟨_,rfl⟩
 have He:Below w.heap.size w W0:=by rw[GT];exact((((Below.refl _ _).alloc (Nat.le_refl _) _).alloc (by simp) _).alloc (by simp;omega) _).alloc (by simp;omega) _
 have kJ:Holds W0 w.heap.size #[.slice a T.length cap] 27:=by rw[GT];exact(((Holds.new w #[.slice a T.length cap] 27).alloc _).alloc _).alloc _
 have mc:Holds W0 (w.heap.size+1) #[.string name] 9:=by rw[GT];exact((Holds.newAt (w:=w.alloc (.cells #[.slice a T.length cap] 27)) (B:=w.heap.size+1) (by simp) #[.string name] 9).alloc _).alloc _
 have rz:Holds W0 (w.heap.size+1+1) #[.string value] 9:=by rw[GT];exact(Holds.newAt (w:=(w.alloc (.cells #[.slice a T.length cap] 27)).alloc (.cells #[.string name] 9)) (B:=w.heap.size+1+1) (by simp) #[.string value] 9).alloc _
 have GH:Holds W0 (w.heap.size+1+1+1) #[.slice none 0 0] 27:=by rw[GT];exact Holds.newAt (w:=((w.alloc (.cells #[.slice a T.length cap] 27)).alloc (.cells #[.string name] 9)).alloc (.cells #[.string value] 9)) (B:=w.heap.size+1+1+1) (by simp) #[.slice none 0 0] 27
 have My:Qpa (fun g=>g<w.heap.size) W0 (.slice a T.length cap) T:=HT.out.new He
 have am:=He.size
 have fy:=GH.lt
 rcases Qsb T s with⟨Hm,Gk⟩|⟨gy,k,hk,Gs,kR⟩
 ·have hE:=hid (show QSd T s name value=([],(QBa T s).2)from by unfold QSd;rw[if_pos Hm])
  have eX:((QBa T s).2 != 0)=true:=by simpa using Hm
  rw[Gk]at G0
  have Kx:=hid G0
  clear G0 Hm Gk
  generalize (QBa T s).2=c at *
  go_enter Tryz.func83,Tryz.ntmps83
  go_wp2_with fail
  rw[←GT]
  refine(Kx.out _ (by exact My)).mono ?_
  rintro e w1 ⟨rfl,Hb⟩
  have Hs:=GH.keeps (Qaa.of_fresh Hb (fun _=>False)) (fun e=>e)
  have Hc:=He.trans (Hb.mono am)
  have z0:=Hs.cell 0
  have zf:=Hs.free 0
  go_wp2_with fail
  have q0:(w1.setCell ⟨w.heap.size+1+1+1,0,none⟩ (.slice none 0 0)).cell? ⟨w.heap.size+1+1+1,0,none⟩=some (.slice none 0 0):=(Hs.set 0 _).cell 0
  exact bodyPost_ret (v:=.tuple #[.agg #[.slice none 0 0],.int .i64 c]) (by simp[results,Tryz.results83,go_sem,q0]) rfl ⟨_,by rw[hE.out],by rw[hE.out];exact Qda.nil _ _,Hc.setCell (p:=⟨w.heap.size+1+1+1,0,none⟩) (by simp;omega) _⟩
 ·rw[Gs]at G0
  have Kx:=hid G0
  have hE:=hid (Qkm (name:=name) (value:=value) Gs)
  have MF:=hid (fun wx=>QGc name wx KQ)
  have nL:=QPa gy
  have Ge:=(Qeb nL).2
  have gU:=(Qrc gy) T[k] (List.getElem_mem hk)
  have kF:=hid gy
  clear G0 Gs gy
  cases KC:Q6a name with
  | false=>
   have hF:=hid (show QSd T s name value=([],1)from by rw[hE.out,if_pos KC])
   have fK:=hid (fun wx=>by have:=MF.out wx;rw[KC]at this;exact this)
   clear MF KC hE
   go_enter Tryz.func83,Tryz.ntmps83
   go_wp2_with fail
   rw[←GT]
   refine(Kx.out _ (by exact My)).mono ?_
   rintro e w1 ⟨rfl,Hb⟩
   have Hs:=GH.keeps (Qaa.of_fresh Hb (fun _=>False)) (fun e=>e)
   have JZ:=mc.keeps (Qaa.of_fresh Hb (fun _=>False)) (fun e=>e)
   have Hc:=He.trans (Hb.mono am)
   have z0:=Hs.cell 0
   have zf:=Hs.free 0
   have y0:=JZ.cell 0
   go_wp2_with fail
   refine(fK.out _).mono ?_
   rintro e w2 ⟨rfl,rfl⟩
   go_wp2_with fail
   have q0:(w1.setCell ⟨w.heap.size+1+1+1,0,none⟩ (.slice none 0 0)).cell? ⟨w.heap.size+1+1+1,0,none⟩=some (.slice none 0 0):=(Hs.set 0 _).cell 0
   exact bodyPost_ret (v:=.tuple #[.agg #[.slice none 0 0],.int .i64 1]) (by simp[results,Tryz.results83,go_sem,q0]) rfl ⟨_,by rw[hF.out],by rw[hF.out];exact Qda.nil _ _,Hc.setCell (p:=⟨w.heap.size+1+1+1,0,none⟩) (by simp;omega) _⟩
  | true=>
   have hF:=hid (show QSd T s name value=if Qza (QIb T k ⟨name,value⟩)=false then([],3)else(QIb T k ⟨name,value⟩,0)from by rw[hE.out,if_neg (by rw[KC];decide)])
   have fK:=hid (fun wx=>by have:=MF.out wx;rw[KC]at this;exact this)
   clear MF KC hE
   have Mo:=Qiq nL hk ⟨name,value⟩
   rw[Q7p]at Mo
   have MI:QIb T k ⟨name,value⟩=T.set k ⟨T[k].parent,T[k].name,QSc T[k].props ⟨name,value⟩⟩:=by unfold QIb;rw[List.getElem?_eq_getElem hk];rfl
   have wn:=hid MI
   have Ms:=hid Mo
   clear MI Mo
   have K6:=QQg kF.out k hk
   go_enter Tryz.func83,Tryz.ntmps83
   go_wp2_with fail
   rw[←GT]
   refine(Kx.out _ (by exact My)).mono ?_
   rintro e w1 ⟨rfl,Hb⟩
   have kk1:=Qaa.of_fresh Hb (fun _=>False)
   have Hs:=GH.keeps kk1 (fun e=>e)
   have JZ:=mc.keeps kk1 (fun e=>e)
   have H5:=kJ.keeps kk1 (fun e=>e)
   have pm:=rz.keeps kk1 (fun e=>e)
   have GE:=My.new Hb
   have Hc:=He.trans (Hb.mono am)
   have y0:=JZ.cell 0
   clear GH mc kJ rz My He GT Hb kk1 Kx
   go_wp2_with fail
   refine(fK.out _).mono ?_
   rintro e w2 ⟨rfl,rfl⟩
   obtain⟨g,o,pa,pc,vC,hg,q0,q1,q2,cY,mF,ze,yR,ME,aI⟩:=GE.at k hk
   subst vC
   have mH:=hid (fun(wx:World) (hx:Below w1.heap.size w1 wx)=>Qmg (fun g=>g<w.heap.size) (.slice pa T[k].props.length pc) T[k] name wx (cY.new hx) K6 gU)
   have eN:g<w1.heap.size:=hg
   have ko:=Hc.size
   clear cY
   go_wp2_with fail
   refine wp_region_any (by kernel_rfl) ?_
   refine Q5a (ops':=Quf 6) (by kernel_rfl) ?_
   refine Qqo w.heap.size g o T.length cap k (w.heap.size+1) T[k] pa pc name w1 w1.drew _ rfl hk eN H5 JZ q0 q1 q2 rfl rfl rfl mH ((Below.refl _ _).drew) ?_
   intro c w3 Nk No Ga Hi ek Mw eo mP kH M0
   obtain⟨y12,y13,y28,y29,y30,y31,y32,y33,y34,y35,y36,y37,hc⟩:=Ga.ex [12,13,28,29,30,31,32,33,34,35,36,37] (by kernel_rfl)
   subst hc
   simp only[List.setIfInBounds_toArray,List.set_cons_zero,List.set_cons_succ]at ek eo ⊢
   have ek':y12 = .pointer (some ⟨Nk,0,none⟩):=ek
   have eo':y13 = .pointer (some ⟨No,0,none⟩):=eo
   subst ek'
   subst eo'
   have kk3:=Qaa.of_fresh Hi (fun _=>False)
   have Hz:=Hs.keeps kk3 (fun e=>e)
   have ki:=H5.keeps kk3 (fun e=>e)
   have az:=JZ.keeps kk3 (fun e=>e)
   have xE:=pm.keeps kk3 (fun e=>e)
   have Kj:=GE.new Hi
   have Hu:=Hc.trans (Hi.mono Hc.size)
   have q2':=(Hi.cell (p:=⟨g,o+k*3+2,none⟩) eN).trans q2
   have x0:=ki.cell 0
   have z0:=Hz.cell 0
   have zf:=Hz.free 0
   have v0:=xE.cell 0
   have o0:=mP.cell 0
   have JD:QFe ⟨name,value⟩:=⟨KQ,cI⟩
   have gN:∀base u wx,Below w3.heap.size w3 wx→w3.heap.size≤base→base≤wx.heap.size→Qma wx base u T[k].props→Calls Tryz.prog 116 (#[u]++#[.pointer (some ⟨No,0,none⟩),.pointer (some ⟨Nk,0,none⟩),.pointer (some ⟨w.heap.size+1,0,none⟩),.pointer (some ⟨w.heap.size+1+1,0,none⟩)]) wx fun e w'=>∃v',e = .returned v'∧Qma w' base v' (QSc T[k].props ⟨name,value⟩)∧Qaa (fun b=>u.ownBlock=some b) wx w':=
    fun base u wx kj _ mB hr=>by
     have kx:=Qaa.of_fresh kj (fun _=>False)
     exact Qwq base No Nk (w.heap.size+1) (w.heap.size+1+1) u T[k].props name value wx hr gU JD mB (mP.keeps kx (fun e=>e)) (Mw.keeps kx (fun e=>e)) (az.keeps kx (fun e=>e)) (xE.keeps kx (fun e=>e))
   have eI:=hid (Q3g (fun g=>g<w.heap.size) (.slice (some ⟨g,o,none⟩) T.length cap) T k 116 _ (QSc T[k].props ⟨name,value⟩) w3 Kj kF.out hk QFl gN)
   have M1:=Hu.size
   have oW:=hid (show ∀(h:Qza (QIb T k ⟨name,value⟩)=false),QSd T s name value=([],3)from fun h=>by rw[hF.out,if_pos h])
   have o7:=hid (show ∀(h:Qza (QIb T k ⟨name,value⟩)=true),QSd T s name value=(T.set k ⟨T[k].parent,T[k].name,QSc T[k].props ⟨name,value⟩⟩,0)from fun h=>by rw[hF.out,if_neg (by rw[h];decide),wn.out])
   have gY:∀x:Value,((w3.setCell ⟨w.heap.size+1+1+1,0,none⟩ x)).cell? ⟨w.heap.size+1+1+1,0,none⟩=some x:=fun x=>(Hz.set 0 x).cell 0
   have MO:=hid gY
   have G6:=hid Hu
   have KN:=hid Hz
   have nJ:(k:Int)<T.length:=by omega
   clear gY gN JD ki az xE Kj Mw mP Hi kk3 Ga ek eo H5 JZ pm Hs GE Hc q0 q1 q2 mH K6 fK y0 Hu Hz
   by_cases Gc:256<value.size
   ·have Hq:Qza (QIb T k ⟨name,value⟩)=false:=by rw[Ms.out];simp;omega
    have dO:=hid (oW.out Hq)
    have ur:decide ((256:Int)<(value.size:Int))=true:=by simp;omega
    clear oW o7 eI
    cases Gz:QKc T[k].props name with
    | true=>
     rw[Gz]at o0
     go_wp2_with fail
     exact bodyPost_ret (v:=.tuple #[.agg #[.slice none 0 0],.int .i64 3]) (by simp[results,Tryz.results83,go_sem,MO.out]) rfl ⟨_,by rw[dO.out],by rw[dO.out];exact Qda.nil _ _,G6.out.setCell (p:=⟨w.heap.size+1+1+1,0,none⟩) (by simp;omega) _⟩
    | false=>
     rw[Gz]at o0
     by_cases Jn:T[k].props.length=24
     ·have dL:((T[k].props.length:Int) == 24)=true:=by rw[Jn];rfl
      go_wp2_with fail
      exact bodyPost_ret (v:=.tuple #[.agg #[.slice none 0 0],.int .i64 3]) (by simp[results,Tryz.results83,go_sem,MO.out]) rfl ⟨_,by rw[dO.out],by rw[dO.out];exact Qda.nil _ _,G6.out.setCell (p:=⟨w.heap.size+1+1+1,0,none⟩) (by simp;omega) _⟩
     ·have dL:((T[k].props.length:Int) == 24)=false:=by rw[beq_eq_false_iff_ne];omega
      go_wp2_with fail
      exact bodyPost_ret (v:=.tuple #[.agg #[.slice none 0 0],.int .i64 3]) (by simp[results,Tryz.results83,go_sem,MO.out]) rfl ⟨_,by rw[dO.out],by rw[dO.out];exact Qda.nil _ _,G6.out.setCell (p:=⟨w.heap.size+1+1+1,0,none⟩) (by simp;omega) _⟩
   ·have ur:decide ((256:Int)<(value.size:Int))=false:=by simp;omega
    have hfp:T[k].props.length≤24:=by
     have h:=nL
     unfold Qza at h
     rw[Bool.and_eq_true]at h
     have:=List.all_eq_true.1 h.2 _ (List.getElem_mem hk)
     unfold QGf at this
     rw[Bool.and_eq_true]at this
     exact of_decide_eq_true this.1
    cases Gz:QKc T[k].props name with
    | true=>
     rw[Gz]at o0
     have bN:Qza (QIb T k ⟨name,value⟩)=true:=by rw[Ms.out,Gz];simp;omega
     have rp:=hid (o7.out bN)
     clear oW o7
     go_wp2_with fail
     refine eI.out.mono ?_
     rintro e w5 ⟨v5,rfl,mo,H9⟩
     obtain⟨sa,sc,rfl⟩:=QNc mo
     have gK:=KN.out.keeps (Qaa.of_fresh H9 (fun _=>False)) (fun e=>e)
     have z5:=gK.cell 0
     have f5:=gK.free 0
     have r5:=(mo.base (G6.out.size)).set gK (by decide) (by decide) 0 (.slice sa (T.set k ⟨T[k].parent,T[k].name,QSc T[k].props ⟨name,value⟩⟩).length sc)
     have b5:=(G6.out.trans (H9.mono G6.out.size)).setCell (p:=⟨w.heap.size+1+1+1,0,none⟩) (by simp;omega) (.slice sa (T.set k ⟨T[k].parent,T[k].name,QSc T[k].props ⟨name,value⟩⟩).length sc)
     have c5:=(gK.set 0 (.slice sa (T.set k ⟨T[k].parent,T[k].name,QSc T[k].props ⟨name,value⟩⟩).length sc)).cell 0
     have Me:=hid (And.intro r5 (And.intro b5 c5))
     clear r5 b5 c5 mo gK H9 eI
     generalize (T.set k ⟨T[k].parent,T[k].name,QSc T[k].props ⟨name,value⟩⟩)=T5 at *
     generalize dd:T5.length=n5 at *
     go_wp2_with fail
     exact bodyPost_ret (v:=.tuple #[.agg #[.slice sa n5 sc],.int .i64 0]) (by simp[results,Tryz.results83,go_sem,Me.out.2.2]) rfl ⟨_,by rw[rp.out],by rw[rp.out];exact Me.out.1,Me.out.2.1⟩
    | false=>
     rw[Gz]at o0
     by_cases Jn:T[k].props.length=24
     ·have Hq:Qza (QIb T k ⟨name,value⟩)=false:=by rw[Ms.out,Gz,Jn];rfl
      have dO:=hid (oW.out Hq)
      have dL:((T[k].props.length:Int) == 24)=true:=by rw[Jn];rfl
      clear oW o7 eI
      go_wp2_with fail
      exact bodyPost_ret (v:=.tuple #[.agg #[.slice none 0 0],.int .i64 3]) (by simp[results,Tryz.results83,go_sem,MO.out]) rfl ⟨_,by rw[dO.out],by rw[dO.out];exact Qda.nil _ _,G6.out.setCell (p:=⟨w.heap.size+1+1+1,0,none⟩) (by simp;omega) _⟩
     ·have bN:Qza (QIb T k ⟨name,value⟩)=true:=by rw[Ms.out,Gz];simp;omega
      have rp:=hid (o7.out bN)
      have dL:((T[k].props.length:Int) == 24)=false:=by rw[beq_eq_false_iff_ne];omega
      clear oW o7
      go_wp2_with fail
      refine eI.out.mono ?_
      rintro e w5 ⟨v5,rfl,mo,H9⟩
      obtain⟨sa,sc,rfl⟩:=QNc mo
      have gK:=KN.out.keeps (Qaa.of_fresh H9 (fun _=>False)) (fun e=>e)
      have z5:=gK.cell 0
      have f5:=gK.free 0
      have r5:=(mo.base (G6.out.size)).set gK (by decide) (by decide) 0 (.slice sa (T.set k ⟨T[k].parent,T[k].name,QSc T[k].props ⟨name,value⟩⟩).length sc)
      have b5:=(G6.out.trans (H9.mono G6.out.size)).setCell (p:=⟨w.heap.size+1+1+1,0,none⟩) (by simp;omega) (.slice sa (T.set k ⟨T[k].parent,T[k].name,QSc T[k].props ⟨name,value⟩⟩).length sc)
      have c5:=(gK.set 0 (.slice sa (T.set k ⟨T[k].parent,T[k].name,QSc T[k].props ⟨name,value⟩⟩).length sc)).cell 0
      have Me:=hid (And.intro r5 (And.intro b5 c5))
      clear r5 b5 c5 mo gK H9 eI
      generalize (T.set k ⟨T[k].parent,T[k].name,QSc T[k].props ⟨name,value⟩⟩)=T5 at *
      generalize dd:T5.length=n5 at *
      go_wp2_with fail
      exact bodyPost_ret (v:=.tuple #[.agg #[.slice sa n5 sc],.int .i64 0]) (by simp[results,Tryz.results83,go_sem,Me.out.2.2]) rfl ⟨_,by rw[rp.out],by rw[rp.out];exact Me.out.1,Me.out.2.1⟩
end Go.Proofs.YtgaboghigefgbaaGreatDoor
open Go
namespace Go.Proofs.YtgaboghigefgbaaGreatDoor
open Go.Lib (hid)
theorem QDm{ps:List Qla}{x:ByteArray}(ha:Qtd ps=true)(hh:QKc ps x=true):QUb ps x=Qlj ps (Qfb ps x):=by
 have hl:Qfb ps x<ps.length:=by
  by_cases e:Qfb ps x<ps.length
  ·exact e
  ·rw[Q2f (by omega)]at hh;cases hh
 have hx:eqS ps[Qfb ps x].name x=true:=by rw[←Qnk hl];exact hh
 have hs:ps=ps.take (Qfb ps x)++ps[Qfb ps x]::ps.drop (Qfb ps x+1):=by
  rw[←List.drop_eq_getElem_cons hl,List.take_append_drop]
 unfold QUb Qlj
 conv=>lhs;rw[hs]
 rw[List.filter_append,List.filter_cons_of_neg (by simp[hx])]
 congr 1
 ·rw[List.filter_eq_self]
  intro p hp
  obtain⟨j,hj,rfl⟩:=List.getElem_of_mem hp
  rw[List.length_take]at hj
  rw[List.getElem_take,Qih ha j (by omega) (.inl (by omega))];rfl
 ·rw[List.filter_eq_self]
  intro p hp
  obtain⟨j,hj,rfl⟩:=List.getElem_of_mem hp
  rw[List.length_drop]at hj
  rw[List.getElem_drop,Qih ha _ (by omega) (.inl (by omega))];rfl
theorem Qfs{ps:List Qla}{x:ByteArray}(ha:Qtd ps=true):(ofT ps x).2=QKc ps x:=by
 rw[Q0t ha]
 cases QKc ps x <;> rfl
def Qxb(T:List Qba)(s x:ByteArray):List Qba × Int:=
 if (QBa T s).2≠0 then([],(QBa T s).2)else
  match T[(QBa T s).1.toNat]? with
  | none=>([],0)
  | some n=>if QKc n.props x=false then([],4)else(T.set (QBa T s).1.toNat ⟨n.parent,n.name,QUb n.props x⟩,0)
theorem QXf{T:List Qba}{s x:ByteArray}{k:Nat}(hk:k<T.length)(hb:QBa T s=((k:Int),0)):Qxb T s x=if QKc T[k].props x=false then([],4)else(T.set k ⟨T[k].parent,T[k].name,QUb T[k].props x⟩,0):=by
 unfold Qxb
 rw[hb,if_neg (by simp)]
 simp only[Int.toNat_natCast,List.getElem?_eq_getElem hk]
end Go.Proofs.YtgaboghigefgbaaGreatDoor
open Go
namespace Go.Proofs.YtgaboghigefgbaaGreatDoor
open Go.Lib (hid)
def Qob(T:List Qba)(x:Qja):List Qba × Int:=
 if x.kind=1 then(if (Qpb T x.path).2=true then(T,0)else Q3c T (QEc x.path) (Q9g x.path))
 else if (Qpb T x.path).2=false then([],4)
 else if x.kind=2 then QSd T x.path x.name x.value
 else if (Qxb T x.path x.name).2=0 then Qxb T x.path x.name else(T,0)
def QKb:Nat→List Qba→List Qja→List Qba × Int × Int
 | _,T,[]=>(T,0,0)
 | i,T,x::r=>if (Qob T x).2≠0 then([],i,(Qob T x).2)else QKb (i+1) (Qob T x).1 r
def QMa(T:List Qba)(name:ByteArray)(l:List Qja):List Qba × Int × Int:=
 if Qfa T≠0 then([],0,Qfa T)else if QCa name l≠0 then([],0,QCa name l)else QKb 0 T l
theorem Qnn{T:List Qba}{n m:ByteArray}{l:List Qja}(h:Q0a n.data.toList=true)(k:Q0a m.data.toList=true):QMa T n l=QMa T m l:=by unfold QMa;rw[Qyl h k]
theorem Qon{T:List Qba}{n:ByteArray}(h:Q0a n.data.toList=true)(hT:Qfa T=0):QMa T n []=(T,0,0):=by
 have:QCa n []=0:=by unfold QCa;simp[h,Q2j]
 unfold QMa
 rw[if_neg (by rw[hT];simp),if_neg (by rw[this];simp)]
 rfl
end Go.Proofs.YtgaboghigefgbaaGreatDoor
open Go
namespace Go.Proofs.YtgaboghigefgbaaGreatDoor
open Go.Lib (hid)
section
variable{L:List Qba}{O:List Nat}
end
end Go.Proofs.YtgaboghigefgbaaGreatDoor
open Go
namespace Go.Proofs.YtgaboghigefgbaaGreatDoor
open Go.Lib (hid)
end Go.Proofs.YtgaboghigefgbaaGreatDoor
open Go
namespace Go.Proofs.YtgaboghigefgbaaGreatDoor
open Go.Lib (hid)
theorem Q0s{l:List UInt8}(h:Q0a l=true):∀x∈l,x≠47:=by
 intro x hx e
 subst e
 unfold Q0a at h
 simp only[Bool.and_eq_true]at h
 have:=List.all_eq_true.1 h.2 _ hx
 revert this;decide
def Qie(ns:List (List UInt8)):List UInt8:=ns.flatMap fun n=>47::n
def QWj(t:List UInt8):Prop:=t=[]∨∃u,t=47::u
theorem Q7k(ns:List (List UInt8)):QWj (Qie ns):=by
 cases ns with
 | nil=>exact .inl rfl
 | cons n ns=>exact .inr ⟨n++Qie ns,rfl⟩
theorem QYi:∀(n m t u:List UInt8),(∀x∈n,x≠47)→(∀x∈m,x≠47)→QWj t→QWj u→n++t=m++u→n=m∧t=u
 | [],[],t,u,_,_,_,_,h=>⟨rfl,h⟩
 | [],y::m,t,u,_,hm,ht,_,h=>by
  rcases ht with rfl|⟨t',rfl⟩
  ·cases h
  ·injection h with h1 _
   exact absurd h1.symm (hm y (List.mem_cons_self ..))
 | x::n,[],t,u,hn,_,_,hu,h=>by
  rcases hu with rfl|⟨u',rfl⟩
  ·cases h
  ·injection h with h1 _
   exact absurd h1 (hn x (List.mem_cons_self ..))
 | x::n,y::m,t,u,hn,hm,ht,hu,h=>by
  injection h with h1 h2
  obtain⟨e1,e2⟩:=QYi n m t u (fun z hz=>hn z (List.mem_cons_of_mem _ hz)) (fun z hz=>hm z (List.mem_cons_of_mem _ hz)) ht hu h2
  exact⟨by rw[h1,e1],e2⟩
def NoS(ns:List (List UInt8)):Prop:=∀n∈ns,∀x∈n,x≠47
theorem QHf:∀(ns ms:List (List UInt8)) (r:List UInt8),NoS ns→NoS ms→QWj r→Qie ns++r=Qie ms→∃rest,ms=ns++rest∧r=Qie rest
 | [],ms,r,_,_,_,h=>⟨ms,rfl,h⟩
 | n::ns,[],r,_,_,_,h=>by cases h
 | n::ns,m::ms,r,hn,hm,hr,h=>by
  have h':n++(Qie ns++r)=m++Qie ms:=by
   have:47::(n++Qie ns)++r=47::(m++Qie ms):=h
   simpa using this
  have ht:QWj (Qie ns++r):=by
   rcases Q7k ns with e|⟨u,e⟩
   ·rw[e];exact hr
   ·rw[e];exact .inr ⟨u++r,rfl⟩
  obtain⟨e1,e2⟩:=QYi n m _ _ (hn n (List.mem_cons_self ..)) (hm m (List.mem_cons_self ..)) ht (Q7k ms) h'
  obtain⟨rest,e3,e4⟩:=QHf ns ms r (fun z hz=>hn z (List.mem_cons_of_mem _ hz)) (fun z hz=>hm z (List.mem_cons_of_mem _ hz)) hr e2
  exact⟨rest,by rw[e1,e3];rfl,e4⟩
def QEb(T:List Qba)(i:Nat):List (List UInt8):=(pc T i).map fun c=>c.1.data.toList
theorem QOi(T:List Qba)(i:Nat):Qje (pc T i)=Qie (QEb T i):=by
 unfold Qje Qie QEb QGu
 rw[List.flatMap_map]
theorem Q8e(T:List Qba):QEb T 0=[]:=rfl
theorem Qyb{T:List Qba}(h:Par T){i:Nat}(h0:0<i)(hi:i<T.length):QEb T i=QEb T (Qwb T i)++[(Qwa T i).data.toList]:=by
 unfold QEb;rw[Qlb h h0 hi,List.map_append];rfl
theorem QCc{T:List Qba}(h:QWa T=true):∀(n i:Nat),i≤n→i<T.length→NoS (QEb T i):=by
 have hP:=Qua h
 intro n
 induction n with
 | zero=>intro i hi _;obtain rfl:i=0:=by omega
         intro n hn;cases hn
 | succ n ih=>
  intro i hi GW
  by_cases h0:i=0
  ·subst h0;intro n hn;cases hn
  ·have hp:=Q3a hP (by omega) GW
   rw[Qyb hP (by omega) GW]
   intro m hm
   rcases List.mem_append.1 hm with hm|hm
   ·exact ih _ (by omega) (by omega) m hm
   ·simp at hm
    subst hm
    have:=(QRc T 0 h i GW).1
    rw[Nat.zero_add]at this
    unfold Qud at this
    rw[if_neg h0,Bool.and_eq_true]at this
    rw[QEa GW]
    exact Q0s this.2
theorem QDk{T:List Qba}(h:Par T)(hD:Dis T):∀(n i j:Nat),i≤n→i<T.length→j<T.length→QEb T i=QEb T j→i=j:=by
 intro n
 induction n with
 | zero=>
  intro i j hi _ hj e
  obtain rfl:i=0:=by omega
  rcases Nat.eq_zero_or_pos j with rfl|h0
  ·rfl
  ·rw[Q8e,Qyb h h0 hj]at e
   simp at e
 | succ n ih=>
  intro i j hi GW Gd e
  rcases Nat.eq_zero_or_pos i with rfl|Kp
  ·rcases Nat.eq_zero_or_pos j with rfl|h0
   ·rfl
   ·rw[Q8e,Qyb h h0 Gd]at e
    simp at e
  ·rcases Nat.eq_zero_or_pos j with rfl|iy
   ·rw[Q8e,Qyb h Kp GW]at e
    simp at e
   ·have pi:=Q3a h Kp GW
    have pj:=Q3a h iy Gd
    rw[Qyb h Kp GW,Qyb h iy Gd]at e
    obtain⟨e1,e2⟩:=List.append_inj' e rfl
    have e3:=ih _ _ (by omega) (by omega) (by omega) e1
    have e4:Qwa T i=Qwa T j:=by
     simp at e2
     exact ByteArray.ext e2
    exact hD i j Kp GW iy Gd (by rw[←pi.2,←pj.2,e3]) e4
def QLc(T:List Qba)(i:Nat):List UInt8:=if i=0 then [47]else Qie (QEb T i)
theorem Qzb(T:List Qba)(i:Nat):(QQa T i).data.toList=QLc T i:=by
 unfold QQa QLc
 split
 ·rfl
 ·rw[QOi]
theorem Q0f{ns:List (List UInt8)}(h:NoS ns)(hn:∀n∈ns,n≠[])(e:Qie ns=[47]):False:=by
 cases ns with
 | nil=>cases e
 | cons n ns=>
  have:47::(n++Qie ns)=[47]:=e
  injection this with _ h2
  have:=List.append_eq_nil_iff.1 h2
  exact hn n (List.mem_cons_self ..) this.1
theorem Q5d{T:List Qba}(h:QWa T=true):∀(n i:Nat),i≤n→i<T.length→∀m∈QEb T i,m≠[]:=by
 have hP:=Qua h
 intro n
 induction n with
 | zero=>intro i hi _;obtain rfl:i=0:=by omega
         intro n hn;cases hn
 | succ n ih=>
  intro i hi GW
  by_cases h0:i=0
  ·subst h0;intro n hn;cases hn
  ·have hp:=Q3a hP (by omega) GW
   rw[Qyb hP (by omega) GW]
   intro m hm
   rcases List.mem_append.1 hm with hm|hm
   ·exact ih _ (by omega) (by omega) m hm
   ·simp at hm
    subst hm
    have:=(QRc T 0 h i GW).1
    rw[Nat.zero_add]at this
    unfold Qud at this
    rw[if_neg h0,Bool.and_eq_true]at this
    rw[QEa GW]
    have h2:=this.2
    unfold Q0a at h2
    simp only[Bool.and_eq_true,decide_eq_true_eq]at h2
    intro e
    rw[e]at h2
    simp at h2
theorem Q3m{T:List Qba}(h:QWa T=true)(hD:Dis T){i j:Nat}(hi:i<T.length)(hj:j<T.length)(e:QLc T i=QLc T j):i=j:=by
 have hP:=Qua h
 unfold QLc at e
 by_cases i0:i=0
 ·by_cases j0:j=0
  ·rw[i0,j0]
  ·rw[if_pos i0,if_neg j0]at e
   exact(Q0f (QCc h j j (Nat.le_refl _) hj) (Q5d h j j (Nat.le_refl _) hj) e.symm).elim
 ·by_cases j0:j=0
  ·rw[if_neg i0,if_pos j0]at e
   exact(Q0f (QCc h i i (Nat.le_refl _) hi) (Q5d h i i (Nat.le_refl _) hi) e).elim
  ·rw[if_neg i0,if_neg j0]at e
   obtain⟨rest,e1,e2⟩:=QHf _ _ [] (QCc h i i (Nat.le_refl _) hi) (QCc h j j (Nat.le_refl _) hj) (.inl rfl) (by rw[List.append_nil];exact e)
   have:rest=[]:=by
    cases rest with
    | nil=>rfl
    | cons r rest=>cases e2
   subst this
   rw[List.append_nil]at e1
   exact QDk hP hD i i j (Nat.le_refl _) hi hj e1.symm
theorem QKm{T U:List Qba}{i j:Nat}:eqS (QQa T i) (QQa U j)=true↔QLc T i=QLc U j:=by
 rw[Qxa,←Qzb,←Qzb]
 constructor
 ·intro e;rw[e]
 ·intro e;exact ByteArray.ext (Array.toList_inj.1 e)
end Go.Proofs.YtgaboghigefgbaaGreatDoor
open Go
namespace Go.Proofs.YtgaboghigefgbaaGreatDoor
open Go.Lib (hid)
theorem Q7b{a b:ByteArray}(h:a.data.toList=b.data.toList):a=b:=ByteArray.ext (Array.toList_inj.1 h)
theorem Qyj{T U:List Qba}(h:QWa T=true)(k:QWa U=true){i j:Nat}(hi:i<T.length)(hj:j<U.length)(e:QLc T i=QLc U j):QEb T i=QEb U j:=by
 unfold QLc at e
 by_cases i0:i=0
 ·by_cases j0:j=0
  ·rw[i0,j0];rfl
  ·rw[if_pos i0,if_neg j0]at e
   exact(Q0f (QCc k j j (Nat.le_refl _) hj) (Q5d k j j (Nat.le_refl _) hj) e.symm).elim
 ·by_cases j0:j=0
  ·rw[if_neg i0,if_pos j0]at e
   exact(Q0f (QCc h i i (Nat.le_refl _) hi) (Q5d h i i (Nat.le_refl _) hi) e).elim
  ·rw[if_neg i0,if_neg j0]at e
   obtain⟨rest,e1,e2⟩:=QHf _ _ [] (QCc h i i (Nat.le_refl _) hi) (QCc k j j (Nat.le_refl _) hj) (.inl rfl) (by rw[List.append_nil];exact e)
   have:rest=[]:=by
    cases rest with
    | nil=>rfl
    | cons r rest=>cases e2
   subst this
   rw[List.append_nil]at e1
   exact e1.symm
def nk(T:List Qba)(i:Nat):List Qcf:=(pc T i).map fun c=>(c.1,0)
theorem QUt{T U:List Qba}{i j:Nat}(h:QEb T i=QEb U j):nk T i=nk U j:=by
 unfold QEb at h
 unfold nk
 generalize pc T i=p at *
 generalize pc U j=q at *
 induction p generalizing q with
 | nil=>cases q with
  | nil=>rfl
  | cons _ _=>cases h
 | cons a p ih=>cases q with
  | nil=>cases h
  | cons b q=>
   simp only[List.map_cons,List.cons.injEq]at h ⊢
   exact⟨by rw[Q7b h.1],ih q h.2⟩
theorem QVt{T:List Qba}(hc:Qfa T=0){i j:Nat}(kt:i<j)(hj:j<T.length):ltP (nk T i) (nk T j):=by
 have hp:=Qya hc
 have hP:=Qua hp.2.1
 have hD:=QAc hc
 have hA:=((Qbf hP (Qqb hp.2.1 (by omega))).1 hp.2.2.1).2
 have hl:=Qgj hA j i kt hj
 refine QXl (fun c=>(c.1,0)) _ _ (fun r x y p' q' e1 e2 aL=>?_) hl
 obtain⟨x0,x1,x2,x3⟩:=QDj hP i i (Nat.le_refl _) (by omega) r x p' e1
 obtain⟨y0,y1,y2,y3⟩:=QDj hP j j (Nat.le_refl _) hj r y q' e2
 rcases aL with h|⟨h,h2⟩
 ·exact .inl h
 ·have Df:=Q3a hP x0 x1
  have tU:=Q3a hP y0 y1
  have pM:Qwb T x.2=Qwb T y.2:=Q1p hP (by omega) (by omega) (x3.trans y3.symm)
  have:=hD x.2 y.2 x0 x1 y0 y1 (by rw[←Df.2,←tU.2,pM]) (by rw[←x2,←y2,h])
  omega
theorem QXs(f:Nat→Nat)(n:Nat)(hb:∀i,i<n→f i<n)(hm:∀i j,i<j→j<n→f i<f j):∀i,i<n→f i=i:=by
 have h1:∀i,i<n→i≤f i:=by
  intro i
  induction i with
  | zero=>intro _;omega
  | succ i ih=>intro hi;have:=ih (by omega);have:=hm i (i+1) (by omega) hi;omega
 have h2:∀d i,i+d+1=n→f i≤i:=by
  intro d
  induction d with
  | zero=>intro i hi;have:=hb i (by omega);omega
  | succ d ih=>intro i hi;have:=ih (i+1) (by omega);have:=hm i (i+1) (by omega) (by omega);omega
 intro i hi
 have:=h1 i hi
 have:=h2 (n-1-i) i (by omega)
 omega
theorem Q0m{a b:Qba}(h1:a.parent=b.parent)(h2:a.name=b.name)(h3:a.props=b.props):a=b:=by
 cases a;cases b
 simp only at h1 h2 h3
 rw[h1,h2,h3]
theorem Q0r{T U:List Qba}(hT:Qfa T=0)(hU:Qfa U=0)(hl:T.length=U.length)(h:∀i,i<T.length→∃j,j<U.length∧QEb T i=QEb U j∧Qmb T i=Qmb U j):T=U:=by
 have zc:=Qya hT
 have zd:=Qya hU
 have A6:=Qua zc.2.1
 have xt:=Qua zd.2.1
 have hDT:=QAc hT
 have key:∀i:Fin T.length,∃j,j<U.length∧QEb T i.1=QEb U j∧Qmb T i.1=Qmb U j:=fun i=>h i.1 i.2
 obtain⟨f,hf⟩:=Classical.skolem.1 key
 have hid:∀i,i<T.length→(if hi:i<T.length then f ⟨i,hi⟩else 0)=i:=by
  refine QXs (fun i=>if hi:i<T.length then f ⟨i,hi⟩else 0) T.length (fun i hi=>?_) (fun i j kt hj=>?_)
  ·simp only[dif_pos hi];have:=(hf ⟨i,hi⟩).1;omega
  ·have hi:i<T.length:=by omega
   simp only[dif_pos hi,dif_pos hj]
   obtain⟨a1,a2,_⟩:=hf ⟨i,hi⟩
   obtain⟨b1,b2,_⟩:=hf ⟨j,hj⟩
   have Hh:=QVt hT kt hj
   rw[QUt a2,QUt b2]at Hh
   rcases Nat.lt_trichotomy (f ⟨i,hi⟩) (f ⟨j,hj⟩)with e|e|e
   ·exact e
   ·rw[e]at Hh;exact(Q4d _ Hh).elim
   ·exact(Qag Hh (QVt hU e a1)).elim
 have cw:∀i,i<T.length→QEb T i=QEb U i∧Qmb T i=Qmb U i:=fun i hi=>by
  have e:=hid i hi
  rw[dif_pos hi]at e
  obtain⟨_,a2,a3⟩:=hf ⟨i,hi⟩
  rw[e]at a2 a3
  exact⟨a2,a3⟩
 apply List.ext_getElem hl
 intro i h1 h2
 have e3:T[i].props=U[i].props:=by have:=(cw i h1).2;rw[QOa h1,QOa h2]at this;exact this
 by_cases h0:i=0
 ·subst h0
  have r1:=Qqb zc.2.1 h1
  have r2:=Qqb zd.2.1 h2
  rw[Qsa h1]at r1
  rw[Qsa h2]at r2
  have m1:=(QRc T 0 zc.2.1 0 h1).1
  have m2:=(QRc U 0 zd.2.1 0 h2).1
  unfold Qud at m1 m2
  simp only[Nat.add_zero,if_true,Bool.and_eq_true]at m1 m2
  have e2:T[0].name=U[0].name:=by
   have a1:=m1.2
   have a2:=m2.2
   exact((Qxa _ _).1 a1).trans ((Qxa _ _).1 a2).symm
  exact Q0m (r1.trans r2.symm) e2 e3
 ·have aI:=Q3a A6 (by omega) h1
  have mE:=Q3a xt (by omega) h2
  have hn:=(cw i h1).1
  rw[Qyb A6 (by omega) h1,Qyb xt (by omega) h2]at hn
  obtain⟨ha,hb⟩:=List.append_inj' hn rfl
  have Hv:Qwa T i=Qwa U i:=Q7b (List.cons.inj hb).1
  have hpu:Qwb T i=Qwb U i:=by
   have hm:=(cw (Qwb T i) (by omega)).1
   exact QDk xt (QAc hU) _ _ _ (Nat.le_refl _) (by omega) (by omega) (hm.symm.trans ha)
  rw[QEa h1,QEa h2]at Hv
  have e1:T[i].parent=U[i].parent:=by
   have a:=aI.2
   have b:=mE.2
   rw[Qsa h1]at a
   rw[Qsa h2]at b
   omega
  exact Q0m e1 Hv e3
end Go.Proofs.YtgaboghigefgbaaGreatDoor
namespace Go.Proofs.YtgaboghigefgbaaGreatDoor
open Go.Lib (hid)
open Go.RowKit
end Go.Proofs.YtgaboghigefgbaaGreatDoor
open Go
namespace Go.Proofs.YtgaboghigefgbaaGreatDoor
open Go.Lib (hid)
theorem Qip{T:List Qba}(hc:Qfa T=0){i:Nat}(hi:i<T.length):Q2b T (QQa T i)=i:=by
 have hp:=Qya hc
 refine QNh hi (QKm.2 rfl) (fun q hq=>?_)
 cases e:eqS (QQa T q) (QQa T i)with
 | false=>rfl
 | true=>have:=Q3m hp.2.1 (QAc hc) (by omega) hi (QKm.1 e);omega
theorem Qeh{T:List Qba}(hc:Qfa T=0){i:Nat}(hi:i<T.length):QBa T (QQa T i)=((i:Int),0):=by
 unfold QBa;rw[if_neg (by simp[hc]),Qip hc hi,if_pos (by omega)]
theorem QIj{T:List Qba}(hc:Qfa T=0){i:Nat}(hi:i<T.length):Qpb T (QQa T i)=((i:Int),true):=by
 unfold Qpb;rw[if_neg (by simp[hc])];exact QPi (Qip hc hi)
theorem Q0p{T:List Qba}(hc:Qfa T=0){i:Nat}(hi:i<T.length):QLk T (i:Int)=QQa T i:=by
 unfold QLk;rw[if_neg (by rintro (h|h|h) <;> first|exact h hc|omega),Int.toNat_natCast]
theorem QSi{T:List Qba}(n:Qba){i:Nat}(hi:i<T.length):QTa (T++[n]) i=QTa T i∧Qwa (T++[n]) i=Qwa T i∧Qmb (T++[n]) i=Qmb T i∧Qwb (T++[n]) i=Qwb T i:=by
 have e:QTa (T++[n]) i=QTa T i:=by unfold QTa;rw[List.getElem?_append_left hi]
 refine⟨e,?_,?_,?_⟩
 ·unfold Qwa;rw[List.getElem?_append_left hi]
 ·unfold Qmb;rw[List.getElem?_append_left hi]
 ·unfold Qwb;rw[e]
theorem QWi{T:List Qba}{n:Qba}(h:Par T)(k:Par (T++[n])):∀(m i:Nat),i≤m→i<T.length→QEb (T++[n]) i=QEb T i:=by
 intro m
 induction m with
 | zero=>intro i hi _;obtain rfl:i=0:=by omega
         rfl
 | succ m ih=>
  intro i hi GW
  by_cases h0:i=0
  ·subst h0;rfl
  ·have hp:=Q3a h (by omega) GW
   obtain⟨_,e2,_,e4⟩:=QSi n GW
   rw[Qyb h (by omega) GW,Qyb k (by omega) (by simp;omega),e4,e2,ih _ (by omega) (by omega)]
theorem QYg{L:List Qba}(h:Q2c L){i k:Nat}(hi:i<L.length)(hk:(Qab L)[i]? = some k):QEb (Qoa L) i=QEb L k:=by
 unfold QEb
 rw[Q6h h i i k (Nat.le_refl _) hi hk,List.map_map];rfl
theorem QOo{T:List Qba}(hc:Qfa T=0){k:Nat}(hk:k<T.length){name:ByteArray}(he:(Q3c T (QQa T k) name).2=0) :
 Q0a name.data.toList=true∧T.any (QNa (k:Int) name)=false∧Q6b T T.length (k:Int)<8∧T.length<120∧(Q3c T (QQa T k) name).1=Qoa (T++[⟨(k:Int),name,[]⟩]):=by
 unfold Q3c at *
 rw[Qeh hc hk]at *
 simp only[ne_eq,not_true_eq_false,if_false]at *
 split at he
 ·cases he
 ·split at he
  ·cases he
  ·split at he
   ·cases he
   ·split at he
    ·cases he
    ·rename_i h1 h2 h3 h4
     rw[if_neg h1,if_neg h2,if_neg h3,if_neg h4]
     refine⟨by simpa using h1,by simpa using h2,by omega,by omega,rfl⟩
end Go.Proofs.YtgaboghigefgbaaGreatDoor
namespace Go.Proofs.YtgaboghigefgbaaGreatDoor
open Go.Lib (hid)
open Go.RowKit
end Go.Proofs.YtgaboghigefgbaaGreatDoor
open Go
namespace Go.Proofs.YtgaboghigefgbaaGreatDoor
open Go.Lib (hid)
theorem QYs{T U:List Qba}(h:T.map sk=U.map sk)(i:Nat):Qwa T i=Qwa U i:=by
 have e:(T.map sk)[i]? = (U.map sk)[i]?:=by rw[h]
 rw[List.getElem?_map,List.getElem?_map]at e
 unfold Qwa
 cases h1:T[i]? <;> cases h2:U[i]? <;> rw[h1,h2]at e <;> simp[sk]at e ⊢
 exact e.2
theorem QDu{T U:List Qba}(h:T.map sk=U.map sk)(i:Nat):pc T i=pc U i:=by
 have key:∀f j,Q5h T f j=Q5h U f j:=by
  intro f
  induction f with
  | zero=>intro j;rfl
  | succ f ih=>
   intro j
   have e:Qwb T j=Qwb U j:=by unfold Qwb;rw[QXp h]
   unfold Q5h
   rw[ih,e,QYs h]
 exact key i i
theorem QBg{T U:List Qba}(h:T.map sk=U.map sk)(i:Nat):QQa T i=QQa U i:=by unfold QQa;rw[QDu h]
theorem Qbu{T:List Qba}{k:Nat}(hk:k<T.length)(ps:List Qla):T.map sk=(T.set k ⟨T[k].parent,T[k].name,ps⟩).map sk:=by
 rw[List.map_set]
 apply List.ext_getElem?
 intro i
 by_cases e:k=i
 ·subst e;rw[List.getElem?_set_self (by simpa using hk),List.getElem?_map,List.getElem?_eq_getElem hk];rfl
 ·rw[List.getElem?_set_ne e]
theorem Qbm{T U:List Qba}(hc:Qfa T=0)(hs:T.map sk=U.map sk)(hl:Qza U=true)(ku:∀n∈U,n.props.all (fun p=>Q6a p.name)=true)(ha:∀n∈U,Qtd n.props=true):Qfa U=0:=by
 obtain⟨h1,h2,h3,h4,h5⟩:=Qya hc
 refine Qjj ⟨hl,QZm T _ 0 hs ku h2,?_,?_,?_⟩
 ·unfold Qub
  rw[←Qxk hs]
  exact Qjl hs T _ 0 _ hs ha h3
 ·rw[←h4];exact(Qzq _ _ 0 [] hs).symm
 ·rw[←h5];exact(Qap hs).symm
theorem Qee:∀l:List Qla,Qtd l=true↔l.Pairwise fun a b=>ltS a.name b.name=true:=by
 intro l
 constructor
 ·intro h
  rw[List.pairwise_iff_getElem]
  intro i j hi hj kt
  exact QEm l h i j hi hj kt
 ·intro h
  induction h with
  | nil=>rfl
  | @cons a l ha _ ih=>
   refine Q3e.2 ⟨fun b hb=>ha b ?_,ih⟩
   exact List.mem_of_head? hb
theorem Qul{ps:List Qla}(h:Qtd ps=true)(x:ByteArray):Qtd (QUb ps x)=true:=(Qee _).2 (List.Pairwise.filter _ ((Qee _).1 h))
theorem Qni{ps:List Qla}{x:ByteArray}{q:Qla}(h:q∈QUb ps x):q∈ps:=(List.mem_filter.1 h).1
theorem Q4t{ps:List Qla}(p:Qla):ofT (QSc ps p) p.name=(p.value,true):=by
 have hl:=Qzk ps p.name
 have Gp:(QSc ps p)[Qfb ps p.name]? = some p:=by
  unfold QSc
  rw[List.getElem?_append_right (by simp;omega),List.length_take,Nat.min_eq_left hl];simp
 obtain⟨hk,he⟩:=List.getElem?_eq_some_iff.1 Gp
 have:=QQp (x:=p.name) hk (by rw[he];exact(Qxa _ _).2 rfl) (fun j hj Gd=>by
  have Bw:j<ps.length:=by omega
  have e:(QSc ps p)[j]? = some ps[j]:=by
   unfold QSc
   rw[List.getElem?_append_left (by simp;omega),List.getElem?_take_of_lt (by omega),List.getElem?_eq_getElem Bw]
  have e2:(QSc ps p)[j]=ps[j]:=by rw[List.getElem?_eq_getElem hj]at e;exact Option.some.inj e
  rw[e2]
  exact QMm ((Qyk p.name ps).1 j Bw Gd))
 rw[this,he]
end Go.Proofs.YtgaboghigefgbaaGreatDoor
open Go
namespace Go.Proofs.YtgaboghigefgbaaGreatDoor
open Go.Lib (hid)
def InS(T:List Qba)(s:ByteArray):Prop:=∃i,i<T.length∧QQa T i=s
def PrS(T:List Qba)(s q v:ByteArray):Prop:=∃i,∃h:i<T.length,QQa T i=s∧ofT T[i].props q=(v,true)
theorem Qnd{T:List Qba}(hc:Qfa T=0){i j:Nat}(hi:i<T.length)(hj:j<T.length)(e:QQa T i=QQa T j):i=j:=by
 refine Q3m (Qya hc).2.1 (QAc hc) hi hj ?_
 rw[←Qzb,←Qzb,e]
theorem Qlh{T U:List Qba}{i j:Nat}(h:QLc T i=QLc U j):QQa T i=QQa U j:=Q7b (by rw[Qzb,Qzb,h])
theorem Qtj{T:List Qba}(hc:Qfa T=0){s:ByteArray}:InS T s↔(Qpb T s).2=true:=by
 constructor
 ·rintro ⟨i,hi,rfl⟩
  rw[QIj hc hi]
 ·intro h
  rcases QZf T s with e|⟨i,hi,_,hp⟩
  ·unfold Qpb at h
   rw[if_neg (by simp[hc]),Qlk e]at h
   cases h
  ·exact⟨i,hi,hp⟩
theorem Qoe(a:Qla)(r:List Qla)(q:ByteArray):ofT (a::r) q=if a.name=q then(a.value,true)else ofT r q:=by
 unfold ofT
 rw[List.find?_cons]
 cases e:eqS a.name q with
 | true=>rw[if_pos ((Qxa _ _).1 e)]
 | false=>rw[if_neg (fun h=>by rw[(Qxa _ _).2 h]at e;cases e)]
theorem Q1m(q:ByteArray):ofT [] q=(ByteArray.empty,false):=rfl
theorem QHk{ps:List Qla}(h:ps.Pairwise fun a b=>ltS a.name b.name=true)(q v:ByteArray):ofT ps q=(v,true)↔(⟨q,v⟩:Qla)∈ps:=by
 induction ps with
 | nil=>simp[Q1m]
 | cons a r ih=>
  obtain⟨h1,h2⟩:=List.pairwise_cons.1 h
  rw[Qoe]
  by_cases e:a.name=q
  ·rw[if_pos e]
   constructor
   ·intro he
    have:=(Prod.mk.injEq _ _ _ _ ▸ he:_∧_).1
    cases a
    simp only at e this
    subst e this
    exact List.mem_cons_self
   ·intro hm
    rcases List.mem_cons.1 hm with rfl|hm
    ·rfl
    ·have:=h1 _ hm
     rw[e,Q4a]at this
     cases this
  ·rw[if_neg e,ih h2]
   constructor
   ·exact fun hm=>List.mem_cons_of_mem _ hm
   ·intro hm
    rcases List.mem_cons.1 hm with rfl|hm
    ·exact absurd rfl e
    ·exact hm
theorem Qtl:∀{a b:List Qla},(a.Pairwise fun x y=>ltS x.name y.name=true)→(b.Pairwise fun x y=>ltS x.name y.name=true)→(∀p,p∈a↔p∈b)→a=b
 | [],[],_,_,_=>rfl
 | [],y::b,_,_,h=>by have:=(h y).2 List.mem_cons_self;cases this
 | x::a,[],_,_,h=>by have:=(h x).1 List.mem_cons_self;cases this
 | x::a,y::b,h1,h2,h=>by
  obtain⟨a1,a2⟩:=List.pairwise_cons.1 h1
  obtain⟨b1,b2⟩:=List.pairwise_cons.1 h2
  have aL:x=y:=by
   rcases List.mem_cons.1 ((h x).1 List.mem_cons_self)with e|hx
   ·exact e
   ·rcases List.mem_cons.1 ((h y).2 List.mem_cons_self)with e|hy
    ·exact e.symm
    ·have:=QXh (b1 x hx)
     rw[a1 y hy]at this
     cases this
  subst aL
  have:a=b:=Qtl a2 b2 (fun p=>by
   constructor
   ·intro hp
    rcases List.mem_cons.1 ((h p).1 (List.mem_cons_of_mem _ hp))with e|hp'
    ·subst e;have:=a1 p hp;rw[Q4a]at this;cases this
    ·exact hp'
   ·intro hp
    rcases List.mem_cons.1 ((h p).2 (List.mem_cons_of_mem _ hp))with e|hp'
    ·subst e;have:=b1 p hp;rw[Q4a]at this;cases this
    ·exact hp')
  rw[this]
theorem Qwk:∀(n:Nat) (l:List Nat),l.Nodup→(∀k∈l,k<n)→l.length≤n
 | 0,[],_,_=>Nat.le_refl _
 | 0,a::l,_,h=>absurd (h a List.mem_cons_self) (by omega)
 | n+1,l,hd,h=>by
  have h1:=Qwk n (l.erase n) (hd.erase n) (fun k hk=>by
   have h2:=(hd.mem_erase_iff).1 hk
   have:=h k h2.2
   omega)
  by_cases hm:n∈l
  ·rw[List.length_erase_of_mem hm]at h1;omega
  ·rw[List.erase_of_not_mem hm]at h1;omega
theorem QQt{T U:List Qba}(hT:Qfa T=0)(h:∀s,InS T s→InS U s):T.length≤U.length:=by
 have key:∀i:Fin T.length,∃j,j<U.length∧QQa U j=QQa T i.1:=fun i=>h _ ⟨i.1,i.2,rfl⟩
 obtain⟨f,hf⟩:=Classical.skolem.1 key
 have hn:((List.finRange T.length).map f).Nodup:=by
  rw[List.nodup_iff_pairwise_ne,List.pairwise_map]
  refine(List.nodup_finRange T.length).imp (fun {a b} MW e=>MW ?_)
  have:=(hf a).2
  rw[e,(hf b).2]at this
  exact Fin.ext (Qnd hT a.2 b.2 this.symm)
 have:=Qwk U.length ((List.finRange T.length).map f) hn (fun k hk=>by
  obtain⟨i,_,rfl⟩:=List.mem_map.1 hk
  exact(hf i).1)
 simpa using this
theorem Qht{T U:List Qba}(hT:Qfa T=0)(hU:Qfa U=0)(h1:∀s,InS T s↔InS U s)(h2:∀s q v,PrS T s q v↔PrS U s q v):T=U:=by
 have hl:T.length=U.length:=Nat.le_antisymm (QQt hT fun s=>(h1 s).1) (QQt hU fun s=>(h1 s).2)
 refine Q0r hT hU hl (fun i hi=>?_)
 obtain⟨j,hj,e⟩:=(h1 _).1 ⟨i,hi,rfl⟩
 have hp:QLc T i=QLc U j:=by rw[←Qzb,←Qzb,e]
 refine⟨j,hj,Qyj (Qya hT).2.1 (Qya hU).2.1 hi hj hp,?_⟩
 rw[QOa hi,QOa hj]
 have aT:=(Qee _).1 (Qfc hT _ (List.getElem_mem hi))
 have aU:=(Qee _).1 (Qfc hU _ (List.getElem_mem hj))
 refine Qtl aT aU (fun p=>?_)
 obtain⟨q,v⟩:=p
 rw[←QHk aT,←QHk aU]
 constructor
 ·intro h
  obtain⟨k,hk,ek,hv⟩:=(h2 (QQa T i) q v).1 ⟨i,hi,rfl,h⟩
  have:k=j:=Qnd hU hk hj (ek.trans e.symm)
  subst this;exact hv
 ·intro h
  obtain⟨k,hk,ek,hv⟩:=(h2 (QQa U j) q v).2 ⟨j,hj,rfl,h⟩
  have:k=i:=Qnd hT hk hi (ek.trans e)
  subst this;exact hv
theorem QPp(p:Qla)(q:ByteArray):∀l:List Qla,ofT (QSc l p) q=if q=p.name then(p.value,true)else ofT l q
 | []=>by
  rw[Q8p,Qoe,Q1m]
  by_cases e:q=p.name
  ·rw[if_pos e,if_pos e.symm]
  ·rw[if_neg e,if_neg (fun h=>e h.symm)]
 | a::r=>by
  by_cases e:q=p.name
  ·rw[if_pos e,e];exact Q4t p
  ·rw[if_neg e]
   cases h:ltS a.name p.name with
   | true=>
    rw[QFj h,Qoe,Qoe,QPp p q r,if_neg e]
   | false=>
    rw[QEj h,Qoe,if_neg (fun h=>e h.symm)]
    split
    ·rename_i h2
     rw[Qoe,if_neg (fun h3:a.name=q=>e (by rw[←h3];first|exact h2|exact(Qxa _ _).1 h2))]
    ·rfl
theorem QZi(x q:ByteArray):∀l:List Qla,ofT (QUb l x) q=if q=x then(ByteArray.empty,false)else ofT l q
 | []=>by unfold QUb;rw[List.filter_nil,Q1m];split <;> rfl
 | a::r=>by
  have ih:=QZi x q r
  unfold QUb at ih ⊢
  rw[List.filter_cons]
  cases h:eqS a.name x with
  | true=>
   have h':=(Qxa _ _).1 h
   simp only[Bool.not_true,Bool.false_eq_true,if_false]
   rw[ih,Qoe]
   by_cases e:q=x
   ·rw[if_pos e,if_pos e]
   ·rw[if_neg e,if_neg e,if_neg (fun h3:a.name=q=>e (h3.symm.trans h'))]
  | false=>
   have h':a.name≠x:=fun h3=>by rw[(Qxa _ _).2 h3]at h;cases h
   simp only[Bool.not_false,if_true]
   rw[Qoe,Qoe,ih]
   by_cases e:q=x
   ·rw[if_neg (fun h3:a.name=q=>h' (h3.trans e)),if_pos e,if_pos e]
   ·rw[if_neg e,if_neg e]
theorem QQk{T U:List Qba}(hT:Qfa T=0){k:Nat}(hk:k<T.length)(hs:T.map sk=U.map sk)(sG:k<U.length)(ho:∀i (hi:i<T.length) (hj:i<U.length),i≠k→U[i].props=T[i].props) :
 (∀s,InS U s↔InS T s)∧∀s q v,PrS U s q v↔if s=QQa T k then ofT U[k].props q=(v,true)else PrS T s q v:=by
 have hl:=Qxk hs
 refine⟨fun s=>⟨?_,?_⟩,fun s q v=>?_⟩
 ·rintro ⟨i,hi,e⟩;exact⟨i,by omega,(QBg hs i).trans e⟩
 ·rintro ⟨i,hi,e⟩;exact⟨i,by omega,(QBg hs i).symm.trans e⟩
 ·by_cases e:s=QQa T k
  ·rw[if_pos e]
   subst e
   constructor
   ·rintro ⟨i,hi,e,hv⟩
    rw[←QBg hs i]at e
    have:i=k:=Qnd hT (by omega) hk e
    subst this;exact hv
   ·intro h;exact⟨k,sG,(QBg hs k).symm,h⟩
  ·rw[if_neg e]
   constructor
   ·rintro ⟨i,hi,ei,hv⟩
    rw[←QBg hs i]at ei
    have Hm:i≠k:=fun h=>e (by rw[←ei,h])
    rw[ho i (by omega) hi Hm]at hv
    exact⟨i,by omega,ei,hv⟩
   ·rintro ⟨i,hi,ei,hv⟩
    have Hm:i≠k:=fun h=>e (by rw[←ei,h])
    exact⟨i,by omega,(QBg hs i).symm.trans ei,by rw[ho i hi (by omega) Hm];exact hv⟩
theorem Qjt{T:List Qba}{s name value:ByteArray}(he:(QSd T s name value).2=0):Qfa (QSd T s name value).1=0∧InS T s∧(∀t,InS (QSd T s name value).1 t↔InS T t)∧
 ∀t q v,PrS (QSd T s name value).1 t q v↔if t=s∧q=name then v=value else PrS T t q v:=by
 have hv:=Q1k he
 rcases Qsb T s with⟨h1,h2⟩|⟨hc,k,hk,hb,hp⟩
 ·unfold QSd at he;rw[if_pos h1]at he;exact absurd he h1
 ·have mj:=Qkm (name:=name) (value:=value) hb
  have hE:QSd T s name value=(QIb T k ⟨name,value⟩,0):=by
   rw[mj]at he ⊢
   split at he
   ·cases he
   ·rename_i h1
    rw[if_neg h1]
    split at he
    ·cases he
    ·rename_i h2;rw[if_neg h2]
  rw[hE]at hv ⊢
  simp only at hv ⊢
  have MI:QIb T k ⟨name,value⟩=T.set k ⟨T[k].parent,T[k].name,QSc T[k].props ⟨name,value⟩⟩:=by unfold QIb;rw[List.getElem?_eq_getElem hk];rfl
  have sG:k<(QIb T k ⟨name,value⟩).length:=by rw[hv.2];exact hk
  obtain⟨a1,a2⟩:=QQk hc hk (QMj T k ⟨name,value⟩) sG (fun i hi hj Hm=>by
   simp only[MI];rw[List.getElem_set_ne (fun h=>Hm h.symm)])
  have ku:(QIb T k ⟨name,value⟩)[k].props=QSc T[k].props ⟨name,value⟩:=by simp only[MI];rw[List.getElem_set_self]
  refine⟨hv.1,⟨k,hk,hp⟩,a1,fun t q v=>?_⟩
  rw[a2,ku,QPp,hp]
  by_cases e:t=s
  ·subst e
   simp only[true_and,if_true]
   by_cases e2:q=name
   ·rw[if_pos e2,if_pos e2]
    constructor
    ·intro h;exact((Prod.mk.injEq _ _ _ _).mp h).1.symm
    ·intro h;rw[h]
   ·rw[if_neg e2,if_neg e2]
    constructor
    ·intro h;exact⟨k,hk,hp,h⟩
    ·rintro ⟨i,hi,ei,h⟩
     have:i=k:=Qnd hc hi hk (ei.trans hp.symm)
     subst this;exact h
  ·rw[if_neg e,if_neg (fun h=>e h.1)]
theorem Qzn{T:List Qba}{s x:ByteArray}(he:(Qxb T s x).2=0):Qfa (Qxb T s x).1=0∧InS T s∧(∀t,InS (Qxb T s x).1 t↔InS T t)∧
 ∀t q v,PrS (Qxb T s x).1 t q v↔if t=s∧q=x then False else PrS T t q v:=by
 rcases Qsb T s with⟨h1,h2⟩|⟨hc,k,hk,hb,hp⟩
 ·unfold Qxb at he;rw[if_pos h1]at he;exact absurd he h1
 ·have mj:=QXf (x:=x) hk hb
  have hE:Qxb T s x=(T.set k ⟨T[k].parent,T[k].name,QUb T[k].props x⟩,0):=by
   rw[mj]at he ⊢
   split at he
   ·cases he
   ·rename_i h1;rw[if_neg h1]
  rw[hE]
  simp only
  have hs:=Qbu hk (QUb T[k].props x)
  have mF:=Qya hc
  have mD:∀n∈T.set k ⟨T[k].parent,T[k].name,QUb T[k].props x⟩,n∈T∨n.props=QUb T[k].props x:=fun n hn=>by
   rcases List.mem_or_eq_of_mem_set hn with h|h
   ·exact .inl h
   ·rw[h];exact .inr rfl
  have kZ:∀n∈T,QGf n=true:=by
   have h1:=mF.1
   unfold Qza at h1
   rw[Bool.and_eq_true,List.all_eq_true]at h1
   exact h1.2
  have tR:∀n∈T,n.props.all (fun p=>Q6a p.name)=true:=fun n hn=>by
   obtain⟨i,hi,rfl⟩:=List.getElem_of_mem hn
   exact(QRc T 0 mF.2.1 i hi).2
  have Gc:Qfa (T.set k ⟨T[k].parent,T[k].name,QUb T[k].props x⟩)=0:=by
   refine Qbm hc hs ?_ ?_ ?_
   ·have h1:=mF.1
    unfold Qza at h1 ⊢
    rw[Bool.and_eq_true,decide_eq_true_eq]at h1 ⊢
    refine⟨by rw[List.length_set];exact h1.1,?_⟩
    rw[List.all_eq_true]
    intro n hn
    rcases mD n hn with h|h
    ·exact kZ n h
    ·have hf:=kZ _ (List.getElem_mem hk)
     unfold QGf at hf ⊢
     rw[Bool.and_eq_true,decide_eq_true_eq,List.all_eq_true]at hf ⊢
     rw[h]
     refine⟨Nat.le_trans (List.length_filter_le _ _) hf.1,fun p hp=>hf.2 p (Qni hp)⟩
   ·intro n hn
    rcases mD n hn with h|h
    ·exact tR n h
    ·rw[h,List.all_eq_true]
     intro p hp
     exact List.all_eq_true.1 (tR _ (List.getElem_mem hk)) p (Qni hp)
   ·intro n hn
    rcases mD n hn with h|h
    ·exact Qfc hc n h
    ·rw[h];exact Qul (Qfc hc _ (List.getElem_mem hk)) x
  have sG:k<(T.set k ⟨T[k].parent,T[k].name,QUb T[k].props x⟩).length:=by rw[List.length_set];exact hk
  obtain⟨a1,a2⟩:=QQk hc hk hs sG (fun i hi hj Hm=>by rw[List.getElem_set_ne (fun h=>Hm h.symm)])
  refine⟨Gc,⟨k,hk,hp⟩,a1,fun t q v=>?_⟩
  rw[a2,List.getElem_set_self,QZi,hp]
  by_cases e:t=s
  ·subst e
   simp only[true_and,if_true]
   by_cases e2:q=x
   ·rw[if_pos e2,if_pos e2]
    simp
   ·rw[if_neg e2,if_neg e2]
    constructor
    ·intro h;exact⟨k,hk,hp,h⟩
    ·rintro ⟨i,hi,ei,h⟩
     have:i=k:=Qnd hc hi hk (ei.trans hp.symm)
     subst this;exact h
  ·rw[if_neg e,if_neg (fun h=>e h.1)]
def QFh(s name:ByteArray):ByteArray:=if QFi s=true then⟨(47::name.data.toList).toArray⟩else⟨(s.data.toList++47::name.data.toList).toArray⟩
theorem Qun{T:List Qba}(hc:Qfa T=0){k:Nat}(hk:k<T.length)(name:ByteArray):(QFh (QQa T k) name).data.toList=Qie (QEb T k++[name.data.toList]):=by
 have hn:=(Qya hc).2.1
 unfold QFh
 by_cases k0:k=0
 ·subst k0
  have:QFi (QQa T 0)=true:=(Qxa _ _).2 rfl
  rw[if_pos this]
  simp[Q8e,Qie]
 ·have hL:(QQa T k).data.toList=Qie (QEb T k):=by rw[Qzb];unfold QLc;rw[if_neg k0]
  have:QFi (QQa T k)≠true:=fun h=>by
   have e:=(Qxa _ _).1 h
   rw[e]at hL
   exact Q0f (QCc hn _ _ (Nat.le_refl _) hk) (Q5d hn _ _ (Nat.le_refl _) hk) hL.symm
  rw[if_neg this,hL]
  simp[Qie]
theorem Qss{T:List Qba}{s name:ByteArray}(he:(Q3c T s name).2=0):Qfa (Q3c T s name).1=0∧InS T s∧(∀t,InS (Q3c T s name).1 t↔InS T t∨t=QFh s name)∧
 ∀t q v,PrS (Q3c T s name).1 t q v↔PrS T t q v:=by
 have Gc:=(Q1j he).1
 rcases Qsb T s with⟨h1,h2⟩|⟨hc,k,hk,hb,hp⟩
 ·unfold Q3c at he;rw[if_pos h1]at he;exact absurd he h1
 ·subst hp
  obtain⟨hn,ha,hd,hl,h1⟩:=QOo hc hk he
  rw[h1]at Gc ⊢
  have mF:=Qya hc
  have hP:=Qua mF.2.1
  have h0:0<T.length:=by omega
  have zt:Q2c T:=⟨h0,hP,Qqb mF.2.1 h0⟩
  have iU:=Qae zt (n:=⟨(k:Int),name,[]⟩) rfl hk
  have pe:=iU.2.1
  have uK:(T++[(⟨(k:Int),name,[]⟩:Qba)]).length=T.length+1:=by simp
  have tM:QTa (T++[(⟨(k:Int),name,[]⟩:Qba)]) T.length=(k:Int):=by unfold QTa;simp
  have yP:Qwa (T++[(⟨(k:Int),name,[]⟩:Qba)]) T.length=name:=by unfold Qwa;simp
  have zi:Qmb (T++[(⟨(k:Int),name,[]⟩:Qba)]) T.length=[]:=by unfold Qmb;simp
  have Mn:∀j,j<T.length→QLc (T++[(⟨(k:Int),name,[]⟩:Qba)]) j=QLc T j∧Qmb (T++[(⟨(k:Int),name,[]⟩:Qba)]) j=Qmb T j:=fun j hj=>⟨by unfold QLc;rw[QWi hP pe j j (Nat.le_refl _) hj],(QSi _ hj).2.2.1⟩
  have K9:QLc (T++[(⟨(k:Int),name,[]⟩:Qba)]) T.length=(QFh (QQa T k) name).data.toList:=by
   unfold QLc
   rw[if_neg (by omega),Qyb pe h0 (by rw[uK];omega),yP,Qvj tM,QWi hP pe k k (Nat.le_refl _) hk,Qun hc hk]
  generalize (T++[(⟨(k:Int),name,[]⟩:Qba)])=L at *
  have Jd:=QXb pe iU.1
  have iE:∀i,i<L.length→∃j,j<L.length∧QLc (Qoa L) i=QLc L j∧Qmb (Qoa L) i=Qmb L j:=fun i hi=>by
   obtain⟨j,b1,b2,b3,b4,b5,b6,b7⟩:=QFb iU hi
   refine⟨j,b2,?_,b5⟩
   unfold QLc
   rw[QYg iU hi b1]
   by_cases i0:i=0
   ·rw[if_pos i0,if_pos (b6 i0)]
   ·rw[if_neg i0,if_neg (by have:=(b7 (by omega)).1;omega)]
  have mA:∀j,j<L.length→∃i,i<L.length∧QLc (Qoa L) i=QLc L j∧Qmb (Qoa L) i=Qmb L j:=fun j hj=>by
   obtain⟨gW,GG⟩:=Qlc pe iU.1
   obtain⟨hi,e⟩:=Qsj ((gW j).2 hj)
   have M0:=Q5c pe iU.1
   obtain⟨j',b1,b2,b3,b4,b5,b6,b7⟩:=QFb iU (show(Qab L).idxOf j<L.length by omega)
   rw[List.getElem?_eq_getElem hi,e]at b1
   cases b1
   refine⟨(Qab L).idxOf j,by omega,?_,b5⟩
   unfold QLc
   rw[QYg iU (by omega) (by rw[List.getElem?_eq_getElem hi,e])]
   by_cases i0:(Qab L).idxOf j=0
   ·rw[if_pos i0,if_pos (b6 i0)]
   ·rw[if_neg i0,if_neg (by have:=(b7 (by omega)).1;omega)]
  refine⟨Gc,⟨k,hk,rfl⟩,fun t=>⟨?_,?_⟩,fun t q v=>⟨?_,?_⟩⟩
  ·rintro ⟨i,hi,e⟩
   obtain⟨j,hj,e1,_⟩:=iE i (by omega)
   by_cases hjT:j<T.length
   ·exact .inl ⟨j,hjT,by rw[←e];exact Qlh (by rw[e1,(Mn j hjT).1])⟩
   ·have:j=T.length:=by omega
    subst this
    right
    rw[←e]
    exact Q7b (by rw[Qzb,e1,K9])
  ·rintro (⟨j,hj,e⟩|e)
   ·obtain⟨i,hi,e1,_⟩:=mA j (by omega)
    exact⟨i,by omega,by rw[←e];exact Qlh (by rw[e1,(Mn j hj).1])⟩
   ·obtain⟨i,hi,e1,_⟩:=mA T.length (by omega)
    exact⟨i,by omega,by rw[e];exact Q7b (by rw[Qzb,e1,K9])⟩
  ·rintro ⟨i,hi,e,hv⟩
   obtain⟨j,hj,e1,e2⟩:=iE i (by omega)
   rw[←QOa hi,e2]at hv
   by_cases hjT:j<T.length
   ·rw[(Mn j hjT).2,QOa hjT]at hv
    exact⟨j,hjT,by rw[←e];exact Qlh (by rw[e1,(Mn j hjT).1]),hv⟩
   ·have:j=T.length:=by omega
    subst this
    rw[zi,Q1m]at hv
    cases hv
  ·rintro ⟨j,hj,e,hv⟩
   obtain⟨i,hi,e1,e2⟩:=mA j (by omega)
   refine⟨i,by omega,by rw[←e];exact Qlh (by rw[e1,(Mn j hj).1]),?_⟩
   rw[←QOa (by omega:i<(Qoa L).length),e2,(Mn j hj).2,QOa hj]
   exact hv
end Go.Proofs.YtgaboghigefgbaaGreatDoor
